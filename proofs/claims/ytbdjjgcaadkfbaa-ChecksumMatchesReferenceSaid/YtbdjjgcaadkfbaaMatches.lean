/- ChecksumMatchesReference, walked. -/
import Derived.Test.YtbdjjgcaadkfbaaRefs
namespace Go.Proofs.Ytbdjjgcaadkfbaa.Matches
open Go.RowKit Go.Proofs.YtbdjjgcaadkfbaaW.PrintWords Go.Proofs.YtbdjjgcaadkfbaaW.PrintLast Go.Proofs.YtbdjjgcaadkfbaaW.PrintMore Go.Proofs.Ytbdjjgcaadkfbaa.Oct Go.Proofs.Ytbdjjgcaadkfbaa.Fmt Go.Proofs.Ytbdjjgcaadkfbaa.Plain Go.Proofs.Ytbdjjgcaadkfbaa.Sealed Go.Proofs.Ytbdjjgcaadkfbaa.Calls Go.Proofs.Ytbdjjgcaadkfbaa.Block

set_option maxHeartbeats 1000000 in
set_option maxRecDepth 100000 in
theorem walk_far (A : Option Addr) (c N : Nat) (w : World) (h : N > 2000) :
    Calls Try.prog 5 #[.slice A N c] w fun e w' => e = .returned (.bool true) ∧ Below w.heap.size w w' := by
  go_enter Try.func5, Try.ntmps5
  go_wp2_with (go_at_call 8; refine (alive_calls _).mono ?_; rintro e w' ⟨rfl, hbl⟩)
  go_ret
  exact ⟨rfl, hbl⟩
/-- A slice of bytes that is read: value, place, bytes. -/
structure Rd (W : World) (A : Option Addr) (n c : Nat) (l : List Int) : Prop where
  cells : Kd.C (Kd.int .u8) W A n l
  cap : n ≤ c
  bytes : Bytes l
/-- What every round finds: the two slices, the row that holds them. -/
structure Ready (w wr : World) (gl : Nat) (v0 v1 : Value) : Prop where
  below : Below w.heap.size w wr
  row : wr.heap[gl]? = some (.cells #[v0, v1] 22 (0, 0))
  first : ∃ A n c l, v0 = .slice A n c ∧ Rd wr A n c l
  second : ∃ A n c l, v1 = .slice A n c ∧ Rd wr A n c l
theorem Rd.step {W W1 : World} {A : Option Addr} {n c : Nat} {l : List Int} (h : Rd W A n c l) (hb : Below W.heap.size W W1) : Rd W1 A n c l := ⟨Kd.C_below h.cells hb, h.cap, h.bytes⟩
theorem Ready.step {w wr w1 : World} {gl : Nat} {v0 v1 : Value} (h : Ready w wr gl v0 v1) (hb : Below wr.heap.size wr w1) : Ready w w1 gl v0 v1 := by
  obtain ⟨h1, h2, ⟨A, n, c, l, e, h3⟩, ⟨A', n', c', l', e', h4⟩⟩ := h
  exact ⟨below_step h1 hb, (hb.block _ (blk_lt h2)).trans h2, ⟨A, n, c, l, e, h3.step hb⟩, ⟨A', n', c', l', e', h4.step hb⟩⟩
theorem Ready.elem {w wr : World} {gl : Nat} {v0 v1 : Value} (h : Ready w wr gl v0 v1) (k : Nat) (hk : k < 2) : ∃ A n c l, wr.cell? ⟨gl, k, none⟩ = some (.slice A n c) ∧ Rd wr A n c l := by
  obtain ⟨A, n, c, l, e, h3⟩ := h.first
  obtain ⟨A', n', c', l', e', h4⟩ := h.second
  rw [blk_cell h.row]
  rcases (show k = 0 ∨ k = 1 by omega) with rfl | rfl
  · exact ⟨A, n, c, l, by rw [e]; rfl, h3⟩
  · exact ⟨A', n', c', l', by rw [e']; rfl, h4⟩
set_option maxHeartbeats 8000000 in
set_option maxRecDepth 100000 in
theorem walk_in (A : Option Addr) (c N : Nat) (l : List Int) (w : World) (hr : Kd.C (Kd.int .u8) w A N l) (hc : N ≤ c) (hN : ¬ N > 2000) (hb : Bytes l) :
    Calls Try.prog 5 #[.slice A N c] w fun e w' => e = .returned (.bool true) ∧ Below w.heap.size w w' := by
  have HR := Aside0.mk (show Rd w A N c l from ⟨hr, hc, hb⟩)
  have B := Lib.hid (block_calls A N c l w hr)
  have hXb := Lib.hid (blk_bytes l hb)
  clear hr hb
  generalize blk l = X at *
  go_enter Try.func5, Try.ntmps5
  go_wp2_with fail
  refine B.out.mono ?_
  rintro e w1 ⟨g1, rfl, ho1, hb1⟩
  have K0 := Lib.hid (show Ready w (w1.alloc (.cells #[.slice A N c, .slice (some ⟨g1, 0, none⟩) 512 512] 22)) w1.heap.size (.slice A N c) (.slice (some ⟨g1, 0, none⟩) 512 512) from
    ⟨below_alloc hb1 _, heap_alloc_new _ _, ⟨A, N, c, l, rfl, (HR.out.step hb1).step (below_alloc (Below.refl _ _) _)⟩, ⟨_, 512, 512, X, rfl, (show Rd w1 _ 512 512 X from ⟨ho1.reads, ho1.le, hXb.out⟩).step (below_alloc (Below.refl _ _) _)⟩⟩)
  clear ho1 hb1 B
  go_wp2_with fail
  go_loopw [22] (fun i wr => ∃ k : Nat, k ≤ 2 ∧ i = .int .i64 k ∧ Ready w wr w1.heap.size (.slice A N c) (.slice (some ⟨g1, 0, none⟩) 512 512)) (fun i _ => 2 - (intOf i).toNat)
  case atStart => exact ⟨0, Nat.zero_le _, rfl, K0.out⟩
  case round =>
    obtain ⟨k, hk, rfl, hK⟩ := hrel
    clear K0
    by_cases hlt : k < 2
    · obtain ⟨A', n', c', l', hcell, hX⟩ := hK.elem k hlt
      have hcx := hX.cap
      replace hK := Lib.hid hK
      by_cases h512 : n' = 512
      · subst h512
        obtain ⟨ad, rfl, _⟩ := read_cells hX.cells (by decide)
        replace hX := Lib.hid hX
        go_wp2_with fail
        refine (sum_calls ad c' l' wr hX.out.cells hX.out.bytes).mono ?_
        rintro e w2 ⟨rfl, hb2⟩
        have hX2 := Lib.hid (hX.out.step hb2)
        have hK2 := Lib.hid (hK.out.step hb2)
        clear hX hK hb2
        go_wp2_with fail
        refine (Refs.sum_calls (some ad) c' l' w2 hX2.out.cells hcx hX2.out.bytes).mono ?_
        rintro e w3 ⟨rfl, ⟨n3, rfl⟩⟩
        have hX3 := Lib.hid (hX2.out.step (pw_below_drewN (Below.refl _ _) n3))
        have hK3 := Lib.hid (hK2.out.step (pw_below_drewN (Below.refl _ _) n3))
        clear hX2 hK2
        go_wp2_with fail
        refine (seal_calls ad c' l' _ hX3.out.cells hX3.out.bytes).mono ?_
        rintro e w4 ⟨g4, cap4, rfl, ho4, hb4⟩
        have hX4 := Lib.hid (hX3.out.step hb4)
        have hK4 := Lib.hid (hK3.out.step hb4)
        replace ho4 := Lib.hid ho4
        clear hX3 hK3 hb4
        go_wp2_with fail
        refine (Refs.seal_calls ad c' l' _ hX4.out.cells hcx hX4.out.bytes).mono ?_
        rintro e w5 ⟨g5, cap5, rfl, ho5, hb5⟩
        have hX5 := Lib.hid (hX4.out.step hb5)
        have hK5 := Lib.hid (hK4.out.step hb5)
        have k1 := fun c => Refs.str (c := c) (Kd.C_below ho4.out.reads hb5)
        have k2 := fun c => Refs.str (c := c) ho5.reads
        replace ho5 := Lib.hid ho5
        clear hX4 hK4 hb5
        go_wp2_with fail
        refine (verify_calls ad c' l' _ hX5.out.cells hcx hX5.out.bytes).mono ?_
        rintro e w6 ⟨rfl, hb6⟩
        have hX6 := Lib.hid (hX5.out.step hb6)
        have hK6 := Lib.hid (hK5.out.step hb6)
        clear hX5 hK5 hb6
        go_wp2_with fail
        refine (Refs.verify_calls ad c' l' _ hX6.out.cells hcx hX6.out.bytes).mono ?_
        rintro e w7 ⟨rfl, hb7⟩
        have hK7 := Lib.hid (hK6.out.step hb7)
        clear hX6 hK6 hb7
        go_wp2
        go_roundw
        case rel => exact ⟨k + 1, by omega, by go_num, hK7.out⟩
        case measure => simp [intOf]; omega
      · replace hX := Lib.hid hX
        go_wp2_with fail
        refine (sum_no A' n' c' wr h512).mono ?_
        rintro e w2 ⟨rfl, hb2⟩
        have hX2 := Lib.hid (hX.out.step hb2)
        have hK2 := Lib.hid (hK.out.step hb2)
        clear hX hK hb2
        go_wp2_with fail
        refine (Refs.sum_no A' c' n' l' w2 hX2.out.cells hcx h512).mono ?_
        rintro e w3 ⟨rfl, ⟨n3, rfl⟩⟩
        have hX3 := Lib.hid (hX2.out.step (pw_below_drewN (Below.refl _ _) n3))
        have hK3 := Lib.hid (hK2.out.step (pw_below_drewN (Below.refl _ _) n3))
        clear hX2 hK2
        go_wp2_with fail
        refine (seal_no A' n' c' _ h512).mono ?_
        rintro e w4 ⟨rfl, hb4⟩
        have hX4 := Lib.hid (hX3.out.step hb4)
        have hK4 := Lib.hid (hK3.out.step hb4)
        clear hX3 hK3 hb4
        go_wp2_with fail
        refine (Refs.seal_no A' c' n' l' _ hX4.out.cells hcx h512).mono ?_
        rintro e w5 ⟨rfl, hb5⟩
        have hX5 := Lib.hid (hX4.out.step hb5)
        have hK5 := Lib.hid (hK4.out.step hb5)
        have k1 : (convert 22 9 (.slice none 0 0)).run Try.prog w5 = .ok (.string (strOfNums [])) w5 := Refs.str (W := w5) (c := 0) (Kd.C_nil (Kd.int .u8) w5)
        clear hX4 hK4 hb5
        go_wp2_with fail
        refine (verify_no A' n' c' _ h512).mono ?_
        rintro e w6 ⟨rfl, hb6⟩
        have hX6 := Lib.hid (hX5.out.step hb6)
        have hK6 := Lib.hid (hK5.out.step hb6)
        clear hX5 hK5 hb6
        go_wp2_with fail
        refine (Refs.verify_no A' c' n' l' _ hX6.out.cells hcx h512).mono ?_
        rintro e w7 ⟨rfl, hb7⟩
        have hK7 := Lib.hid (hK6.out.step hb7)
        clear hX6 hK6 hb7
        go_wp2
        go_roundw
        case rel => exact ⟨k + 1, by omega, by go_num, hK7.out⟩
        case measure => simp [intOf]; omega
    · obtain rfl : k = 2 := by omega
      replace hK := Lib.hid hK
      go_wp2_with fail
      refine (alive_calls _).mono ?_
      rintro e w6 ⟨rfl, hb6⟩
      go_wp2
      go_ret
      exact ⟨rfl, below_step hK.out.below hb6⟩
theorem law_walk (A : Option Addr) (c : Nat) (l : List Int) (w : World) (hr : Kd.C (Kd.int .u8) w A l.length l) (hc : l.length ≤ c) (_ : l.length ≤ 140737488351232) (hw : ∀ x ∈ l, (Lit.int .u8 x).wf = true) :
    Calls Try.prog 5 #[.slice A l.length c] w fun e w' => e = .returned (.bool true) ∧ Below w.heap.size w w' := by
  by_cases hN : l.length > 2000
  · exact walk_far A c _ w hN
  · exact walk_in A c _ l w hr hc hN (fun x hx => by have := byte_bounds (hw x hx); omega)
end Go.Proofs.Ytbdjjgcaadkfbaa.Matches
