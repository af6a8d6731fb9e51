/- ChecksumSealVerifies, walked. -/
import Derived.Test.YtbdjjgcaadkfbaaBlock
import Derived.Deep.RegionWith
namespace Go.Proofs.Ytbdjjgcaadkfbaa.Verifies
open Go.RowKit Go.Proofs.YtbdjjgcaadkfbaaW.PrintWords Go.Proofs.YtbdjjgcaadkfbaaW.PrintLast Go.Proofs.YtbdjjgcaadkfbaaW.PrintMore Go.Proofs.Ytbdjjgcaadkfbaa.Oct Go.Proofs.Ytbdjjgcaadkfbaa.Fmt Go.Proofs.Ytbdjjgcaadkfbaa.Plain Go.Proofs.Ytbdjjgcaadkfbaa.Sealed Go.Proofs.Ytbdjjgcaadkfbaa.Calls Go.Proofs.Ytbdjjgcaadkfbaa.Block

set_option maxHeartbeats 1000000 in
set_option maxRecDepth 100000 in
theorem walk_far (A : Option Addr) (c N : Nat) (w : World) (h : N > 2000) :
    Calls Try.prog 6 #[.slice A N c] w fun e w' => e = .returned (.bool true) ∧ Below w.heap.size w w' := by
  go_enter Try.func6, Try.ntmps6
  go_wp2_with (go_at_call 8; refine (alive_calls _).mono ?_; rintro e w' ⟨rfl, hbl⟩)
  go_ret
  exact ⟨rfl, hbl⟩
theorem own_drew {w : World} {base g cap n : Nat} {l : List Int} (h : Own w base g cap n l) : Own w.drew base g cap n l := ⟨h.row⟩
/-- What the last loop keeps: the sealed block s, the second copy t being overwritten. -/
structure Keep (w wr : World) (b2 b5 g2 cap2 g5 cap5 : Nat) (Y m : List Int) : Prop where
  s : Own wr b2 g2 cap2 512 Y
  t : Own wr b5 g5 cap5 512 m
  ne : g2 ≠ g5
  base : w.heap.size ≤ g5
  below : Below w.heap.size w wr
  bytes : Bytes m
theorem Keep.next {w wr : World} {b2 b5 g2 cap2 g5 cap5 : Nat} {Y m : List Int} (h : Keep w wr b2 b5 g2 cap2 g5 cap5 Y m) (k : Nat) (x : Int) (hx0 : 0 ≤ x) (hx1 : x < 256) :
    Keep w (wr.setCell ⟨g5, k, none⟩ (.int .u8 x)) b2 b5 g2 cap2 g5 cap5 Y (m.set k x) :=
  ⟨h.s.far (p := ⟨g5, k, none⟩) h.ne _, h.t.set k x, h.ne, h.base, h.below.setCell (p := ⟨g5, k, none⟩) h.base _, fun y hy => by
    rcases List.mem_or_eq_of_mem_set hy with hy | hy
    · exact h.bytes y hy
    · omega⟩
theorem str {W : World} {A : Option Addr} {n c : Nat} {xs : List Int} (h : Kd.C (Kd.int .u8) W A n xs) : (convert 22 9 (.slice A n c)).run Try.prog W = .ok (.string (strOfNums xs)) W :=
  Kd.C_string (P := Try.prog) Try.underlying22 Try.underlying5 Try.underlying9 h
set_option maxHeartbeats 4000000 in
set_option maxRecDepth 100000 in
theorem walk_in (A : Option Addr) (c N : Nat) (l : List Int) (w : World) (hr : Kd.C (Kd.int .u8) w A N l) (hN : ¬ N > 2000) (hb : Bytes l) :
    Calls Try.prog 6 #[.slice A N c] w fun e w' => e = .returned (.bool true) ∧ Below w.heap.size w w' := by
  have HR := Aside0.mk hr
  have hXl := blk_len l
  have hXb := blk_bytes l hb
  have B := Lib.hid (fun (W : World) (h : Kd.C (Kd.int .u8) W A N l) => block_calls A N c l W h)
  generalize blk l = X at *
  have hsb := seal_bytes X hXb
  have hss := seal_seal X hXl
  have hv := vfy_seal X hXl
  have S := Lib.hid (fun (g : Nat) (W : World) (h : Kd.C (Kd.int .u8) W (some ⟨g, 0, none⟩) 512 X) => seal_calls ⟨g, 0, none⟩ 512 X W h hXb)
  have S2 := Lib.hid (fun (g cap : Nat) (W : World) (h : Kd.C (Kd.int .u8) W (some ⟨g, 0, none⟩) 512 (sealL X)) => seal_calls ⟨g, 0, none⟩ cap (sealL X) W h hsb)
  have V := Lib.hid (fun (g cap : Nat) (W : World) (h : Kd.C (Kd.int .u8) W (some ⟨g, 0, none⟩) 512 (sealL X)) (hc : 512 ≤ cap) => verify_calls ⟨g, 0, none⟩ cap (sealL X) W h hc hsb)
  rw [hv] at V
  rw [hss] at S2
  clear hss hv hr hXl hXb hb
  generalize sealL X = Y at *
  go_enter Try.func6, Try.ntmps6
  go_wp2_with fail
  refine (B.out w HR.out).mono ?_
  rintro e w1 ⟨g1, rfl, ho1, hb1⟩
  replace ho1 := Lib.hid ho1
  replace hb1 := Lib.hid hb1
  go_wp2_with fail
  refine (S.out g1 w1 ho1.out.reads).mono ?_
  rintro e w2 ⟨g2, cap2, rfl, ho2, hb2⟩
  replace ho1 := Lib.hid (ho1.out.below hb2)
  replace ho2 := Lib.hid ho2
  replace hb1 := Lib.hid (below_step hb1.out hb2)
  clear hb2
  go_wp2_with fail
  have hcap2 := ho2.out.le
  replace ho1 := Lib.hid (own_drew ho1.out)
  replace ho2 := Lib.hid (own_drew ho2.out)
  replace hb1 := Lib.hid (below_drew1 hb1.out)
  have k1 := fun c => str (c := c) ho1.out.reads
  have hR2 := Lib.hid (Kd.C_below HR.out hb1.out)
  go_region_with (first | (go_at_call 9; refine (B.out w2.drew hR2.out).mono ?_; rintro e w3 ⟨g3, rfl, ho3, hb3⟩; have k2 := fun c => str (c := c) ho3.reads; have k3 := fun c => str (c := c) (ho1.out.below hb3).reads; replace ho3 := Lib.hid ho3; have ho2' := Lib.hid (ho2.out.below hb3); have hb3' := Lib.hid (below_step hb1.out hb3); clear hb3) | (go_at_call 14; refine (V.out _ _ _ ho2'.out.reads hcap2).mono ?_; rintro e w4 ⟨rfl, hb4⟩; have ho2'' := Lib.hid (ho2'.out.below hb4); have hb4' := Lib.hid (below_step hb3'.out hb4); clear hb4))
  all_goals
    clear k1 k2 k3 ho1 ho2 hR2 hb1 ho3 ho2' hb3'
    go_wp2_with fail
    refine (S2.out _ _ _ ho2''.out.reads).mono ?_
    rintro e w5 ⟨g5, cap5, rfl, ho5, hb5⟩
    have K0 := Lib.hid (show Keep w w5 _ _ g2 cap2 g5 cap5 Y Y from ⟨ho2''.out.below hb5, ho5, by have := ho2''.out.lt; have := ho5.from_; omega, by have := ho5.from_; have := hb4'.out.size; omega, below_step hb4'.out hb5, hsb⟩)
    clear ho5 hb5 ho2'' hb4'
    go_wp2_with fail
    go_loopw [8, 42] (fun _ i wr => ∃ (k : Nat) (m : List Int), k ≤ 512 ∧ i = .int .i64 k ∧ Keep w wr w1.heap.size w4.heap.size g2 cap2 g5 cap5 Y m) (fun _ i _ => 512 - (intOf i).toNat)
    case atStart => exact ⟨0, Y, Nat.zero_le _, rfl, K0.out⟩
    case round =>
      obtain ⟨k, m, hk, rfl, hK⟩ := hrel
      by_cases hlt : k < 512
      · obtain ⟨hc1, hc2⟩ := hK.t.cell k hlt
        have hbk := hK.bytes.getD k
        have T := Lib.hid (hK.next k ((m.getD k 0 + 1) % 256) (by omega) (by omega))
        clear hK
        generalize m.getD k 0 = v at hc1 hbk T
        go_wp2
        go_roundw
        case rel => exact ⟨k + 1, _, by omega, by go_num, T.out⟩
        case measure => simp [intOf]; omega
      · obtain rfl : k = 512 := by omega
        replace hK := Lib.hid hK
        go_wp2_with fail
        refine (alive_calls _).mono ?_
        rintro e w6 ⟨rfl, hb6⟩
        have hs6 := Lib.hid (hK.out.s.below hb6)
        have hbw6 := Lib.hid (below_step hK.out.below hb6)
        clear hK hb6
        go_wp2_with fail
        refine (V.out _ _ _ hs6.out.reads hcap2).mono ?_
        rintro e w7 ⟨rfl, hb7⟩
        go_wp2
        go_ret
        exact ⟨rfl, below_step hbw6.out hb7⟩
theorem law_walk (A : Option Addr) (c : Nat) (l : List Int) (w : World) (hr : Kd.C (Kd.int .u8) w A l.length l) (_ : l.length ≤ c) (_ : l.length ≤ 140737488351232) (hw : ∀ x ∈ l, (Lit.int .u8 x).wf = true) :
    Calls Try.prog 6 #[.slice A l.length c] w fun e w' => e = .returned (.bool true) ∧ Below w.heap.size w w' := by
  by_cases hN : l.length > 2000
  · exact walk_far A c _ w hN
  · exact walk_in A c _ l w hr hN (fun x hx => by have := byte_bounds (hw x hx); omega)
end Go.Proofs.Ytbdjjgcaadkfbaa.Verifies
