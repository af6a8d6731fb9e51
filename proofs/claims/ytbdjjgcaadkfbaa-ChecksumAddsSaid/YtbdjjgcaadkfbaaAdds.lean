/- ChecksumAdds, walked. -/
import Derived.Test.YtbdjjgcaadkfbaaBlock
namespace Go.Proofs.Ytbdjjgcaadkfbaa.Adds
open Go.RowKit Go.Proofs.YtbdjjgcaadkfbaaW.PrintWords Go.Proofs.YtbdjjgcaadkfbaaW.PrintLast Go.Proofs.YtbdjjgcaadkfbaaW.PrintMore Go.Proofs.Ytbdjjgcaadkfbaa.Oct Go.Proofs.Ytbdjjgcaadkfbaa.Fmt Go.Proofs.Ytbdjjgcaadkfbaa.Plain Go.Proofs.Ytbdjjgcaadkfbaa.Sealed Go.Proofs.Ytbdjjgcaadkfbaa.Calls Go.Proofs.Ytbdjjgcaadkfbaa.Block
attribute [local go_sem] min2_int min_two

set_option maxHeartbeats 1000000 in
set_option maxRecDepth 100000 in
theorem walk_far (A : Option Addr) (c N : Nat) (a b : Int) (w : World) (h : N > 2000) :
    Calls Try.prog 4 #[.slice A N c, .int .u16 a, .int .u8 b] w fun e w' => e = .returned (.bool true) ∧ Below w.heap.size w w' := by
  go_enter Try.func4, Try.ntmps4
  go_wp2_with (go_at_call 8; refine (alive_calls _).mono ?_; rintro e w' ⟨rfl, hbl⟩)
  go_ret
  exact ⟨rfl, hbl⟩
/-- What the walk needs of the byte that is changed: its place k, what lies there, what is added. -/
structure Sets (X : List Int) (k : Nat) (v d : Int) : Prop where
  k_lt : k < 512
  at_k : X.getD k 0 = v
  v0 : 0 ≤ v
  v1 : v < 256
  d0 : 0 ≤ d
  d1 : v + d < 256
  out : k < 148 ∨ 156 ≤ k
theorem Sets.bytes {X : List Int} {k : Nat} {v d : Int} (h : Sets X k v d) (hb : Bytes X) : Bytes (X.set k (v + d)) := fun y hy => by
  have := h.v0; have := h.d0; have := h.d1
  rcases List.mem_or_eq_of_mem_set hy with h | h
  · exact hb y h
  · omega
theorem Sets.sum {X : List Int} {k : Nat} {v d : Int} (h : Sets X k v d) (hl : X.length = 512) : sumL (X.set k (v + d)) = sumL X + d := by
  rw [sum_set X hl k _ h.k_lt h.out, h.at_k]
  omega
set_option maxHeartbeats 4000000 in
set_option maxRecDepth 100000 in
theorem walk_lo_whole (A : Option Addr) (c N : Nat) (l : List Int) (a b : Int) (w : World) (hr : Kd.C (Kd.int .u8) w A N l) (hN : ¬ N > 2000) (hb : Bytes l) (ha0 : 0 ≤ a) (ha1 : a < 65536) (hb0 : 0 ≤ b) (hb1 : b < 256)
    (i : Nat) (hi512 : i < 512) (hi : a % 512 = (i : Int)) (hio : i < 148) (v : Int) (hs : Sets (blk l) i v b) (hd : b ≤ 255 - v) :
    Calls Try.prog 4 #[.slice A N c, .int .u16 a, .int .u8 b] w fun e w' => e = .returned (.bool true) ∧ Below w.heap.size w w' := by
  have HS := Lib.hid hs
  have hXl := Lib.hid (blk_len l)
  have hXb := blk_bytes l hb
  have B := Lib.hid (block_calls A N c l w hr)
  clear hr hb hs
  generalize blk l = X at *
  have hv0 := HS.out.v0
  have hv1 := HS.out.v1
  have hd1 := HS.out.d1
  have hYb := HS.out.bytes hXb
  have hYl : (X.set i (v + b)).length = 512 := by rw [List.length_set]; exact hXl.out
  have hsum := Lib.hid (HS.out.sum hXl.out)
  have hbd := sum_bound _ hYl hYb
  rw [hsum.out] at hbd
  have hbx := sum_bound X hXl.out hXb
  have S1 := Lib.hid (fun (g : Nat) (W : World) (h : Kd.C (Kd.int .u8) W (some ⟨g, 0, none⟩) 512 X) => sum_calls ⟨g, 0, none⟩ 512 X W h hXb)
  have S2 := Lib.hid (fun (g cap : Nat) (W : World) (h : Kd.C (Kd.int .u8) W (some ⟨g, 0, none⟩) 512 (X.set i (v + b))) => sum_calls ⟨g, 0, none⟩ cap (X.set i (v + b)) W h hYb)
  rw [hsum.out] at S2
  clear hYl hXb hYb
  go_enter Try.func4, Try.ntmps4
  go_wp2_with fail
  refine B.out.mono ?_
  rintro e w1 ⟨g1, rfl, ho1, hbl1⟩
  replace ho1 := Lib.hid ho1
  replace hbl1 := Lib.hid hbl1
  clear B
  go_wp2_with (at_builtin; refine append_new w1 rfl (.tmp 30) (.tmp 31) rfl (some ⟨g1, 0, none⟩) 512 512 X rfl rfl ho1.out.reads (by decide) (by decide) ?_; intro g2 cap2 w2 ho2 hbl2; obtain ⟨hc1, hc2⟩ := ho2.cell i (by omega); rw [HS.out.at_k] at hc1; have HO2 := Lib.hid ho2; have HB2 := Lib.hid hbl2; clear ho2 hbl2)
  have hne : g1 ≠ g2 := by have := ho1.out.lt; have := HO2.out.from_; omega
  have hox := Lib.hid ((ho1.out.below HB2.out).far (p := ⟨g2, i, none⟩) hne (.int .u8 (v + b)))
  have hoy := Lib.hid (HO2.out.set i (v + b))
  have hbw := Lib.hid ((below_step hbl1.out HB2.out).setCell (p := ⟨g2, i, none⟩) (by have := HO2.out.from_; have := hbl1.out.size; show w.heap.size ≤ g2; omega) (.int .u8 (v + b)))
  clear HO2 HB2 ho1 hbl1 hc1 hc2 hne
  refine (S1.out _ _ hox.out.reads).mono ?_
  rintro e w3 ⟨rfl, hb3⟩
  have hoy3 := Lib.hid (hoy.out.below hb3)
  have hbw3 := Lib.hid (below_step hbw.out hb3)
  clear hox hoy hbw hb3
  go_wp2_with fail
  refine (S2.out _ _ _ hoy3.out.reads).mono ?_
  rintro e w4 ⟨rfl, hb4⟩
  have hbw4 := Lib.hid (below_step hbw3.out hb4)
  clear hbw3 hb4 hoy3
  go_wp2_with fail
  refine (alive_calls _).mono ?_
  rintro e w5 ⟨rfl, hb5⟩
  go_wp2
  go_ret
  exact ⟨rfl, below_step hbw4.out hb5⟩
set_option maxHeartbeats 4000000 in
set_option maxRecDepth 100000 in
theorem walk_lo_cut (A : Option Addr) (c N : Nat) (l : List Int) (a b : Int) (w : World) (hr : Kd.C (Kd.int .u8) w A N l) (hN : ¬ N > 2000) (hb : Bytes l) (ha0 : 0 ≤ a) (ha1 : a < 65536) (hb0 : 0 ≤ b) (hb1 : b < 256)
    (i : Nat) (hi512 : i < 512) (hi : a % 512 = (i : Int)) (hio : i < 148) (v : Int) (hs : Sets (blk l) i v (255 - v)) (hd : 255 - v < b) :
    Calls Try.prog 4 #[.slice A N c, .int .u16 a, .int .u8 b] w fun e w' => e = .returned (.bool true) ∧ Below w.heap.size w w' := by
  have HS := Lib.hid hs
  have hXl := Lib.hid (blk_len l)
  have hXb := blk_bytes l hb
  have B := Lib.hid (block_calls A N c l w hr)
  clear hr hb hs
  generalize blk l = X at *
  have hv0 := HS.out.v0
  have hv1 := HS.out.v1
  have hd1 := HS.out.d1
  have hYb := HS.out.bytes hXb
  have hYl : (X.set i (v + (255 - v))).length = 512 := by rw [List.length_set]; exact hXl.out
  have hsum := Lib.hid (HS.out.sum hXl.out)
  have hbd := sum_bound _ hYl hYb
  rw [hsum.out] at hbd
  have hbx := sum_bound X hXl.out hXb
  have S1 := Lib.hid (fun (g : Nat) (W : World) (h : Kd.C (Kd.int .u8) W (some ⟨g, 0, none⟩) 512 X) => sum_calls ⟨g, 0, none⟩ 512 X W h hXb)
  have S2 := Lib.hid (fun (g cap : Nat) (W : World) (h : Kd.C (Kd.int .u8) W (some ⟨g, 0, none⟩) 512 (X.set i (v + (255 - v)))) => sum_calls ⟨g, 0, none⟩ cap (X.set i (v + (255 - v))) W h hYb)
  rw [hsum.out] at S2
  clear hYl hXb hYb
  go_enter Try.func4, Try.ntmps4
  go_wp2_with fail
  refine B.out.mono ?_
  rintro e w1 ⟨g1, rfl, ho1, hbl1⟩
  replace ho1 := Lib.hid ho1
  replace hbl1 := Lib.hid hbl1
  clear B
  go_wp2_with (at_builtin; refine append_new w1 rfl (.tmp 30) (.tmp 31) rfl (some ⟨g1, 0, none⟩) 512 512 X rfl rfl ho1.out.reads (by decide) (by decide) ?_; intro g2 cap2 w2 ho2 hbl2; obtain ⟨hc1, hc2⟩ := ho2.cell i (by omega); rw [HS.out.at_k] at hc1; have HO2 := Lib.hid ho2; have HB2 := Lib.hid hbl2; clear ho2 hbl2)
  have hne : g1 ≠ g2 := by have := ho1.out.lt; have := HO2.out.from_; omega
  have hox := Lib.hid ((ho1.out.below HB2.out).far (p := ⟨g2, i, none⟩) hne (.int .u8 (v + (255 - v))))
  have hoy := Lib.hid (HO2.out.set i (v + (255 - v)))
  have hbw := Lib.hid ((below_step hbl1.out HB2.out).setCell (p := ⟨g2, i, none⟩) (by have := HO2.out.from_; have := hbl1.out.size; show w.heap.size ≤ g2; omega) (.int .u8 (v + (255 - v))))
  clear HO2 HB2 ho1 hbl1 hc1 hc2 hne
  refine (S1.out _ _ hox.out.reads).mono ?_
  rintro e w3 ⟨rfl, hb3⟩
  have hoy3 := Lib.hid (hoy.out.below hb3)
  have hbw3 := Lib.hid (below_step hbw.out hb3)
  clear hox hoy hbw hb3
  go_wp2_with fail
  refine (S2.out _ _ _ hoy3.out.reads).mono ?_
  rintro e w4 ⟨rfl, hb4⟩
  have hbw4 := Lib.hid (below_step hbw3.out hb4)
  clear hbw3 hb4 hoy3
  go_wp2_with fail
  refine (alive_calls _).mono ?_
  rintro e w5 ⟨rfl, hb5⟩
  go_wp2
  go_ret
  exact ⟨rfl, below_step hbw4.out hb5⟩
set_option maxHeartbeats 4000000 in
set_option maxRecDepth 100000 in
theorem walk_hi_whole (A : Option Addr) (c N : Nat) (l : List Int) (a b : Int) (w : World) (hr : Kd.C (Kd.int .u8) w A N l) (hN : ¬ N > 2000) (hb : Bytes l) (ha0 : 0 ≤ a) (ha1 : a < 65536) (hb0 : 0 ≤ b) (hb1 : b < 256)
    (i : Nat) (hi512 : i < 512) (hi : a % 512 = (i : Int)) (hio : 156 ≤ i) (v : Int) (hs : Sets (blk l) i v b) (hd : b ≤ 255 - v) :
    Calls Try.prog 4 #[.slice A N c, .int .u16 a, .int .u8 b] w fun e w' => e = .returned (.bool true) ∧ Below w.heap.size w w' := by
  have HS := Lib.hid hs
  have hXl := Lib.hid (blk_len l)
  have hXb := blk_bytes l hb
  have B := Lib.hid (block_calls A N c l w hr)
  clear hr hb hs
  generalize blk l = X at *
  have hv0 := HS.out.v0
  have hv1 := HS.out.v1
  have hd1 := HS.out.d1
  have hYb := HS.out.bytes hXb
  have hYl : (X.set i (v + b)).length = 512 := by rw [List.length_set]; exact hXl.out
  have hsum := Lib.hid (HS.out.sum hXl.out)
  have hbd := sum_bound _ hYl hYb
  rw [hsum.out] at hbd
  have hbx := sum_bound X hXl.out hXb
  have S1 := Lib.hid (fun (g : Nat) (W : World) (h : Kd.C (Kd.int .u8) W (some ⟨g, 0, none⟩) 512 X) => sum_calls ⟨g, 0, none⟩ 512 X W h hXb)
  have S2 := Lib.hid (fun (g cap : Nat) (W : World) (h : Kd.C (Kd.int .u8) W (some ⟨g, 0, none⟩) 512 (X.set i (v + b))) => sum_calls ⟨g, 0, none⟩ cap (X.set i (v + b)) W h hYb)
  rw [hsum.out] at S2
  clear hYl hXb hYb
  go_enter Try.func4, Try.ntmps4
  go_wp2_with fail
  refine B.out.mono ?_
  rintro e w1 ⟨g1, rfl, ho1, hbl1⟩
  replace ho1 := Lib.hid ho1
  replace hbl1 := Lib.hid hbl1
  clear B
  go_wp2_with (at_builtin; refine append_new w1 rfl (.tmp 30) (.tmp 31) rfl (some ⟨g1, 0, none⟩) 512 512 X rfl rfl ho1.out.reads (by decide) (by decide) ?_; intro g2 cap2 w2 ho2 hbl2; obtain ⟨hc1, hc2⟩ := ho2.cell i (by omega); rw [HS.out.at_k] at hc1; have HO2 := Lib.hid ho2; have HB2 := Lib.hid hbl2; clear ho2 hbl2)
  have hne : g1 ≠ g2 := by have := ho1.out.lt; have := HO2.out.from_; omega
  have hox := Lib.hid ((ho1.out.below HB2.out).far (p := ⟨g2, i, none⟩) hne (.int .u8 (v + b)))
  have hoy := Lib.hid (HO2.out.set i (v + b))
  have hbw := Lib.hid ((below_step hbl1.out HB2.out).setCell (p := ⟨g2, i, none⟩) (by have := HO2.out.from_; have := hbl1.out.size; show w.heap.size ≤ g2; omega) (.int .u8 (v + b)))
  clear HO2 HB2 ho1 hbl1 hc1 hc2 hne
  refine (S1.out _ _ hox.out.reads).mono ?_
  rintro e w3 ⟨rfl, hb3⟩
  have hoy3 := Lib.hid (hoy.out.below hb3)
  have hbw3 := Lib.hid (below_step hbw.out hb3)
  clear hox hoy hbw hb3
  go_wp2_with fail
  refine (S2.out _ _ _ hoy3.out.reads).mono ?_
  rintro e w4 ⟨rfl, hb4⟩
  have hbw4 := Lib.hid (below_step hbw3.out hb4)
  clear hbw3 hb4 hoy3
  go_wp2_with fail
  refine (alive_calls _).mono ?_
  rintro e w5 ⟨rfl, hb5⟩
  go_wp2
  go_ret
  exact ⟨rfl, below_step hbw4.out hb5⟩
set_option maxHeartbeats 4000000 in
set_option maxRecDepth 100000 in
theorem walk_hi_cut (A : Option Addr) (c N : Nat) (l : List Int) (a b : Int) (w : World) (hr : Kd.C (Kd.int .u8) w A N l) (hN : ¬ N > 2000) (hb : Bytes l) (ha0 : 0 ≤ a) (ha1 : a < 65536) (hb0 : 0 ≤ b) (hb1 : b < 256)
    (i : Nat) (hi512 : i < 512) (hi : a % 512 = (i : Int)) (hio : 156 ≤ i) (v : Int) (hs : Sets (blk l) i v (255 - v)) (hd : 255 - v < b) :
    Calls Try.prog 4 #[.slice A N c, .int .u16 a, .int .u8 b] w fun e w' => e = .returned (.bool true) ∧ Below w.heap.size w w' := by
  have HS := Lib.hid hs
  have hXl := Lib.hid (blk_len l)
  have hXb := blk_bytes l hb
  have B := Lib.hid (block_calls A N c l w hr)
  clear hr hb hs
  generalize blk l = X at *
  have hv0 := HS.out.v0
  have hv1 := HS.out.v1
  have hd1 := HS.out.d1
  have hYb := HS.out.bytes hXb
  have hYl : (X.set i (v + (255 - v))).length = 512 := by rw [List.length_set]; exact hXl.out
  have hsum := Lib.hid (HS.out.sum hXl.out)
  have hbd := sum_bound _ hYl hYb
  rw [hsum.out] at hbd
  have hbx := sum_bound X hXl.out hXb
  have S1 := Lib.hid (fun (g : Nat) (W : World) (h : Kd.C (Kd.int .u8) W (some ⟨g, 0, none⟩) 512 X) => sum_calls ⟨g, 0, none⟩ 512 X W h hXb)
  have S2 := Lib.hid (fun (g cap : Nat) (W : World) (h : Kd.C (Kd.int .u8) W (some ⟨g, 0, none⟩) 512 (X.set i (v + (255 - v)))) => sum_calls ⟨g, 0, none⟩ cap (X.set i (v + (255 - v))) W h hYb)
  rw [hsum.out] at S2
  clear hYl hXb hYb
  go_enter Try.func4, Try.ntmps4
  go_wp2_with fail
  refine B.out.mono ?_
  rintro e w1 ⟨g1, rfl, ho1, hbl1⟩
  replace ho1 := Lib.hid ho1
  replace hbl1 := Lib.hid hbl1
  clear B
  go_wp2_with (at_builtin; refine append_new w1 rfl (.tmp 30) (.tmp 31) rfl (some ⟨g1, 0, none⟩) 512 512 X rfl rfl ho1.out.reads (by decide) (by decide) ?_; intro g2 cap2 w2 ho2 hbl2; obtain ⟨hc1, hc2⟩ := ho2.cell i (by omega); rw [HS.out.at_k] at hc1; have HO2 := Lib.hid ho2; have HB2 := Lib.hid hbl2; clear ho2 hbl2)
  have hne : g1 ≠ g2 := by have := ho1.out.lt; have := HO2.out.from_; omega
  have hox := Lib.hid ((ho1.out.below HB2.out).far (p := ⟨g2, i, none⟩) hne (.int .u8 (v + (255 - v))))
  have hoy := Lib.hid (HO2.out.set i (v + (255 - v)))
  have hbw := Lib.hid ((below_step hbl1.out HB2.out).setCell (p := ⟨g2, i, none⟩) (by have := HO2.out.from_; have := hbl1.out.size; show w.heap.size ≤ g2; omega) (.int .u8 (v + (255 - v))))
  clear HO2 HB2 ho1 hbl1 hc1 hc2 hne
  refine (S1.out _ _ hox.out.reads).mono ?_
  rintro e w3 ⟨rfl, hb3⟩
  have hoy3 := Lib.hid (hoy.out.below hb3)
  have hbw3 := Lib.hid (below_step hbw.out hb3)
  clear hox hoy hbw hb3
  go_wp2_with fail
  refine (S2.out _ _ _ hoy3.out.reads).mono ?_
  rintro e w4 ⟨rfl, hb4⟩
  have hbw4 := Lib.hid (below_step hbw3.out hb4)
  clear hbw3 hb4 hoy3
  go_wp2_with fail
  refine (alive_calls _).mono ?_
  rintro e w5 ⟨rfl, hb5⟩
  go_wp2
  go_ret
  exact ⟨rfl, below_step hbw4.out hb5⟩
set_option maxHeartbeats 4000000 in
set_option maxRecDepth 100000 in
theorem walk_in_whole (A : Option Addr) (c N : Nat) (l : List Int) (a b : Int) (w : World) (hr : Kd.C (Kd.int .u8) w A N l) (hN : ¬ N > 2000) (hb : Bytes l) (ha0 : 0 ≤ a) (ha1 : a < 65536) (hb0 : 0 ≤ b) (hb1 : b < 256)
    (i : Nat) (hi512 : i < 512) (hi : a % 512 = (i : Int)) (hio0 : 148 ≤ i) (hio1 : i < 156) (v : Int) (hs : Sets (blk l) 0 v b) (hd : b ≤ 255 - v) :
    Calls Try.prog 4 #[.slice A N c, .int .u16 a, .int .u8 b] w fun e w' => e = .returned (.bool true) ∧ Below w.heap.size w w' := by
  have HS := Lib.hid hs
  have hXl := Lib.hid (blk_len l)
  have hXb := blk_bytes l hb
  have B := Lib.hid (block_calls A N c l w hr)
  clear hr hb hs
  generalize blk l = X at *
  have hv0 := HS.out.v0
  have hv1 := HS.out.v1
  have hd1 := HS.out.d1
  have hYb := HS.out.bytes hXb
  have hYl : (X.set 0 (v + b)).length = 512 := by rw [List.length_set]; exact hXl.out
  have hsum := Lib.hid (HS.out.sum hXl.out)
  have hbd := sum_bound _ hYl hYb
  rw [hsum.out] at hbd
  have hbx := sum_bound X hXl.out hXb
  have S1 := Lib.hid (fun (g : Nat) (W : World) (h : Kd.C (Kd.int .u8) W (some ⟨g, 0, none⟩) 512 X) => sum_calls ⟨g, 0, none⟩ 512 X W h hXb)
  have S2 := Lib.hid (fun (g cap : Nat) (W : World) (h : Kd.C (Kd.int .u8) W (some ⟨g, 0, none⟩) 512 (X.set 0 (v + b))) => sum_calls ⟨g, 0, none⟩ cap (X.set 0 (v + b)) W h hYb)
  rw [hsum.out] at S2
  clear hYl hXb hYb
  go_enter Try.func4, Try.ntmps4
  go_wp2_with fail
  refine B.out.mono ?_
  rintro e w1 ⟨g1, rfl, ho1, hbl1⟩
  replace ho1 := Lib.hid ho1
  replace hbl1 := Lib.hid hbl1
  clear B
  go_wp2_with (at_builtin; refine append_new w1 rfl (.tmp 30) (.tmp 31) rfl (some ⟨g1, 0, none⟩) 512 512 X rfl rfl ho1.out.reads (by decide) (by decide) ?_; intro g2 cap2 w2 ho2 hbl2; obtain ⟨hc1, hc2⟩ := ho2.cell 0 (by omega); rw [HS.out.at_k] at hc1; have HO2 := Lib.hid ho2; have HB2 := Lib.hid hbl2; clear ho2 hbl2)
  have hne : g1 ≠ g2 := by have := ho1.out.lt; have := HO2.out.from_; omega
  have hox := Lib.hid ((ho1.out.below HB2.out).far (p := ⟨g2, 0, none⟩) hne (.int .u8 (v + b)))
  have hoy := Lib.hid (HO2.out.set 0 (v + b))
  have hbw := Lib.hid ((below_step hbl1.out HB2.out).setCell (p := ⟨g2, 0, none⟩) (by have := HO2.out.from_; have := hbl1.out.size; show w.heap.size ≤ g2; omega) (.int .u8 (v + b)))
  clear HO2 HB2 ho1 hbl1 hc1 hc2 hne
  refine (S1.out _ _ hox.out.reads).mono ?_
  rintro e w3 ⟨rfl, hb3⟩
  have hoy3 := Lib.hid (hoy.out.below hb3)
  have hbw3 := Lib.hid (below_step hbw.out hb3)
  clear hox hoy hbw hb3
  go_wp2_with fail
  refine (S2.out _ _ _ hoy3.out.reads).mono ?_
  rintro e w4 ⟨rfl, hb4⟩
  have hbw4 := Lib.hid (below_step hbw3.out hb4)
  clear hbw3 hb4 hoy3
  go_wp2_with fail
  refine (alive_calls _).mono ?_
  rintro e w5 ⟨rfl, hb5⟩
  go_wp2
  go_ret
  exact ⟨rfl, below_step hbw4.out hb5⟩
set_option maxHeartbeats 4000000 in
set_option maxRecDepth 100000 in
theorem walk_in_cut (A : Option Addr) (c N : Nat) (l : List Int) (a b : Int) (w : World) (hr : Kd.C (Kd.int .u8) w A N l) (hN : ¬ N > 2000) (hb : Bytes l) (ha0 : 0 ≤ a) (ha1 : a < 65536) (hb0 : 0 ≤ b) (hb1 : b < 256)
    (i : Nat) (hi512 : i < 512) (hi : a % 512 = (i : Int)) (hio0 : 148 ≤ i) (hio1 : i < 156) (v : Int) (hs : Sets (blk l) 0 v (255 - v)) (hd : 255 - v < b) :
    Calls Try.prog 4 #[.slice A N c, .int .u16 a, .int .u8 b] w fun e w' => e = .returned (.bool true) ∧ Below w.heap.size w w' := by
  have HS := Lib.hid hs
  have hXl := Lib.hid (blk_len l)
  have hXb := blk_bytes l hb
  have B := Lib.hid (block_calls A N c l w hr)
  clear hr hb hs
  generalize blk l = X at *
  have hv0 := HS.out.v0
  have hv1 := HS.out.v1
  have hd1 := HS.out.d1
  have hYb := HS.out.bytes hXb
  have hYl : (X.set 0 (v + (255 - v))).length = 512 := by rw [List.length_set]; exact hXl.out
  have hsum := Lib.hid (HS.out.sum hXl.out)
  have hbd := sum_bound _ hYl hYb
  rw [hsum.out] at hbd
  have hbx := sum_bound X hXl.out hXb
  have S1 := Lib.hid (fun (g : Nat) (W : World) (h : Kd.C (Kd.int .u8) W (some ⟨g, 0, none⟩) 512 X) => sum_calls ⟨g, 0, none⟩ 512 X W h hXb)
  have S2 := Lib.hid (fun (g cap : Nat) (W : World) (h : Kd.C (Kd.int .u8) W (some ⟨g, 0, none⟩) 512 (X.set 0 (v + (255 - v)))) => sum_calls ⟨g, 0, none⟩ cap (X.set 0 (v + (255 - v))) W h hYb)
  rw [hsum.out] at S2
  clear hYl hXb hYb
  go_enter Try.func4, Try.ntmps4
  go_wp2_with fail
  refine B.out.mono ?_
  rintro e w1 ⟨g1, rfl, ho1, hbl1⟩
  replace ho1 := Lib.hid ho1
  replace hbl1 := Lib.hid hbl1
  clear B
  go_wp2_with (at_builtin; refine append_new w1 rfl (.tmp 30) (.tmp 31) rfl (some ⟨g1, 0, none⟩) 512 512 X rfl rfl ho1.out.reads (by decide) (by decide) ?_; intro g2 cap2 w2 ho2 hbl2; obtain ⟨hc1, hc2⟩ := ho2.cell 0 (by omega); rw [HS.out.at_k] at hc1; have HO2 := Lib.hid ho2; have HB2 := Lib.hid hbl2; clear ho2 hbl2)
  have hne : g1 ≠ g2 := by have := ho1.out.lt; have := HO2.out.from_; omega
  have hox := Lib.hid ((ho1.out.below HB2.out).far (p := ⟨g2, 0, none⟩) hne (.int .u8 (v + (255 - v))))
  have hoy := Lib.hid (HO2.out.set 0 (v + (255 - v)))
  have hbw := Lib.hid ((below_step hbl1.out HB2.out).setCell (p := ⟨g2, 0, none⟩) (by have := HO2.out.from_; have := hbl1.out.size; show w.heap.size ≤ g2; omega) (.int .u8 (v + (255 - v))))
  clear HO2 HB2 ho1 hbl1 hc1 hc2 hne
  refine (S1.out _ _ hox.out.reads).mono ?_
  rintro e w3 ⟨rfl, hb3⟩
  have hoy3 := Lib.hid (hoy.out.below hb3)
  have hbw3 := Lib.hid (below_step hbw.out hb3)
  clear hox hoy hbw hb3
  go_wp2_with fail
  refine (S2.out _ _ _ hoy3.out.reads).mono ?_
  rintro e w4 ⟨rfl, hb4⟩
  have hbw4 := Lib.hid (below_step hbw3.out hb4)
  clear hbw3 hb4 hoy3
  go_wp2_with fail
  refine (alive_calls _).mono ?_
  rintro e w5 ⟨rfl, hb5⟩
  go_wp2
  go_ret
  exact ⟨rfl, below_step hbw4.out hb5⟩
theorem law_walk (A : Option Addr) (c : Nat) (l : List Int) (a b : Int) (w : World) (hr : Kd.C (Kd.int .u8) w A l.length l) (_ : l.length ≤ c) (_ : l.length ≤ 140737488351232) (hw : ∀ x ∈ l, (Lit.int .u8 x).wf = true) (ha : (Lit.int .u16 a).wf = true) (hbw : (Lit.int .u8 b).wf = true) :
    Calls Try.prog 4 #[.slice A l.length c, .int .u16 a, .int .u8 b] w fun e w' => e = .returned (.bool true) ∧ Below w.heap.size w w' := by
  have hb : Bytes l := fun x hx => by have := byte_bounds (hw x hx); omega
  have hab : 0 ≤ a ∧ a ≤ 65535 := by
    simp [Lit.wf, IntKind.min, IntKind.max, IntKind.signed, IntKind.bits] at ha
    omega
  have hbb := byte_bounds hbw
  have hX := blk_bytes l hb
  by_cases hN : l.length > 2000
  · exact walk_far A c _ a b w hN
  · obtain ⟨i, hi⟩ : ∃ i : Nat, a % 512 = (i : Int) := ⟨(a % 512).toNat, by omega⟩
    have sets : ∀ (k : Nat) (d : Int), k < 512 → (k < 148 ∨ 156 ≤ k) → 0 ≤ d → (blk l).getD k 0 + d < 256 → Sets (blk l) k ((blk l).getD k 0) d :=
      fun k d h0 h1 h2 h3 => ⟨h0, rfl, (hX.getD k).1, (hX.getD k).2, h2, h3, h1⟩
    by_cases h0 : i < 148
    · have hv := hX.getD i
      by_cases hd : b ≤ 255 - (blk l).getD i 0
      · exact walk_lo_whole A c _ l a b w hr hN hb (by omega) (by omega) (by omega) (by omega) i (by omega) hi h0 _ (sets i b (by omega) (by omega) (by omega) (by omega)) hd
      · exact walk_lo_cut A c _ l a b w hr hN hb (by omega) (by omega) (by omega) (by omega) i (by omega) hi h0 _ (sets i _ (by omega) (by omega) (by omega) (by omega)) (by omega)
    · by_cases h1 : 156 ≤ i
      · have hv := hX.getD i
        by_cases hd : b ≤ 255 - (blk l).getD i 0
        · exact walk_hi_whole A c _ l a b w hr hN hb (by omega) (by omega) (by omega) (by omega) i (by omega) hi h1 _ (sets i b (by omega) (by omega) (by omega) (by omega)) hd
        · exact walk_hi_cut A c _ l a b w hr hN hb (by omega) (by omega) (by omega) (by omega) i (by omega) hi h1 _ (sets i _ (by omega) (by omega) (by omega) (by omega)) (by omega)
      · have hv := hX.getD 0
        by_cases hd : b ≤ 255 - (blk l).getD 0 0
        · exact walk_in_whole A c _ l a b w hr hN hb (by omega) (by omega) (by omega) (by omega) i (by omega) hi (by omega) (by omega) _ (sets 0 b (by omega) (by omega) (by omega) (by omega)) hd
        · exact walk_in_cut A c _ l a b w hr hN hb (by omega) (by omega) (by omega) (by omega) i (by omega) hi (by omega) (by omega) _ (sets 0 _ (by omega) (by omega) (by omega) (by omega)) (by omega)
end Go.Proofs.Ytbdjjgcaadkfbaa.Adds
