/- ChecksumFieldIrrelevant, walked. -/
import Derived.Test.YtbdjjgcaadkfbaaBlock
import Derived.Deep.RegionLaw
namespace Go.Proofs.Ytbdjjgcaadkfbaa.Irrelevant
open Go.RowKit Go.Proofs.YtbdjjgcaadkfbaaW.PrintWords Go.Proofs.YtbdjjgcaadkfbaaW.PrintLast Go.Proofs.YtbdjjgcaadkfbaaW.PrintMore Go.Proofs.Ytbdjjgcaadkfbaa.Oct Go.Proofs.Ytbdjjgcaadkfbaa.Fmt Go.Proofs.Ytbdjjgcaadkfbaa.Plain Go.Proofs.Ytbdjjgcaadkfbaa.Sealed Go.Proofs.Ytbdjjgcaadkfbaa.Calls Go.Proofs.Ytbdjjgcaadkfbaa.Block

/-- The block with other bytes in the field. -/
def other (X f : List Int) : List Int := X.take 148 ++ (f ++ X.drop 156)
theorem other_len (X f : List Int) (hX : X.length = 512) (hf : f.length = 8) : (other X f).length = 512 := by simp [other, hX, hf]
theorem other_bytes (X f : List Int) (hX : Bytes X) (hf : Bytes f) : Bytes (other X f) := (hX.take _).append (hf.append (hX.drop _))
theorem other_take (X f : List Int) (hX : X.length = 512) : (other X f).take 148 = X.take 148 := by
  unfold other
  rw [List.take_left' (by simp [hX])]
theorem other_drop (X f : List Int) (hX : X.length = 512) (hf : f.length = 8) : (other X f).drop 156 = X.drop 156 := by
  unfold other
  rw [← List.append_assoc, List.drop_left' (by simp [hX, hf])]
theorem other_sum (X f : List Int) (hX : X.length = 512) (hf : f.length = 8) : sumL (other X f) = sumL X := by rw [sum_eq, sum_eq, other_take X f hX, other_drop X f hX hf]
theorem other_seal (X f : List Int) (hX : X.length = 512) (hf : f.length = 8) : sealL (other X f) = sealL X := by
  unfold sealL field
  rw [other_sum X f hX hf, other_take X f hX, other_drop X f hX hf]
theorem str {W : World} {A : Option Addr} {n c : Nat} {xs : List Int} (h : Kd.C (Kd.int .u8) W A n xs) : (convert 22 9 (.slice A n c)).run Try.prog W = .ok (.string (strOfNums xs)) W :=
  Kd.C_string (P := Try.prog) Try.underlying22 Try.underlying5 Try.underlying9 h
set_option maxHeartbeats 1000000 in
set_option maxRecDepth 100000 in
theorem walk_far (A : Option Addr) (c N : Nat) (f : List Int) (w : World) (h : N > 2000) :
    Calls Try.prog 3 #[.slice A N c, .agg (cellsOf f)] w fun e w' => e = .returned (.bool true) ∧ Below w.heap.size w w' := by
  go_enter Try.func3, Try.ntmps3
  go_wp2_with (go_at_call 8; refine (alive_calls _).mono ?_; rintro e w' ⟨rfl, hbl⟩)
  go_ret
  exact ⟨rfl, below_step (below_alloc (Below.refl _ _) _) hbl⟩
/-- The slice's block: its row, out of what is owned. -/
theorem own_row {w : World} {base g cap n : Nat} {l : List Int} (h : Own w base g cap n l) : ∃ cur : List Value, w.heap[g]? = some (.cells cur.toArray 5 (0, 0)) ∧ n ≤ cur.length ∧ cur.take n = nums .u8 l ∧ cur.length = cap ∧ cap ≤ maxLen := by
  rcases h.row.2 with ⟨h', _⟩ | ⟨g', cap', cur, h', _, hh, hn, hc, hs, ht⟩
  · cases h'
  · injection h' with h1 h2 h3
    injection h1 with h1
    injection h1 with h1
    subst h1 h3
    refine ⟨cur.toList, hh, ?_, ?_, ?_, hc⟩
    · rw [Array.length_toList]; omega
    · rw [Nat.mul_one] at ht; exact ht
    · rw [Array.length_toList]; omega
theorem own_spliced {w : World} {base g cap n : Nat} {l : List Int} {cur : List Value} (hb : base ≤ g) (hcap : cap ≤ maxLen) (hl : cur.length = cap) (hn : n ≤ cap) (ht : cur.take n = nums .u8 l) (hll : l.length = n) (o : Nat) (f : List Int) (ho : o + f.length ≤ n)
    (h : w.heap[g]? = some (.cells (splice cur o (nums .u8 f)).toArray 5 (0, 0))) : Own w base g cap n (l.take o ++ (f ++ l.drop (o + f.length))) := by
  refine ⟨⟨by simp [nums, hll]; omega, .inr ⟨g, cap, _, rfl, hb, h, hn, hcap, ?_, ?_⟩⟩⟩
  · simp only [List.size_toArray, Nat.mul_one]
    rw [length_splice _ _ _ (by rw [nums_length]; omega), hl]
  · simp only [Nat.mul_one, splice, nums_length]
    have e0 : cur = nums .u8 l ++ cur.drop n := by rw [← ht, List.take_append_drop]
    have hnl : (nums .u8 l).length = n := by rw [nums_length, hll]
    generalize cur.drop n = tl at e0
    subst e0
    rw [show (nums .u8 l ++ tl).take o = (nums .u8 l).take o from List.take_append_of_le_length (by omega), show (nums .u8 l ++ tl).drop (o + f.length) = (nums .u8 l).drop (o + f.length) ++ tl from List.drop_append_of_le_length (by omega)]
    rw [show (nums .u8 l).take o ++ (nums .u8 f ++ ((nums .u8 l).drop (o + f.length) ++ tl)) = ((nums .u8 l).take o ++ (nums .u8 f ++ (nums .u8 l).drop (o + f.length))) ++ tl by simp]
    rw [List.take_left' (by simp [nums, hll]; omega)]
    simp [nums, List.map_take, List.map_drop]
set_option maxHeartbeats 4000000 in
set_option maxRecDepth 100000 in
theorem walk_in (A : Option Addr) (c N : Nat) (l f : List Int) (w : World) (hr : Kd.C (Kd.int .u8) w A N l) (hN : ¬ N > 2000) (hb : Bytes l) (hf : f.length = 8) (hfb : Bytes f) :
    Calls Try.prog 3 #[.slice A N c, .agg (cellsOf f)] w fun e w' => e = .returned (.bool true) ∧ Below w.heap.size w w' := by
  have B := Lib.hid (block_calls A N c l (w.alloc (.cells (cellsOf f) 23)) (Kd.C_alloc hr _))
  have hXl := blk_len l
  have hXb := blk_bytes l hb
  generalize blk l = X at *
  have hYl := other_len X f hXl hf
  have hYb := other_bytes X f hXb hfb
  have es := other_sum X f hXl hf
  have el := other_seal X f hXl hf
  have hYe := Lib.hid (show X.take 148 ++ (f ++ X.drop (148 + f.length)) = other X f by rw [hf]; rfl)
  have S1 := Lib.hid (fun (g : Nat) (W : World) (h : Kd.C (Kd.int .u8) W (some ⟨g, 0, none⟩) 512 X) => sum_calls ⟨g, 0, none⟩ 512 X W h hXb)
  have S2 := Lib.hid (fun (g cap : Nat) (W : World) (h : Kd.C (Kd.int .u8) W (some ⟨g, 0, none⟩) 512 (other X f)) => sum_calls ⟨g, 0, none⟩ cap (other X f) W h hYb)
  have L1 := Lib.hid (fun (g : Nat) (W : World) (h : Kd.C (Kd.int .u8) W (some ⟨g, 0, none⟩) 512 X) => seal_calls ⟨g, 0, none⟩ 512 X W h hXb)
  have L2 := Lib.hid (fun (g cap : Nat) (W : World) (h : Kd.C (Kd.int .u8) W (some ⟨g, 0, none⟩) 512 (other X f)) => seal_calls ⟨g, 0, none⟩ cap (other X f) W h hYb)
  rw [es] at S2
  rw [el] at L2
  have HF := Lib.hid hf
  have HXL := Lib.hid hXl
  clear hr hb hXl hXb hYl hYb es el hf
  go_enter Try.func3, Try.ntmps3
  go_wp2_with fail
  refine B.out.mono ?_
  rintro e w1 ⟨g1, rfl, ho1, hb1⟩
  have hfr : w1.heap[w.heap.size]? = some (.cells (cellsOf f) 23 (0, 0)) := (hb1.block _ (by simp)).trans (heap_alloc_new _ _)
  replace ho1 := Lib.hid ho1
  replace hfr := Lib.hid hfr
  replace hb1 := Lib.hid (below_step (below_alloc (Below.refl _ _) _) hb1)
  clear B
  go_wp2_with (at_builtin; refine append_new w1 rfl (.tmp 21) (.tmp 22) rfl (some ⟨g1, 0, none⟩) 512 512 X rfl rfl ho1.out.reads (by decide) (by decide) ?_; intro g2 cap2 w2 ho2 hb2; have HO2 := Lib.hid ho2; have HB2 := Lib.hid hb2; clear ho2 hb2)
  have hcap := HO2.out.le
  obtain ⟨cur, hg, hc1, hc2, hc3, hc4⟩ := own_row HO2.out
  have hg' : w2.drew.heap[g2]? = some (.cells cur.toArray 5 (0, 0)) := hg
  have hn8 : (nums .u8 f).length = Nat.min 8 8 := by rw [nums_length, HF.out]; rfl
  have hfit : 148 + (nums .u8 f).length ≤ cur.length := by rw [nums_length, HF.out]; omega
  have h1f := nums_one f
  have hfr2 : w2.drew.heap[w.heap.size]? = some (.cells (cellsOf f) 23 (0, 0)) := (HB2.out.block _ (blk_lt hfr.out)).trans hfr.out
  have hpos : 0 < (nums .u8 f).length → (some (⟨g2, 148, none⟩ : Addr)) = some ⟨g2, 148, none⟩ ∧ ∃ ad, (some (⟨w.heap.size, 0, none⟩ : Addr)) = some ad ∧ ∀ j v, (nums .u8 f)[j]? = some v → w2.drew.cell? (ad.add j) = some v := by
    intro _
    refine ⟨rfl, _, rfl, fun j v hv => ?_⟩
    rw [add_plain, blk_cell hfr2]
    simpa [cellsOf] using hv
  have hbr := Below.refl g2 w2.drew
  replace hc1 := Lib.hid hc1
  replace hc2 := Lib.hid hc2
  replace hc3 := Lib.hid hc3
  have q1 : (156 : Int) ≤ (cap2 : Int) := by omega
  have q2 : ¬ cap2 = 148 := by omega
  clear hg hfr2
  go_region_law (refine step_copy_splice rfl (.tmp 25) (.tmp 26) 22 22 rfl 5 Try.underlying22 size5 (some ⟨g2, 148, none⟩) (some ⟨w.heap.size, 0, none⟩) 8 (cap2 - 148) 8 8 rfl rfl g2 148 cur 5 hg' (nums .u8 f) hn8 hpos hfit h1f g2 w2.drew hbr (Nat.le_refl _) ?_; intro w4 hg4 hb4)
  have HY := Lib.hid (own_spliced (w := w4) HO2.out.from_ hc4 hc3.out hcap hc2.out HXL.out 148 f (by rw [HF.out]; decide) hg4.out)
  rw [hYe.out] at HY
  have hX4 := Lib.hid (show Own w4 (w.alloc (.cells (cellsOf f) 23)).heap.size g1 512 512 X from ⟨own_move (ho1.out.below HB2.out).row (fun k hk => by
    have e : g1 = k := by simpa [Value.ownBlock] using hk
    subst e
    exact hb4.block _ (by have := ho1.out.lt; have := HO2.out.from_; omega))⟩)
  have hB4 := Lib.hid (show Below w.heap.size w w4 from (below_drew1 (below_step hb1.out HB2.out)).trans (hb4.mono (by have := HO2.out.from_; have := hb1.out.size; omega)))
  clear HO2 HB2 ho1 hb1 hg' hpos hfit hn8 h1f hc1 hc2 hc3 hc4 hg4 hb4 hbr hfr HXL HF
  go_wp2_with fail
  refine (S1.out _ _ hX4.out.reads).mono ?_
  rintro e w5 ⟨rfl, hb5⟩
  have hX5 := Lib.hid (hX4.out.below hb5)
  have hY5 := Lib.hid (HY.out.below hb5)
  have hB5 := Lib.hid (below_step hB4.out hb5)
  clear hX4 HY hB4 hb5
  go_wp2_with fail
  refine (S2.out _ _ _ hY5.out.reads).mono ?_
  rintro e w6 ⟨rfl, hb6⟩
  have hX6 := Lib.hid (hX5.out.below hb6)
  have hY6 := Lib.hid (hY5.out.below hb6)
  have hB6 := Lib.hid (below_step hB5.out hb6)
  clear hX5 hY5 hB5 hb6
  go_wp2_with fail
  refine (L1.out _ _ hX6.out.reads).mono ?_
  rintro e w7 ⟨g7, cap7, rfl, ho7, hb7⟩
  have hY7 := Lib.hid (hY6.out.below hb7)
  have hB7 := Lib.hid (below_step hB6.out hb7)
  replace ho7 := Lib.hid ho7
  clear hX6 hY6 hB6 hb7
  go_wp2_with fail
  refine (L2.out _ _ _ hY7.out.reads).mono ?_
  rintro e w8 ⟨g8, cap8, rfl, ho8, hb8⟩
  have hB8 := Lib.hid (below_step hB7.out hb8)
  have ho7' := Lib.hid (ho7.out.below hb8)
  replace ho8 := Lib.hid ho8
  clear hY7 hB7 hb8 ho7
  go_wp2_with fail
  refine (alive_calls _).mono ?_
  rintro e w9 ⟨rfl, hb9⟩
  have k1 := fun c => str (c := c) (ho7'.out.below hb9).reads
  have k2 := fun c => str (c := c) (ho8.out.below hb9).reads
  go_wp2
  go_ret
  exact ⟨by simp, below_step hB8.out hb9⟩
theorem law_walk (A : Option Addr) (c : Nat) (l f : List Int) (w : World) (hr : Kd.C (Kd.int .u8) w A l.length l) (_ : l.length ≤ c) (_ : l.length ≤ 140737488351232) (hw : ∀ x ∈ l, (Lit.int .u8 x).wf = true) (hf : f.length = 8) (hfw : ∀ x ∈ f, (Lit.int .u8 x).wf = true) :
    Calls Try.prog 3 #[.slice A l.length c, .agg (cellsOf f)] w fun e w' => e = .returned (.bool true) ∧ Below w.heap.size w w' := by
  by_cases hN : l.length > 2000
  · exact walk_far A c _ f w hN
  · exact walk_in A c _ l f w hr hN (fun x hx => by have := byte_bounds (hw x hx); omega) hf (fun x hx => by have := byte_bounds (hfw x hx); omega)
end Go.Proofs.Ytbdjjgcaadkfbaa.Irrelevant
