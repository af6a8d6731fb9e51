/- What calls of the reference's Sum, Seal and Verify answer: the walks through their text. -/
import Derived.Test.YtbdjjgcaadkfbaaBlock
import Derived.Test.YtbdjjgcaadkfbaaRefFormat
namespace Go.Proofs.Ytbdjjgcaadkfbaa.Refs
open Go.RowKit Go.Proofs.YtbdjjgcaadkfbaaW.PrintWords Go.Proofs.YtbdjjgcaadkfbaaW.PrintLast Go.Proofs.YtbdjjgcaadkfbaaW.PrintMore Go.Proofs.Ytbdjjgcaadkfbaa.Oct Go.Proofs.Ytbdjjgcaadkfbaa.Fmt Go.Proofs.Ytbdjjgcaadkfbaa.Plain Go.Proofs.Ytbdjjgcaadkfbaa.Sealed Go.Proofs.Ytbdjjgcaadkfbaa.Calls Go.Proofs.Ytbdjjgcaadkfbaa.Block Go.Proofs.Ytbdjjgcaadkfbaa.PChecksumMatchesReference

theorem fill_in (l : List Int) (hl : l.length = 512) (i : Nat) (h0 : 148 ≤ i) (h1 : i < 156) : (fill l).getD i 0 = 32 := by
  unfold fill
  have e : (l.take 148).length = 148 := by simp [hl]
  rw [List.getD_eq_getElem?_getD, List.getElem?_append_right (by omega), e, List.getElem?_append_left (by simp; omega), List.getElem?_replicate, if_pos (by omega)]
  rfl
theorem fill_lo (l : List Int) (hl : l.length = 512) (i : Nat) (h : i < 148) : (fill l).getD i 0 = l.getD i 0 := by
  unfold fill
  rw [List.getD_eq_getElem?_getD, List.getElem?_append_left (by simp [hl]; omega), ← List.getD_eq_getElem?_getD, getD_take l i 148 h]
theorem fill_hi (l : List Int) (hl : l.length = 512) (i : Nat) (h : 156 ≤ i) : (fill l).getD i 0 = l.getD i 0 := by
  unfold fill
  have e : (l.take 148).length = 148 := by simp [hl]
  rw [List.getD_eq_getElem?_getD, List.getElem?_append_right (by omega), e, List.getElem?_append_right (by simp; omega), List.length_replicate, List.getElem?_drop, List.getD_eq_getElem?_getD]
  have e2 : 156 + (i - 148 - 8) = i := by omega
  rw [e2]
theorem sum_l0 (l : List Int) (hl : l.length = 512) (hb : Bytes l) : ∀ (d k i : Nat), 512 - i = d → d < k → i ≤ 512 → paxtarref03_Sum.l0 k l (tot ((fill l).take i)) (i : Int) = some (sumL l, 0) := by
  have hF := fill_bytes l hb
  have hFl := fill_len l hl
  intro d
  induction d with
  | zero =>
    intro k i hd hk hi
    obtain ⟨k, rfl⟩ : ∃ q, k = q + 1 := ⟨k - 1, by omega⟩
    obtain rfl : i = 512 := by omega
    simp only [paxtarref03_Sum.l0]
    rw [if_neg (by omega), List.take_of_length_le (by omega)]
    rfl
  | succ d ih =>
    intro k i hd hk hi
    obtain ⟨k, rfl⟩ : ∃ q, k = q + 1 := ⟨k - 1, by omega⟩
    have hT := tot_bound _ (hF.take i)
    have hTl : ((fill l).take i).length ≤ 512 := by have := List.length_take_le i (fill l); omega
    have hn := tot_snoc (fill l) i (by omega)
    have hbi := hb.getD i
    have step := ih k (i + 1) (by omega) (by omega) (by omega)
    clear ih
    have c1 : (i : Int) < 512 := by omega
    have c2 : (0 : Int) ≤ (i : Int) := by omega
    have c3 : (i : Int) < (l.length : Int) := by omega
    have b1 : -9223372036854775808 ≤ l.getD i 0 := by omega
    have b2 : l.getD i 0 < 9223372036854775808 := by omega
    have b3 : -9223372036854775808 ≤ tot ((fill l).take i) + l.getD i 0 := by omega
    have b4 : tot ((fill l).take i) + l.getD i 0 < 9223372036854775808 := by omega
    have b5 : -9223372036854775808 ≤ tot ((fill l).take i) + 32 := by omega
    have b6 : tot ((fill l).take i) + 32 < 9223372036854775808 := by omega
    have hi0 : -9223372036854775808 ≤ (i : Int) + 1 ∧ (i : Int) + 1 < 9223372036854775808 := by omega
    have hi2 : (i : Int) + 1 = ((i + 1 : Nat) : Int) := by omega
    have hrd : rd l (i : Int) = l.getD i 0 := by unfold rd; rw [Int.toNat_natCast]
    by_cases h0 : 148 ≤ i
    · have d0 : (i : Int) ≥ 148 := by omega
      by_cases h1 : i < 156
      · have d1 : (i : Int) < 156 := by omega
        rw [fill_in l hl i h0 h1] at hn
        simp only [paxtarref03_Sum.l0]
        rw [if_pos c1, if_pos d0, if_pos d1, w64s b5 b6, w64s hi0.1 hi0.2, hi2, ← hn]
        exact step
      · have d1 : ¬ (i : Int) < 156 := by omega
        rw [fill_hi l hl i (by omega)] at hn
        simp only [paxtarref03_Sum.l0]
        rw [if_pos c1, if_pos d0, if_neg d1, if_pos c2, if_pos c3, hrd, w64s b1 b2, w64s b3 b4, w64s hi0.1 hi0.2, hi2, ← hn]
        exact step
    · have d0 : ¬ (i : Int) ≥ 148 := by omega
      rw [fill_lo l hl i (by omega)] at hn
      simp only [paxtarref03_Sum.l0]
      rw [if_pos c1, if_neg d0, if_pos c2, if_pos c3, hrd, w64s b1 b2, w64s b3 b4, w64s hi0.1 hi0.2, hi2, ← hn]
      exact step
theorem sum_calls (A : Option Addr) (c : Nat) (l : List Int) (w : World) (hr : Kd.C (Kd.int .u8) w A 512 l) (hc : 512 ≤ c) (hb : Bytes l) :
    Calls Try.prog 12 #[.slice A 512 c] w fun e w' => e = .returned (.tuple #[.int .i64 (sumL l), .int .i64 0]) ∧ Drawn0 w w' := by
  have hl := Kd.C_len hr
  rw [← hl] at hr hc ⊢
  refine paxtarref03_Sum.calls 600 A c l (sumL l) 0 w hr hc ?_
  unfold paxtarref03_Sum.f
  rw [if_pos (by omega)]
  exact sum_l0 l hl hb 512 600 0 (by omega) (by omega) (by omega)
theorem sum_no (A : Option Addr) (c n : Nat) (l : List Int) (w : World) (hr : Kd.C (Kd.int .u8) w A n l) (hc : n ≤ c) (hn : n ≠ 512) :
    Calls Try.prog 12 #[.slice A n c] w fun e w' => e = .returned (.tuple #[.int .i64 0, .int .i64 2]) ∧ Drawn0 w w' := by
  have hl := Kd.C_len hr
  subst hl
  refine paxtarref03_Sum.calls 600 A c l 0 2 w hr hc ?_
  unfold paxtarref03_Sum.f
  rw [if_neg (by omega)]
/-- append(xs, ys...) onto a slice that the call has made. -/
theorem append_own {ops : Array Oper} {rest : List Oper} {o : Oper} {a : Act} {Q : Exit → Act → World → Prop} {w0 W : World} (base : Nat) (hgd : o.guard = none) (s x : Operand)
    (ho : o.op = .call { callee := .builtin .append, args := #[s, x], argTypes := #[22, 22] }) (g cap n : Nat) (l : List Int) (A : Option Addr) (m c : Nat) (ys : List Int)
    (hs : a.eval s = .slice (some ⟨g, 0, none⟩) n cap) (hx : a.eval x = .slice A m c) (HO : Own W base g cap n l) (HR : Kd.C (Kd.int .u8) W A m ys) (HB : Below base w0 W) (hbase : base ≤ W.heap.size) (hm : 0 < n + m) (hl : n + m ≤ 140737488355328)
    (h : ∀ g' cap' w1, Own w1 base g' cap' (n + m) (l ++ ys) → Below base w0 w1 → wpList Try.prog ops Q rest (a.put o.dst (.slice (some ⟨g', 0, none⟩) (n + m) cap')) w1) :
    wpList Try.prog ops Q (o :: rest) a W := by
  have e1 := HO.len
  have e2 := Kd.C_len HR
  subst e1
  refine print_append_row (w0 := w0) base hgd s x 22 5 .u8 1 ho Try.underlying22 Calls.info5 (by decide) (.slice (some ⟨g, 0, none⟩) l.length cap) l ys A m c hs hx HO.row
    (Kd.reads_of_C (enc := Value.int .u8) (d := (0 : Int)) (h1 := fun _ => rfl) HR) HB hbase (by simpa using hl) ?_
  intro v1 w1 hown hB _ _
  rw [List.length_append, e2] at hown
  obtain ⟨g', cap', rfl, _, _⟩ := World.ownsRow.form hown hm
  exact h g' cap' w1 ⟨hown⟩ hB
theorem C_take {W : World} {A : Option Addr} {n : Nat} {xs : List Int} (h : Kd.C (Kd.int .u8) W A n xs) (i : Nat) (hi : i ≤ n) : Kd.C (Kd.int .u8) W A i (xs.take i) :=
  Kd.C_of_reads (d := (0 : Int)) (h1 := fun _ => rfl) (ReadsInt.take_ (Kd.reads_of_C (enc := Value.int .u8) (d := (0 : Int)) (h1 := fun _ => rfl) h) i hi)
theorem C_drop {W : World} {ad : Addr} {n c : Nat} {xs : List Int} (h : Kd.C (Kd.int .u8) W (some ad) n xs) (i : Nat) (hi : i ≤ n) (hc : n ≤ c) (hne : ¬ c = i) : Kd.C (Kd.int .u8) W (some (ad.add i)) (n - i) (xs.drop i) := by
  have := ReadsInt.drop_ (c := c) (Kd.reads_of_C (enc := Value.int .u8) (d := (0 : Int)) (h1 := fun _ => rfl) h) i hi hc
  rw [if_neg hne] at this
  exact Kd.C_of_reads (d := (0 : Int)) (h1 := fun _ => rfl) this
theorem one_space (W : World) : Kd.C (Kd.int .u8) (W.alloc (.cells #[.int .u8 32] 5)) (some ⟨W.heap.size, 0, none⟩) 1 [32] :=
  block_reads (m := [32]) (heap_alloc_new W _) (by decide)
set_option maxHeartbeats 4000000 in
set_option maxRecDepth 100000 in
theorem seal_calls (ad : Addr) (c : Nat) (l : List Int) (w : World) (hr : Kd.C (Kd.int .u8) w (some ad) 512 l) (hc : 512 ≤ c) (hb : Bytes l) :
    Calls Try.prog 13 #[.slice (some ad) 512 c] w fun e w' => ∃ g cap, e = .returned (.tuple #[.slice (some ⟨g, 0, none⟩) 512 cap, .int .i64 0]) ∧ Own w' w.heap.size g cap 512 (sealL l) ∧ Below w.heap.size w w' := by
  have hl := Kd.C_len hr
  obtain ⟨hs0, hs1⟩ := sum_small l hl hb
  have e7 : ((6 : Nat) : Int) + 1 = 7 := rfl
  have FC := Lib.hid (RefFormat.format_any (sumL l) 7 _ _ (by rw [← e7]; exact fmt_ok 6 40 (sumL l) (by omega) (by omega) hs0 hs1 (by omega)) 7 (fld_len 6 _))
  have S := Lib.hid (sum_calls (some ad) c l w hr hc hb)
  have HR := Aside0.mk hr
  have h156 : ¬ c = 156 := by omega
  have hseal : Hid (((l.take 148 ++ fld 6 (sumL l)) ++ [32]) ++ l.drop 156 = sealL l) := Lib.hid (by simp [sealL, field])
  clear e7 hs1 hl hr
  go_enter Try.func13, Try.ntmps13
  go_wp2_with fail
  refine S.out.mono ?_
  rintro e w1 ⟨rfl, ⟨n1, rfl⟩⟩
  go_wp2_with fail
  refine (FC.out _).mono ?_
  rintro e w2 ⟨A2, c2, rfl, hC2, hb2⟩
  have HB2 := Lib.hid (below_step (pw_below_drewN (Below.refl _ _) n1) hb2)
  have hR2 := Lib.hid (Kd.C_below HR.out HB2.out)
  clear hb2
  go_wp2_with (first
    | (at_builtin; refine append_new w2 rfl (.tmp 22) (.tmp 24) rfl (some ad) 148 c (l.take 148) rfl rfl (C_take hR2.out 148 (by decide)) (by decide) (by decide) ?_; intro g3 cap3 w3 ho3 hb3; have HO3 := Lib.hid (ho3.lower HB2.out.size); have HB3 := Lib.hid (below_step HB2.out hb3); have HC3 := Lib.hid (Kd.C_below hC2.out hb3); clear ho3 hb3)
    | (at_builtin; refine append_own (w0 := w) w.heap.size rfl (.tmp 26) (.tmp 27) rfl g3 cap3 148 (l.take 148) A2 7 c2 (fld 6 (sumL l)) rfl rfl HO3.out HC3.out HB3.out HB3.out.size (by decide) (by decide) ?_; intro g4 cap4 w4 ho4 hb4; have HO4 := Lib.hid ho4; have HB4 := Lib.hid hb4; clear ho4 hb4)
    | (at_builtin; refine append_own (w0 := w) w.heap.size rfl (.tmp 29) (.tmp 30) rfl g4 cap4 155 (l.take 148 ++ fld 6 (sumL l)) (some ⟨w4.heap.size, 0, none⟩) 1 1 [32] rfl rfl (HO4.out.below (below_alloc (Below.refl _ _) _)) (one_space w4) (below_alloc HB4.out _) (Nat.le_trans HB4.out.size (by simp)) (by decide) (by decide) ?_; intro g5 cap5 w5 ho5 hb5; have HO5 := Lib.hid ho5; have HB5 := Lib.hid hb5; clear ho5 hb5)
    | (at_builtin; refine append_own (w0 := w) w.heap.size rfl (.tmp 32) (.tmp 34) rfl g5 cap5 156 ((l.take 148 ++ fld 6 (sumL l)) ++ [32]) (some (ad.add 156)) 356 (c - 156) (l.drop 156) rfl rfl HO5.out (C_drop (Kd.C_below HR.out HB5.out) 156 (by decide) hc h156) HB5.out HB5.out.size (by decide) (by decide) ?_; intro g6 cap6 w6 ho6 hb6; have HO6 := Lib.hid ho6; have HB6 := Lib.hid hb6; clear ho6 hb6))
  go_ret2
  exact ⟨g6, cap6, rfl, hseal.out ▸ HO6.out, HB6.out⟩
set_option maxHeartbeats 1000000 in
set_option maxRecDepth 100000 in
theorem seal_no (A : Option Addr) (c n : Nat) (l : List Int) (w : World) (hr : Kd.C (Kd.int .u8) w A n l) (hc : n ≤ c) (hn : n ≠ 512) :
    Calls Try.prog 13 #[.slice A n c] w fun e w' => e = .returned (.tuple #[.slice none 0 0, .int .i64 2]) ∧ Below w.heap.size w w' := by
  have S := Lib.hid (sum_no A c n l w hr hc hn)
  clear hr
  go_enter Try.func13, Try.ntmps13
  go_wp2_with fail
  refine S.out.mono ?_
  rintro e w1 ⟨rfl, ⟨n1, rfl⟩⟩
  go_wp2
  go_ret2
  exact ⟨rfl, pw_below_drewN (Below.refl _ _) n1⟩
theorem str {W : World} {A : Option Addr} {n c : Nat} {xs : List Int} (h : Kd.C (Kd.int .u8) W A n xs) : (convert 22 9 (.slice A n c)).run Try.prog W = .ok (.string (strOfNums xs)) W :=
  Kd.C_string (P := Try.prog) Try.underlying22 Try.underlying5 Try.underlying9 h
theorem str_eq (l m : List Int) (hl : Bytes l) (hm : Bytes m) : ((strOfNums l).toList == (strOfNums m).toList) = decide (l = m) := by
  rw [str_list, str_list, Bool.eq_iff_iff]
  simp only [beq_iff_eq, decide_eq_true_eq]
  exact ⟨fun h => bts_inj l m hl hm h, fun h => by rw [h]⟩
set_option maxHeartbeats 1000000 in
set_option maxRecDepth 100000 in
theorem verify_calls (ad : Addr) (c : Nat) (l : List Int) (w : World) (hr : Kd.C (Kd.int .u8) w (some ad) 512 l) (hc : 512 ≤ c) (hb : Bytes l) :
    Calls Try.prog 15 #[.slice (some ad) 512 c] w fun e w' => e = .returned (.int .i64 (vfy l)) ∧ Below w.heap.size w w' := by
  have HR := Aside0.mk hr
  have S := Lib.hid (seal_calls ad c l w hr hc hb)
  have E := str_eq (sealL l) l (seal_bytes l hb) hb
  clear hr hb
  by_cases hv : sealL l = l
  · have V : Hid (vfy l = 0) := Lib.hid (by unfold vfy; rw [if_pos hv])
    have hd : decide (sealL l = l) = true := by simp [hv]
    rw [hd] at E
    clear hv hd
    go_enter Try.func15, Try.ntmps15
    go_wp2_with fail
    refine S.out.mono ?_
    rintro e w1 ⟨g, cap, rfl, ho, hb1⟩
    have k1 := fun c => str (c := c) ho.reads
    have k2 := fun c => str (c := c) (Kd.C_below HR.out hb1)
    replace ho := Lib.hid ho
    go_wp2
    go_ret
    exact ⟨by rw [V.out]; rfl, hb1⟩
  · have V : Hid (vfy l = 9) := Lib.hid (by unfold vfy; rw [if_neg hv])
    have hd : decide (sealL l = l) = false := by simp [hv]
    rw [hd] at E
    clear hv hd
    have E' : ((strOfNums (sealL l)).toList != (strOfNums l).toList) = true := by rw [bne, E]; rfl
    go_enter Try.func15, Try.ntmps15
    go_wp2_with fail
    refine S.out.mono ?_
    rintro e w1 ⟨g, cap, rfl, ho, hb1⟩
    have k1 := fun c => str (c := c) ho.reads
    have k2 := fun c => str (c := c) (Kd.C_below HR.out hb1)
    replace ho := Lib.hid ho
    go_wp2
    go_ret
    exact ⟨by rw [V.out]; rfl, hb1⟩
set_option maxHeartbeats 1000000 in
set_option maxRecDepth 100000 in
theorem verify_no (A : Option Addr) (c n : Nat) (l : List Int) (w : World) (hr : Kd.C (Kd.int .u8) w A n l) (hc : n ≤ c) (hn : n ≠ 512) :
    Calls Try.prog 15 #[.slice A n c] w fun e w' => e = .returned (.int .i64 2) ∧ Below w.heap.size w w' := by
  have S := Lib.hid (seal_no A c n l w hr hc hn)
  clear hr
  go_enter Try.func15, Try.ntmps15
  go_wp2_with fail
  refine S.out.mono ?_
  rintro e w1 ⟨rfl, hb1⟩
  go_wp2
  go_ret
  exact ⟨rfl, hb1⟩
end Go.Proofs.Ytbdjjgcaadkfbaa.Refs
