/- What calls of slices.Clone and of the Heap's New, Push, Pop, Peek and Len answer. -/
import Derived.Test.YtiibkhogahdeiaaOps
namespace Go.Proofs.Ytiibkhogahdeiaa.Methods
open Go.RowKit Go.Proofs.YtiibkhogahdeiaaW.PrintWords Go.Proofs.YtiibkhogahdeiaaW.PrintLast Go.Proofs.YtiibkhogahdeiaaW.PrintMore Go.Proofs.Ytiibkhogahdeiaa.Base Go.Proofs.Ytiibkhogahdeiaa.Plain Go.Proofs.Ytiibkhogahdeiaa.Sift Go.Proofs.Ytiibkhogahdeiaa.Ops
/-- append(xs, ys...) onto a row of strings that is owned. -/
theorem append_strs {ops : Array Oper} {rest : List Oper} {o : Oper} {a : Act} {Q : Exit → Act → World → Prop} {w0 W : World} (base : Nat) (hgd : o.guard = none) (s x : Operand) (t : TypeId)
    (ho : o.op = .call { callee := .builtin .append, args := #[s, x], argTypes := #[t, t] }) (ht : Try.prog.underlying t = some (.slice 9)) (v : Value) (xs : List ByteArray) (A : Option Addr) (m c : Nat) (ys : List ByteArray)
    (hs : a.eval s = v) (hx : a.eval x = .slice A m c) (HO : W.ownsRow base 9 1 v xs.length (strs xs)) (HR : Kd.C Kd.string W A m ys) (HB : Below base w0 W) (hbase : base ≤ W.heap.size) (hl : (xs.length + m) * 16 ≤ 140737488355328)
    (h : ∀ v1 w1, w1.ownsRow base 9 1 v1 (xs.length + m) (strs (xs ++ ys)) → Below base w0 w1 → W.grownBy w1 v.ownBlock → (v1.ownBlock = v.ownBlock ∨ ∃ b, v1.ownBlock = some b ∧ W.heap.size ≤ b) → wpList Try.prog ops Q rest (a.put o.dst v1) w1) :
    wpList Try.prog ops Q (o :: rest) a W := by
  have hm := Kd.C_len HR
  refine Kd.R_append_rows Kd.string (w0 := w0) base hgd s x t 9 (.string ByteArray.empty) 16 ho ht info9 rfl (by decide) (by decide) v xs ys A m c (fun _ => True) (fun _ => False) hs hx ?_ HR (fun _ _ h => h) (fun _ h => h.elim) (fun _ _ => trivial) HB hbase hl ?_
  · exact Kd.R_of_own HO (fun _ _ => trivial)
  · intro v1 w1 hR hB hg hat
    have := Kd.own_of_R hR
    rw [List.length_append, hm] at this
    exact h v1 w1 this hB hg hat
set_option maxHeartbeats 1000000 in
set_option maxRecDepth 100000 in
/-- slices.Clone. -/
theorem clone_calls (A : Option Addr) (n c : Nat) (l : List ByteArray) (w : World) (hr : Kd.C Kd.string w A n l) (hn : n < 8796093022208) :
    Calls Try.prog 21 #[.slice A n c] w fun e w' => ∃ v, e = .returned v ∧ w'.ownsRow w.heap.size 9 1 v n (strs l) ∧ Below w.heap.size w w' := by
  have hlen := Kd.C_len hr
  cases A with
  | none =>
    have h0 : n = 0 := by
      rcases Nat.eq_zero_or_pos n with h | h
      · exact h
      · obtain ⟨ad, h', _⟩ := hr.2.2 h
        cases h'
    subst h0
    obtain rfl : l = [] := List.eq_nil_of_length_eq_zero hlen
    have hq := fun W : World => Lib.run_eql_slice_nil (P := Try.prog) W 26 9 none 0 c 0 0 Try.underlying26
    go_enter Try.func21, Try.ntmps21
    go_wp2
    go_ret
    exact ⟨_, rfl, own_nil _ _ _ _, Below.refl _ _⟩
  | some ad =>
    have hq := fun W : World => Lib.run_eql_slice_nil (P := Try.prog) W 26 9 (some ad) n c 0 0 Try.underlying26
    have hbytes : (([] : List ByteArray).length + n) * 16 ≤ 140737488355328 := by simp; omega
    have hown : (w.alloc (.cells #[] 9)).ownsRow w.heap.size 9 1 (.slice (some ⟨w.heap.size, 0, none⟩) 0 0) ([] : List ByteArray).length (strs []) := by
      have := World.ownsRow_lit (base := w.heap.size) (e := 9) (size := 1) w #[] 0 (Nat.le_refl _) (Nat.zero_le _) rfl
      simpa [strs] using this
    go_enter Try.func21, Try.ntmps21
    go_wp2_with (at_builtin; refine append_strs (w0 := w) w.heap.size rfl (.tmp 5) (.tmp 6) 26 rfl Try.underlying26 (.slice (some ⟨w.heap.size, 0, none⟩) 0 0) [] (some ad) n c l rfl rfl hown (Kd.C_alloc hr _) (below_alloc (Below.refl _ _) _) (below_alloc (Below.refl _ _) _).size hbytes ?_; intro v1 w1 ho hB _ _)
    go_ret
    refine ⟨v1, rfl, ?_, hB⟩
    simpa using ho
/-- The heap as its callers see it: a bag of strings. -/
def Bag (w : World) (base hb : Nat) (v : Value) (bag : List ByteArray) : Prop := ∃ xs, Hp w base hb v xs ∧ HeapFrom xs xs.length 0 ∧ xs.Perm bag
theorem Bag.perm {w : World} {base hb : Nat} {v : Value} {b b' : List ByteArray} (h : Bag w base hb v b) (hp : b.Perm b') : Bag w base hb v b' := by
  obtain ⟨xs, h1, h2, h3⟩ := h
  exact ⟨xs, h1, h2, h3.trans hp⟩
theorem Bag.below {w w1 : World} {base hb : Nat} {v : Value} {b : List ByteArray} (h : Bag w base hb v b) (hbl : Below w.heap.size w w1) : Bag w1 base hb v b := by
  obtain ⟨xs, h1, h2, h3⟩ := h
  exact ⟨xs, h1.below hbl, h2, h3⟩
/-- Another heap has moved: this one is as it was. -/
theorem Bag.other {w w1 : World} {base hb base' hb' : Nat} {v v' v'' : Value} {b : List ByteArray} (h : Bag w base hb v b) (hm : Moved w w1 base' hb' v' v'') (h1 : hb ≠ hb') (h2 : some hb ≠ v'.ownBlock) (h3 : ∀ k, v.ownBlock = some k → k ≠ hb' ∧ some k ≠ v'.ownBlock) : Bag w1 base hb v b := by
  obtain ⟨xs, hp, hh, hperm⟩ := h
  refine ⟨xs, ⟨(hm.keep _ (blk_lt hp.blk) h1 h2).trans hp.blk, own_move hp.row (fun k hk => hm.keep k (own_lt hp.row k hk) (h3 k hk).1 (h3 k hk).2), hp.base_le⟩, hh, hperm⟩
set_option maxHeartbeats 2000000 in
set_option maxRecDepth 100000 in
/-- New. -/
theorem new_calls (A : Option Addr) (n c : Nat) (l : List ByteArray) (w : World) (hr : Kd.C Kd.string w A n l) (hn : n < 8796093022208) :
    Calls Try.prog 14 #[.slice A n c] w fun e w' => ∃ (hb : Nat) (v : Value), e = .returned (.pointer (some ⟨hb, 0, none⟩)) ∧ Bag w' w.heap.size hb v l ∧ Below w.heap.size w w' := by
  have hlen := Lib.hid (Kd.C_len hr)
  have CL := Lib.hid (clone_calls A n c l w hr hn)
  clear hr
  go_enter Try.func14, Try.ntmps14
  go_wp2_with fail
  refine CL.out.mono ?_
  rintro e w1 ⟨v, rfl, ho, hb1⟩
  obtain ⟨A1, c1, rfl⟩ := own_slice ho
  have hp := Lib.hid (show Hp (w1.alloc (.cells #[.slice A1 n c1] 48)) w.heap.size w1.heap.size (.slice A1 n c1) l from ⟨heap_alloc_new _ _, by rw [hlen.out]; exact own_alloc ho _, hb1.size⟩)
  have IN := Lib.hid (init_calls hp.out (by rw [hlen.out]; omega))
  have hb2 := Lib.hid (below_alloc hb1 (.cells #[.slice A1 n c1] 48))
  clear ho hb1
  go_wp2_with fail
  refine IN.out.mono ?_
  rintro e w2 ⟨us, rfl, hH⟩
  replace hH := Lib.hid hH
  go_wp2
  go_ret
  exact ⟨_, _, rfl, ⟨us, hH.out.hp, hH.out.heap, hH.out.perm⟩, hb2.out.trans hH.out.moved.below⟩
set_option maxRecDepth 100000 in
/-- Len. -/
theorem len_of {w : World} {base hb : Nat} {v : Value} {bag : List ByteArray} (h : Bag w base hb v bag) :
    Calls Try.prog 17 #[.pointer (some ⟨hb, 0, none⟩)] w fun e w' => e = .returned (.int .i64 bag.length) ∧ w = w' := by
  obtain ⟨xs, hp, _, hperm⟩ := h
  obtain ⟨A, c, hv⟩ := hp.slice
  have hl := hperm.length_eq
  have LC := Lib.hid (show Calls Try.prog 25 #[v] w fun e w' => e = .returned (.int .i64 bag.length) ∧ w = w' by rw [hv, ← hl]; exact len_calls A _ c w)
  have hcell := hp.cell
  have hag := load46 hb v w hcell
  clear hp hv hl
  go_enter Try.func17, Try.ntmps17
  go_wp2_with fail
  refine LC.out.mono ?_
  rintro e w1 ⟨rfl, rfl⟩
  go_wp2
  go_ret
  exact ⟨rfl, rfl⟩
theorem root_of {xs bag : List ByteArray} (hh : HeapFrom xs xs.length 0) (hp : xs.Perm bag) (h : 0 < xs.length) : Base.get xs 0 ∈ bag ∧ ∀ y ∈ bag, lt y (Base.get xs 0) = false := by
  have hm := root_min hh
  refine ⟨hp.mem_iff.1 ?_, fun y hy => ?_⟩
  · unfold Base.get
    rw [List.getD_eq_getElem?_getD, List.getElem?_eq_getElem h]
    simp
  · obtain ⟨k, hk, rfl⟩ := List.mem_iff_getElem.1 (hp.mem_iff.2 hy)
    have := hm k hk
    have e : Base.get xs k = xs[k] := by unfold Base.get; rw [List.getD_eq_getElem?_getD, List.getElem?_eq_getElem hk]; rfl
    rw [e] at this
    exact this
set_option maxHeartbeats 1000000 in
set_option maxRecDepth 100000 in
/-- Pop of an empty heap. -/
theorem pop_empty {w : World} {base hb : Nat} {v : Value} {bag : List ByteArray} (h : Bag w base hb v bag) (h0 : bag = []) :
    Calls Try.prog 16 #[.pointer (some ⟨hb, 0, none⟩)] w fun e w' => e = .returned (.tuple #[.string ⟨#[]⟩, .bool false]) ∧ w = w' := by
  have L := Lib.hid (len_of h)
  rw [h0] at L
  clear h
  go_enter Try.func16, Try.ntmps16
  go_wp2_with fail
  refine L.out.mono ?_
  rintro e w1 ⟨rfl, rfl⟩
  go_wp2
  go_ret2
  exact ⟨rfl, rfl⟩
set_option maxHeartbeats 1000000 in
set_option maxRecDepth 100000 in
/-- Pop of a heap that isn't empty: the least string, once. -/
theorem pop_calls {w : World} {base hb : Nat} {v : Value} {bag : List ByteArray} (h : Bag w base hb v bag) (h0 : bag ≠ []) (hN : bag.length ≤ 140737488355328) :
    Calls Try.prog 16 #[.pointer (some ⟨hb, 0, none⟩)] w fun e w' => ∃ (x : ByteArray) (v' : Value) (bag' : List ByteArray), e = .returned (.tuple #[.string x, .bool true]) ∧ Bag w' base hb v' bag' ∧ (bag' ++ [x]).Perm bag ∧ (∀ y ∈ bag, lt y x = false) ∧ Moved w w' base hb v v' := by
  have L := Lib.hid (len_of h)
  obtain ⟨xs, hp, hh, hperm⟩ := h
  have hl := hperm.length_eq
  have hpos : 0 < bag.length := List.length_pos_iff.2 h0
  obtain ⟨m, hm⟩ : ∃ m, xs.length = m + 1 := ⟨xs.length - 1, by omega⟩
  have PO := Lib.hid (heap_pop hp m hm hh (by omega))
  have R := Lib.hid (root_of hh hperm (by omega))
  have hperm' := Lib.hid hperm
  have ta := assert_str_ok (Base.get xs 0)
  have e1 : ((bag.length : Int) == 0) = false := by rw [beq_eq_false_iff_ne]; omega
  clear hp hh hperm hl hm h0
  go_enter Try.func16, Try.ntmps16
  go_wp2_with fail
  refine L.out.mono ?_
  rintro e w1 ⟨rfl, rfl⟩
  go_wp2_with fail
  refine PO.out.mono ?_
  rintro e w2 ⟨v2, us, rfl, hP⟩
  replace hP := Lib.hid hP
  go_wp2
  go_ret2
  exact ⟨_, v2, us, rfl, ⟨us, hP.out.hp, hP.out.heap, List.Perm.refl _⟩, hP.out.perm.trans hperm'.out, R.out.2, hP.out.moved⟩
set_option maxHeartbeats 1000000 in
set_option maxRecDepth 100000 in
/-- Peek. -/
theorem peek_empty {w : World} {base hb : Nat} {v : Value} {bag : List ByteArray} (h : Bag w base hb v bag) (h0 : bag = []) :
    Calls Try.prog 18 #[.pointer (some ⟨hb, 0, none⟩)] w fun e w' => e = .returned (.tuple #[.string ⟨#[]⟩, .bool false]) ∧ w = w' := by
  have L := Lib.hid (len_of h)
  rw [h0] at L
  clear h
  go_enter Try.func18, Try.ntmps18
  go_wp2_with fail
  refine L.out.mono ?_
  rintro e w1 ⟨rfl, rfl⟩
  go_wp2
  go_ret2
  exact ⟨rfl, rfl⟩
set_option maxHeartbeats 1000000 in
set_option maxRecDepth 100000 in
theorem peek_calls {w : World} {base hb : Nat} {v : Value} {bag : List ByteArray} (h : Bag w base hb v bag) (h0 : bag ≠ []) :
    Calls Try.prog 18 #[.pointer (some ⟨hb, 0, none⟩)] w fun e w' => ∃ x : ByteArray, e = .returned (.tuple #[.string x, .bool true]) ∧ x ∈ bag ∧ (∀ y ∈ bag, lt y x = false) ∧ w = w' := by
  have L := Lib.hid (len_of h)
  obtain ⟨xs, hp, hh, hperm⟩ := h
  have hl := hperm.length_eq
  have hpos : 0 < bag.length := List.length_pos_iff.2 h0
  have R := Lib.hid (root_of hh hperm (by omega))
  have hcell := hp.cell
  obtain ⟨g, cap, rfl, _, _, _, _⟩ := hp.form (by omega)
  have hx := (hp.str 0 (by omega)).1
  have hag := load46 hb _ w hcell
  have e1 : ((bag.length : Int) == 0) = false := by rw [beq_eq_false_iff_ne]; omega
  have e2 : (0 : Int) < (xs.length : Int) := by omega
  have e3 : 0 < xs.length := by omega
  clear hp hh hperm hl h0
  go_enter Try.func18, Try.ntmps18
  go_wp2_with fail
  refine L.out.mono ?_
  rintro e w1 ⟨rfl, rfl⟩
  go_wp2
  go_ret2
  exact ⟨_, rfl, R.out.1, R.out.2, rfl⟩
theorem push_one {w : World} {base hb : Nat} {v : Value} {bag : List ByteArray} (h : Bag w base hb v bag) (x : ByteArray) (hN : bag.length < 8796093022208) :
    Calls Try.prog 23 #[.iface 50 (.pointer (some ⟨hb, 0, none⟩)), .iface 9 (.string x)] w fun e w' => ∃ v' : Value, e = .returned (.tuple #[]) ∧ Bag w' base hb v' (bag ++ [x]) ∧ Moved w w' base hb v v' := by
  obtain ⟨xs, hp, hh, hperm⟩ := h
  refine (heap_push hp x hh (by rw [hperm.length_eq]; exact hN)).mono ?_
  rintro e w' ⟨v', us, rfl, hH⟩
  exact ⟨v', rfl, ⟨us, hH.hp, hH.heap, hH.perm.trans (hperm.append_right [x])⟩, hH.moved⟩
theorem str_at {W : World} {A : Option Addr} {n : Nat} {l : List ByteArray} (h : Kd.C Kd.string W A n l) (k : Nat) (hk : k < n) : ∃ ad, A = some ad ∧ W.cell? (ad.add k) = some (.string (Base.get l k)) := by
  obtain ⟨ad, e, hc⟩ := Kd.at_string h (k : Int) (by omega) (by omega)
  exact ⟨ad, e, by simpa [rdOf, Base.get] using hc⟩
theorem take_next (l : List ByteArray) (k : Nat) (h : k < l.length) : l.take (k + 1) = l.take k ++ [Base.get l k] := by
  rw [List.take_succ_eq_append_getElem h]
  unfold Base.get
  simp [List.getD_eq_getElem?_getD, List.getElem?_eq_getElem h]
set_option maxHeartbeats 4000000 in
set_option maxRecDepth 100000 in
/-- Push. -/
theorem push_calls {w : World} {base hb : Nat} {v : Value} {bag : List ByteArray} (h : Bag w base hb v bag) (A : Option Addr) (n c : Nat) (l : List ByteArray)
    (hst : ∀ w1 v1, Moved w w1 base hb v v1 → Kd.C Kd.string w1 A n l) (hN : bag.length + n < 8796093022208) :
    Calls Try.prog 15 #[.pointer (some ⟨hb, 0, none⟩), .slice A n c] w fun e w' => ∃ v' : Value, e = .returned (.tuple #[]) ∧ Bag w' base hb v' (bag ++ l) ∧ Moved w w' base hb v v' := by
  have hlen := Lib.hid (Kd.C_len (hst w v (Moved.refl _ _ _ _)))
  have HS := Lib.hid hst
  have K0 := Lib.hid h
  clear h hst
  go_enter Try.func15, Try.ntmps15
  go_wp2_with fail
  go_loopw [10] (fun i wr => ∃ (k : Nat) (u : Value), k ≤ n ∧ i = .int .i64 k ∧ Bag wr base hb u (bag ++ l.take k) ∧ Moved w wr base hb v u) (fun i _ => n - (intOf i).toNat)
  case atStart => exact ⟨0, v, Nat.zero_le _, rfl, by simpa using K0.out, Moved.refl _ _ _ _⟩
  case round =>
    obtain ⟨k, u, hk, rfl, hB, hM⟩ := hrel
    clear K0
    by_cases hlt : k < n
    · obtain ⟨ad, rfl, hx⟩ := str_at (HS.out wr u hM) k hlt
      have P := Lib.hid (push_one hB (Base.get l k) (by rw [List.length_append, List.length_take]; omega))
      have hT := Lib.hid (take_next l k (by have := hlen.out; omega))
      replace hM := Lib.hid hM
      clear hB
      generalize Base.get l k = x at *
      go_wp2_with fail
      refine P.out.mono ?_
      rintro e w2 ⟨u2, rfl, hB2, hM2⟩
      have T := Lib.hid (show Bag w2 base hb u2 (bag ++ l.take (k + 1)) ∧ Moved w w2 base hb v u2 from ⟨by rw [hT.out, ← List.append_assoc]; exact hB2, hM.out.trans hM2⟩)
      clear hB2 hM2
      go_wp2
      go_roundw
      case rel => exact ⟨k + 1, u2, by omega, by go_num, T.out.1, T.out.2⟩
      case measure => simp [intOf]; omega
    · have T := Lib.hid (show Bag wr base hb u (bag ++ l) by rw [List.take_of_length_le (by have := hlen.out; omega)] at hB; exact hB)
      replace hM := Lib.hid hM
      clear hB
      go_wp2
      go_end0
      exact ⟨u, rfl, T.out, hM.out⟩
end Go.Proofs.Ytiibkhogahdeiaa.Methods
