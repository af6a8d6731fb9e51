/- The walk of PathheapSorts. -/
import Derived.Test.YtiibkhogahdeiaaIsolated
namespace Go.Proofs.Ytiibkhogahdeiaa.Sorts
open Go.RowKit Go.Proofs.YtiibkhogahdeiaaW.PrintWords Go.Proofs.YtiibkhogahdeiaaW.PrintLast Go.Proofs.YtiibkhogahdeiaaW.PrintMore Go.Proofs.Ytiibkhogahdeiaa.Base Go.Proofs.Ytiibkhogahdeiaa.Plain Go.Proofs.Ytiibkhogahdeiaa.Sift Go.Proofs.Ytiibkhogahdeiaa.Ops Go.Proofs.Ytiibkhogahdeiaa.Methods Go.Proofs.Ytiibkhogahdeiaa.Sorted Go.Proofs.Ytiibkhogahdeiaa.Refs Go.Proofs.Ytiibkhogahdeiaa.RefMerge Go.Proofs.Ytiibkhogahdeiaa.Merge Go.Proofs.Ytiibkhogahdeiaa.Other Go.Proofs.Ytiibkhogahdeiaa.Alive Go.Proofs.Ytiibkhogahdeiaa.Assoc Go.Proofs.Ytiibkhogahdeiaa.Isolated
theorem int_at {W : World} {A : Option Addr} {n : Nat} {l : List Int} (h : Kd.C (Kd.int .u8) W A n l) (k : Nat) (hk : k < n) : ∃ ad, A = some ad ∧ W.cell? (ad.add k) = some (.int .u8 (rd l k)) := by
  obtain ⟨ad, e, hc⟩ := Kd.at_int h (k : Int) (by omega) (by omega)
  exact ⟨ad, e, by simpa using hc⟩
theorem byte_bounds {n : Int} (h : (Lit.int .u8 n).wf = true) : 0 ≤ n ∧ n ≤ 255 := by
  simp [Lit.wf, IntKind.min, IntKind.max, IntKind.signed, IntKind.bits] at h
  omega
/-- Two strings of a row change places. -/
theorem own_two {W : World} {base n c : Nat} {A : Option Addr} {xs : List ByteArray} (h : W.ownsRow base 9 1 (.slice A n c) n (strs xs)) (i j : Nat) (hi : i < n) (hj : j < n) :
    ∃ g0, A = some ⟨g0, 0, none⟩ ∧ W.cell? ⟨g0, i, none⟩ = some (.string (Base.get xs i)) ∧ W.cell? ⟨g0, j, none⟩ = some (.string (Base.get xs j)) ∧ W.frozen? ⟨g0, i, none⟩ = false ∧ W.frozen? ⟨g0, j, none⟩ = false ∧ base ≤ g0 ∧
      ((W.setCell ⟨g0, i, none⟩ (.string (Base.get xs j))).setCell ⟨g0, j, none⟩ (.string (Base.get xs i))).ownsRow base 9 1 (.slice A n c) n (strs (swapL xs i j)) ∧ (swapL xs i j).Perm xs := by
  have hl : xs.length = n := by have := h.1; rw [strs_len, Nat.mul_one] at this; exact this
  rcases h.2 with ⟨_, h0⟩ | ⟨g, cap, cur, hv, hg, hh, hc, _⟩
  · omega
  · injection hv with e1 e2 e3
    subst e1
    have c1 := h.cells (g := g) rfl i (.string (Base.get xs i)) (strs_get xs i (by omega))
    have c2 := h.cells (g := g) rfl j (.string (Base.get xs j)) (strs_get xs j (by omega))
    rw [add_plain] at c1 c2
    have e : (strs xs).set i (.string (Base.get xs j)) = strs (xs.set i (Base.get xs j)) := by simp [strs, List.map_set]
    have hs := (h.stored i (.string (Base.get xs j))).1
    rw [e] at hs
    have e' : (strs (xs.set i (Base.get xs j))).set j (.string (Base.get xs i)) = strs (swapL xs i j) := by simp [strs, swapL, List.map_set]
    have hs2 := (hs.stored j (.string (Base.get xs i))).1
    rw [e'] at hs2
    exact ⟨g, rfl, c1, c2, blk_frozen hh i, blk_frozen hh j, hg, hs2, swap_perm xs i j (by omega) (by omega)⟩
theorem swapped {w wr : World} {base n c g0 : Nat} {xs : List ByteArray} (h : wr.ownsRow base 9 1 (.slice (some ⟨g0, 0, none⟩) n c) n (strs xs)) (i j : Nat) (hi : i < n) (hj : j < n) (hb : Below w.heap.size w wr) (hg : w.heap.size ≤ g0) (m : Nat) :
    (((wr.drewN m).setCell ⟨g0, i, none⟩ (.string (Base.get xs j))).setCell ⟨g0, j, none⟩ (.string (Base.get xs i))).ownsRow base 9 1 (.slice (some ⟨g0, 0, none⟩) n c) n (strs (swapL xs i j)) ∧ Below w.heap.size w (((wr.drewN m).setCell ⟨g0, i, none⟩ (.string (Base.get xs j))).setCell ⟨g0, j, none⟩ (.string (Base.get xs i))) := by
  obtain ⟨g, e, _, _, _, _, _, h2, _⟩ := own_two (pw_own_drewN h m) i j hi hj
  injection e with e
  injection e with e
  subst e
  exact ⟨h2, ((pw_below_drewN hb m).setCell (p := ⟨g0, i, none⟩) hg _).setCell (p := ⟨g0, j, none⟩) hg _⟩
theorem lit_moved {wr w1 : World} {base hb : Nat} {v v1 : Value} {bag : List ByteArray} {s : ByteArray} (h : Bag wr base hb v bag) (hm : Moved (wr.alloc (.cells #[.string s] 9)) w1 base hb v v1) : Kd.C Kd.string w1 (some ⟨wr.heap.size, 0, none⟩) 1 [s] := by
  obtain ⟨l1, l2, _, _⟩ := Bag.lt h
  have := World.ownsRow_lit (base := 0) (e := 9) (size := 1) wr #[.string s] 1 (Nat.zero_le _) (by decide) rfl
  have h2 := own_move this (w1 := w1) fun k hk => by
    have e : wr.heap.size = k := by simpa [Value.ownBlock] using hk
    subst e
    refine hm.keep _ (by simp) (by omega) fun e => ?_
    have := l2 _ e.symm
    omega
  obtain ⟨A, c, e, _, hC⟩ := own_strs (xs := [s]) (n := 1) (by simpa [strs] using h2)
  cases e
  exact hC
/-- Two heaps beside each other, of the same strings. -/
structure TS (w : World) (b1 ha : Nat) (va : Value) (bagA : List ByteArray) (b2 hb : Nat) (vb : Value) (bagB : List ByteArray) : Prop where
  a : Bag w b1 ha va bagA
  b : Bag w b2 hb vb bagB
  s1 : ha ≠ hb
  s2 : va.ownBlock ≠ some hb
  s3 : vb.ownBlock ≠ some ha
  s4 : ∀ k, va.ownBlock = some k → vb.ownBlock ≠ some k
theorem TS.symm {w : World} {b1 ha : Nat} {va : Value} {bagA : List ByteArray} {b2 hb : Nat} {vb : Value} {bagB : List ByteArray} (h : TS w b1 ha va bagA b2 hb vb bagB) : TS w b2 hb vb bagB b1 ha va bagA :=
  ⟨h.b, h.a, fun e => h.s1 e.symm, h.s3, h.s2, fun k hk e => h.s4 k e hk⟩
theorem TS.popA {w w1 : World} {b1 ha : Nat} {va va' : Value} {bagA bagA' : List ByteArray} {b2 hb : Nat} {vb : Value} {bagB : List ByteArray} (h : TS w b1 ha va bagA b2 hb vb bagB) (hm : Moved w w1 b1 ha va va') (hB : Bag w1 b1 ha va' bagA') : TS w1 b1 ha va' bagA' b2 hb vb bagB := by
  obtain ⟨l1, l2, _, _⟩ := Bag.lt h.b
  refine ⟨hB, Bag.keep h.b (hm.keep hb l1 (fun e => h.s1 e.symm) fun e => h.s2 e.symm) (fun k hk => hm.keep k (l2 k hk) (fun e => h.s3 (by rw [hk, e])) fun e => h.s4 k e.symm hk), h.s1, fun e => ?_, h.s3, fun k hk e => ?_⟩
  · rcases hm.new with e1 | ⟨b, e1, hle⟩
    · exact h.s2 (by rw [← e1]; exact e)
    · rw [e1] at e
      cases e
      omega
  · rcases hm.new with e1 | ⟨b, e1, hle⟩
    · exact h.s4 k (by rw [← e1]; exact hk) e
    · rw [e1] at hk
      cases hk
      have := l2 _ e
      omega
theorem TS.start {w3 wr : World} {b1 ha : Nat} {va : Value} {bagA : List ByteArray} {hb : Nat} {vb : Value} {bagB : List ByteArray} (hA : Bag w3 b1 ha va bagA) (hB : Bag wr w3.heap.size hb vb bagB) (hbe : Below w3.heap.size w3 wr) (_ : bagA.Perm bagB) : TS wr b1 ha va bagA w3.heap.size hb vb bagB := by
  obtain ⟨l1, l2, _, _⟩ := Bag.lt hA
  have m2 := (Bag.lt hB).2.2.1
  have m3 := Bag.base hB
  refine ⟨Bag.below hA hbe, hB, by omega, fun e => ?_, fun e => ?_, fun k hk e => ?_⟩
  · have := l2 _ e; omega
  · have := m3 _ e; omega
  · have := l2 _ hk; have := m3 _ e; omega
theorem lt_empty (y : ByteArray) : lt y ⟨#[]⟩ = false := by
  unfold lt
  have e : (⟨#[]⟩ : ByteArray).toList = [] := by decide +kernel
  rw [e]
  cases y.toList <;> rfl
theorem both {bagA bagA' bagB bagB' : List ByteArray} {x y : ByteArray} (h1 : (bagA' ++ [x]).Perm bagA) (h2 : ∀ z ∈ bagA, lt z x = false) (h3 : (bagB' ++ [y]).Perm bagB) (h4 : ∀ z ∈ bagB, lt z y = false) (hp : bagA.Perm bagB) : x = y ∧ (∀ z ∈ bagA', lt z x = false) ∧ bagA'.Perm bagB' := by
  have hx : x ∈ bagA := h1.mem_iff.1 (List.mem_append_right _ (List.mem_singleton_self _))
  have hy : y ∈ bagB := h3.mem_iff.1 (List.mem_append_right _ (List.mem_singleton_self _))
  obtain rfl : x = y := eq_of_le (h4 x (hp.mem_iff.1 hx)) (h2 y (hp.mem_iff.2 hy))
  refine ⟨rfl, fun z hz => h2 z (h1.mem_iff.1 (List.mem_append_left _ hz)), ?_⟩
  exact (List.perm_cons x).1 (((List.perm_append_singleton x bagA').symm.trans h1).trans (hp.trans (h3.symm.trans (List.perm_append_singleton x bagB'))))
theorem byte_at {l : List Int} (hw : ∀ x ∈ l, (Lit.int .u8 x).wf = true) (k : Nat) (hk : k < l.length) : ∃ z : Nat, rd l (k : Int) = (z : Int) ∧ z < 256 := by
  have h1 := hw (l[k]) (List.getElem_mem hk)
  have e : rd l (k : Int) = l[k] := by
    unfold rd
    simp [List.getD_eq_getElem?_getD, List.getElem?_eq_getElem hk]
  rw [e]
  obtain ⟨h2, h3⟩ := byte_bounds h1
  exact ⟨l[k].toNat, by omega, by omega⟩
set_option maxHeartbeats 8000000 in
set_option maxRecDepth 100000 in
theorem law_walk (A : Option Addr) (c : Nat) (l : List ByteArray) (B : Option Addr) (d : Nat) (ss : List Int) (w : World) (hr : Hd.ok ⟨A, c, l⟩ w) (hN : l.length < 8796093022208) (hs : Kd.C (Kd.int .u8) w B ss.length ss) (hw : ∀ x ∈ ss, (Lit.int .u8 x).wf = true) :
    Calls Try.prog 4 #[.slice A l.length c, .slice B ss.length d] w fun e w' => e = .returned (.bool true) ∧ Below w.heap.size w w' := by
  have SC := Lib.hid (size_hds w [⟨A, c, l⟩] (ok1 hr) (by simp) 1)
  have AL := Lib.hid alive_calls
  have HR := Lib.hid hr
  have HS := Lib.hid hs
  have HL := Lib.hid (show (([] : List ByteArray).length + l.length) * 16 ≤ 140737488355328 by simp; omega)
  clear hr hs
  go_enter Try.func4, Try.ntmps4
  go_wp2_with fail
  refine SC.out.mono ?_
  rintro e w1 ⟨k, rfl, hb1⟩
  have q0 := Lib.hid hb1
  clear hb1 SC
  by_cases hk : 3000 < k
  · go_wp2_with fail
    refine (AL.out _).mono ?_
    rintro e w3 ⟨rfl, hb3⟩
    have hb4 := Lib.hid (Assoc.Below.up q0.out hb3)
    clear hb3
    go_wp2
    go_ret
    exact ⟨rfl, hb4.out⟩
  by_cases hk2 : 50 < ss.length
  · have e1 : (50 : Int) < (ss.length : Int) := by omega
    go_wp2_with fail
    refine (AL.out _).mono ?_
    rintro e w3 ⟨rfl, hb3⟩
    have hb4 := Lib.hid (Assoc.Below.up q0.out hb3)
    clear hb3
    go_wp2
    go_ret
    exact ⟨rfl, hb4.out⟩
  have e1 : ¬ (50 : Int) < (ss.length : Int) := by omega
  go_wp2_with (at_builtin; refine append_strs (w0 := w1) w1.heap.size rfl (.tmp 31) (.tmp 32) 26 rfl Try.underlying26 _ [] _ l.length _ l rfl rfl ?ho ?hr ?hB ?hb ?hl ?_; (case ho => exact own_lit0 (Nat.le_refl _)); (case hr => exact Kd.C_below (Kd.C_below HR.out.2 q0.out) (below_alloc (Below.refl _ _) _)); (case hB => exact below_alloc (Below.refl _ _) _); (case hb => exact (below_alloc (Below.refl _ _) _).size); (case hl => exact HL.out); intro v2 w2 ho2 hB2 hg2 hn2; replace ho2 := Lib.hid ho2; replace hB2 := Lib.hid hB2; clear hg2 hn2; simp only [Act.put, List.setIfInBounds_toArray, List.set_cons_succ, List.set_cons_zero])
  have OW : w2.ownsRow w1.heap.size 9 1 v2 l.length (strs l) := by simpa using ho2.out
  obtain ⟨A2, c2, rfl⟩ := own_slice OW
  have q2 := Lib.hid (Assoc.Below.up q0.out hB2.out)
  have q12 := q0.out.size
  replace OW := Lib.hid OW
  have ln : l.length ≤ 9223372036854775807 := by omega
  clear ho2 hB2
  go_loopw [36] (fun i wr => ∃ (j : Nat) (xs : List ByteArray), j ≤ ss.length ∧ i = .int .i64 j ∧ wr.ownsRow w1.heap.size 9 1 (.slice A2 l.length c2) l.length (strs xs) ∧ xs.Perm l ∧ Below w.heap.size w wr) (fun i _ => ss.length - (intOf i).toNat)
  case atStart => exact ⟨0, l, Nat.zero_le _, rfl, OW.out, List.Perm.refl _, q2.out⟩
  case round =>
    clear OW q2
    obtain ⟨j, xs, hj, rfl, ho, hp, hbe⟩ := hrel
    by_cases hlt : j < ss.length
    · obtain ⟨ad, rfl, hx⟩ := int_at (Kd.C_below HS.out hbe) j hlt
      by_cases h0 : 0 < l.length
      · have h0i : (0 : Int) < (l.length : Int) := by omega
        replace ho := Lib.hid ho
        replace hp := Lib.hid hp
        replace hbe := Lib.hid hbe
        obtain ⟨z, hz, hz2⟩ : ∃ z : Nat, rd ss (j : Int) = (z : Int) ∧ z < 256 := byte_at hw j hlt
        rw [hz] at hx
        obtain ⟨X, hX, hXl⟩ : ∃ X : Nat, (j : Int) % (l.length : Int) = (X : Int) ∧ X < l.length := ⟨j % l.length, by omega, Nat.mod_lt _ h0⟩
        obtain ⟨Y, hY, hYl⟩ : ∃ Y : Nat, (z : Int).tmod (l.length : Int) = (Y : Int) ∧ Y < l.length := ⟨z % l.length, by rw [Int.tmod_eq_emod_of_nonneg (by omega)]; omega, Nat.mod_lt _ h0⟩
        go_wp2
        repeat (go_quiet (fail); try go_wp2)
        rw [hX]
        obtain ⟨g0, rfl, cx, cy, fx, fy, hbg, _, hpp⟩ := own_two ho.out X Y hXl hYl
        have hXi : (X : Int) < (l.length : Int) := by omega
        have hYi : (Y : Int) < (l.length : Int) := by omega
        have T := Lib.hid (fun m : Nat => swapped ho.out X Y hXl hYl hbe.out (show w.heap.size ≤ g0 by omega) m)
        have hpp' := Lib.hid (hpp.trans hp.out)
        clear hpp ho hp hbe
        by_cases hXY : X = Y
        · subst hXY
          go_region
          go_wp2
          go_roundw
          case rel => exact ⟨j + 1, swapL xs X X, by omega, by go_num, (T.out _).1, hpp'.out, (T.out _).2⟩
          case measure => simp [intOf]; omega
        · go_region
          go_wp2
          go_roundw
          case rel => exact ⟨j + 1, swapL xs X Y, by omega, by go_num, (T.out _).1, hpp'.out, (T.out _).2⟩
          case measure => simp [intOf]; omega
      · have h0i : ¬ (0 : Int) < (l.length : Int) := by omega
        have T := Lib.hid (And.intro ho (And.intro hp hbe))
        clear ho hp hbe
        go_wp2
        repeat (go_quiet (fail); try go_wp2)
        go_roundw
        case rel => exact ⟨j + 1, xs, by omega, by go_num, T.out.1, T.out.2.1, T.out.2.2⟩
        case measure => simp [intOf]; omega
    · have NC := Lib.hid (new_calls A l.length c l wr (Kd.C_below HR.out.2 hbe) hN)
      replace ho := Lib.hid ho
      replace hp := Lib.hid hp
      have hw1 := Lib.hid hbe.size
      replace hbe := Lib.hid hbe
      go_wp2_with fail
      refine NC.out.mono ?_
      rintro e w3 ⟨ha, va, rfl, hA, bz⟩
      have q3 := Lib.hid (Assoc.Below.up hbe.out bz)
      have ho3 := Lib.hid (pw_own_below ho.out bz)
      have A3 := Lib.hid hA
      have NB := Lib.hid (new_calls none 0 0 [] w3 (Kd.C_nil _ _) (by decide))
      clear hA bz NC ho hbe
      go_wp2_with fail
      refine NB.out.mono ?_
      rintro e w4 ⟨hb, vb, rfl, hB, bz⟩
      have B4 := Lib.hid hB
      have b4 := Lib.hid bz
      obtain ⟨A5, c5, e5, _, hC5⟩ := own_strs ho3.out
      cases e5
      have C5 := Lib.hid hC5
      clear hB bz NB ho3 hC5
      go_wp2_with fail
      have xl : xs.length = l.length := hp.out.length_eq
      go_loopw [79] (fun i wr => ∃ (j : Nat) (u : Value), j ≤ l.length ∧ i = .int .i64 j ∧ Bag wr w3.heap.size hb u (xs.take j) ∧ Below w3.heap.size w3 wr) (fun i _ => l.length - (intOf i).toNat)
      case atStart => exact ⟨0, vb, Nat.zero_le _, rfl, by simpa using B4.out, b4.out⟩
      case round =>
        clear B4 b4 hlt
        obtain ⟨j, u, hj, rfl, hB, hbe⟩ := hrel
        by_cases hlt : j < l.length
        · obtain ⟨ad, rfl, hx⟩ := str_at (Kd.C_below C5.out hbe) j hlt
          have TN := Lib.hid (take_next xs j (by omega))
          have PU := Lib.hid (push_calls (Bag.below hB (below_alloc (Below.refl wr.heap.size wr) (.cells #[.string (Base.get xs j)] 9))) (some ⟨wr.heap.size, 0, none⟩) 1 1 [Base.get xs j] (fun w1 v1 hm => lit_moved hB hm) (by rw [List.length_take]; omega))
          replace hbe := Lib.hid hbe
          clear hB
          generalize Base.get xs j = x at *
          go_wp2_with fail
          refine PU.out.mono ?_
          rintro e w6 ⟨u6', rfl, hB6, hM6⟩
          have T := Lib.hid (show Bag w6 w3.heap.size hb u6' (xs.take (j + 1)) ∧ Below w3.heap.size w3 w6 from ⟨by rw [TN.out]; exact hB6, (below_alloc hbe.out _).trans hM6.below⟩)
          clear hB6 hM6 PU
          go_wp2
          go_roundw
          case rel => exact ⟨j + 1, u6', by omega, by go_num, T.out.1, T.out.2⟩
          case measure => simp [intOf]; omega
        · rw [List.take_of_length_le (by omega)] at hB
          have TS0 := Lib.hid (TS.start A3.out hB hbe (hp.out.symm))
          have q4 := Lib.hid (Assoc.Below.up q3.out hbe)
          have wb2 := q3.out.size
          have wb1 := hw1.out
          clear hB hbe
          go_wp2_with fail
          go_loopw [14, 90] (fun la i wr => ∃ (b1 j : Nat) (z : ByteArray) (ua ub : Value) (bagA bagB : List ByteArray), w.heap.size ≤ b1 ∧ j ≤ l.length ∧ la = .string z ∧ i = .int .i64 j ∧ TS wr b1 ha ua bagA w3.heap.size hb ub bagB ∧ bagA.Perm bagB ∧ bagA.length = l.length - j ∧ (∀ y ∈ bagA, lt y z = false) ∧ Below w.heap.size w wr) (fun _ i _ => l.length - (intOf i).toNat)
          case atStart => exact ⟨_, 0, ⟨#[]⟩, va, u, l, xs, wb1, Nat.zero_le _, rfl, rfl, TS0.out, hp.out.symm, rfl, fun y _ => lt_empty y, q4.out⟩
          case round =>
            clear TS0 q4 hlt
            obtain ⟨b1, j, z, ua, ub, bagA, bagB, hwb, hj, rfl, rfl, hT, hpp, hlA, hz, hbe⟩ := hrel
            have hlB := hpp.length_eq
            by_cases hlt : j < l.length
            · have PA := Lib.hid (pop_calls hT.a (by intro e; rw [e] at hlA; simp at hlA; omega) (by omega))
              replace hz := Lib.hid hz
              replace hT := Lib.hid hT
              replace hpp := Lib.hid hpp
              replace hbe := Lib.hid hbe
              go_wp2_with fail
              refine PA.out.mono ?_
              rintro e w6 ⟨x, ua', bagA', rfl, hA6, hpA, hmA, hmv⟩
              have T6 := Lib.hid (TS.popA hT.out hmv hA6)
              have e6 := Lib.hid (hbe.out.trans (hmv.below.mono hwb))
              have PB := Lib.hid (pop_calls T6.out.b (by intro e; rw [e, List.length_nil] at hlB; omega) (by omega))
              have MA := Lib.hid (And.intro hpA hmA)
              clear hA6 hpA hmA hmv PA hT hbe
              go_wp2_with fail
              refine PB.out.mono ?_
              rintro e w7 ⟨y, ub', bagB', rfl, hB7, hpB, hmB, hmv⟩
              have T7 := Lib.hid (TS.popA T6.out.symm hmv hB7).symm
              obtain ⟨rfl, hmin, hpp2⟩ := both MA.out.1 MA.out.2 hpB hmB hpp.out
              have e7 := Lib.hid (e6.out.trans (hmv.below.mono wb2))
              have hl6 := MA.out.1.length_eq
              rw [List.length_append, List.length_singleton] at hl6
              have hxz : Op.bytesLess x.toList z.toList = false := hz.out x (MA.out.1.mem_iff.1 (List.mem_append_right _ (List.mem_singleton_self _)))
              have R := Lib.hid (And.intro hmin hpp2)
              clear hB7 hpB hmB hmv PB hmin hpp2 T6 e6 MA
              go_wp2
              go_roundw
              case rel => exact ⟨b1, j + 1, x, ua', ub', bagA', bagB', hwb, by omega, rfl, by go_num, T7.out, R.out.2, by omega, R.out.1, e7.out⟩
              case measure => simp [intOf]; omega
            · obtain rfl : bagA = [] := List.eq_nil_of_length_eq_zero (by omega)
              obtain rfl : bagB = [] := List.nil_perm.1 hpp
              have PE := Lib.hid (pop_empty hT.a rfl)
              have T := Lib.hid (And.intro hT.b hbe)
              clear hT hbe hz hpp hlA hlB
              go_wp2_with fail
              refine PE.out.mono ?_
              rintro e w9 ⟨rfl, rfl⟩
              go_wp2_with fail
              refine (AL.out _).mono ?_
              rintro e w9 ⟨rfl, bz⟩
              have LC := Lib.hid (len_of (Bag.below T.out.1 bz))
              have q9 := Lib.hid (Assoc.Below.up T.out.2 bz)
              clear bz T
              go_wp2_with fail
              refine LC.out.mono ?_
              rintro e w10 ⟨rfl, rfl⟩
              go_wp2
              go_ret
              exact ⟨rfl, q9.out⟩
theorem law_row (A : Option Addr) (_ c : Nat) (l : List ByteArray) (B : Option Addr) (d : Nat) (ss : List Int) (w : World) (hr : Kd.C Kd.string w A l.length l) (hc : l.length ≤ c) (hN : l.length < 8796093022208) (hs : Kd.C (Kd.int .u8) w B ss.length ss) (_ : ss.length ≤ d) (_ : ss.length ≤ 140737488351232) (hw : ∀ x ∈ ss, (Lit.int .u8 x).wf = true) :
    Calls Try.prog 4 #[.slice A l.length c, .slice B ss.length d] w fun e w' => e = .returned (.bool true) ∧ Below w.heap.size w w' := law_walk A c l B d ss w ⟨hc, hr⟩ hN hs hw
end Go.Proofs.Ytiibkhogahdeiaa.Sorts
