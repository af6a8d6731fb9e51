/- The walk of PathheapIsolated. -/
import Derived.Test.YtiibkhogahdeiaaAssoc
namespace Go.Proofs.Ytiibkhogahdeiaa.Isolated
open Go.RowKit Go.Proofs.YtiibkhogahdeiaaW.PrintWords Go.Proofs.YtiibkhogahdeiaaW.PrintLast Go.Proofs.YtiibkhogahdeiaaW.PrintMore Go.Proofs.Ytiibkhogahdeiaa.Base Go.Proofs.Ytiibkhogahdeiaa.Plain Go.Proofs.Ytiibkhogahdeiaa.Sift Go.Proofs.Ytiibkhogahdeiaa.Ops Go.Proofs.Ytiibkhogahdeiaa.Methods Go.Proofs.Ytiibkhogahdeiaa.Sorted Go.Proofs.Ytiibkhogahdeiaa.Refs Go.Proofs.Ytiibkhogahdeiaa.RefMerge Go.Proofs.Ytiibkhogahdeiaa.Merge Go.Proofs.Ytiibkhogahdeiaa.Other Go.Proofs.Ytiibkhogahdeiaa.Alive Go.Proofs.Ytiibkhogahdeiaa.Assoc
/-- Two heaps. -/
structure St (w wr : World) (b1 h1 : Nat) (u1 : Value) (bag1 : List ByteArray) (b2 h2 : Nat) (u2 : Value) (bag2 : List ByteArray) : Prop where
  h : Bag wr b1 h1 u1 bag1
  g : Bag wr b2 h2 u2 bag2
  bel : Below w.heap.size w wr
  l1 : h1 < b2
  l2 : ∀ k, u1.ownBlock = some k → k < b2
theorem Bag.base {w : World} {base hb : Nat} {v : Value} {b : List ByteArray} (h : Bag w base hb v b) : ∀ k, v.ownBlock = some k → base ≤ k := by
  obtain ⟨xs, hp, hh, hperm⟩ := h
  exact own_base hp.row
theorem St.put {w wr : World} {b1 h1 : Nat} {u1 : Value} {bag1 : List ByteArray} {b2 h2 : Nat} {u2 : Value} {bag2 : List ByteArray} (s : St w wr b1 h1 u1 bag1 b2 h2 u2 bag2) (hb : b1 ≤ b2) (p : Addr) (hp : p.block < b1) (hw : w.heap.size ≤ p.block) (v : Value) :
    St w (wr.setCell p v) b1 h1 u1 bag1 b2 h2 u2 bag2 := by
  have e1 := (Bag.lt s.h).2.2.1
  have e2 := (Bag.lt s.g).2.2.1
  have f1 := Bag.base s.h
  have f2 := Bag.base s.g
  refine ⟨Bag.keep s.h (Below.heap_setCell _ _ _ _ (by omega)) fun k hk => Below.heap_setCell _ _ _ _ (by have := f1 k hk; omega), Bag.keep s.g (Below.heap_setCell _ _ _ _ (by omega)) fun k hk => Below.heap_setCell _ _ _ _ (by have := f2 k hk; omega), s.bel.setCell hw v, s.l1, s.l2⟩
theorem own_form {W : World} {base n c : Nat} {A : Option Addr} {xs : List ByteArray} (h : W.ownsRow base 9 1 (.slice A n c) n (strs xs)) (k : Nat) (hk : k < n) (x : ByteArray) :
    ∃ g0, A = some ⟨g0, 0, none⟩ ∧ (∃ y : ByteArray, W.cell? ⟨g0, k, none⟩ = some (.string y)) ∧ W.frozen? ⟨g0, k, none⟩ = false ∧ base ≤ g0 ∧ (W.setCell ⟨g0, k, none⟩ (.string x)).ownsRow base 9 1 (.slice A n c) n (strs (xs.set k x)) := by
  have hl : xs.length = n := by have := h.1; rw [strs_len, Nat.mul_one] at this; exact this
  rcases h.2 with ⟨_, h0⟩ | ⟨g, cap, cur, hv, hg, hh, hc, _⟩
  · omega
  · injection hv with e1 e2 e3
    subst e1
    have hc := h.cells (g := g) rfl k (.string (Base.get xs k)) (strs_get xs k (by omega))
    rw [add_plain] at hc
    have e : (strs xs).set k (.string x) = strs (xs.set k x) := by simp [strs, List.map_set]
    have hs := (h.stored k (.string x)).1
    rw [e] at hs
    exact ⟨g, rfl, ⟨_, hc⟩, blk_frozen hh k, hg, hs⟩
theorem refmerge_hds (W : World) (hs : List Hd) (h : ∀ x ∈ hs, x.ok W) (hl : hs.length ≤ 9223372036854775807) (hN : (hs.map Hd.l).flatten.length < 8796093022207) (c : Nat) :
    Calls Try.prog 13 #[.slice (some ⟨W.heap.size, 0, none⟩) hs.length c] (W.alloc (.cells (hs.map Hd.val).toArray 26)) fun e w' => ∃ A c' r, e = .returned (.slice A r.length c') ∧ w'.ownsRow W.heap.size 9 1 (.slice A r.length c') r.length (strs r) ∧ Srt r ∧ r.Perm (hs.map Hd.l).flatten ∧ Below W.heap.size W w' := by
  refine (refmerge_calls _ hs.length c _ _ (CC_lits W hs h hl) hN).mono ?_
  rintro e w' ⟨v, r, rfl, ho, hs', hp, hb⟩
  obtain ⟨A, c', rfl⟩ := own_slice ho
  exact ⟨A, c', r, rfl, own_weaken ho (below_alloc (Below.refl W.heap.size W) _).size, hs', hp, (below_alloc (Below.refl W.heap.size W) _).trans (hb.mono (below_alloc (Below.refl W.heap.size W) _).size)⟩
theorem MS.fresh {wr w6 : World} {base hb : Nat} {u o : Value} {bag r : List ByteArray} (hB : Bag wr base hb u bag) (ho : w6.ownsRow wr.heap.size 9 1 o r.length (strs r)) (hbl : Below wr.heap.size wr w6) : MS w6 base hb u bag o r := by
  obtain ⟨l1, l2, l3, l4⟩ := Bag.lt hB
  refine ⟨Bag.below hB hbl, own_weaken ho (by omega), fun e => ?_, fun g hg e => ?_⟩
  · have := own_base ho _ e
    omega
  · have h1 := own_base ho _ hg
    have h2 := l2 _ e
    omega
theorem pop_next {w : World} {base hb : Nat} {u o : Value} {bag r : List ByteArray} (h : MS w base hb u bag o r) (hs : Srt r) (j : Nat) (hj : j < r.length) (hp : bag.Perm (r.drop j)) (hle : r.length ≤ 2097152) :
    Calls Try.prog 16 #[.pointer (some ⟨hb, 0, none⟩)] w fun e w' => ∃ (u' : Value) (bag' : List ByteArray), e = .returned (.tuple #[.string (Base.get r j), .bool true]) ∧ MS w' base hb u' bag' o r ∧ bag'.Perm (r.drop (j + 1)) ∧ Below base w w' := by
  have hl := hp.length_eq
  rw [List.length_drop] at hl
  refine (pop_any h (by omega)).mono ?_
  rintro e w' ⟨x, b, u', bag', rfl, hM, hbl, ⟨rfl, hb0, _⟩ | ⟨rfl, hpx, hmin⟩⟩
  · rw [hb0] at hl
    simp at hl
    omega
  have ed : r.drop j = Base.get r j :: r.drop (j + 1) := by
    rw [List.drop_eq_getElem_cons hj]
    unfold Base.get
    rw [List.getD_eq_getElem?_getD, List.getElem?_eq_getElem hj]
    rfl
  rw [ed] at hp
  have hm : Base.get r j ∈ bag := hp.mem_iff.2 List.mem_cons_self
  have hx : x ∈ bag := hpx.mem_iff.1 (List.mem_append_right _ (List.mem_singleton_self _))
  have hs' : Srt (Base.get r j :: r.drop (j + 1)) := by rw [← ed]; exact hs.sublist (List.drop_sublist _ _)
  have h1 : lt x (Base.get r j) = false := by
    rcases List.mem_cons.1 (hp.mem_iff.1 hx) with e | e
    · rw [e]; exact lt_irrefl _
    · exact (List.pairwise_cons.1 hs').1 _ e
  obtain rfl : Base.get r j = x := eq_of_le (hmin _ hm) h1
  refine ⟨u', bag', rfl, hM, ?_, hbl⟩
  exact (List.perm_cons _).1 (((List.perm_append_singleton _ bag').symm.trans hpx).trans hp)
set_option maxHeartbeats 8000000 in
set_option maxRecDepth 100000 in
theorem law_walk (A : Option Addr) (c : Nat) (l : List ByteArray) (w : World) (hr : Hd.ok ⟨A, c, l⟩ w) (hN : l.length ≤ 1048576) :
    Calls Try.prog 5 #[.slice A l.length c] w fun e w' => e = .returned (.bool true) ∧ Below w.heap.size w w' := by
  have SC := Lib.hid (size_hds w [⟨A, c, l⟩] (ok1 hr) (by simp) 1)
  have AL := Lib.hid alive_calls
  have HR := Lib.hid hr
  have HL := Lib.hid (show (([] : List ByteArray).length + l.length) * 16 ≤ 140737488355328 by simp; omega)
  clear hr
  go_enter Try.func5, Try.ntmps5
  go_wp2_with fail
  refine SC.out.mono ?_
  rintro e w1 ⟨k, rfl, hb1⟩
  have q0 := Lib.hid hb1
  clear hb1 SC
  by_cases hk : 3000 < k
  · go_wp2_with fail
    refine (AL.out _).mono ?_
    rintro e w3 ⟨rfl, hb3⟩
    have hb4 := Lib.hid (Assoc.Below.up q0.out hb3)
    clear hb3
    go_wp2
    go_ret
    exact ⟨rfl, hb4.out⟩
  · go_wp2_with (at_builtin; refine append_strs (w0 := w1) w1.heap.size rfl (.tmp 21) (.tmp 22) 26 rfl Try.underlying26 _ [] _ l.length _ l rfl rfl ?ho ?hr ?hB ?hb ?hl ?_; (case ho => exact own_lit0 (Nat.le_refl _)); (case hr => exact Kd.C_below (Kd.C_below HR.out.2 q0.out) (below_alloc (Below.refl _ _) _)); (case hB => exact below_alloc (Below.refl _ _) _); (case hb => exact (below_alloc (Below.refl _ _) _).size); (case hl => exact HL.out); intro v2 w2 ho2 hB2 hg2 hn2; replace ho2 := Lib.hid ho2; replace hB2 := Lib.hid hB2; clear hg2 hn2; simp only [Act.put, List.setIfInBounds_toArray, List.set_cons_succ, List.set_cons_zero])
    have OW : w2.ownsRow w1.heap.size 9 1 v2 l.length (strs l) := by simpa using ho2.out
    obtain ⟨A2, c2, rfl, hc2, hC2⟩ := own_strs OW
    replace OW := Lib.hid OW
    have q2 := Lib.hid (Assoc.Below.up q0.out hB2.out)
    have NC := Lib.hid (new_calls A2 l.length c2 l w2 hC2 (by omega))
    have hC2' := Lib.hid hC2
    clear ho2 hB2 hC2
    refine NC.out.mono ?_
    rintro e w3 ⟨h1, u1, rfl, hB1, bz⟩
    have q3 := Lib.hid (Assoc.Below.up q2.out bz)
    have b3 := Lib.hid bz
    have PC := Lib.hid (push_calls hB1 A2 l.length c2 l (fun w4 v4 hm => Kd.C_below hC2'.out (b3.out.trans hm.below)) (by omega))
    clear hB1 bz NC
    go_wp2_with fail
    refine PC.out.mono ?_
    rintro e w4 ⟨u1', rfl, hB1, hM⟩
    have b4 := Lib.hid (b3.out.trans hM.below)
    have q4 := Lib.hid (Assoc.Below.up q2.out b4.out)
    have K1 := Lib.hid (And.intro hB1 (Bag.lt hB1))
    have NC := Lib.hid (new_calls A2 l.length c2 l w4 (Kd.C_below hC2'.out b4.out) (by omega))
    clear hB1 hM PC b3 q3
    go_wp2_with fail
    refine NC.out.mono ?_
    rintro e w5 ⟨h2, u2, rfl, hB2, bz⟩
    have OW5 := Lib.hid (pw_own_below OW.out (b4.out.trans (bz.mono b4.out.size)))
    have ST := Lib.hid (St.mk (w := w) (wr := w5) (Bag.below K1.out.1 bz) hB2 (Assoc.Below.up q4.out bz) K1.out.2.1 K1.out.2.2.1)
    have OL := Lib.hid (own_lt OW.out)
    have q12 := q0.out.size
    have b12 := b4.out.size
    have wb2 := q4.out.size
    have wb1 := q2.out.size
    clear hB2 bz NC OW q4 K1
    go_wp2_with fail
    go_loopw [35] (fun i wr => ∃ (j : Nat) (xs : List ByteArray), j ≤ l.length ∧ i = .int .i64 j ∧ wr.ownsRow w1.heap.size 9 1 (.slice A2 l.length c2) l.length (strs xs) ∧ St w wr w2.heap.size h1 u1' (l ++ l) w4.heap.size h2 u2 l) (fun i _ => l.length - (intOf i).toNat)
    case atStart => exact ⟨0, l, Nat.zero_le _, rfl, OW5.out, ST.out⟩
    case round =>
      clear OW5 ST
      obtain ⟨j, xs, hj, rfl, ho, hs⟩ := hrel
      by_cases hlt : j < l.length
      · obtain ⟨g0, rfl, ⟨y, hcell⟩, hfro, hbg, ho2⟩ := own_form ho j hlt ⟨#[]⟩
        have hs2 := St.put hs b12 ⟨g0, j, none⟩ (OL.out g0 rfl) (by have := q12; show w.heap.size ≤ g0; omega) (.string ⟨#[]⟩)
        have T := Lib.hid (And.intro ho2 hs2)
        clear ho ho2 hs hs2
        go_wp2
        go_roundw
        case rel => exact ⟨j + 1, _, by omega, by go_num, T.out.1, T.out.2⟩
        case measure => simp [intOf]; omega
      · clear ho
        have RC := Lib.hid (refmerge_hds wr [⟨A, c, l⟩] (ok1 (okb HR.out hs.bel)) (by simp) (by simp; omega) 1)
        have qr := hs.bel.size
        have SG := Lib.hid hs
        clear hs
        go_wp2_with fail
        refine RC.out.mono ?_
        rintro e w6 ⟨A3, c3, r, rfl, ho6, hs6, hp6, bz⟩
        have q6 := Lib.hid (Assoc.Below.up SG.out.bel bz)
        have M6 := Lib.hid (MS.fresh SG.out.g ho6 bz)
        have G6 := Lib.hid (Bag.below SG.out.h bz)
        have SR := Lib.hid hs6
        have PR := Lib.hid (show r.Perm l by simpa using hp6)
        have F1 := Lib.hid (And.intro SG.out.l1 SG.out.l2)
        have rm : r.length ≤ 1048576 := by have := PR.out.length_eq; omega
        clear ho6 hs6 hp6 bz RC SG
        go_wp2_with fail
        go_loopw [46] (fun i wr => ∃ (j : Nat) (u : Value) (bag : List ByteArray), j ≤ r.length ∧ i = .int .i64 j ∧ MS wr w4.heap.size h2 u bag (.slice A3 r.length c3) r ∧ bag.Perm (r.drop j) ∧ Bag wr w2.heap.size h1 u1' (l ++ l) ∧ Below w.heap.size w wr) (fun i _ => r.length - (intOf i).toNat)
        case atStart => exact ⟨0, u2, l, Nat.zero_le _, rfl, M6.out, by simpa using PR.out.symm, G6.out, q6.out⟩
        case round =>
          clear M6 G6 q6 hlt
          obtain ⟨j2, u, bag, hj2, rfl, hM, hpm, hG, hbe⟩ := hrel
          by_cases hlt : j2 < r.length
          · obtain ⟨A4, c4, e4, _, hC4⟩ := own_strs hM.row
            cases e4
            obtain ⟨ad, rfl, hx⟩ := str_at hC4 j2 hlt
            have PN := Lib.hid (pop_next hM SR.out j2 hlt hpm (by omega))
            have K := Lib.hid (And.intro hG hbe)
            clear hM hpm hG hbe hC4
            generalize Base.get r j2 = x at *
            go_wp2_with fail
            refine PN.out.mono ?_
            rintro e w7 ⟨u7, bag7, rfl, hM7, hp7, hb7⟩
            have T := Lib.hid (And.intro hM7 (And.intro hp7 (And.intro (Bag.keep K.out.1 (hb7.block _ F1.out.1) (fun k hk => hb7.block _ (F1.out.2 k hk))) (K.out.2.trans (hb7.mono wb2)))))
            clear hM7 hp7 hb7 PN K
            go_wp2
            exact ⟨⟨j2 + 1, u7, bag7, by omega, by go_num, T.out.1, T.out.2.1, T.out.2.2.1, T.out.2.2.2⟩, by simp [intOf]; omega⟩
          · have hG2 := Lib.hid (And.intro hG hbe)
            clear hM hpm hG hbe
            have RC2 := Lib.hid (refmerge_hds wr [⟨A, c, l⟩, ⟨A, c, l⟩] (ok2 (okb HR.out hG2.out.2) (okb HR.out hG2.out.2)) (by simp) (by simp; omega) 2)
            go_wp2_with fail
            refine RC2.out.mono ?_
            rintro e w8 ⟨A5, c5, r5, rfl, ho8, hs8, hp8, bz⟩
            have q8 := Lib.hid (Assoc.Below.up hG2.out.2 bz)
            have M8 := Lib.hid (MS.fresh hG2.out.1 ho8 bz)
            have SR8 := Lib.hid hs8
            have PR8 := Lib.hid (show r5.Perm (l ++ l) by simpa using hp8)
            have rm8 : r5.length ≤ 2097152 := by have := PR8.out.length_eq; rw [List.length_append] at this; omega
            clear ho8 hs8 hp8 bz RC2 hG2
            go_wp2_with fail
            go_loopw [69] (fun i wr => ∃ (j : Nat) (u : Value) (bag : List ByteArray), j ≤ r5.length ∧ i = .int .i64 j ∧ MS wr w2.heap.size h1 u bag (.slice A5 r5.length c5) r5 ∧ bag.Perm (r5.drop j) ∧ Below w.heap.size w wr) (fun i _ => r5.length - (intOf i).toNat)
            case atStart => exact ⟨0, u1', l ++ l, Nat.zero_le _, rfl, M8.out, by simpa using PR8.out.symm, q8.out⟩
            case round =>
              clear M8 q8 hlt
              obtain ⟨j3, u, bag, hj3, rfl, hM, hpm, hbe⟩ := hrel
              by_cases hlt : j3 < r5.length
              · obtain ⟨A6, c6, e6, _, hC6⟩ := own_strs hM.row
                cases e6
                obtain ⟨ad, rfl, hx⟩ := str_at hC6 j3 hlt
                have PN := Lib.hid (pop_next hM SR8.out j3 hlt hpm rm8)
                have K := Lib.hid hbe
                clear hM hpm hbe hC6
                generalize Base.get r5 j3 = x at *
                go_wp2_with fail
                refine PN.out.mono ?_
                rintro e w9 ⟨u9', bag9, rfl, hM9, hp9, hb9⟩
                have T := Lib.hid (And.intro hM9 (And.intro hp9 (K.out.trans (hb9.mono wb1))))
                clear hM9 hp9 hb9 PN K
                go_wp2
                exact ⟨⟨j3 + 1, u9', bag9, by omega, by go_num, T.out.1, T.out.2.1, T.out.2.2⟩, by simp [intOf]; omega⟩
              · rw [List.drop_of_length_le (by omega)] at hpm
                obtain rfl : bag = [] := List.perm_nil.1 hpm
                have T := Lib.hid (And.intro hM.bag hbe)
                clear hM hpm hbe
                go_wp2_with fail
                refine (AL.out _).mono ?_
                rintro e w9 ⟨rfl, bz⟩
                have LC := Lib.hid (len_of (Bag.below T.out.1 bz))
                have q9 := Lib.hid (Assoc.Below.up T.out.2 bz)
                clear bz T
                go_wp2_with fail
                refine LC.out.mono ?_
                rintro e w10 ⟨rfl, rfl⟩
                go_wp2
                go_ret
                exact ⟨rfl, q9.out⟩
end Go.Proofs.Ytiibkhogahdeiaa.Isolated
