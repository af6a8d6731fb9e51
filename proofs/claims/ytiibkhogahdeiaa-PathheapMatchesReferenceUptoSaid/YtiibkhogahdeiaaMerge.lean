/- What calls of Merge answer. -/
import Derived.Test.YtiibkhogahdeiaaRefMerge
namespace Go.Proofs.Ytiibkhogahdeiaa.Merge
open Go.RowKit Go.Proofs.YtiibkhogahdeiaaW.PrintWords Go.Proofs.YtiibkhogahdeiaaW.PrintLast Go.Proofs.YtiibkhogahdeiaaW.PrintMore Go.Proofs.Ytiibkhogahdeiaa.Base Go.Proofs.Ytiibkhogahdeiaa.Plain Go.Proofs.Ytiibkhogahdeiaa.Sift Go.Proofs.Ytiibkhogahdeiaa.Ops Go.Proofs.Ytiibkhogahdeiaa.Methods Go.Proofs.Ytiibkhogahdeiaa.Sorted Go.Proofs.Ytiibkhogahdeiaa.Refs Go.Proofs.Ytiibkhogahdeiaa.RefMerge
theorem Bag.keep {w w1 : World} {base hb : Nat} {v : Value} {b : List ByteArray} (h : Bag w base hb v b) (h1 : w1.heap[hb]? = w.heap[hb]?) (h2 : ∀ k, v.ownBlock = some k → w1.heap[k]? = w.heap[k]?) : Bag w1 base hb v b := by
  obtain ⟨xs, hp, hh, hperm⟩ := h
  exact ⟨xs, ⟨h1.trans hp.blk, own_move hp.row h2, hp.base_le⟩, hh, hperm⟩
theorem Bag.lt {w : World} {base hb : Nat} {v : Value} {b : List ByteArray} (h : Bag w base hb v b) : hb < w.heap.size ∧ (∀ k, v.ownBlock = some k → k < w.heap.size) ∧ base ≤ hb ∧ v.ownBlock ≠ some hb := by
  obtain ⟨xs, hp, hh, hperm⟩ := h
  exact ⟨blk_lt hp.blk, own_lt hp.row, hp.base_le, fun e => hp.far e.symm⟩
/-- A heap and, beside it, a row. -/
structure MS (w : World) (base hb : Nat) (u : Value) (bag : List ByteArray) (o : Value) (r : List ByteArray) : Prop where
  bag : Bag w base hb u bag
  row : w.ownsRow base 9 1 o r.length (strs r)
  sep1 : o.ownBlock ≠ some hb
  sep2 : ∀ g, o.ownBlock = some g → u.ownBlock ≠ some g
theorem MS.below {w w1 : World} {base hb : Nat} {u o : Value} {bag r : List ByteArray} (h : MS w base hb u bag o r) (hb1 : Below w.heap.size w w1) : MS w1 base hb u bag o r :=
  ⟨Bag.below h.bag hb1, pw_own_below h.row hb1, h.sep1, h.sep2⟩
theorem MS.pop {w w1 : World} {base hb : Nat} {u u1 o : Value} {bag bag1 r : List ByteArray} (h : MS w base hb u bag o r) (hm : Moved w w1 base hb u u1) (hb1 : Bag w1 base hb u1 bag1) : MS w1 base hb u1 bag1 o r := by
  refine ⟨hb1, own_move h.row fun k hk => hm.keep k (own_lt h.row k hk) (fun e => h.sep1 (by rw [hk, e])) (fun e => h.sep2 k hk e.symm), h.sep1, fun g hg e => ?_⟩
  rcases hm.new with e1 | ⟨b, e1, hle⟩
  · exact h.sep2 g hg (by rw [← e1]; exact e)
  · rw [e1] at e
    have := own_lt h.row g hg
    cases e
    omega
theorem MS.app {w w1 : World} {base hb : Nat} {u o o1 : Value} {bag r r1 : List ByteArray} (h : MS w base hb u bag o r) (ho : w1.ownsRow base 9 1 o1 r1.length (strs r1)) (hg : w.grownBy w1 o.ownBlock) (hn : o1.ownBlock = o.ownBlock ∨ ∃ b, o1.ownBlock = some b ∧ w.heap.size ≤ b) : MS w1 base hb u bag o1 r1 := by
  obtain ⟨l1, l2, l3, l4⟩ := Bag.lt h.bag
  refine ⟨Bag.keep h.bag (hg.block hb l1 fun e => h.sep1 e.symm) (fun k hk => hg.block k (l2 k hk) fun e => h.sep2 k e.symm hk), ho, fun e => ?_, fun g hg' e => ?_⟩
  · rcases hn with e1 | ⟨b, e1, hle⟩
    · exact h.sep1 (by rw [← e1]; exact e)
    · rw [e1] at e
      cases e
      omega
  · rcases hn with e1 | ⟨b, e1, hle⟩
    · exact h.sep2 g (by rw [← e1]; exact hg') e
    · rw [e1] at hg'
      cases hg'
      have := l2 _ e
      omega
theorem make0 {w : World} {base hb : Nat} {u : Value} {bag : List ByteArray} (h : Bag w base hb u bag) (c : Nat) (hc : c < 8796093022208) : ∃ w', (Instr.makeSlice 26 (.int .i64 0) (.int .i64 (c : Int))).run Try.prog w = .ok (.slice (some ⟨w.heap.size, 0, none⟩) 0 c) w' ∧ MS w' base hb u bag (.slice (some ⟨w.heap.size, 0, none⟩) 0 c) [] ∧ Below w.heap.size w w' := by
  obtain ⟨i9, hi9, hzz⟩ := Option.map_eq_some_iff.1 info9
  simp only [Prod.mk.injEq] at hzz
  obtain ⟨hz0, hz1, hz2⟩ := hzz
  obtain ⟨l1, l2, l3, l4⟩ := Bag.lt h
  obtain ⟨w', h1, h2, h3⟩ := run_make_own (P := Try.prog) w base 26 9 i9 _ 1 Try.underlying26 hi9 hz0 hz1 .i64 .i64 c (by rw [hz2]; omega) (by unfold maxLen; omega) (by omega)
  have hbel : Below w.heap.size w w' := (Below.refl _ _).grown h3 (Nat.le_refl _) (fun k hk => by cases hk)
  refine ⟨w', h1, ⟨Bag.below h hbel, h2, ?_, ?_⟩, hbel⟩
  · simp [Value.ownBlock]; omega
  · intro g hg e
    have : g = w.heap.size := by simpa [Value.ownBlock] using hg.symm
    have := l2 g e
    omega
theorem pop_any {w : World} {base hb : Nat} {u o : Value} {bag r : List ByteArray} (h : MS w base hb u bag o r) (hle : bag.length ≤ 140737488355328) :
    Calls Try.prog 16 #[.pointer (some ⟨hb, 0, none⟩)] w fun e w' => ∃ (x : ByteArray) (b : Bool) (u' : Value) (bag' : List ByteArray), e = .returned (.tuple #[.string x, .bool b]) ∧ MS w' base hb u' bag' o r ∧ Below base w w' ∧ ((b = false ∧ bag = [] ∧ bag' = []) ∨ (b = true ∧ (bag' ++ [x]).Perm bag ∧ ∀ y ∈ bag, lt y x = false)) := by
  by_cases h0 : bag = []
  · refine (pop_empty h.bag h0).mono ?_
    rintro e w' ⟨rfl, rfl⟩
    exact ⟨_, false, u, bag, rfl, h, Below.refl _ _, .inl ⟨rfl, h0, h0⟩⟩
  · refine (pop_calls h.bag h0 hle).mono ?_
    rintro e w' ⟨x, v', bag', rfl, hB, hP, hmin, hM⟩
    exact ⟨x, true, v', bag', rfl, h.pop hM hB, hM.below, .inr ⟨rfl, hP, hmin⟩⟩
/-- What stands between two pops. -/
structure PS (tot r bag : List ByteArray) (x : ByteArray) (b : Bool) : Prop where
  srt : Srt r
  fin : b = false → bag = [] ∧ r.Perm tot
  on : b = true → (r ++ [x] ++ bag).Perm tot ∧ Srt (r ++ [x]) ∧ ∀ y ∈ bag, lt y x = false
theorem PS.lt {tot r bag : List ByteArray} {x : ByteArray} (h : PS tot r bag x true) : r.length < tot.length := by
  have := (h.on rfl).1.length_eq
  rw [List.length_append, List.length_append, List.length_singleton] at this
  omega
theorem PS.start {tot bag' : List ByteArray} {x : ByteArray} {b : Bool} (h : (b = false ∧ tot = [] ∧ bag' = []) ∨ (b = true ∧ (bag' ++ [x]).Perm tot ∧ ∀ y ∈ tot, Base.lt y x = false)) : PS tot [] bag' x b := by
  rcases h with ⟨rfl, rfl, rfl⟩ | ⟨rfl, hp, hm⟩
  · exact ⟨List.Pairwise.nil, fun _ => ⟨rfl, List.Perm.refl _⟩, fun h => by cases h⟩
  · exact ⟨List.Pairwise.nil, fun h => (by cases h), fun _ => ⟨(List.perm_append_singleton x bag').symm.trans hp, List.pairwise_singleton _ _, fun y hy => hm y (hp.mem_iff.1 (List.mem_append_left _ hy))⟩⟩
theorem PS.next {tot r bag bag' : List ByteArray} {x y : ByteArray} {b : Bool} (h0 : PS tot r bag x true) (h : (b = false ∧ bag = [] ∧ bag' = []) ∨ (b = true ∧ (bag' ++ [y]).Perm bag ∧ ∀ z ∈ bag, Base.lt z y = false)) : PS tot (r ++ [x]) bag' y b := by
  obtain ⟨hp0, hs0, hm0⟩ := h0.on rfl
  rcases h with ⟨rfl, rfl, rfl⟩ | ⟨rfl, hp, hm⟩
  · exact ⟨hs0, fun _ => ⟨rfl, by simpa using hp0⟩, fun h => by cases h⟩
  · have hy : y ∈ bag := hp.mem_iff.1 (List.mem_append_right _ (List.mem_singleton_self _))
    refine ⟨hs0, fun h => (by cases h), fun _ => ⟨?_, srt_snoc hs0 fun z hz => ?_, fun z hz => hm z (hp.mem_iff.1 (List.mem_append_left _ hz))⟩⟩
    · rw [List.append_assoc]
      exact (List.Perm.append_left _ ((List.perm_append_singleton y bag').symm.trans hp)).trans hp0
    · rcases List.mem_append.1 hz with hz | hz
      · exact le_trans (hm0 y hy) ((List.pairwise_append.1 hs0).2.2 z hz x (List.mem_singleton_self _))
      · rw [List.mem_singleton.1 hz]; exact hm0 y hy
theorem PS.bagle {tot r bag : List ByteArray} {x : ByteArray} (h : PS tot r bag x true) : bag.length ≤ tot.length := by
  have := (h.on rfl).1.length_eq
  rw [List.length_append] at this
  omega
def lenOf : Value → Nat
  | .slice _ n _ => n
  | _ => 0
theorem take_le (ls : List (List ByteArray)) (i : Nat) : (ls.take i).flatten.length ≤ ls.flatten.length := by
  have e2 : ls.flatten.length = (ls.take i).flatten.length + (ls.drop i).flatten.length := by rw [← List.length_append, ← List.flatten_append, List.take_append_drop]
  omega
set_option maxHeartbeats 4000000 in
set_option maxRecDepth 100000 in
/-- Merge. -/
theorem merge_calls (A : Option Addr) (n c : Nat) (ls : List (List ByteArray)) (w : World) (hr : CC w A n ls) (hN : ls.flatten.length < 8796093022207) :
    Calls Try.prog 12 #[.slice A n c] w fun e w' => ∃ v r, e = .returned v ∧ w'.ownsRow w.heap.size 9 1 v r.length (strs r) ∧ Srt r ∧ r.Perm ls.flatten ∧ Below w.heap.size w w' := by
  have hlen := Lib.hid hr.len
  have HR := Lib.hid hr
  have nm : n ≤ 9223372036854775807 := Kd.C_max hr
  clear hr
  have NC := Lib.hid (new_calls none 0 0 [] w (Kd.C_nil _ _) (by decide))
  go_enter Try.func12, Try.ntmps12
  go_wp2_with fail
  refine NC.out.mono ?_
  rintro e w1 ⟨hb, v, rfl, hB, hb1⟩
  have K0 := Lib.hid hB
  have hb0 := Lib.hid hb1
  clear hB hb1
  go_wp2_with fail
  go_loopw [15] (fun i wr => ∃ (k : Nat) (u : Value), k ≤ n ∧ i = .int .i64 k ∧ Bag wr w.heap.size hb u (ls.take k).flatten ∧ Below w.heap.size w wr) (fun i _ => n - (intOf i).toNat)
  case atStart => exact ⟨0, v, Nat.zero_le _, rfl, by simpa using K0.out, hb0.out⟩
  case round =>
    obtain ⟨k, u, hk, rfl, hB, hbl⟩ := hrel
    clear K0 hb0
    by_cases hlt : k < n
    · obtain ⟨ad, A0, c0, rfl, hx0, hc0, hC⟩ := CC.at HR.out k hlt
      have hx : wr.cell? (ad.add k) = some (.slice A0 (getL ls k).length c0) := pw_cell_below hbl hx0
      have TN := Lib.hid (take_nextL ls k (by rw [hlen.out]; exact hlt))
      have LT := take_le ls (k + 1)
      have LN : ((ls.take k).flatten ++ getL ls k).length ≤ ls.flatten.length := by rw [← TN.out]; exact LT
      have PC := Lib.hid (push_calls hB A0 (getL ls k).length c0 (getL ls k) (fun w1 v1 hm => Kd.C_below hC (hbl.trans hm.below)) (by rw [List.length_append] at LN; omega))
      replace hbl := Lib.hid hbl
      clear hB hC hx0 LT LN
      generalize getL ls k = l at *
      go_wp2_with fail
      refine PC.out.mono ?_
      rintro e w2 ⟨u2, rfl, hB2, hM2⟩
      have T := Lib.hid (show Bag w2 w.heap.size hb u2 (ls.take (k + 1)).flatten ∧ Below w.heap.size w w2 from ⟨by rw [TN.out]; exact hB2, hbl.out.trans hM2.below⟩)
      clear hB2 hM2
      go_wp2
      go_roundw
      case rel => exact ⟨k + 1, u2, by omega, by go_num, T.out.1, T.out.2⟩
      case measure => simp [intOf]; omega
    · have hB2 : Bag wr w.heap.size hb u ls.flatten := by rwa [List.take_of_length_le (show ls.length ≤ k by rw [hlen.out]; omega)] at hB
      replace hbl := Lib.hid hbl
      clear hB
      obtain ⟨tot, htot⟩ : ∃ t, t = ls.flatten := ⟨_, rfl⟩
      rw [← htot] at hB2 hN
      have HT := Lib.hid htot
      clear htot
      have LC := Lib.hid (len_of hB2)
      obtain ⟨w3, hmk, hMS, hb3⟩ := make0 hB2 tot.length (by omega)
      replace hMS := Lib.hid hMS
      replace hb3 := Lib.hid (hbl.out.trans (hb3.mono hbl.out.size))
      clear hB2
      have POP := Lib.hid (pop_any hMS.out (by omega))
      go_wp2_with fail
      refine LC.out.mono ?_
      rintro e w2 ⟨rfl, rfl⟩
      go_wp2_with fail
      refine POP.out.mono ?_
      rintro e w4 ⟨x, b, u4, bag4, rfl, hMS4, hb4, hcase⟩
      have K4 := Lib.hid (And.intro hMS4 (And.intro (hb3.out.trans hb4) hcase))
      clear hMS4 hb4 hcase POP LC hMS hb3
      go_wp2_with fail
      go_loopw [7, 8, 9] (fun o s ok wr => ∃ (x : ByteArray) (b : Bool) (u : Value) (bag r : List ByteArray), s = .string x ∧ ok = .bool b ∧ MS wr w.heap.size hb u bag o r ∧ Below w.heap.size w wr ∧ PS tot r bag x b) (fun o _ _ _ => tot.length - lenOf o)
      case atStart => exact ⟨x, b, u4, bag4, [], rfl, rfl, K4.out.1, K4.out.2.1, PS.start K4.out.2.2⟩
      case round =>
        clear K4
        obtain ⟨x, b, u, bag, r, rfl, rfl, hMS, hbl, hPS⟩ := hrel
        obtain ⟨A1, c1, rfl⟩ := own_slice hMS.row
        cases b with
        | false =>
          have T := Lib.hid (show wr.ownsRow w.heap.size 9 1 (.slice A1 r.length c1) r.length (strs r) ∧ Srt r ∧ r.Perm ls.flatten ∧ Below w.heap.size w wr from ⟨hMS.row, hPS.srt, by rw [← HT.out]; exact (hPS.fin rfl).2, hbl⟩)
          clear hMS hPS hbl
          go_wp2
          go_ret
          exact ⟨_, _, rfl, T.out.1, T.out.2.1, T.out.2.2.1, T.out.2.2.2⟩
        | true =>
          have hrl := hPS.lt
          replace hMS := Lib.hid hMS
          replace hbl := Lib.hid hbl
          replace hPS := Lib.hid hPS
          have HL := Lib.hid (show (r.length + 1) * 16 ≤ 140737488355328 by omega)
          go_wp2_with (at_builtin; refine append_strs (w0 := w) w.heap.size rfl (.tmp 37) (.tmp 39) 26 rfl Try.underlying26 _ r _ 1 _ [x] rfl rfl ?ho ?hr ?hB ?hb ?hl ?_; (case ho => exact own_alloc hMS.out.row _); (case hr => exact C_lit1 _ _); (case hB => exact below_alloc hbl.out _); (case hb => exact (below_alloc hbl.out _).size); (case hl => exact HL.out); intro v2 w2 ho2 hB2 hg2 hn2; replace ho2 := Lib.hid ho2; replace hB2 := Lib.hid hB2; replace hg2 := Lib.hid hg2; replace hn2 := Lib.hid hn2; simp only [Act.put, List.setIfInBounds_toArray, List.set_cons_succ, List.set_cons_zero])
          have hM2 : MS w2 w.heap.size hb u bag v2 (r ++ [x]) := MS.app (hMS.out.below (below_alloc (Below.refl _ _) _)) (by rw [List.length_append]; exact ho2.out) hg2.out hn2.out
          have hbgl := hPS.out.bagle
          have POP := Lib.hid (pop_any hM2 (by omega))
          clear hM2 hg2 hn2 hMS
          refine POP.out.mono ?_
          rintro e w5 ⟨y, b5, u5, bag5, rfl, hMS5, hb5, hcase⟩
          have T := Lib.hid (show MS w5 w.heap.size hb u5 bag5 v2 (r ++ [x]) ∧ Below w.heap.size w w5 ∧ PS tot (r ++ [x]) bag5 y b5 from ⟨hMS5, hB2.out.trans hb5, hPS.out.next hcase⟩)
          obtain ⟨A2, c2, rfl⟩ := own_slice hMS5.row
          have hl2 : (r ++ [x]).length = r.length + 1 := by rw [List.length_append]; rfl
          clear hMS5 hb5 hcase POP ho2 hB2
          go_wp2
          go_roundw
          case rel => exact ⟨y, b5, u5, bag5, r ++ [x], rfl, rfl, (by have := T.out.1; rwa [hl2] at this), T.out.2.1, T.out.2.2⟩
          case measure =>
            simp only [lenOf]
            omega
end Go.Proofs.Ytiibkhogahdeiaa.Merge
