/- The walk of PathheapMatchesReference. -/
import Derived.Test.YtiibkhogahdeiaaActs
import Derived.Test.YtiibkhogahdeiaaNils
namespace Go.Proofs.Ytiibkhogahdeiaa.Called
open Go.RowKit Go.Proofs.YtiibkhogahdeiaaW.PrintWords Go.Proofs.YtiibkhogahdeiaaW.PrintLast Go.Proofs.YtiibkhogahdeiaaW.PrintMore Go.Proofs.Ytiibkhogahdeiaa.Base Go.Proofs.Ytiibkhogahdeiaa.Plain Go.Proofs.Ytiibkhogahdeiaa.Sift Go.Proofs.Ytiibkhogahdeiaa.Ops Go.Proofs.Ytiibkhogahdeiaa.Methods Go.Proofs.Ytiibkhogahdeiaa.Sorted Go.Proofs.Ytiibkhogahdeiaa.Refs Go.Proofs.Ytiibkhogahdeiaa.RefMerge Go.Proofs.Ytiibkhogahdeiaa.Merge Go.Proofs.Ytiibkhogahdeiaa.Other Go.Proofs.Ytiibkhogahdeiaa.Alive Go.Proofs.Ytiibkhogahdeiaa.Assoc Go.Proofs.Ytiibkhogahdeiaa.Isolated Go.Proofs.Ytiibkhogahdeiaa.Acts
theorem take_h (ss : List Step) (k : Nat) (h : k < ss.length) : (ss.take (k + 1)).map (·.h) = (ss.take k).map (·.h) ++ [(nth ss k).h] := by
  rw [List.take_succ_eq_append_getElem h, List.map_append]
  simp [nth, List.getD_eq_getElem?_getD, List.getElem?_eq_getElem h]
theorem C_lit_hd2 (W : World) (o : Obj) (h : Hd) : hdK.C ((W.alloc o).alloc (.cells #[.slice h.A h.l.length h.c] 26)) (some ⟨W.heap.size + 1, 0, none⟩) 1 [h] := by
  have := C_lit_hd (W.alloc o) h
  have e : (W.alloc o).heap.size = W.heap.size + 1 := by simp
  rwa [e] at this
theorem below2 {w wr : World} (h : Below w.heap.size w wr) (o1 o2 : Obj) : Below w.heap.size w ((wr.alloc o1).alloc o2) := below_alloc (below_alloc h o1) o2
theorem pw_own_alloc2 {W : World} {base e n m : Nat} {v : Value} {xs : List Value} (h : W.ownsRow base e m v n xs) (o1 o2 : Obj) : ((W.alloc o1).alloc o2).ownsRow base e m v n xs := pw_own_below h (below2 (Below.refl _ _) o1 o2)
theorem hd_all {w wr : World} {h0 : Hd} {B : Option Addr} {n : Nat} (ss : List Step) (k : Nat) (hr : h0.ok w) (hs : Acts w B n ss) (hb : Below w.heap.size w wr) : ∀ x ∈ h0 :: (ss.take k).map (·.h), x.ok wr := by
  intro x hx
  rcases List.mem_cons.1 hx with rfl | hx
  · exact okb hr hb
  · obtain ⟨s, hs1, rfl⟩ := List.mem_map.1 hx
    obtain ⟨j, hj, hj2⟩ := List.getElem_of_mem (List.mem_of_mem_take hs1)
    obtain ⟨ad, _, hc⟩ := hs.2.2 (by have := hs.1; omega)
    exact okb (hc j s (by rw [List.getElem?_eq_getElem hj, hj2])).2.2 hb
def View (base : Nat) (o : Value) (r : List ByteArray) (A : Option Addr) (c : Nat) (mm : List ByteArray) : Prop :=
  mm.length ≤ c ∧ ∀ W : World, W.ownsRow base 9 1 o r.length (strs r) → Kd.C Kd.string W A mm.length mm
theorem View.start {W : World} {base c : Nat} {A : Option Addr} {r : List ByteArray} (h : W.ownsRow base 9 1 (.slice A r.length c) r.length (strs r)) : View base (.slice A r.length c) r A c r := by
  obtain ⟨A2, c2, e, hc, _⟩ := own_strs h
  cases e
  refine ⟨hc, fun W h => ?_⟩
  obtain ⟨A2, c2, e, _, hC⟩ := own_strs h
  cases e
  exact hC
theorem View.drop {base c : Nat} {o : Value} {A : Option Addr} {r mm : List ByteArray} (h : View base o r A c mm) (h0 : 0 < mm.length) : View base o r (if c = 1 then A else A.map (·.add 1)) (c - 1) (mm.drop 1) := by
  refine ⟨by rw [List.length_drop]; have := h.1; omega, fun W hW => ?_⟩
  have := C_drop' (h.2 W hW) 1 h0 h.1
  rwa [← List.length_drop] at this
/-- The heap and the sorted list beside it. -/
def Md (wr : World) (base hb : Nat) (A : Option Addr) (c : Nat) (mm : List ByteArray) : Prop :=
  ∃ u bag o r, MS wr base hb u bag o r ∧ bag.Perm mm ∧ Srt mm ∧ View base o r A c mm
theorem Md.below {w w1 : World} {base hb c : Nat} {A : Option Addr} {mm : List ByteArray} (h : Md w base hb A c mm) (hb1 : Below w.heap.size w w1) : Md w1 base hb A c mm := by
  obtain ⟨u, bag, o, r, h1, h2, h3, h4⟩ := h
  exact ⟨u, bag, o, r, h1.below hb1, h2, h3, h4⟩
theorem Md.reads {w : World} {base hb c : Nat} {A : Option Addr} {mm : List ByteArray} (h : Md w base hb A c mm) : Hd.ok ⟨A, c, mm⟩ w := by
  obtain ⟨u, bag, o, r, h1, h2, h3, h4⟩ := h
  exact ⟨h4.1, h4.2 w h1.row⟩
theorem Md.len {w : World} {base hb c : Nat} {A : Option Addr} {mm : List ByteArray} (h : Md w base hb A c mm) : Calls Try.prog 17 #[.pointer (some ⟨hb, 0, none⟩)] w fun e w' => e = .returned (.int .i64 mm.length) ∧ w = w' := by
  obtain ⟨u, bag, o, r, h1, h2, h3, h4⟩ := h
  have := len_of h1.bag
  rwa [h2.length_eq] at this
theorem Md.start {w w1 : World} {base hb c : Nat} {A : Option Addr} {u : Value} {bag mm : List ByteArray} (h : Bag w base hb u bag) (ho : w1.ownsRow w.heap.size 9 1 (.slice A mm.length c) mm.length (strs mm)) (hs : Srt mm) (hp : bag.Perm mm) (hb1 : Below w.heap.size w w1) : Md w1 base hb A c mm := by
  have h1 := MS.fresh h ho hb1
  exact ⟨u, bag, _, mm, h1, hp, hs, View.start h1.row⟩
theorem Md.head {w : World} {base hb c : Nat} {A : Option Addr} {mm : List ByteArray} (h : Md w base hb A c mm) (h0 : 0 < mm.length) : ∃ ad, A = some ad ∧ w.cell? ad = some (.string (Base.get mm 0)) :=
  str_at h.reads.2 0 h0
theorem head_min {bag mm : List ByteArray} (hp : bag.Perm mm) (hs : Srt mm) (h0 : 0 < mm.length) {x : ByteArray} (hx : x ∈ bag) (hmin : ∀ y ∈ bag, lt y x = false) : Base.get mm 0 = x := by
  cases mm with
  | nil => simp at h0
  | cons y r =>
    have hy : Base.get (y :: r) 0 = y := rfl
    rw [hy]
    have h1 : lt x y = false := by
      rcases List.mem_cons.1 (hp.mem_iff.1 hx) with e | e
      · rw [e]; exact lt_irrefl _
      · exact (List.pairwise_cons.1 hs).1 _ e
    exact eq_of_le (hmin _ (hp.mem_iff.2 List.mem_cons_self)) h1
theorem pop_rest {bag bag' mm : List ByteArray} {x : ByteArray} (h : (bag' ++ [x]).Perm bag) (hp : bag.Perm mm) (h0 : 0 < mm.length) (e : Base.get mm 0 = x) : bag'.Perm (mm.drop 1) := by
  cases mm with
  | nil => simp at h0
  | cons y r =>
    have hy : Base.get (y :: r) 0 = y := rfl
    rw [hy] at e
    subst e
    exact (List.perm_cons _).1 (((List.perm_append_singleton _ bag').symm.trans h).trans hp)
theorem Md.pop {w : World} {base hb c : Nat} {A : Option Addr} {mm : List ByteArray} (h : Md w base hb A c mm) (h0 : 0 < mm.length) (hN : mm.length ≤ 1048576) :
    Calls Try.prog 16 #[.pointer (some ⟨hb, 0, none⟩)] w fun e w' => e = .returned (.tuple #[.string (Base.get mm 0), .bool true]) ∧ Md w' base hb (if c = 1 then A else A.map (·.add 1)) (c - 1) (mm.drop 1) ∧ Below base w w' := by
  obtain ⟨u, bag, o, r, h1, h2, h3, h4⟩ := h
  have hl := h2.length_eq
  refine (pop_calls h1.bag (fun e => by rw [e] at hl; simp at hl; omega) (by omega)).mono ?_
  rintro e w' ⟨x, u', bag', rfl, hB, hP, hmin, hM⟩
  have hx : x ∈ bag := hP.mem_iff.1 (List.mem_append_right _ (List.mem_singleton_self _))
  have e := head_min h2 h3 h0 hx hmin
  exact ⟨by rw [e], ⟨u', bag', o, r, h1.pop hM hB, pop_rest hP h2 h0 e, h3.sublist (List.drop_sublist _ _), h4.drop h0⟩, hM.below⟩
theorem Md.pop0 {w : World} {base hb c : Nat} {A : Option Addr} (h : Md w base hb A c []) :
    Calls Try.prog 16 #[.pointer (some ⟨hb, 0, none⟩)] w fun e w' => e = .returned (.tuple #[.string ⟨#[]⟩, .bool false]) ∧ w = w' := by
  obtain ⟨u, bag, o, r, h1, h2, h3, h4⟩ := h
  exact pop_empty h1.bag (List.perm_nil.1 h2)
theorem Md.peek {w : World} {base hb c : Nat} {A : Option Addr} {mm : List ByteArray} (h : Md w base hb A c mm) (h0 : 0 < mm.length) :
    Calls Try.prog 18 #[.pointer (some ⟨hb, 0, none⟩)] w fun e w' => e = .returned (.tuple #[.string (Base.get mm 0), .bool true]) ∧ w = w' := by
  obtain ⟨u, bag, o, r, h1, h2, h3, h4⟩ := h
  have hl := h2.length_eq
  refine (peek_calls h1.bag (fun e => by rw [e] at hl; simp at hl; omega)).mono ?_
  rintro e w' ⟨x, rfl, hx, hmin, rfl⟩
  exact ⟨by rw [head_min h2 h3 h0 hx hmin], rfl⟩
theorem Md.peek0 {w : World} {base hb c : Nat} {A : Option Addr} (h : Md w base hb A c []) :
    Calls Try.prog 18 #[.pointer (some ⟨hb, 0, none⟩)] w fun e w' => e = .returned (.tuple #[.string ⟨#[]⟩, .bool false]) ∧ w = w' := by
  obtain ⟨u, bag, o, r, h1, h2, h3, h4⟩ := h
  exact peek_empty h1.bag (List.perm_nil.1 h2)
theorem Md.pops {w : World} {base hb c : Nat} {A : Option Addr} {mm : List ByteArray} (h : Md w base hb A c mm) (h0 : 0 < mm.length) (hN : mm.length ≤ 1048576) :
    ∃ (mm1 : List ByteArray) (A1 : Option Addr) (c1 : Nat), (∀ W : World, (Instr.slice 26 (.slice A mm.length c) (some (.int .i64 1)) none none).run Try.prog W = .ok (.slice A1 mm1.length c1) W) ∧ mm1.length ≤ mm.length ∧
    Calls Try.prog 16 #[.pointer (some ⟨hb, 0, none⟩)] w fun e w' => e = .returned (.tuple #[.string (Base.get mm 0), .bool true]) ∧ Md w' base hb A1 c1 mm1 ∧ Below base w w' := by
  refine ⟨mm.drop 1, _, _, fun W => ?_, by rw [List.length_drop]; omega, Md.pop h h0 hN⟩
  have := slice_from A mm.length c 1 h0 W
  rw [List.length_drop]
  exact this
def tot (ss : List Step) (k : Nat) : Nat := ((ss.map fun s => s.h.l).take k).flatten.length
theorem tot_succ (ss : List Step) (k : Nat) (h : k < ss.length) : tot ss (k + 1) = tot ss k + (nth ss k).h.l.length := by
  unfold tot
  rw [List.take_succ_eq_append_getElem (by simpa using h), List.flatten_append, List.length_append]
  simp [nth, List.getD_eq_getElem?_getD, List.getElem?_eq_getElem h]
theorem tot_le (ss : List Step) (k : Nat) : tot ss k ≤ (ss.map fun s => s.h.l).flatten.length := by
  unfold tot
  have := List.take_append_drop k (ss.map fun s => s.h.l)
  generalize ss.map (fun s => s.h.l) = ls at *
  rw [← this, List.flatten_append, List.length_append, this]
  omega
theorem acts_ok {W : World} {a : Option Addr} {n : Nat} {l : List Step} (h : Acts W a n l) (j : Nat) (hj : j < n) : (nth l j).h.ok W := by
  obtain ⟨_, _, _, _, h4⟩ := Acts.at h j hj
  exact h4
theorem cell1 {W : World} {b : Nat} {k : Int} {h : Hd} (hb : W.heap[b]? = some (.cells #[.int .i64 k, .slice h.A h.l.length h.c] 41)) : W.cell? ⟨b, 1, none⟩ = some (.slice h.A h.l.length h.c) := by
  have := World.news_of_block (cs := #[.int .i64 k, .slice h.A h.l.length h.c]) (t := 41) (fr := (0, 0)) hb 1 _ rfl
  rwa [add_plain] at this
/-- Push: the heap has the strings, the list is as it was, and so is the block behind it. -/
theorem Md.push {wr w0 : World} {base hb c : Nat} {A : Option Addr} {mm : List ByteArray} (h : Md wr base hb A c mm) (hd : Hd) (o1 : Obj) (hok : hd.ok w0) (hbl : Below w0.heap.size w0 wr) (hle : w0.heap.size ≤ base) (hN : mm.length + hd.l.length ≤ 1048576) :
    Calls Try.prog 15 #[.pointer (some ⟨hb, 0, none⟩), .slice hd.A hd.l.length hd.c] (wr.alloc o1) fun e w' => e = .returned (.tuple #[]) ∧ (∃ u bag, Bag w' base hb u bag ∧ bag.Perm (mm ++ hd.l)) ∧ Hd.ok ⟨A, c, mm⟩ w' ∧ w'.heap[wr.heap.size]? = some o1 ∧ Below base wr w' := by
  obtain ⟨u, bag, o, r, h1, h2, h3, h4⟩ := h
  have ha := below_alloc (Below.refl wr.heap.size wr) o1
  obtain ⟨l1, l2, l3, l4⟩ := Bag.lt h1.bag
  have h5 := h1.below ha
  have hl := h2.length_eq
  have hb0 : Below w0.heap.size w0 (wr.alloc o1) := below_alloc hbl o1
  refine (push_calls h5.bag hd.A hd.l.length hd.c hd.l (fun w1 v1 hm => Kd.C_below hok.2 (hb0.trans (hm.below.mono hle))) (by omega)).mono ?_
  rintro e w' ⟨u', rfl, hB, hM⟩
  have h6 := h5.pop hM hB
  refine ⟨rfl, ⟨u', _, hB, h2.append_right _⟩, ⟨h4.1, h4.2 _ h6.row⟩, ?_, (ha.mono (by omega)).trans hM.below⟩
  rw [hM.keep wr.heap.size (by simp) (by omega) fun e => by have := l2 _ e.symm; omega]
  exact heap_alloc_new wr o1
set_option maxHeartbeats 8000000 in
set_option maxRecDepth 100000 in
theorem law_walk (A : Option Addr) (c : Nat) (l : List ByteArray) (B : Option Addr) (n d : Nat) (ss : List Step) (w : World) (hr : Hd.ok ⟨A, c, l⟩ w) (hs : Acts w B n ss) (hn : n ≤ 1048576) (hN : l.length + (ss.map fun s => s.h.l).flatten.length ≤ 1048576) :
    Calls Try.prog 6 #[.slice A l.length c, .slice B n d] w fun e w' => e = .returned (.bool true) ∧ Below w.heap.size w w' := by
  have NP := Lib.hid (Nils.nil_push (some ⟨w.heap.size, 0, none⟩) 1 1 (w.alloc (.cells #[.string ⟨#[97]⟩] 9)))
  have NO := Lib.hid Nils.nil_pop
  have NK := Lib.hid Nils.nil_peek
  have NL := Lib.hid Nils.nil_len
  have AL := Lib.hid alive_calls
  have HR := Lib.hid hr
  have HS := Lib.hid hs
  have P0 := Lib.hid (below_alloc (Below.refl w.heap.size w) (.cells #[.string ⟨#[97]⟩] 9))
  clear hr hs
  go_enter Try.func6, Try.ntmps6
  go_wp2_with fail
  refine NP.out.mono ?_
  rintro e w1 ⟨rfl, hw1⟩
  rw [hw1] at P0
  clear hw1
  go_wp2_with fail
  refine (NO.out w1).mono ?_
  rintro e w2 ⟨rfl, rfl⟩
  go_wp2_with fail
  refine (NK.out w1).mono ?_
  rintro e w2 ⟨rfl, rfl⟩
  go_wp2_with fail
  refine (NL.out w1).mono ?_
  rintro e w2 ⟨rfl, rfl⟩
  clear NP NO NK NL
  have n0 := Lib.hid (show n = ss.length from HS.out.1)
  have nm : n ≤ 9223372036854775807 := by omega
  go_wp2_with fail
  have q0 := Lib.hid (below_alloc (Below.refl w1.heap.size w1) (.cells #[.slice A l.length c] 26))
  have OW := Lib.hid (own_lit_hd w1 ⟨A, c, l⟩)
  have HS1 := Lib.hid (HS.out.below P0.out)
  have wb1 := P0.out.size
  go_loopw [10, 57] (fun v i wr => ∃ (k : Nat), k ≤ n ∧ i = .int .i64 k ∧ wr.ownsRow w1.heap.size 26 1 v ((⟨A, c, l⟩ : Hd) :: (ss.take k).map (·.h)).length (((⟨A, c, l⟩ : Hd) :: (ss.take k).map (·.h)).map Hd.val) ∧ Below w1.heap.size w1 wr) (fun _ i _ => n - (intOf i).toNat)
  case atStart => exact ⟨0, Nat.zero_le _, rfl, OW.out, q0.out⟩
  case round =>
    clear OW q0
    obtain ⟨k, hk, rfl, ho, hbe⟩ := hrel
    by_cases hlt : k < n
    · obtain ⟨ad, rfl, h1, h2, h3⟩ := Acts.at (HS1.out.below hbe) k hlt
      replace ho := Lib.hid ho
      replace h3 := Lib.hid h3
      replace hbe := Lib.hid hbe
      have TK := Lib.hid (show (ss.take (k + 1)).map (·.h) = (ss.take k).map (·.h) ++ [(nth ss k).h] from take_h ss k (by have := n0.out; omega))
      have hl := Lib.hid (show (((⟨A, c, l⟩ : Hd) :: (ss.take k).map (·.h)).length + 1) * 24 ≤ 140737488355328 by simp; omega)
      generalize nth ss k = st at *
      obtain ⟨kk, hh⟩ := st
      go_wp2_with (at_builtin; refine append_hds (w0 := w1) w1.heap.size rfl (.tmp 61) (.tmp 64) 22 rfl Try.underlying22 _ ((⟨A, c, l⟩ : Hd) :: (ss.take k).map (·.h)) _ 1 _ [hh] rfl rfl ?ho ?hr ?hB ?hb ?hl ?_; (case ho => exact pw_own_alloc2 ho.out _ _); (case hr => exact C_lit_hd2 _ _ hh); (case hB => exact below2 hbe.out _ _); (case hb => exact (below2 hbe.out _ _).size); (case hl => exact hl.out); intro v2 w2 ho2 hB2 hg2; replace ho2 := Lib.hid ho2; replace hB2 := Lib.hid hB2; clear hg2)
      have T := Lib.hid (show w2.ownsRow w1.heap.size 26 1 v2 ((⟨A, c, l⟩ : Hd) :: (ss.take (k + 1)).map (·.h)).length (((⟨A, c, l⟩ : Hd) :: (ss.take (k + 1)).map (·.h)).map Hd.val) from by rw [TK.out]; exact ho2.out)
      clear ho2 TK
      exact ⟨⟨k + 1, by omega, by go_num, T.out, hB2.out⟩, by simp [intOf]; omega⟩
    · have ek : ss.take k = ss := List.take_of_length_le (by have := n0.out; omega)
      have el : ((⟨A, c, l⟩ : Hd) :: ss.map (·.h)).length = ss.length + 1 := by simp
      rw [ek] at ho
      obtain ⟨A2, c2, e2, hcc⟩ := cc_own ho (by have := hd_all ss k HR.out HS.out (P0.out.trans (hbe.mono wb1)); rwa [ek] at this)
      rw [el] at e2 hcc
      subst e2
      have SC := Lib.hid (size_calls A2 (ss.length + 1) c2 _ wr hcc)
      clear ek el
      have q1 := Lib.hid (P0.out.trans (hbe.mono wb1))
      clear ho hbe hcc HS1 P0
      by_cases h100 : 100 < n
      · have e1 : (100 : Int) < (n : Int) := by omega
        go_wp2_with fail
        refine (AL.out _).mono ?_
        rintro e w3 ⟨rfl, hb3⟩
        have hb4 := Lib.hid (Assoc.Below.up q1.out hb3)
        clear hb3
        go_wp2
        go_ret
        exact ⟨rfl, hb4.out⟩
      have e1 : ¬ (100 : Int) < (n : Int) := by omega
      go_wp2_with fail
      refine SC.out.mono ?_
      rintro e w2 ⟨⟨sz, rfl⟩, hd2⟩
      have q2 := Lib.hid (Assoc.Below.up q1.out hd2.below)
      clear hd2 SC q1
      by_cases h5 : 5000 < sz
      · go_wp2_with fail
        refine (AL.out _).mono ?_
        rintro e w3 ⟨rfl, hb3⟩
        have hb4 := Lib.hid (Assoc.Below.up q2.out hb3)
        clear hb3
        go_wp2
        go_ret
        exact ⟨rfl, hb4.out⟩
      have NC := Lib.hid (new_calls A l.length c l w2 (Kd.C_below HR.out.2 q2.out) (by omega))
      go_wp2_with fail
      refine NC.out.mono ?_
      rintro e w3 ⟨hb, u3, rfl, hB3, bz⟩
      have q3 := Lib.hid (Assoc.Below.up q2.out bz)
      have wb2 := q2.out.size
      have B3 := Lib.hid hB3
      have RC := Lib.hid (refmerge_hds w3 [⟨A, c, l⟩] (ok1 (okb HR.out q3.out)) (by simp) (by simp; omega) 1)
      clear hB3 bz NC
      go_wp2_with fail
      refine RC.out.mono ?_
      rintro e w4 ⟨A4, c4, r4, rfl, ho4, hs4, hp4, bz⟩
      have hp4' : r4.Perm l := by simpa using hp4
      have M4 := Lib.hid (Md.start B3.out ho4 hs4 hp4'.symm bz)
      have q4 := Lib.hid (Assoc.Below.up q3.out bz)
      have l4 := Lib.hid (show r4.length ≤ l.length + tot ss 0 by have := hp4'.length_eq; simp; omega)
      clear ho4 hs4 hp4 hp4' bz RC B3 q3 q2
      go_wp2_with fail
      have HN := Lib.hid (fun k => (show l.length + tot ss k ≤ 1048576 by have := tot_le ss k; omega))
      have ht := Lib.hid (fun k (h : k < n) => tot_succ ss k (by have := n0.out; omega))
      have wb3 : w.heap.size ≤ w2.heap.size := wb2
      clear hN wb1
      go_loopw [14, 85] (fun v i wr => ∃ (k : Nat) (mm : List ByteArray) (A' : Option Addr) (c' : Nat), k ≤ n ∧ i = .int .i64 k ∧ v = .slice A' mm.length c' ∧ Md wr w2.heap.size hb A' c' mm ∧ mm.length ≤ l.length + tot ss k ∧ Below w.heap.size w wr) (fun _ i _ => n - (intOf i).toNat)
      case atStart => exact ⟨0, r4, A4, c4, Nat.zero_le _, rfl, rfl, M4.out, l4.out, q4.out⟩
      case round =>
        clear M4 q4 l4 hlt
        obtain ⟨k, mm, A', c', hk, rfl, rfl, hM, hml, hbe⟩ := hrel
        by_cases hlt : k < n
        · obtain ⟨ad, rfl, h1, h2, h3⟩ := Acts.at (HS.out.below hbe) k hlt
          have h4 := acts_ok HS.out k hlt
          have hts := ht.out k hlt
          have hN1 := HN.out (k + 1)
          generalize nth ss k = st at *
          obtain ⟨kk, hh⟩ := st
          dsimp only at h1 h2 h3 h4 hts
          replace h4 := Lib.hid h4
          have hml1 := Lib.hid hml
          have hbd := Lib.hid (show mm.length + hh.l.length ≤ 1048576 ∧ mm.length ≤ 1048576 ∧ mm.length + hh.l.length ≤ l.length + tot ss (k + 1) by omega)
          clear h3 hts hN1 hml hk
          by_cases k0 : kk = 0
          · subst k0
            have PU := Lib.hid (Md.push hM hh (.cells #[.int .i64 0, .slice hh.A hh.l.length hh.c] 41) h4.out hbe wb3 hbd.out.1)
            by_cases hm0 : 0 < mm.length
            · obtain ⟨ad2, rfl, hx⟩ := hM.head hm0
              have hp : (0 : Int) < (mm.length : Int) := by omega
              have hx1 := pw_cell_below (below_alloc (Below.refl wr.heap.size wr) (.cells #[.int .i64 0, .slice hh.A hh.l.length hh.c] 41)) hx
              clear hx
              replace hbe := Lib.hid hbe
              replace hM := Lib.hid hM
              generalize Base.get mm 0 = x at *
              go_wp2_with fail
              refine PU.out.mono ?_
              rintro e w6 ⟨rfl, ⟨u6, bag6, hB6, hP6⟩, hok6, hblk, hbe6⟩
              have cc1 := cell1 hblk
              have q6 := Lib.hid (hbe.out.trans (hbe6.mono wb3))
              have RC := Lib.hid (refmerge_hds w6 [⟨some ad2, c', mm⟩, hh] (ok2 hok6 (okb h4.out q6.out)) (by simp) (by have := hbd.out.1; simp; omega) 2)
              have B6 := Lib.hid (And.intro hB6 hP6)
              clear hB6 hP6 hok6 hblk hbe6 PU hM hbe
              go_wp2_with fail
              refine RC.out.mono ?_
              rintro e w7 ⟨A7, c7, r7, rfl, ho7, hs7, hp7, bz⟩
              have hp7' : r7.Perm (mm ++ hh.l) := by simpa using hp7
              have M7 := Md.start B6.out.1 ho7 hs7 (B6.out.2.trans hp7'.symm) bz
              have LC := Lib.hid M7.len
              have l7 : r7.length ≤ l.length + tot ss (k + 1) := by have := hp7'.length_eq; have := hbd.out.2.2; simp at *; omega
              have T := Lib.hid (And.intro M7 (And.intro l7 (Assoc.Below.up q6.out bz)))
              clear ho7 hs7 hp7 hp7' bz M7 l7 RC B6 q6
              go_wp2_with fail
              refine LC.out.mono ?_
              rintro e w8 ⟨rfl, rfl⟩
              go_wp2
              exact ⟨⟨k + 1, r7, A7, c7, by omega, by go_num, rfl, T.out.1, T.out.2.1, T.out.2.2⟩, by simp [intOf]; omega⟩
            · obtain rfl : mm = [] := List.eq_nil_of_length_eq_zero (by omega)
              replace hbe := Lib.hid hbe
              replace hM := Lib.hid hM
              go_wp2_with fail
              refine PU.out.mono ?_
              rintro e w6 ⟨rfl, ⟨u6, bag6, hB6, hP6⟩, hok6, hblk, hbe6⟩
              have cc1 := cell1 hblk
              have q6 := Lib.hid (hbe.out.trans (hbe6.mono wb3))
              have RC := Lib.hid (refmerge_hds w6 [⟨A', c', []⟩, hh] (ok2 hok6 (okb h4.out q6.out)) (by simp) (by have := hbd.out.1; simp at this ⊢; omega) 2)
              have B6 := Lib.hid (And.intro hB6 hP6)
              clear hB6 hP6 hok6 hblk hbe6 PU hM hbe
              go_wp2_with fail
              refine RC.out.mono ?_
              rintro e w7 ⟨A7, c7, r7, rfl, ho7, hs7, hp7, bz⟩
              have hp7' : r7.Perm ([] ++ hh.l) := by simpa using hp7
              have M7 := Md.start B6.out.1 ho7 hs7 (B6.out.2.trans hp7'.symm) bz
              have LC := Lib.hid M7.len
              have l7 : r7.length ≤ l.length + tot ss (k + 1) := by have := hp7'.length_eq; have := hbd.out.2.2; simp at *; omega
              have T := Lib.hid (And.intro M7 (And.intro l7 (Assoc.Below.up q6.out bz)))
              clear ho7 hs7 hp7 hp7' bz M7 l7 RC B6 q6
              go_wp2_with fail
              refine LC.out.mono ?_
              rintro e w8 ⟨rfl, rfl⟩
              go_wp2
              exact ⟨⟨k + 1, r7, A7, c7, by omega, by go_num, rfl, T.out.1, T.out.2.1, T.out.2.2⟩, by simp [intOf]; omega⟩
          by_cases k1 : kk = 1
          · subst k1
            by_cases hm0 : 0 < mm.length
            · obtain ⟨ad2, rfl, hx⟩ := hM.head hm0
              have hp : (0 : Int) < (mm.length : Int) := by omega
              have hx1 := pw_cell_below (below_alloc (Below.refl wr.heap.size wr) (.cells #[.int .i64 1, .slice hh.A hh.l.length hh.c] 41)) hx
              clear hx
              replace hbe := Lib.hid hbe
              replace hM := Lib.hid hM
              obtain ⟨mm1, A1, c1, hs2, hl1, PP⟩ := (hM.out.below (below_alloc (Below.refl wr.heap.size wr) (.cells #[.int .i64 1, .slice hh.A hh.l.length hh.c] 41))).pops hm0 hbd.out.2.1
              replace PP := Lib.hid PP
              replace hl1 := Lib.hid hl1
              generalize Base.get mm 0 = x at *
              clear hM
              go_wp2_with fail
              refine PP.out.mono ?_
              rintro e w6 ⟨rfl, M6, hb6⟩
              have LC := Lib.hid M6.len
              have T := Lib.hid (And.intro M6 (And.intro (show mm1.length ≤ l.length + tot ss (k + 1) by have := hbd.out.2.2; have := hl1.out; omega) ((below_alloc hbe.out (.cells #[.int .i64 1, .slice hh.A hh.l.length hh.c] 41)).trans (hb6.mono wb3))))
              clear M6 hb6 PP hl1 hbd
              go_wp2_with fail
              refine LC.out.mono ?_
              rintro e w8 ⟨rfl, rfl⟩
              go_wp2
              exact ⟨⟨k + 1, mm1, A1, c1, by omega, by go_num, rfl, T.out.1, T.out.2.1, T.out.2.2⟩, by simp [intOf]; omega⟩
            · obtain rfl : mm = [] := List.eq_nil_of_length_eq_zero (by omega)
              replace hbe := Lib.hid hbe
              replace hM := Lib.hid hM
              have M6 := hM.out.below (below_alloc (Below.refl wr.heap.size wr) (.cells #[.int .i64 1, .slice hh.A hh.l.length hh.c] 41))
              have PP := Lib.hid (M6.pop0)
              have LC := Lib.hid M6.len
              have T := Lib.hid (And.intro M6 (And.intro (show ([] : List ByteArray).length ≤ l.length + tot ss (k + 1) by simp) (below_alloc hbe.out (.cells #[.int .i64 1, .slice hh.A hh.l.length hh.c] 41))))
              clear M6 hbe hM hbd
              go_wp2_with fail
              refine PP.out.mono ?_
              rintro e w6 ⟨rfl, rfl⟩
              go_wp2_with fail
              refine LC.out.mono ?_
              rintro e w8 ⟨rfl, rfl⟩
              go_wp2
              exact ⟨⟨k + 1, [], A', c', by omega, by go_num, rfl, T.out.1, T.out.2.1, T.out.2.2⟩, by simp [intOf]; omega⟩
          · by_cases hm0 : 0 < mm.length
            · obtain ⟨ad2, rfl, hx⟩ := hM.head hm0
              have hp : (0 : Int) < (mm.length : Int) := by omega
              have hx1 := pw_cell_below (below_alloc (Below.refl wr.heap.size wr) (.cells #[.int .i64 kk, .slice hh.A hh.l.length hh.c] 41)) hx
              clear hx
              replace hbe := Lib.hid hbe
              replace hM := Lib.hid hM
              have M6 := hM.out.below (below_alloc (Below.refl wr.heap.size wr) (.cells #[.int .i64 kk, .slice hh.A hh.l.length hh.c] 41))
              have PP := Lib.hid (M6.peek hm0)
              have LC := Lib.hid M6.len
              have T := Lib.hid (And.intro M6 (And.intro (show (mm : List ByteArray).length ≤ l.length + tot ss (k + 1) by have := hbd.out.2.2; simp at *; omega) (below_alloc hbe.out (.cells #[.int .i64 kk, .slice hh.A hh.l.length hh.c] 41))))
              clear M6 hbe hM hbd
              generalize Base.get mm 0 = x at *
              go_wp2_with fail
              refine PP.out.mono ?_
              rintro e w6 ⟨rfl, rfl⟩
              go_wp2_with fail
              refine LC.out.mono ?_
              rintro e w8 ⟨rfl, rfl⟩
              go_wp2
              exact ⟨⟨k + 1, mm, (some ad2), c', by omega, by go_num, rfl, T.out.1, T.out.2.1, T.out.2.2⟩, by simp [intOf]; omega⟩
            · obtain rfl : mm = [] := List.eq_nil_of_length_eq_zero (by omega)
              replace hbe := Lib.hid hbe
              replace hM := Lib.hid hM
              have M6 := hM.out.below (below_alloc (Below.refl wr.heap.size wr) (.cells #[.int .i64 kk, .slice hh.A hh.l.length hh.c] 41))
              have PP := Lib.hid (M6.peek0)
              have LC := Lib.hid M6.len
              have T := Lib.hid (And.intro M6 (And.intro (show ([] : List ByteArray).length ≤ l.length + tot ss (k + 1) by simp) (below_alloc hbe.out (.cells #[.int .i64 kk, .slice hh.A hh.l.length hh.c] 41))))
              clear M6 hbe hM hbd
              go_wp2_with fail
              refine PP.out.mono ?_
              rintro e w6 ⟨rfl, rfl⟩
              go_wp2_with fail
              refine LC.out.mono ?_
              rintro e w8 ⟨rfl, rfl⟩
              go_wp2
              exact ⟨⟨k + 1, [], A', c', by omega, by go_num, rfl, T.out.1, T.out.2.1, T.out.2.2⟩, by simp [intOf]; omega⟩
        · have T := Lib.hid hbe
          clear hM hml hbe
          go_wp2_with fail
          refine (AL.out _).mono ?_
          rintro e w9 ⟨rfl, bz⟩
          have q9 := Lib.hid (Assoc.Below.up T.out bz)
          clear bz T
          go_wp2
          go_ret
          exact ⟨rfl, q9.out⟩
end Go.Proofs.Ytiibkhogahdeiaa.Called
