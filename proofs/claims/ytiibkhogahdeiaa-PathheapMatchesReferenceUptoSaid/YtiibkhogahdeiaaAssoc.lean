/- The walk of PathheapMergeIsAssociative. -/
import Derived.Test.YtiibkhogahdeiaaAlive
namespace Go.Proofs.Ytiibkhogahdeiaa.Assoc
open Go.RowKit Go.Proofs.YtiibkhogahdeiaaW.PrintWords Go.Proofs.YtiibkhogahdeiaaW.PrintLast Go.Proofs.YtiibkhogahdeiaaW.PrintMore Go.Proofs.Ytiibkhogahdeiaa.Base Go.Proofs.Ytiibkhogahdeiaa.Plain Go.Proofs.Ytiibkhogahdeiaa.Sift Go.Proofs.Ytiibkhogahdeiaa.Ops Go.Proofs.Ytiibkhogahdeiaa.Methods Go.Proofs.Ytiibkhogahdeiaa.Sorted Go.Proofs.Ytiibkhogahdeiaa.Refs Go.Proofs.Ytiibkhogahdeiaa.RefMerge Go.Proofs.Ytiibkhogahdeiaa.Merge Go.Proofs.Ytiibkhogahdeiaa.Other Go.Proofs.Ytiibkhogahdeiaa.Alive
theorem okb {h : Hd} {w w1 : World} (hk : h.ok w) (hb : Below w.heap.size w w1) : h.ok w1 := ⟨hk.1, Kd.C_below hk.2 hb⟩
/-- Merge of a literal row of rows. -/
theorem merge_hds (W : World) (hs : List Hd) (h : ∀ x ∈ hs, x.ok W) (hl : hs.length ≤ 9223372036854775807) (hN : (hs.map Hd.l).flatten.length < 8796093022207) (c : Nat) :
    Calls Try.prog 12 #[.slice (some ⟨W.heap.size, 0, none⟩) hs.length c] (W.alloc (.cells (hs.map Hd.val).toArray 26)) fun e w' => ∃ r : Hd, e = .returned (.slice r.A r.l.length r.c) ∧ r.ok w' ∧ Srt r.l ∧ r.l.Perm (hs.map Hd.l).flatten ∧ Below W.heap.size W w' := by
  refine (merge_calls _ hs.length c _ _ (CC_lits W hs h hl) hN).mono ?_
  rintro e w' ⟨v, r, rfl, ho, hs', hp, hb⟩
  obtain ⟨A, c', rfl, hc, hC⟩ := own_strs ho
  exact ⟨⟨A, c', r⟩, rfl, ⟨hc, hC⟩, hs', hp, (below_alloc (Below.refl W.heap.size W) _).trans (hb.mono (below_alloc (Below.refl W.heap.size W) _).size)⟩
theorem Below.up {a b c : World} (h : Below a.heap.size a b) (h' : Below b.heap.size b c) : Below a.heap.size a c := h.trans (h'.mono h.size)
theorem size_hds (W : World) (hs : List Hd) (h : ∀ x ∈ hs, x.ok W) (hl : hs.length ≤ 9223372036854775807) (c : Nat) :
    Calls Try.prog 9 #[.slice (some ⟨W.heap.size, 0, none⟩) hs.length c] (W.alloc (.cells (hs.map Hd.val).toArray 26)) fun e w' => ∃ k : Int, e = .returned (.int .i64 k) ∧ Below W.heap.size W w' := by
  refine (size_calls _ hs.length c _ _ (CC_lits W hs h hl)).mono ?_
  rintro e w' ⟨⟨k, rfl⟩, hd⟩
  exact ⟨k, rfl, Below.up (below_alloc (Below.refl W.heap.size W) _) hd.below⟩
theorem ok1 {x : Hd} {W : World} (h : x.ok W) : ∀ z ∈ [x], z.ok W := by
  intro z hz
  rw [List.mem_singleton.1 hz]; exact h
theorem ok2 {x y : Hd} {W : World} (h : x.ok W) (h' : y.ok W) : ∀ z ∈ [x, y], z.ok W := by
  intro z hz
  rcases List.mem_cons.1 hz with rfl | hz
  · exact h
  · exact ok1 h' z hz
theorem ok3 {x y u : Hd} {W : World} (h : x.ok W) (h' : y.ok W) (h'' : u.ok W) : ∀ z ∈ [x, y, u], z.ok W := by
  intro z hz
  rcases List.mem_cons.1 hz with rfl | hz
  · exact h
  · exact ok2 h' h'' z hz
theorem three {l0 l1 l2 x y y2 z v z2 : List ByteArray} (sx : Srt x) (px : x.Perm [l0, l1, l2].flatten) (py : y.Perm [l2, l0].flatten) (sy : Srt y2) (py2 : y2.Perm [y, l1].flatten) (pz : z.Perm [l1].flatten) (pv : v.Perm [l0, l2].flatten) (sz : Srt z2) (pz2 : z2.Perm [z, v].flatten) : x = y2 ∧ x = z2 := by
  simp only [List.flatten_cons, List.flatten_nil, List.append_nil] at px py py2 pz pv pz2
  constructor
  · refine srt_unique sx sy (px.trans ?_)
    refine List.Perm.trans ?_ (py2.trans (py.append_right l1)).symm
    refine List.Perm.trans ?_ (List.perm_append_comm.append_right l1)
    rw [List.append_assoc]
    exact List.Perm.append_left l0 List.perm_append_comm
  · refine srt_unique sx sz (px.trans ?_)
    refine List.Perm.trans ?_ (pz2.trans (pz.append pv)).symm
    rw [← List.append_assoc, ← List.append_assoc]
    exact (List.perm_append_comm (l₁ := l0) (l₂ := l1)).append_right l2
set_option maxHeartbeats 8000000 in
set_option maxRecDepth 100000 in
theorem law_walk (A0 : Option Addr) (c0 : Nat) (l0 : List ByteArray) (A1 : Option Addr) (c1 : Nat) (l1 : List ByteArray) (A2 : Option Addr) (c2 : Nat) (l2 : List ByteArray) (w : World)
    (k0 : Hd.ok ⟨A0, c0, l0⟩ w) (k1 : Hd.ok ⟨A1, c1, l1⟩ w) (k2 : Hd.ok ⟨A2, c2, l2⟩ w) (hN : l0.length + l1.length + l2.length < 8796093022207) :
    Calls Try.prog 8 #[.slice A0 l0.length c0, .slice A1 l1.length c1, .slice A2 l2.length c2] w fun e w' => e = .returned (.bool true) ∧ Below w.heap.size w w' := by
  have SC := Lib.hid (size_hds w [⟨A0, c0, l0⟩, ⟨A1, c1, l1⟩, ⟨A2, c2, l2⟩] (by intro x hx; simp only [List.mem_cons, List.not_mem_nil, or_false] at hx; rcases hx with rfl | rfl | rfl <;> assumption) (by simp) 3)
  have AL := Lib.hid alive_calls
  replace k0 := Lib.hid k0
  replace k1 := Lib.hid k1
  replace k2 := Lib.hid k2
  go_enter Try.func8, Try.ntmps8
  go_wp2_with fail
  refine SC.out.mono ?_
  rintro e w1 ⟨k, rfl, hb1⟩
  replace hb1 := Lib.hid hb1
  clear SC
  by_cases hk : 3000 < k
  · go_wp2_with fail
    refine (AL.out _).mono ?_
    rintro e w3 ⟨rfl, hb3⟩
    have hb4 := Lib.hid (Below.up hb1.out hb3)
    clear hb3
    go_wp2
    go_ret
    exact ⟨rfl, hb4.out⟩
  · go_wp2_with fail
    have q0 := Lib.hid (hb1.out)
    have M1 := Lib.hid (merge_hds w1 [⟨A0, c0, l0⟩, ⟨A1, c1, l1⟩, ⟨A2, c2, l2⟩] (ok3 (okb k0.out q0.out) (okb k1.out q0.out) (okb k2.out q0.out)) (by simp) (by simp; omega) 3)
    refine M1.out.mono ?_
    rintro e w2 ⟨⟨Ax, cx, x⟩, rfl, hx, sx, px, bx⟩
    have q1 := Lib.hid (Below.up q0.out bx)
    have X := Lib.hid (And.intro hx (And.intro sx px))
    clear hx sx px bx M1 q0
    have M2 := Lib.hid (merge_hds w2 [⟨A2, c2, l2⟩, ⟨A0, c0, l0⟩] (ok2 (okb k2.out q1.out) (okb k0.out q1.out)) (by simp) (by simp; omega) 2)
    go_wp2_with fail
    refine M2.out.mono ?_
    rintro e w3 ⟨⟨Ay, cy, y⟩, rfl, hy, sy, py, bz⟩
    have q2 := Lib.hid (Below.up q1.out bz)
    have x3 := Lib.hid (okb X.out.1 bz)
    have ly := py.length_eq
    simp only [List.map_cons, List.map_nil, List.flatten_cons, List.flatten_nil, List.length_append, List.length_nil] at ly
    have M3 := Lib.hid (merge_hds w3 [⟨Ay, cy, y⟩, ⟨A1, c1, l1⟩] (ok2 (hy) (okb k1.out q2.out)) (by simp) (by simp; omega) 2)
    have PY := Lib.hid py
    clear hy sy py bz M2 q1 ly
    go_wp2_with fail
    refine M3.out.mono ?_
    rintro e w4 ⟨⟨Ay2, cy2, y2⟩, rfl, hy, sy, py, bz⟩
    have q3 := Lib.hid (Below.up q2.out bz)
    have x4 := Lib.hid (okb x3.out bz)
    have Y := Lib.hid (And.intro hy (And.intro sy py))
    clear hy sy py bz M3 q2 x3
    have M4 := Lib.hid (merge_hds w4 [⟨A1, c1, l1⟩] (ok1 (okb k1.out q3.out)) (by simp) (by simp; omega) 1)
    go_wp2_with fail
    refine M4.out.mono ?_
    rintro e w5 ⟨⟨Az, cz, z⟩, rfl, hz, sz, pz, bz⟩
    have q4 := Lib.hid (Below.up q3.out bz)
    have x5 := Lib.hid (okb x4.out bz)
    have y5 := Lib.hid (okb Y.out.1 bz)
    have Z := Lib.hid (And.intro hz (And.intro sz pz))
    clear hz sz pz bz M4 q3 x4
    have M5 := Lib.hid (merge_hds w5 [⟨A0, c0, l0⟩, ⟨A2, c2, l2⟩] (ok2 (okb k0.out q4.out) (okb k2.out q4.out)) (by simp) (by simp; omega) 2)
    go_wp2_with fail
    refine M5.out.mono ?_
    rintro e w6 ⟨⟨Av, cv, v⟩, rfl, hv, sv, pv, bz⟩
    have q5 := Lib.hid (Below.up q4.out bz)
    have x6 := Lib.hid (okb x5.out bz)
    have y6 := Lib.hid (okb y5.out bz)
    have z6 := Lib.hid (okb Z.out.1 bz)
    have lz := Z.out.2.2.length_eq
    have lv := pv.length_eq
    simp only [List.map_cons, List.map_nil, List.flatten_cons, List.flatten_nil, List.length_append, List.length_nil] at lz lv
    have M6 := Lib.hid (merge_hds w6 [⟨Az, cz, z⟩, ⟨Av, cv, v⟩] (ok2 (z6.out) (hv)) (by simp) (by simp; omega) 2)
    have PV := Lib.hid pv
    clear hv sv pv bz M5 q4 x5 y5 z6 lz lv
    go_wp2_with fail
    refine M6.out.mono ?_
    rintro e w7 ⟨⟨Az2, cz2, z2⟩, rfl, hz, sz, pz, bz⟩
    have q6 := Lib.hid (Below.up q5.out bz)
    have x7 := Lib.hid (okb x6.out bz)
    have y7 := Lib.hid (okb y6.out bz)
    have Z2 := Lib.hid (And.intro hz (And.intro sz pz))
    clear hz sz pz bz M6 q5 x6 y6
    obtain ⟨e1, e2⟩ := three X.out.2.1 X.out.2.2 PY.out Y.out.2.1 Y.out.2.2 Z.out.2.2 PV.out Z2.out.2.1 Z2.out.2.2
    dsimp only at e1 e2
    subst e1
    subst e2
    have lx := X.out.2.2.length_eq
    simp only [List.map_cons, List.map_nil, List.flatten_cons, List.flatten_nil, List.length_append, List.length_nil] at lx
    replace lx : x.length = l0.length + l1.length + l2.length := by omega
    have CX := Lib.hid (fun (W : World) (A : Option Addr) (c : Nat) (h : Hd.ok ⟨A, c, x⟩ W) => (show Kd.C Kd.string W A (l0.length + l1.length + l2.length) x by rw [← lx]; exact h.2))
    go_wp2_with fail
    refine (AL.out _).mono ?_
    rintro e w8 ⟨rfl, bz⟩
    have q7 := Lib.hid (Below.up q6.out bz)
    have EY := Lib.hid (equal_same Ax Ay2 (l0.length + l1.length + l2.length) cx cy2 x _ (CX.out _ Ax cx (okb x7.out bz)) (CX.out _ Ay2 cy2 (okb y7.out bz)))
    have x8 := Lib.hid (okb x7.out bz)
    have z8 := Lib.hid (okb Z2.out.1 bz)
    clear bz q6 x7 y7
    go_wp2_with fail
    refine EY.out.mono ?_
    rintro e w9 ⟨rfl, bz⟩
    have q8 := Lib.hid (Below.up q7.out bz)
    have EZ := Lib.hid (equal_same Ax Az2 (l0.length + l1.length + l2.length) cx cz2 x _ (CX.out _ Ax cx (okb x8.out bz)) (CX.out _ Az2 cz2 (okb z8.out bz)))
    have x9 := Lib.hid (okb x8.out bz)
    clear bz q7 x8 z8
    go_wp2_with fail
    refine EZ.out.mono ?_
    rintro e w10 ⟨rfl, bz⟩
    have q9 := Lib.hid (Below.up q8.out bz)
    have SO := Lib.hid (sorted_calls Ax (l0.length + l1.length + l2.length) cx x _ (CX.out _ Ax cx (okb x9.out bz)) X.out.2.1)
    clear bz q8 x9
    go_wp2_with fail
    refine SO.out.mono ?_
    rintro e w11 ⟨rfl, bz⟩
    have q10 := Lib.hid (Below.up q9.out bz)
    clear bz
    go_wp2
    go_ret
    exact ⟨rfl, q10.out⟩
end Go.Proofs.Ytiibkhogahdeiaa.Assoc
