/- What a call of the law's alive answers. -/
import Derived.Test.YtiibkhogahdeiaaOther
namespace Go.Proofs.Ytiibkhogahdeiaa.Alive
open Go.RowKit Go.Proofs.YtiibkhogahdeiaaW.PrintWords Go.Proofs.YtiibkhogahdeiaaW.PrintLast Go.Proofs.YtiibkhogahdeiaaW.PrintMore Go.Proofs.Ytiibkhogahdeiaa.Base Go.Proofs.Ytiibkhogahdeiaa.Plain Go.Proofs.Ytiibkhogahdeiaa.Sift Go.Proofs.Ytiibkhogahdeiaa.Ops Go.Proofs.Ytiibkhogahdeiaa.Methods Go.Proofs.Ytiibkhogahdeiaa.Sorted Go.Proofs.Ytiibkhogahdeiaa.Refs Go.Proofs.Ytiibkhogahdeiaa.RefMerge Go.Proofs.Ytiibkhogahdeiaa.Merge Go.Proofs.Ytiibkhogahdeiaa.Other
/-- A literal row of strings. -/
theorem C_lits (W : World) (l : List ByteArray) (hl : l.length ≤ maxLen) : Kd.C Kd.string (W.alloc (.cells (strs l).toArray 9)) (some ⟨W.heap.size, 0, none⟩) l.length l := by
  have := World.ownsRow_lit (base := 0) (e := 9) (size := 1) W (strs l).toArray l.length (Nat.zero_le _) hl (by simp [strs])
  obtain ⟨A, c, e, _, hC⟩ := own_strs (xs := l) (n := l.length) (by simpa using this)
  cases e
  exact hC
/-- A row's header. -/
structure Hd where
  A : Option Addr
  c : Nat
  l : List ByteArray
def Hd.val (h : Hd) : Value := .slice h.A h.l.length h.c
def Hd.ok (h : Hd) (W : World) : Prop := h.l.length ≤ h.c ∧ Kd.C Kd.string W h.A h.l.length h.l
/-- A literal row of rows. -/
theorem CC_lits (W : World) (hs : List Hd) (h : ∀ x ∈ hs, x.ok W) (hl : hs.length ≤ 9223372036854775807) : CC (W.alloc (.cells (hs.map Hd.val).toArray 26)) (some ⟨W.heap.size, 0, none⟩) hs.length (hs.map Hd.l) := by
  refine ⟨by simp, hl, fun _ => ⟨_, rfl, fun j p hj => ?_⟩⟩
  rw [List.getElem?_map] at hj
  obtain ⟨x, hx, rfl⟩ := Option.map_eq_some_iff.1 hj
  obtain ⟨h1, h2⟩ := h x (List.mem_of_getElem? hx)
  refine ⟨[x.val], rfl, ⟨x.A, x.c, rfl, h1, Kd.C_alloc h2 _⟩, fun i u hu => ?_⟩
  have hnews : ∀ j u, (hs.map Hd.val)[j]? = some u → (W.alloc (.cells (hs.map Hd.val).toArray 26)).cell? ((⟨W.heap.size, 0, none⟩ : Addr).add j) = some u :=
    fun j u hu => World.news_of_block (cs := (hs.map Hd.val).toArray) (t := 26) (fr := (0, 0)) (heap_alloc_new W _) j u (by simpa using hu)
  cases i with
  | zero =>
    have : u = x.val := by simpa using hu.symm
    subst this
    have := hnews j x.val (by rw [List.getElem?_map, hx]; rfl)
    have e : j * (Kd.slice 9 Kd.string).sz + 0 = j := by rw [Nat.add_zero]; exact Nat.mul_one j
    rw [e]; exact this
  | succ i => simp at hu
def sa : ByteArray := ⟨#[97]⟩
def sb : ByteArray := ⟨#[98]⟩
def sc : ByteArray := ⟨#[99]⟩
theorem la : sa.toList = [97] := by decide +kernel
theorem srt_abc : Srt [sa, sb, sc] := by
  unfold Srt
  simp only [List.pairwise_cons, List.mem_cons, List.not_mem_nil, or_false, forall_eq_or_imp, forall_eq, false_implies, implies_true, List.Pairwise.nil, and_true]
  exact ⟨⟨by decide +kernel, by decide +kernel⟩, by decide +kernel⟩
theorem least_abc {x : ByteArray} {bag : List ByteArray} (hp : (bag ++ [x]).Perm [sc, sa, sb]) (hm : ∀ y ∈ [sc, sa, sb], lt y x = false) : x = sa ∧ bag.length = 2 := by
  have hl := hp.length_eq
  rw [List.length_append] at hl
  refine ⟨?_, by simpa using hl⟩
  have hx : x ∈ [sc, sa, sb] := hp.mem_iff.1 (List.mem_append_right _ (List.mem_singleton_self _))
  have ha := hm sa (by simp)
  rcases List.mem_cons.1 hx with rfl | hx
  · exact absurd ha (by decide +kernel)
  rcases List.mem_cons.1 hx with rfl | hx
  · rfl
  · rw [List.mem_singleton.1 hx] at ha
    exact absurd ha (by decide +kernel)
theorem merged {r : List ByteArray} (hs : Srt r) (hp : r.Perm [sa, sc, sb]) : r = [sa, sb, sc] :=
  srt_unique hs srt_abc (hp.trans ((List.Perm.swap sb sc []).cons sa))
theorem cc_alive (w2 : World) : CC (((w2.alloc (.cells #[.string ⟨#[97]⟩, .string ⟨#[99]⟩] 9)).alloc (.cells #[.string ⟨#[98]⟩] 9)).alloc (.cells #[.slice (some ⟨w2.heap.size, 0, none⟩) 2 2, .slice (some ⟨w2.heap.size + 1, 0, none⟩) 1 1] 26)) (some ⟨w2.heap.size + 1 + 1, 0, none⟩) 2 [[sa, sc], [sb]] := by
  have s1 : ∀ (W : World) (o : Obj), (W.alloc o).heap.size = W.heap.size + 1 := by intro W o; simp
  have c1 := C_lits w2 [sa, sc] (by decide)
  have c2 := C_lits (w2.alloc (.cells (strs [sa, sc]).toArray 9)) [sb] (by decide)
  have := CC_lits ((w2.alloc (.cells (strs [sa, sc]).toArray 9)).alloc (.cells (strs [sb]).toArray 9)) [⟨some ⟨w2.heap.size, 0, none⟩, 2, [sa, sc]⟩, ⟨some ⟨w2.heap.size + 1, 0, none⟩, 1, [sb]⟩] (by
    intro x hx
    rcases List.mem_cons.1 hx with rfl | hx
    · exact ⟨Nat.le_refl _, Kd.C_alloc c1 _⟩
    · rw [List.mem_singleton.1 hx]
      rw [s1] at c2
      exact ⟨Nat.le_refl _, c2⟩) (by simp)
  rw [s1, s1] at this
  exact this
set_option maxHeartbeats 4000000 in
set_option maxRecDepth 100000 in
theorem alive_calls (w : World) : Calls Try.prog 10 #[] w fun e w' => e = .returned (.bool true) ∧ Below w.heap.size w w' := by
  go_enter Try.func10, Try.ntmps10
  go_wp2_with fail
  have C0 := C_lits w [sc, sa, sb] (by decide)
  have NC := Lib.hid (new_calls _ 3 3 _ _ C0 (by decide))
  clear C0
  refine NC.out.mono ?_
  rintro e w1 ⟨hb, v, rfl, hB, hb1⟩
  have hb1 := Lib.hid ((below_alloc (Below.refl w.heap.size w) _).trans (hb1.mono (below_alloc (Below.refl w.heap.size w) _).size))
  have PC := Lib.hid (pop_calls hB (by simp) (by decide))
  clear hB NC
  go_wp2_with fail
  refine PC.out.mono ?_
  rintro e w2 ⟨x, v2, bag2, rfl, hB2, hP2, hm2, hM2⟩
  obtain ⟨rfl, hl2⟩ := least_abc hP2 hm2
  have LC := Lib.hid (len_of hB2)
  rw [hl2] at LC
  have hb2 := Lib.hid (hb1.out.trans (hM2.below.mono (below_alloc (Below.refl w.heap.size w) _).size))
  clear hP2 hm2 hM2 PC hl2
  have ea := la
  clear hb1
  have hb1 := Lib.hid hB2
  clear hB2
  go_wp2_with fail
  refine LC.out.mono ?_
  rintro e w3 ⟨rfl, rfl⟩
  go_wp2_with fail
  have MC := Lib.hid (merge_calls _ 2 2 _ _ (cc_alive w2) (by decide))
  refine MC.out.mono ?_
  rintro e w4 ⟨v4, r, rfl, ho4, hs4, hp4, hb4⟩
  obtain rfl := merged hs4 hp4
  have hb4' := Lib.hid (hb2.out.trans ((below_alloc (below_alloc (below_alloc (Below.refl w2.heap.size w2) _) _) _ |>.trans (hb4.mono (below_alloc (below_alloc (below_alloc (Below.refl w2.heap.size w2) _) _) _).size)).mono hb2.out.size))
  obtain ⟨A4, c4, rfl, _, hC4⟩ := own_strs ho4
  have hC5 := C_lits w4 [sa, sb, sc] (by decide)
  have EC := Lib.hid (equal_same A4 _ 3 c4 3 [sa, sb, sc] _ (Kd.C_alloc hC4 _) hC5)
  clear hs4 hp4 hb4 ho4 hC4 hC5 MC
  go_wp2_with fail
  refine EC.out.mono ?_
  rintro e w5 ⟨rfl, hb5⟩
  have hb6 := Lib.hid (hb4'.out.trans ((below_alloc (Below.refl w4.heap.size w4) _ |>.trans (hb5.mono (below_alloc (Below.refl w4.heap.size w4) _).size)).mono hb4'.out.size))
  clear hb5
  go_wp2
  go_ret
  exact ⟨rfl, hb6.out⟩
end Go.Proofs.Ytiibkhogahdeiaa.Alive
