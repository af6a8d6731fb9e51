/- What calls of container/heap's Push and Pop, and of the methods behind them, answer over a heap of strings. -/
import Derived.Test.YtiibkhogahdeiaaSift
import Derived.Deep.RegionLaw
import Derived.Deep.AppendLies
namespace Go.Proofs.Ytiibkhogahdeiaa.Ops
open Go.RowKit Go.Proofs.YtiibkhogahdeiaaW.PrintWords Go.Proofs.YtiibkhogahdeiaaW.PrintLast Go.Proofs.YtiibkhogahdeiaaW.PrintMore Go.Proofs.Ytiibkhogahdeiaa.Base Go.Proofs.Ytiibkhogahdeiaa.Plain Go.Proofs.Ytiibkhogahdeiaa.Sift

theorem info9 : (Try.prog.info? 9).map (fun i => (i.zero, i.size, i.bytes)) = some (some (.string ByteArray.empty), 1, 16) := by kernel_rfl
theorem assert_str (x : ByteArray) (W : World) : (Instr.typeAssert (.iface 9 (.string x)) 20 9 false).run Try.prog W = .ok (.string x) W := by kernel_rfl
theorem assert_str_ok (x : ByteArray) (W : World) : (Instr.typeAssert (.iface 9 (.string x)) 20 9 true).run Try.prog W = .ok (.tuple #[.string x, .bool true]) W := by kernel_rfl
/-- (*paths).Push. -/
theorem pushed {w w1 w2 : World} {base hb g cap : Nat} {v : Value} {xs : List ByteArray} (h : Hp w base hb v xs) (x : ByteArray) (hw1 : Below w.heap.size w w1)
    (ho : w2.ownsRow base 9 1 (.slice (some ⟨g, 0, none⟩) (xs.length + 1) cap) (xs.length + 1) (strs xs ++ [.string x])) (hg : w1.grownBy w2 v.ownBlock) (hnew : v.ownBlock = some g ∨ w.heap.size ≤ g) :
    Hp (w2.setCell ⟨hb, 0, none⟩ (.slice (some ⟨g, 0, none⟩) (xs.length + 1) cap)) base hb (.slice (some ⟨g, 0, none⟩) (xs.length + 1) cap) (xs ++ [x]) ∧ Moved w (w2.setCell ⟨hb, 0, none⟩ (.slice (some ⟨g, 0, none⟩) (xs.length + 1) cap)) base hb v (.slice (some ⟨g, 0, none⟩) (xs.length + 1) cap) := by
  have hlt := blk_lt h.blk
  have hs1 := hw1.size
  have hs2 := hg.size
  have hne : g ≠ hb := by
    rcases hnew with e | e
    · intro e'
      subst e'
      exact h.far e.symm
    · omega
  have hblk2 : w2.heap[hb]? = some (.cells #[v] 48 (0, 0)) := (hg.block hb (by omega) h.far).trans ((hw1.block hb hlt).trans h.blk)
  have hbase := own_base h.row
  have hB1 : Below base w w1 := hw1.mono (by have := h.base_le; omega)
  have hB2 : Below base w w2 := hB1.grown hg (by have := h.base_le; omega) (own_base h.row)
  refine ⟨⟨?_, ?_, h.base_le⟩, ⟨hB2.setCell (p := ⟨hb, 0, none⟩) h.base_le _, fun k hk h1 h2 => ?_, ?_⟩⟩
  · rw [blk_set hblk2 0 _]
    rfl
  · have e : strs (xs ++ [x]) = strs xs ++ [.string x] := by simp [strs]
    rw [e, List.length_append, List.length_singleton]
    exact own_setCell ho (p := ⟨hb, 0, none⟩) (by simp [Value.ownBlock]; exact fun e => hne e.symm) _
  · rw [Below.heap_setCell _ _ _ k h1]
    exact (hg.block k (by omega) h2).trans (hw1.block k hk)
  · rcases hnew with e | e
    · exact .inl (by rw [e]; rfl)
    · exact .inr ⟨g, rfl, e⟩
theorem pushed2 {w w1 w2 : World} {base hb g cap : Nat} {v : Value} {xs : List ByteArray} (h : Hp w base hb v xs) (x : ByteArray) (hw1 : Below w.heap.size w w1)
    (ho : w2.ownsRow base 9 1 (.slice (some ⟨g, 0, none⟩) (xs.length + 1) cap) (xs.length + 1) (strs xs ++ [.string x])) (hg : w1.grownBy w2 v.ownBlock) (hnew : v.ownBlock = some g ∨ g = w.heap.size + 1) :
    w2.cell? ⟨hb, 0, none⟩ = some v ∧ w2.frozen? ⟨hb, 0, none⟩ = false ∧ Hid (Hp (w2.setCell ⟨hb, 0, none⟩ (.slice (some ⟨g, 0, none⟩) (xs.length + 1) cap)) base hb (.slice (some ⟨g, 0, none⟩) (xs.length + 1) cap) (xs ++ [x]) ∧ Moved w (w2.setCell ⟨hb, 0, none⟩ (.slice (some ⟨g, 0, none⟩) (xs.length + 1) cap)) base hb v (.slice (some ⟨g, 0, none⟩) (xs.length + 1) cap)) := by
  have hlt := blk_lt h.blk
  have hs1 := hw1.size
  have hblk2 : w2.heap[hb]? = some (.cells #[v] 48 (0, 0)) := (hg.block hb (by omega) h.far).trans ((hw1.block hb hlt).trans h.blk)
  have hn : v.ownBlock = some g ∨ w.heap.size ≤ g := by
    rcases hnew with e | e
    · exact .inl e
    · exact .inr (by omega)
  exact ⟨by rw [blk_cell hblk2]; rfl, blk_frozen hblk2 0, Lib.hid (pushed h x hw1 ho hg hn)⟩
set_option maxHeartbeats 4000000 in
set_option maxRecDepth 100000 in
theorem paths_push {w : World} {base hb : Nat} {v : Value} {xs : List ByteArray} (h : Hp w base hb v xs) (x : ByteArray) (hN : xs.length < 8796093022208) :
    Calls Try.prog 49 #[.pointer (some ⟨hb, 0, none⟩), .iface 9 (.string x)] w fun e w' => ∃ v' : Value, e = .returned (.tuple #[]) ∧ Hp w' base hb v' (xs ++ [x]) ∧ Moved w w' base hb v v' := by
  obtain ⟨i9, hi9, hzz⟩ := Option.map_eq_some_iff.1 info9
  simp only [Prod.mk.injEq] at hzz
  obtain ⟨hz0, hz1, hz2⟩ := hzz
  have hcell := h.cell
  have hfro : w.frozen? ⟨hb, 0, none⟩ = false := blk_frozen h.blk 0
  have hH := Lib.hid h
  have hown1 : (w.alloc (.cells #[.string x] 9)).drew.ownsRow base 9 1 v xs.length (strs xs) := own_drew (own_alloc h.row _)
  have hnews : ∀ j u, [Value.string x][j]? = some u → (w.alloc (.cells #[.string x] 9)).drew.cell? ((⟨w.heap.size, 0, none⟩ : Addr).add j) = some u :=
    World.news_of_block (cs := #[Value.string x]) (t := 9) (fr := (0, 0)) (heap_alloc_new w _)
  have hone : ∀ u ∈ [Value.string x], u.oneCell' = true := by simp [Value.oneCell']
  have hbytes : (xs.length + 1) * 16 ≤ 140737488355328 := by omega
  have h63 : xs.length + 1 ≤ maxLen := by unfold maxLen; omega
  have hbl := h.base_le
  have hbs : base ≤ (w.alloc (.cells #[.string x] 9)).drew.heap.size := by have := blk_lt h.blk; simp; omega
  have hW1 := Lib.hid (show Below w.heap.size w (w.alloc (.cells #[.string x] 9)).drew from below_drew1 (below_alloc (Below.refl _ _) _))
  have ta := assert_str x
  have hcA : (w.alloc (.cells #[.string x] 9)).cell? ⟨hb, 0, none⟩ = some v := by rw [blk_cell ((Below.heap_alloc w _ hb (blk_lt h.blk)).trans h.blk)]; rfl
  clear h
  go_enter Try.func49, Try.ntmps49
  go_wp2_with fail
  have d16 : 0 < 1 := by decide
  have hH1 : (w.alloc (.cells #[.string x] 9)).drew.heap.size = w.heap.size + 1 := by simp
  replace hH1 := Lib.hid hH1
  go_region_law (refine step_append_lies ((w.alloc (.cells #[.string x] 9)).drew) rfl (.tmp 7) (.tmp 10) 46 rfl base 9 i9 (.string ByteArray.empty) 1 16 Try.underlying46 hi9 hz0 hz1 hz2 rfl d16 v xs.length (strs xs) rfl hown1 ⟨w.heap.size, 0, none⟩ 1 1 [.string x] rfl rfl hnews hone d16 h63 hbytes hbs (w.heap.size + 1) hH1.out ?_; intro g cap w2 ho hg hnew hlt; obtain ⟨hc2, hf2, P⟩ := pushed2 hH.out x hW1.out ho hg hnew; clear ho hg hnew hlt)
  all_goals
    go_end0
    exact ⟨_, rfl, P.out.1, P.out.2⟩
/-- (*paths).Pop. -/
theorem popped {w : World} {base hb g cap m : Nat} {xs : List ByteArray} (h : Hp w base hb (.slice (some ⟨g, 0, none⟩) (m + 1) cap) xs) (hl : xs.length = m + 1) :
    Hp (w.setCell ⟨hb, 0, none⟩ (.slice (some ⟨g, 0, none⟩) m cap)) base hb (.slice (some ⟨g, 0, none⟩) m cap) (xs.take m) ∧ Moved w (w.setCell ⟨hb, 0, none⟩ (.slice (some ⟨g, 0, none⟩) m cap)) base hb (.slice (some ⟨g, 0, none⟩) (m + 1) cap) (.slice (some ⟨g, 0, none⟩) m cap) := by
  have hne : g ≠ hb := fun e => h.far (by simp [Value.ownBlock, e])
  have hrow := h.row
  rw [hl] at hrow
  have ht := own_take hrow (m := m) (by omega)
  have e : (strs xs).take (m * 1) = strs (xs.take m) := by simp [strs, List.map_take]
  have hlt : (xs.take m).length = m := by rw [List.length_take]; omega
  rw [e] at ht
  refine ⟨⟨?_, ?_, h.base_le⟩, ⟨(Below.refl _ _).setCell (p := ⟨hb, 0, none⟩) h.base_le _, fun k _ h1 _ => Below.heap_setCell _ _ _ k h1, .inl rfl⟩⟩
  · rw [blk_set h.blk 0 _]; rfl
  · rw [hlt]
    exact own_setCell ht (p := ⟨hb, 0, none⟩) (by simp [Value.ownBlock]; exact fun e => hne e.symm) _
set_option maxHeartbeats 2000000 in
set_option maxRecDepth 100000 in
theorem paths_pop {w : World} {base hb : Nat} {v : Value} {xs : List ByteArray} (h : Hp w base hb v xs) (m : Nat) (hl : xs.length = m + 1) (hN : m ≤ 140737488355328) :
    Calls Try.prog 48 #[.pointer (some ⟨hb, 0, none⟩)] w fun e w' => ∃ v' : Value, e = .returned (.iface 9 (.string (Base.get xs m))) ∧ Hp w' base hb v' (xs.take m) ∧ Moved w w' base hb v v' := by
  obtain ⟨g, cap, rfl, hcap, _, _, _⟩ := h.form (by omega)
  rw [hl] at h hcap ⊢
  obtain ⟨hx, _⟩ := h.str m (by omega)
  have P := Lib.hid (popped h hl)
  have hcell := h.cell
  have hfro : w.frozen? ⟨hb, 0, none⟩ = false := blk_frozen h.blk 0
  have q1 : (m : Int) ≤ (cap : Int) := by omega
  clear h hl
  go_enter Try.func48, Try.ntmps48
  go_wp2
  go_ret
  exact ⟨_, rfl, P.out.1, P.out.2⟩
set_option maxHeartbeats 2000000 in
set_option maxRecDepth 100000 in
/-- container/heap.Push. -/
theorem heap_push {w : World} {base hb : Nat} {v : Value} {xs : List ByteArray} (h : Hp w base hb v xs) (x : ByteArray) (hh : HeapFrom xs xs.length 0) (hN : xs.length < 8796093022208) :
    Calls Try.prog 23 #[.iface 50 (.pointer (some ⟨hb, 0, none⟩)), .iface 9 (.string x)] w fun e w' => ∃ (v' : Value) (us : List ByteArray), e = .returned (.tuple #[]) ∧ Heaped w w' base hb v v' (xs ++ [x]) us := by
  have P := Lib.hid (paths_push h x hN)
  have m1 := method_push hb w
  have hU : Up (xs ++ [x]) (xs ++ [x]) xs.length := ⟨List.Perm.refl _, by simp, fun k h0 h1 h2 => by
    rw [List.length_append, List.length_singleton] at h1
    have e : ∀ q, q < xs.length → Base.get (xs ++ [x]) q = Base.get xs q := fun q hq => by
      unfold Base.get
      simp [List.getD_eq_getElem?_getD, List.getElem?_append_left hq]
    rw [e k (by omega), e _ (by omega)]
    exact hh k h0 (by omega) (Nat.zero_le _), fun h0 k h1 h2 h3 => by
    rw [List.length_append, List.length_singleton] at h2
    omega⟩
  have hlen : (xs ++ [x]).length = xs.length + 1 := by simp
  replace hlen := Lib.hid hlen
  clear h hh
  go_enter Try.func23, Try.ntmps23
  go_wp2_with fail
  refine P.out.mono ?_
  rintro e w1 ⟨v1, rfl, hp1, mv1⟩
  obtain ⟨A, c, hv⟩ := hp1.slice
  rw [hlen.out] at hv
  have m2 := method_len hb v1 w1 hp1.cell
  have LC := Lib.hid (show Calls Try.prog 25 #[v1] w1 fun e w' => e = .returned (.int .i64 ((xs.length + 1 : Nat) : Int)) ∧ w1 = w' by rw [hv]; exact len_calls A _ c w1)
  have UP := Lib.hid (up_calls hp1 xs.length hU (by rw [hlen.out]; omega))
  replace mv1 := Lib.hid mv1
  clear hp1 hv
  go_wp2_with fail
  refine LC.out.mono ?_
  rintro e w2 ⟨rfl, rfl⟩
  go_wp2_with fail
  refine UP.out.mono ?_
  rintro e w3 ⟨us, rfl, hH⟩
  replace hH := Lib.hid hH
  go_wp2
  go_end0
  exact ⟨v1, us, rfl, ⟨hH.out.hp, mv1.out.trans hH.out.moved, hH.out.perm, hH.out.heap⟩⟩
/-- What a pop leaves. -/
structure Popped (w w' : World) (base hb : Nat) (v v' : Value) (xs us : List ByteArray) : Prop where
  hp : Hp w' base hb v' us
  moved : Moved w w' base hb v v'
  perm : (us ++ [Base.get xs 0]).Perm xs
  heap : HeapFrom us us.length 0
theorem take_snoc (zs : List ByteArray) (m : Nat) (h : zs.length = m + 1) : zs.take m ++ [Base.get zs m] = zs := by
  have e : Base.get zs m = zs[m] := by
    unfold Base.get
    simp [List.getD_eq_getElem?_getD, List.getElem?_eq_getElem (show m < zs.length by omega)]
  rw [e, ← List.take_succ_eq_append_getElem (by omega)]
  exact List.take_of_length_le (by omega)
set_option maxHeartbeats 2000000 in
set_option maxRecDepth 100000 in
/-- container/heap.Pop, of a heap that isn't empty. -/
theorem heap_pop {w : World} {base hb : Nat} {v : Value} {xs : List ByteArray} (h : Hp w base hb v xs) (m : Nat) (hl : xs.length = m + 1) (hh : HeapFrom xs xs.length 0) (hN : m ≤ 140737488355327) :
    Calls Try.prog 24 #[.iface 50 (.pointer (some ⟨hb, 0, none⟩))] w fun e w' => ∃ (v' : Value) (us : List ByteArray), e = .returned (.iface 9 (.string (Base.get xs 0))) ∧ Popped w w' base hb v v' xs us := by
  obtain ⟨A, c, hv⟩ := h.slice
  rw [hl] at hv
  have m1 := method_len hb v w h.cell
  have m2 := method_swap hb v w h.cell
  have LC := Lib.hid (show Calls Try.prog 25 #[v] w fun e w' => e = .returned (.int .i64 ((m + 1 : Nat) : Int)) ∧ w = w' by rw [hv]; exact len_calls A _ c w)
  have g := fun k => get_swap xs 0 m k (by omega) (by omega)
  have hh1 : HeapFrom (swapL xs 0 m) m (0 + 1) := fun k h0 h1 h2 => by
    rw [g k, g ((k - 1) / 2), if_neg (by omega), if_neg (by omega), if_neg (by omega), if_neg (by omega)]
    exact hh k h0 (by omega) (Nat.zero_le _)
  have hlast : Base.get (swapL xs 0 m) m = Base.get xs 0 := by rw [g m, if_pos rfl]
  have hsl : (swapL xs 0 m).length = m + 1 := by rw [swapL_len, hl]
  have SW := Lib.hid (swap_at h (0 : Int) (m : Int) 0 m rfl rfl (by omega) (by omega))
  have hperm := Lib.hid (swap_perm xs 0 m (by omega) (by omega))
  clear hv h hh g
  generalize swapL xs 0 m = ys at *
  replace hsl := Lib.hid hsl
  replace hl := Lib.hid hl
  replace hlast := Lib.hid hlast
  go_enter Try.func24, Try.ntmps24
  go_wp2_with fail
  refine LC.out.mono ?_
  rintro e w1 ⟨rfl, rfl⟩
  go_wp2_with fail
  refine SW.out.mono ?_
  rintro e w2 ⟨rfl, hp2, mv2⟩
  have DN := Lib.hid (down_calls hp2 0 m (by have := hsl.out; omega) (by omega) (by have := hsl.out; omega) hh1)
  replace mv2 := Lib.hid mv2
  clear hp2 SW
  go_wp2_with fail
  refine DN.out.mono ?_
  rintro e w3 ⟨b, zs, rfl, hS⟩
  have hzl : zs.length = m + 1 := by rw [hS.perm.length_eq, hsl.out]
  have m3 := method_pop hb w3
  have PP := Lib.hid (paths_pop hS.hp m hzl (by omega))
  have hz := Lib.hid (show Base.get zs m = Base.get xs 0 by rw [hS.rest m (Nat.le_refl _), hlast.out])
  have hzt := Lib.hid (take_snoc zs m hzl)
  replace hS := Lib.hid hS
  replace hzl := Lib.hid hzl
  rw [hz.out] at PP
  go_wp2_with fail
  refine PP.out.mono ?_
  rintro e w4 ⟨v4, rfl, hp4, mv4⟩
  have R := Lib.hid (show Popped w w4 base hb v v4 xs (zs.take m) from ⟨hp4, (mv2.out.trans hS.out.moved).trans mv4, by
    rw [← hz.out, hzt.out]
    exact hS.out.perm.trans hperm.out, by
    have hlt : (zs.take m).length = m := by rw [List.length_take, hzl.out]; omega
    rw [hlt]
    intro k h0 h1 h2
    have e : ∀ q, q < m → Base.get (zs.take m) q = Base.get zs q := fun q hq => by
      unfold Base.get
      simp [List.getD_eq_getElem?_getD, hq]
    rw [e k h1, e _ (by omega)]
    exact hS.out.heap k h0 h1 h2⟩)
  clear hp4 mv4
  go_wp2
  go_ret
  exact ⟨v4, _, rfl, R.out⟩
end Go.Proofs.Ytiibkhogahdeiaa.Ops
