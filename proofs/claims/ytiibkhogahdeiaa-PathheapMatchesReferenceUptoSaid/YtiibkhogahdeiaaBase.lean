/- The heap's memory, and what calls of its methods Len, Less and Swap answer. -/
import Derived.Test.YtiibkhogahdeiaaWWords
import Derived.Test.YtiibkhogahdeiaaWLast
import Derived.Test.YtiibkhogahdeiaaWMore
import Derived.Test.YtiibkhogahdeiaaProg
import Derived.WalkKit
import Derived.WalkSpells
import Derived.WalkLawsBesides
import Derived.KernelRfl
import Derived.Lib.Hide
import Derived.Outline
import Derived.LoopTactic
import Derived.RowKit3
import Derived.Below
import Derived.Deep.QuietTactic
import Derived.Deep.AppendLies
import Derived.BigQuiet
import Derived.BigRegion
namespace Go.Proofs.Ytiibkhogahdeiaa.Base
open Go.RowKit Go.Proofs.YtiibkhogahdeiaaW.PrintWords Go.Proofs.YtiibkhogahdeiaaW.PrintLast Go.Proofs.YtiibkhogahdeiaaW.PrintMore

/-! ### Methods called on the interface value -/
theorem method_push (b : Nat) (w : World) : (method 179 50 (.pointer (some ⟨b, 0, none⟩)) "Push").run Try.prog w = .ok (49, .pointer (some ⟨b, 0, none⟩)) w := by kernel_rfl
theorem method_pop (b : Nat) (w : World) : (method 179 50 (.pointer (some ⟨b, 0, none⟩)) "Pop").run Try.prog w = .ok (48, .pointer (some ⟨b, 0, none⟩)) w := by kernel_rfl
theorem load46 (b : Nat) (v : Value) (w : World) (h : w.cell? ⟨b, 0, none⟩ = some v) : (loadVar 46 ⟨b, 0, none⟩).run Try.prog w = .ok v w := by
  have hag : (isAgg 46).run Try.prog w = .ok false w := by
    unfold isAgg
    rw [Sem.run_bind, run_underlying Try.underlying46 w]
    rfl
  simp [loadVar, Sem.run_bind, hag, run_load, h]
theorem method_val (k : Nat) (nm : String) (f : Nat) (hf : ((Try.prog.info? 50).bind fun i => (i.methods.find? (·.name == nm)).map fun m => (m.path, m.func)) = some (#[], some (f, false))) (b : Nat) (v : Value) (w : World) (h : w.cell? ⟨b, 0, none⟩ = some v) :
    (method (k + 1) 50 (.pointer (some ⟨b, 0, none⟩)) nm).run Try.prog w = .ok (f, v) w := by
  obtain ⟨i, hi, hm⟩ := Option.bind_eq_some_iff.1 hf
  obtain ⟨m, hm1, hm2⟩ := Option.map_eq_some_iff.1 hm
  simp only [Prod.mk.injEq] at hm2
  obtain ⟨hp, hfn⟩ := hm2
  have hl := load46 b v w h
  have hti : (typeInfo 50).run Try.prog w = .ok i w := by simp [typeInfo, hi]
  simp only [method, Sem.run_bind, hti, Result.andThen_ok, hm1, hp, hfn]
  have hw : ∀ s1 s2 : ByteArray, (Builtin.ssaWrapNilChk_ #[50] 50 #[.pointer (some ⟨b, 0, none⟩), .string s1, .string s2]).run Try.prog w = .ok (.pointer (some ⟨b, 0, none⟩)) w := fun _ _ => rfl
  simp [follow, receiverAt, run_underlying Try.underlying50, Place.get, strVal, asAddr, hl, hw]
theorem find_len : ((Try.prog.info? 50).bind fun i => (i.methods.find? (·.name == "Len")).map fun m => (m.path, m.func)) = some (#[], some (25, false)) := by kernel_rfl
theorem find_less : ((Try.prog.info? 50).bind fun i => (i.methods.find? (·.name == "Less")).map fun m => (m.path, m.func)) = some (#[], some (46, false)) := by kernel_rfl
theorem find_swap : ((Try.prog.info? 50).bind fun i => (i.methods.find? (·.name == "Swap")).map fun m => (m.path, m.func)) = some (#[], some (47, false)) := by kernel_rfl
theorem method_len (b : Nat) (v : Value) (w : World) (h : w.cell? ⟨b, 0, none⟩ = some v) : (method 179 50 (.pointer (some ⟨b, 0, none⟩)) "Len").run Try.prog w = .ok (25, v) w := method_val 178 "Len" 25 find_len b v w h
theorem method_less (b : Nat) (v : Value) (w : World) (h : w.cell? ⟨b, 0, none⟩ = some v) : (method 179 50 (.pointer (some ⟨b, 0, none⟩)) "Less").run Try.prog w = .ok (46, v) w := method_val 178 "Less" 46 find_less b v w h
theorem method_swap (b : Nat) (v : Value) (w : World) (h : w.cell? ⟨b, 0, none⟩ = some v) : (method 179 50 (.pointer (some ⟨b, 0, none⟩)) "Swap").run Try.prog w = .ok (47, v) w := method_val 178 "Swap" 47 find_swap b v w h

/-! ### The methods -/
set_option maxRecDepth 100000 in
theorem len_calls (A : Option Addr) (n c : Nat) (w : World) : Calls Try.prog 25 #[.slice A n c] w fun e w' => e = .returned (.int .i64 n) ∧ w = w' := by
  go_enter Try.func25, Try.ntmps25
  go_wp2
  go_ret
  exact ⟨rfl, rfl⟩
set_option maxHeartbeats 1000000 in
set_option maxRecDepth 100000 in
theorem less_calls (g n c i j : Nat) (x y : ByteArray) (w : World) (hi : i < n) (hj : j < n) (hx : w.cell? ⟨g, i, none⟩ = some (.string x)) (hy : w.cell? ⟨g, j, none⟩ = some (.string y)) :
    Calls Try.prog 46 #[.slice (some ⟨g, 0, none⟩) n c, .int .i64 i, .int .i64 j] w fun e w' => e = .returned (.bool (Op.bytesLess x.toList y.toList)) ∧ Drawn0 w w' := by
  have hi' : (i : Int) < (n : Int) := by omega
  have hj' : (j : Int) < (n : Int) := by omega
  go_enter Try.func46, Try.ntmps46
  go_wp2
  go_quiet (fail)
  go_wp2
  go_ret
  exact ⟨rfl, ⟨⟨_, rfl⟩⟩⟩
/-! ### The heap's memory -/
def lt (x y : ByteArray) : Bool := Op.bytesLess x.toList y.toList
def get (xs : List ByteArray) (i : Nat) : ByteArray := xs.getD i ByteArray.empty
def swapL (xs : List ByteArray) (i j : Nat) : List ByteArray := (xs.set i (get xs j)).set j (get xs i)
def strs (xs : List ByteArray) : List Value := xs.map fun x => .string x
theorem strs_len (xs : List ByteArray) : (strs xs).length = xs.length := by simp [strs]
theorem strs_get (xs : List ByteArray) (i : Nat) (h : i < xs.length) : (strs xs)[i]? = some (.string (get xs i)) := by
  simp [strs, get, List.getD_eq_getElem?_getD, List.getElem?_eq_getElem h]
theorem swapL_len (xs : List ByteArray) (i j : Nat) : (swapL xs i j).length = xs.length := by simp [swapL]
/-- A heap: its variable lies in block hb, its strings in the row v. -/
structure Hp (w : World) (base hb : Nat) (v : Value) (xs : List ByteArray) : Prop where
  blk : w.heap[hb]? = some (.cells #[v] 48 (0, 0))
  row : w.ownsRow base 9 1 v xs.length (strs xs)
  base_le : base ≤ hb
/-- What a call on the heap leaves as it was. -/
structure Moved (w w' : World) (base hb : Nat) (v v' : Value) : Prop where
  below : Below base w w'
  keep : ∀ k, k < w.heap.size → k ≠ hb → some k ≠ v.ownBlock → w'.heap[k]? = w.heap[k]?
  new : v'.ownBlock = v.ownBlock ∨ ∃ b, v'.ownBlock = some b ∧ w.heap.size ≤ b
theorem Moved.refl (w : World) (base hb : Nat) (v : Value) : Moved w w base hb v v := ⟨Below.refl _ _, fun _ _ _ _ => rfl, .inl rfl⟩
theorem Moved.trans {w w1 w2 : World} {base hb : Nat} {v v1 v2 : Value} (h : Moved w w1 base hb v v1) (h' : Moved w1 w2 base hb v1 v2) : Moved w w2 base hb v v2 := by
  have hs := h.below.size
  refine ⟨h.below.trans h'.below, fun k hk h1 h2 => ?_, ?_⟩
  · refine (h'.keep k (by omega) h1 ?_).trans (h.keep k hk h1 h2)
    rcases h.new with e | ⟨b, e, hb⟩
    · rw [e]; exact h2
    · rw [e]; intro e'; injection e'; omega
  · rcases h'.new with e | ⟨b, e, hb⟩
    · rw [e]; exact h.new
    · exact .inr ⟨b, e, by omega⟩
theorem Moved.drewN {w w1 : World} {base hb : Nat} {v v1 : Value} (h : Moved w w1 base hb v v1) (n : Nat) : Moved w (w1.drewN n) base hb v v1 := ⟨pw_below_drewN h.below n, h.keep, h.new⟩
theorem Moved.drew {w w1 : World} {base hb : Nat} {v v1 : Value} (h : Moved w w1 base hb v v1) : Moved w w1.drew base hb v v1 := ⟨h.below.drew, h.keep, h.new⟩
section
variable {w w1 : World} {base hb : Nat} {v : Value} {xs : List ByteArray}
theorem Hp.drewN (h : Hp w base hb v xs) (n : Nat) : Hp (w.drewN n) base hb v xs := ⟨h.blk, h.row, h.base_le⟩
theorem Hp.drew (h : Hp w base hb v xs) : Hp w.drew base hb v xs := ⟨h.blk, h.row, h.base_le⟩
theorem Hp.cell (h : Hp w base hb v xs) : w.cell? ⟨hb, 0, none⟩ = some v := by rw [blk_cell h.blk]; rfl
theorem Hp.far (h : Hp w base hb v xs) : some hb ≠ v.ownBlock := own_ne h.row h.blk (by decide)
theorem Hp.below (h : Hp w base hb v xs) (hbl : Below w.heap.size w w1) : Hp w1 base hb v xs := ⟨(hbl.block _ (blk_lt h.blk)).trans h.blk, pw_own_below h.row hbl, h.base_le⟩
theorem Hp.nil (h : Hp w base hb v []) : ∃ A n, v = .slice A 0 n := by
  rcases h.row.2 with ⟨rfl, _⟩ | ⟨g, cap, cur, rfl, _⟩
  · exact ⟨_, _, rfl⟩
  · exact ⟨_, _, rfl⟩
theorem Hp.slice (h : Hp w base hb v xs) : ∃ A n, v = .slice A xs.length n := by
  rcases h.row.2 with ⟨rfl, h0⟩ | ⟨g, cap, cur, rfl, _⟩
  · exact ⟨none, 0, by rw [h0]⟩
  · exact ⟨_, _, rfl⟩
theorem Hp.form (h : Hp w base hb v xs) (hn : 0 < xs.length) : ∃ g cap, v = .slice (some ⟨g, 0, none⟩) xs.length cap ∧ xs.length ≤ cap ∧ base ≤ g ∧ g ≠ hb ∧ g < w.heap.size := by
  have hf := h.far
  rcases h.row.2 with ⟨rfl, h0⟩ | ⟨g, cap, cur, rfl, hg, hh, hc, _⟩
  · omega
  · exact ⟨g, cap, rfl, hc, hg, fun e => hf (by simp [Value.ownBlock, e]), blk_lt hh⟩
theorem Hp.str {g cap n : Nat} (h : Hp w base hb (.slice (some ⟨g, 0, none⟩) n cap) xs) (i : Nat) (hi : i < xs.length) : w.cell? ⟨g, i, none⟩ = some (.string (get xs i)) ∧ w.frozen? ⟨g, i, none⟩ = false := by
  have hc := h.row.cells (g := g) rfl i (.string (get xs i)) (strs_get xs i hi)
  rw [add_plain] at hc
  refine ⟨hc, ?_⟩
  rcases h.row.2 with ⟨h', _⟩ | ⟨g', cap', cur, h', _, hh, _⟩
  · cases h'
  · injection h' with h'
    injection h' with h'
    injection h' with h'
    subst h'
    exact blk_frozen hh i
/-- One string stored. -/
theorem Hp.put {g cap n : Nat} (h : Hp w base hb (.slice (some ⟨g, 0, none⟩) n cap) xs) (i : Nat) (x : ByteArray) : Hp (w.setCell ⟨g, i, none⟩ (.string x)) base hb (.slice (some ⟨g, 0, none⟩) n cap) (xs.set i x) ∧ Moved w (w.setCell ⟨g, i, none⟩ (.string x)) base hb (.slice (some ⟨g, 0, none⟩) n cap) (.slice (some ⟨g, 0, none⟩) n cap) := by
  have hf := h.far
  have hne : hb ≠ g := fun e => hf (by simp [Value.ownBlock, e])
  have hn : n = xs.length := by
    rcases h.row.2 with ⟨h', _⟩ | ⟨g', cap', cur, h', _, hh, _⟩
    · cases h'
    · injection h' with _ h2
  subst hn
  obtain ⟨h1, h2⟩ := h.row.stored i (.string x)
  have e : (strs xs).set i (.string x) = strs (xs.set i x) := by simp [strs, List.map_set]
  rw [e] at h1
  have hbg := own_base h.row g rfl
  refine ⟨⟨blk_far h.blk (p := ⟨g, i, none⟩) hne _, by rw [List.length_set]; exact h1, h.base_le⟩, ⟨(Below.refl _ _).setCell (p := ⟨g, i, none⟩) hbg _, fun k _ _ hk => Below.heap_setCell w _ _ k (fun e => hk (by simp [Value.ownBlock, e])), .inl rfl⟩⟩
end
set_option maxHeartbeats 1000000 in
set_option maxRecDepth 100000 in
theorem swap_two (g n c i j : Nat) (x y : ByteArray) (w : World) (hi : i < n) (hj : j < n) (_hij : i ≠ j) (hx : w.cell? ⟨g, i, none⟩ = some (.string x)) (hy : w.cell? ⟨g, j, none⟩ = some (.string y)) (fx : w.frozen? ⟨g, i, none⟩ = false) (fy : w.frozen? ⟨g, j, none⟩ = false) :
    Calls Try.prog 47 #[.slice (some ⟨g, 0, none⟩) n c, .int .i64 i, .int .i64 j] w fun e w' => e = .returned (.tuple #[]) ∧ w' = ((w.setCell ⟨g, i, none⟩ (.string y)).setCell ⟨g, j, none⟩ (.string x)).drew := by
  have hi' : (i : Int) < (n : Int) := by omega
  have hj' : (j : Int) < (n : Int) := by omega
  go_enter Try.func47, Try.ntmps47
  go_wp2
  go_region
  go_end0
  exact ⟨rfl, rfl⟩
set_option maxHeartbeats 1000000 in
set_option maxRecDepth 100000 in
theorem swap_one (g n c i : Nat) (x : ByteArray) (w : World) (hi : i < n) (hx : w.cell? ⟨g, i, none⟩ = some (.string x)) (fx : w.frozen? ⟨g, i, none⟩ = false) :
    Calls Try.prog 47 #[.slice (some ⟨g, 0, none⟩) n c, .int .i64 i, .int .i64 i] w fun e w' => e = .returned (.tuple #[]) ∧ w' = ((w.setCell ⟨g, i, none⟩ (.string x)).setCell ⟨g, i, none⟩ (.string x)).drew := by
  have hi' : (i : Int) < (n : Int) := by omega
  go_enter Try.func47, Try.ntmps47
  go_wp2
  go_region
  go_end0
  exact ⟨rfl, rfl⟩
theorem swap_calls {w : World} {base hb : Nat} {v : Value} {xs : List ByteArray} (h : Hp w base hb v xs) (i j : Nat) (hi : i < xs.length) (hj : j < xs.length) :
    Calls Try.prog 47 #[v, .int .i64 i, .int .i64 j] w fun e w' => e = .returned (.tuple #[]) ∧ Hp w' base hb v (swapL xs i j) ∧ Moved w w' base hb v v := by
  obtain ⟨g, cap, rfl, _, _, _, _⟩ := h.form (by omega)
  obtain ⟨hx, fx⟩ := h.str i hi
  obtain ⟨hy, fy⟩ := h.str j hj
  obtain ⟨h1, m1⟩ := h.put i (get xs j)
  obtain ⟨h2, m2⟩ := h1.put j (get xs i)
  by_cases hij : i = j
  · subst hij
    refine (swap_one g _ cap i _ w hi hx fx).mono ?_
    rintro e w' ⟨he, rfl⟩
    exact ⟨he, h2.drew, (m1.trans m2).drew⟩
  · refine (swap_two g _ cap i j _ _ w hi hj hij hx hy fx fy).mono ?_
    rintro e w' ⟨he, rfl⟩
    exact ⟨he, h2.drew, (m1.trans m2).drew⟩
theorem less_hp {w : World} {base hb : Nat} {v : Value} {xs : List ByteArray} (h : Hp w base hb v xs) (i j : Nat) (hi : i < xs.length) (hj : j < xs.length) :
    Calls Try.prog 46 #[v, .int .i64 i, .int .i64 j] w fun e w' => e = .returned (.bool (lt (get xs i) (get xs j))) ∧ Drawn0 w w' := by
  obtain ⟨g, cap, rfl, _, _, _, _⟩ := h.form (by omega)
  exact less_calls g _ cap i j _ _ w hi hj (h.str i hi).1 (h.str j hj).1
end Go.Proofs.Ytiibkhogahdeiaa.Base
