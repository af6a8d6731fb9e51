/- A slice of strings among the arguments, opened as a row that is read. -/
import Derived.Test.YtiibkhogahdeiaaRefMerge
import Derived.SliceStrings
import Derived.SizedLaws
import Derived.Test.YtiibkhogahdeiaaRows
namespace Go.Proofs.Ytiibkhogahdeiaa.OpenStrs
open Go.ChangeShapes Go.WideShapes Go.Proofs.YtiibkhogahdeiaaW.PrintWords
theorem C_cells {W : World} {a : Addr} {ss : List ByteArray} (len : Nat) (hl : len ≤ ss.length) (hm : len ≤ 9223372036854775807) (hc : ∀ i, i < ss.length → W.cell? (a.add i) = some (.string (ss.getD i ByteArray.empty))) : Kd.C Kd.string W (some a) len (ss.take len) := by
  refine ⟨by rw [List.length_take]; omega, hm, fun _ => ⟨a, rfl, fun j p hj => ⟨[.string p], rfl, rfl, fun i u hu => ?_⟩⟩⟩
  obtain ⟨hj1, hj2⟩ := List.getElem?_eq_some_iff.1 hj
  rw [List.length_take] at hj1
  have hp : ss.getD j ByteArray.empty = p := by
    rw [List.getElem_take] at hj2
    rw [List.getD_eq_getElem?_getD, List.getElem?_eq_getElem (by omega)]
    exact hj2
  cases i with
  | zero =>
    have e : j * Kd.string.sz + 0 = j := by rw [Nat.add_zero]; exact Nat.mul_one j
    rw [e, hc j (by omega), hp]
    exact hu
  | succ i => simp at hu
theorem cells9 : Try.prog.cellsOf 9 = 1 := by kernel_rfl
theorem bytes9 : Try.prog.bytesOf 9 = 16 := by kernel_rfl
theorem open_strs {H : Type} {enc : TypeId × Value → H} {W : World} {base : Nat} {spare : Nat → Bool} {held : Bool} {t : TypeId} {a : Option Addr} {len cap : Nat} {d : DataW H} {ps : List MemPlace} (ht : Try.prog.underlying t = some (.slice 9))
    (h : DataW.Trod enc Try.prog W base spare held t (.slice a len cap) d ps) :
    ∃ l : List ByteArray, len = l.length ∧ Kd.C Kd.string W a l.length l ∧ l.length ≤ cap ∧ ((d = .nil ∧ l = []) ∨ ∃ sp : List (DataW H), d = .slice (l.map fun s => .lit (.string s.data.toList)) sp) := by
  obtain ⟨fuel, hf⟩ := h
  rcases open_strings ht Try.underlying9 cells9 hf with ⟨hcs, hx⟩ | ⟨ad, len', cap', ss, hcs, _, hl, hm, hz, hx, hcell, _⟩
  · simp [Value.cells] at hcs
    obtain ⟨rfl, rfl, rfl⟩ := hcs
    obtain ⟨rfl, rfl⟩ := Prod.mk.inj hx
    exact ⟨[], rfl, Kd.C_nil _ _, Nat.le_refl _, .inl ⟨rfl, rfl⟩⟩
  · simp [Value.cells] at hcs
    obtain ⟨rfl, rfl, rfl⟩ := hcs
    obtain ⟨rfl, rfl⟩ := Prod.mk.inj hx
    have hle : len ≤ ss.length := by
      rw [hz]
      split
      · exact hl
      · exact Nat.le_refl _
    have e : (ss.take len).length = len := by rw [List.length_take]; omega
    refine ⟨ss.take len, e.symm, ?_, by rw [e]; exact hl, .inr ⟨_, rfl⟩⟩
    rw [e]
    exact C_cells len hle (by unfold maxLen at hm; omega) hcell
theorem sized_strs {H : Type} {ts : List TypeId} {ds : List (DataW H)} {j : Nat} {t : TypeId} {d : DataW H} {l : List ByteArray} (hsz : (DataW.weightsEach Try.prog ts ds).all (· ≤ reachBytes) = true) (ht : ts[j]? = some t) (hd : ds[j]? = some d) (hu : Try.prog.underlying t = some (.slice 9))
    (h : (d = .nil ∧ l = []) ∨ ∃ sp : List (DataW H), d = .slice (l.map fun s => .lit (.string s.data.toList)) sp) : l.length < 8796093022208 := by
  rcases h with ⟨_, rfl⟩ | ⟨sp, rfl⟩
  · simp
  · have := sized_slice hsz ht hd hu
    rw [bytes9, List.length_map] at this
    simp only [reachBytes] at this
    omega
theorem bulk_list {H : Type} (l : List ByteArray) : l.length ≤ Rows.uptoBulkAll (l.map fun s => (.lit (.string s.data.toList) : DataW H)) := by
  induction l with
  | nil => simp
  | cons x r ih =>
    simp only [List.map_cons, Rows.uptoBulkAll, Rows.uptoBulk, List.length_cons]
    omega
theorem bulk_strs {H : Type} {d : DataW H} {l : List ByteArray} (h : (d = .nil ∧ l = []) ∨ ∃ sp : List (DataW H), d = .slice (l.map fun s => .lit (.string s.data.toList)) sp) : l.length ≤ Rows.uptoBulk d := by
  rcases h with ⟨_, rfl⟩ | ⟨sp, rfl⟩
  · simp
  · have := bulk_list (H := H) l
    simp only [Rows.uptoBulk]
    omega
end Go.Proofs.Ytiibkhogahdeiaa.OpenStrs
