/- A slice of slices of strings among the arguments, opened as a row of rows that is read. -/
import Derived.Test.YtiibkhogahdeiaaOpenStrs
namespace Go.Proofs.Ytiibkhogahdeiaa.OpenRows
open Go.ChangeShapes Go.WideShapes Go.Proofs.YtiibkhogahdeiaaW.PrintWords Go.Proofs.Ytiibkhogahdeiaa.RefMerge
theorem cells26 : Try.prog.cellsOf 26 = 1 := by kernel_rfl
theorem pick {X : Type} (es : List X) (P : Nat → X → List ByteArray → Prop) (h : ∀ i x, es[i]? = some x → ∃ l, P i x l) : ∃ ls : List (List ByteArray), ls.length = es.length ∧ ∀ i x, es[i]? = some x → P i x (getL ls i) := by
  induction es generalizing P with
  | nil => exact ⟨[], rfl, fun i x hx => by simp at hx⟩
  | cons y r ih =>
    obtain ⟨l0, h0⟩ := h 0 y rfl
    obtain ⟨ls, hl, hP⟩ := ih (fun i => P (i + 1)) fun i x hx => h (i + 1) x (by simpa using hx)
    refine ⟨l0 :: ls, by simp [hl], fun i x hx => ?_⟩
    cases i with
    | zero =>
      obtain rfl : y = x := by simpa using hx
      exact h0
    | succ i => exact hP i x (by simpa using hx)
theorem bulk_rows {H : Type} : ∀ (ls : List (List ByteArray)) (ds : List (DataW H)), ls.length = ds.length → (∀ i d, ds[i]? = some d → (getL ls i).length ≤ Rows.uptoBulk d) → ls.flatten.length ≤ Rows.uptoBulkAll ds
  | [], _, _, _ => by simp
  | l :: ls, [], hl, _ => by simp at hl
  | l :: ls, d :: ds, hl, h => by
    have h0 := h 0 d rfl
    have ih := bulk_rows ls ds (by simpa using hl) fun i d' hd => h (i + 1) d' (by simpa using hd)
    have h0' : l.length ≤ Rows.uptoBulk d := h0
    simp only [List.flatten_cons, List.length_append, Rows.uptoBulkAll]
    omega
theorem open_rows {H : Type} {enc : TypeId × Value → H} {W : World} {base : Nat} {spare : Nat → Bool} {held : Bool} {t : TypeId} {a : Option Addr} {len cap : Nat} {d : DataW H} {ps : List MemPlace} (ht : Try.prog.underlying t = some (.slice 26))
    (h : DataW.Trod enc Try.prog W base spare held t (.slice a len cap) d ps) :
    ∃ ls : List (List ByteArray), len = ls.length ∧ CC W a ls.length ls ∧ ls.length ≤ cap ∧ ls.flatten.length ≤ Rows.uptoBulk d := by
  obtain ⟨fuel, hf⟩ := h
  rcases DataW.trod_slice ht hf with ⟨hcs, hx⟩ | ⟨ad, len', cap', elems, rest, n, _, hcs, hx, _, hl, hm, hlen, hel, _, _⟩
  · simp [Value.cells] at hcs
    obtain ⟨rfl, rfl, rfl⟩ := hcs
    obtain ⟨rfl, rfl⟩ := Prod.mk.inj hx
    exact ⟨[], rfl, Kd.C_nil _ _, Nat.le_refl _, by simp⟩
  · simp [Value.cells] at hcs
    obtain ⟨rfl, rfl, rfl⟩ := hcs
    obtain ⟨rfl, _⟩ := Prod.mk.inj hx
    obtain ⟨ls, hls, hP⟩ := pick elems (fun i x l => (∃ A c, W.cell? (ad.add i) = some (.slice A l.length c) ∧ l.length ≤ c ∧ Kd.C Kd.string W A l.length l) ∧ l.length ≤ Rows.uptoBulk x.1) (by
      intro i x hx
      have hi : i < len := by rw [← hlen]; exact (List.getElem?_eq_some_iff.1 hx).1
      have := hel i hi
      rw [hx, cells26, Nat.mul_one, Option.bind_eq_some_iff] at this
      obtain ⟨cs', h1, h2⟩ := this
      have key : ∀ A n0 c0, cs' = [.slice A n0 c0] → ∃ l : List ByteArray, (∃ A c, W.cell? (ad.add i) = some (.slice A l.length c) ∧ l.length ≤ c ∧ Kd.C Kd.string W A l.length l) ∧ l.length ≤ Rows.uptoBulk x.1 := by
        rintro A n0 c0 rfl
        obtain ⟨l, rfl, hC, hc, hd⟩ := OpenStrs.open_strs Try.underlying26 (⟨n, h2⟩ : DataW.Trod enc Try.prog W base spare held 26 (.slice A n0 c0) x.1 x.2)
        exact ⟨l, ⟨A, c0, cell_of_cells?_one h1, hc, hC⟩, OpenStrs.bulk_strs hd⟩
      rcases DataW.trod_slice Try.underlying26 h2 with ⟨e, _⟩ | ⟨a3, l3, c3, _, _, _, _, e, _⟩
      · exact key _ _ _ e
      · exact key _ _ _ e)
    have hn : ls.length = len := hls.trans hlen
    refine ⟨ls, hn.symm, ⟨rfl, by unfold maxLen at hm; omega, fun _ => ⟨ad, rfl, fun j p hj => ?_⟩⟩, by omega, ?_⟩
    · have hj1 : j < elems.length := by rw [← hls]; exact (List.getElem?_eq_some_iff.1 hj).1
      obtain ⟨⟨A, c, h1, h2, h3⟩, _⟩ := hP j _ (List.getElem?_eq_getElem hj1)
      have e : getL ls j = p := by
        unfold getL
        rw [List.getD_eq_getElem?_getD, hj]
        rfl
      rw [e] at h1 h2 h3
      refine ⟨[.slice A p.length c], rfl, ⟨A, c, rfl, h2, h3⟩, fun i u hu => ?_⟩
      cases i with
      | zero =>
        have ee : j * (Kd.slice 9 Kd.string).sz + 0 = j := by rw [Nat.add_zero]; exact Nat.mul_one j
        rw [ee, h1]
        exact hu
      | succ i => simp at hu
    · have := bulk_rows ls (elems.map (·.1)) (by simp [hls]) (by
        intro i d hd
        rw [List.getElem?_map] at hd
        obtain ⟨x, hx, rfl⟩ := Option.map_eq_some_iff.1 hd
        exact (hP i x hx).2)
      simp only [Rows.uptoBulk]
      omega
end Go.Proofs.Ytiibkhogahdeiaa.OpenRows
