/- A slice of acts among the arguments, opened as acts that are read. -/
import Derived.Test.YtiibkhogahdeiaaOpenRows
import Derived.Test.YtiibkhogahdeiaaActs
import Derived.ChangeSame
import Derived.Deep.Slices
namespace Go.Proofs.Ytiibkhogahdeiaa.OpenActs
open Go.ChangeShapes Go.WideShapes Go.Proofs.YtiibkhogahdeiaaW.PrintWords Go.Proofs.Ytiibkhogahdeiaa.RefMerge Go.Proofs.Ytiibkhogahdeiaa.Acts Go.Proofs.Ytiibkhogahdeiaa.Alive
theorem cells41 : Try.prog.cellsOf 41 = 2 := by kernel_rfl
theorem pickS {X : Type} (es : List X) (P : Nat → X → Step → Prop) (h : ∀ i x, es[i]? = some x → ∃ l, P i x l) : ∃ ls : List Step, ls.length = es.length ∧ ∀ i x, es[i]? = some x → P i x (nth ls i) := by
  induction es generalizing P with
  | nil => exact ⟨[], rfl, fun i x hx => by simp at hx⟩
  | cons y r ih =>
    obtain ⟨l0, h0⟩ := h 0 y rfl
    obtain ⟨ls, hl, hP⟩ := ih (fun i => P (i + 1)) fun i x hx => h (i + 1) x (by simpa using hx)
    refine ⟨l0 :: ls, by simp [hl], fun i x hx => ?_⟩
    cases i with
    | zero =>
      obtain rfl : y = x := by simpa using hx
      exact h0
    | succ i => exact hP i x (by simpa using hx)
theorem bulk_acts {H : Type} : ∀ (ls : List Step) (ds : List (DataW H)), ls.length = ds.length → (∀ i d, ds[i]? = some d → (nth ls i).h.l.length + 1 ≤ Rows.uptoBulk d) → (ls.map fun s => s.h.l).flatten.length + ls.length ≤ Rows.uptoBulkAll ds
  | [], _, _, _ => by simp
  | l :: ls, [], hl, _ => by simp at hl
  | l :: ls, d :: ds, hl, h => by
    have h0 := h 0 d rfl
    have ih := bulk_acts ls ds (by simpa using hl) fun i d' hd => h (i + 1) d' (by simpa using hd)
    have h0' : l.h.l.length + 1 ≤ Rows.uptoBulk d := h0
    simp only [List.map_cons, List.flatten_cons, List.length_append, Rows.uptoBulkAll, List.length_cons]
    omega
theorem under41 : Try.prog.underlying 41 = some (.struct #[{ name := "Kind", type := 3, offset := 0, embedded := false, tag := "", pkgPath := "", byteOffset := 0 }, { name := "L", type := 26, offset := 1, embedded := false, tag := "", pkgPath := "", byteOffset := 8 }]) := by kernel_rfl
theorem cells3 : Try.prog.cellsOf 3 = 1 := by kernel_rfl
theorem open_acts {H : Type} {enc : TypeId × Value → H} {W : World} {base : Nat} {spare : Nat → Bool} {held : Bool} {t : TypeId} {a : Option Addr} {len cap : Nat} {d : DataW H} {ps : List MemPlace} (ht : Try.prog.underlying t = some (.slice 41))
    (h : DataW.Trod enc Try.prog W base spare held t (.slice a len cap) d ps) :
    ∃ ls : List Step, len = ls.length ∧ Acts W a ls.length ls ∧ ls.length ≤ cap ∧ (ls.map fun s => s.h.l).flatten.length + ls.length ≤ Rows.uptoBulk d := by
  obtain ⟨fuel, hf⟩ := h
  rcases DataW.trod_slice ht hf with ⟨hcs, hx⟩ | ⟨ad, len', cap', elems, rest, n, _, hcs, hx, _, hl, hm, hlen, hel, _, _⟩
  · simp [Value.cells] at hcs
    obtain ⟨rfl, rfl, rfl⟩ := hcs
    obtain ⟨rfl, rfl⟩ := Prod.mk.inj hx
    exact ⟨[], rfl, ⟨rfl, by simp, fun h => absurd h (Nat.lt_irrefl 0)⟩, Nat.le_refl _, by simp⟩
  · simp [Value.cells] at hcs
    obtain ⟨rfl, rfl, rfl⟩ := hcs
    obtain ⟨rfl, _⟩ := Prod.mk.inj hx
    obtain ⟨ls, hls, hP⟩ := pickS elems (fun i x s => (W.cell? (ad.add (i * 2)) = some (.int .i64 s.k) ∧ W.cell? (ad.add (i * 2 + 1)) = some s.h.val ∧ s.h.ok W) ∧ s.h.l.length + 1 ≤ Rows.uptoBulk x.1) (by
      intro i x hx
      have hi : i < len := by rw [← hlen]; exact (List.getElem?_eq_some_iff.1 hx).1
      have := hel i hi
      rw [hx, cells41, Option.bind_eq_some_iff] at this
      obtain ⟨cs', h1, h2⟩ := this
      obtain ⟨_, hcl, hat⟩ := World.cells?_some h1
      obtain ⟨y0, y1, m, rfl, _, t0, t1⟩ := trod_struct2 under41 h2
      match cs', hcl with
      | [c0, c1], _ =>
        have a0 := hat 0 (by decide)
        have a1 := hat 1 (by decide)
        simp only [cells3, OpenRows.cells26, List.drop_zero, List.drop_succ_cons, List.take_succ_cons, List.take_zero] at t0 t1
        obtain ⟨z, e0, _, _⟩ := DataW.trod_int (k := .i64) (by kernel_rfl) t0
        obtain rfl : c0 = .int .i64 z := by simpa using e0
        have key : ∀ A n0 c0, c1 = .slice A n0 c0 → ∃ l : List ByteArray, c1 = .slice A l.length c0 ∧ l.length ≤ c0 ∧ Kd.C Kd.string W A l.length l ∧ l.length ≤ Rows.uptoBulk y1.1 := by
          rintro A n0 c0 rfl
          obtain ⟨l, rfl, hC, hc, hd⟩ := OpenStrs.open_strs Try.underlying26 (⟨m, t1⟩ : DataW.Trod enc Try.prog W base spare held 26 (.slice A n0 c0) y1.1 y1.2)
          exact ⟨l, rfl, hc, hC, OpenStrs.bulk_strs hd⟩
        have hsl : ∃ A n0 c0, c1 = .slice A n0 c0 := by
          rcases DataW.trod_slice Try.underlying26 t1 with ⟨e, _⟩ | ⟨a3, l3, c3, _, _, _, _, e, _⟩
          · exact ⟨_, _, _, by simpa using e⟩
          · exact ⟨_, _, _, by simpa using e⟩
        obtain ⟨A, n0, cc, e⟩ := hsl
        obtain ⟨l, e2, l1, l2, l3⟩ := key A n0 cc e
        refine ⟨⟨z, ⟨A, cc, l⟩⟩, ⟨?_, ?_, l1, l2⟩, ?_⟩
        · rw [Go.Deep.add_add, Nat.add_zero] at a0
          exact a0
        · rw [Go.Deep.add_add, e2] at a1
          exact a1
        · simp only [Rows.uptoBulk, Rows.uptoBulkAll]
          omega)
    have hn : ls.length = len := hls.trans hlen
    refine ⟨ls, hn.symm, ⟨rfl, by unfold maxLen at hm; omega, fun _ => ⟨ad, rfl, fun j p hj => ?_⟩⟩, by omega, ?_⟩
    · have hj1 : j < elems.length := by rw [← hls]; exact (List.getElem?_eq_some_iff.1 hj).1
      obtain ⟨h1, _⟩ := hP j _ (List.getElem?_eq_getElem hj1)
      have e : nth ls j = p := by
        unfold nth
        rw [List.getD_eq_getElem?_getD, hj]
        rfl
      rwa [e] at h1
    · have := bulk_acts ls (elems.map (·.1)) (by simp [hls]) (by
        intro i d hd
        rw [List.getElem?_map] at hd
        obtain ⟨x, hx, rfl⟩ := Option.map_eq_some_iff.1 hd
        exact (hP i x hx).2)
      simp only [Rows.uptoBulk]
      omega
end Go.Proofs.Ytiibkhogahdeiaa.OpenActs
