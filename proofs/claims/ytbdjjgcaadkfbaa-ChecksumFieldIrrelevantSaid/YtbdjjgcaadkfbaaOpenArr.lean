/- An array of bytes by value, as the rows' reader opens it: its cells are a list of bytes. -/
import Derived.Test.YtbdjjgcaadkfbaaIrrelevant
import Derived.WalkKit
import Derived.ProofKit
import Derived.OpenShut
namespace Go.Proofs.Ytbdjjgcaadkfbaa.OpenArr
open Go.ChangeShapes Go.WideShapes Go.ChangeAt Go.RowKit Go.Proofs.YtbdjjgcaadkfbaaW.PrintWords Go.Proofs.Ytbdjjgcaadkfbaa.Sealed

theorem open_arr {H : Type} {enc : TypeId × Value → H} {P : Program} {W : World} {base : Nat} {spare : Nat → Bool} {held : Bool} {t e : TypeId} {n : Nat} {v : Value} {d : DataW H} {p : List MemPlace} {r : Reach} {b0 : Nat}
    (ht : P.underlying t = some (.array n e)) (he : P.underlying e = some (.int .u8)) (hce : P.cellsOf e = 1) (hct : P.cellsOf t = n) (hv : Value.okWide P W r b0 t v) (h : DataW.Trod enc P W base spare held t v d p) :
    ∃ l : List Int, v = .agg (cellsOf l) ∧ l.length = n ∧ ∀ x ∈ l, (Lit.int .u8 x).wf = true := by
  unfold Value.okWide at hv
  rw [ht] at hv
  obtain ⟨cs, rfl, hsz, _⟩ := hv
  rw [hct] at hsz
  obtain ⟨fuel, hf⟩ := h
  obtain ⟨xs, m, _, _, _, _, hel⟩ := DataW.trod_array ht hf
  have each : ∀ i : Nat, i < n → ∃ x : Int, cs[i]? = some (.int .u8 x) ∧ (Lit.int .u8 x).wf = true := by
    intro i hi
    have h1 := hel i hi
    rw [hce, Nat.mul_one] at h1
    have hcl : i < cs.size := by omega
    have e1 : (((Value.agg cs).cells.toList).drop i).take 1 = [cs[i]] := by
      show (cs.toList.drop i).take 1 = [cs[i]]
      rw [List.drop_eq_getElem_cons (by rw [Array.length_toList]; exact hcl)]
      simp
    rw [e1] at h1
    cases hx : xs[i]? with
    | none =>
      rw [hx] at h1
      have : xs.length = n := by assumption
      rw [List.getElem?_eq_none_iff] at hx
      omega
    | some y =>
      rw [hx] at h1
      obtain ⟨k, e2, _, hw⟩ := DataW.trod_int he h1
      refine ⟨k, ?_, hw⟩
      rw [Array.getElem?_eq_getElem hcl]
      simpa using e2
  refine ⟨cs.toList.map fun v => match v with | .int _ x => x | _ => 0, ?_, by simp [hsz], ?_⟩
  · congr 1
    apply Array.ext'
    apply List.ext_getElem
    · simp [cellsOf, nums]
    · intro i h1 h2
      obtain ⟨x, hx, _⟩ := each i (by rw [Array.length_toList] at h1; omega)
      have h3 : cs.toList[i] = .int .u8 x := by
        rw [Array.getElem?_eq_some_iff] at hx
        obtain ⟨_, hx⟩ := hx
        simpa using hx
      simp [cellsOf, nums, h3]
  · intro y hy
    rw [List.mem_iff_getElem] at hy
    obtain ⟨i, hi, rfl⟩ := hy
    rw [List.length_map, Array.length_toList] at hi
    obtain ⟨x, hx, hw⟩ := each i (by omega)
    rw [Array.getElem?_eq_some_iff] at hx
    obtain ⟨_, hx⟩ := hx
    simp [hx, hw]
end Go.Proofs.Ytbdjjgcaadkfbaa.OpenArr
