/- Plain laws of sorted lists of strings. No program in sight. -/
import Derived.Test.YtiibkhogahdeiaaPlain
namespace Go.Proofs.Ytiibkhogahdeiaa.Sorted
open Go.Proofs.Ytiibkhogahdeiaa.Base Go.Proofs.Ytiibkhogahdeiaa.Plain
def Srt (l : List ByteArray) : Prop := l.Pairwise fun x y => lt y x = false
theorem srt_unique : ∀ {a b : List ByteArray}, Srt a → Srt b → a.Perm b → a = b
  | [], b, _, _, hp => (List.nil_perm.1 hp).symm
  | x :: a, [], _, _, hp => absurd hp.length_eq (by simp)
  | x :: a, y :: b, ha, hb, hp => by
    have ha' := List.pairwise_cons.1 ha
    have hb' := List.pairwise_cons.1 hb
    have e : x = y := by
      apply eq_of_le
      · rcases List.mem_cons.1 (hp.mem_iff.1 (List.mem_cons_self)) with h | h
        · rw [h]; exact lt_irrefl _
        · exact hb'.1 _ h
      · rcases List.mem_cons.1 (hp.mem_iff.2 (List.mem_cons_self)) with h | h
        · rw [h]; exact lt_irrefl _
        · exact ha'.1 _ h
    subst e
    rw [srt_unique ha'.2 hb'.2 ((List.perm_cons _).1 hp)]
theorem srt_snoc {a : List ByteArray} {x : ByteArray} (h : Srt a) (hx : ∀ y ∈ a, lt x y = false) : Srt (a ++ [x]) :=
  List.pairwise_append.2 ⟨h, List.pairwise_singleton _ _, fun y hy z hz => by rw [List.mem_singleton.1 hz]; exact hx y hy⟩
theorem get_mem (l : List ByteArray) (k : Nat) (h : k < l.length) : Base.get l k ∈ l := by
  unfold Base.get
  rw [List.getD_eq_getElem?_getD, List.getElem?_eq_getElem h]
  simp
theorem srt_get {l : List ByteArray} (h : Srt l) (i j : Nat) (hij : i < j) (hj : j < l.length) : lt (Base.get l j) (Base.get l i) = false := by
  have := List.pairwise_iff_getElem.1 h i j (by omega) hj hij
  unfold Base.get
  rw [List.getD_eq_getElem?_getD, List.getElem?_eq_getElem hj, List.getD_eq_getElem?_getD, List.getElem?_eq_getElem (show i < l.length by omega)]
  exact this
theorem insert_srt {l : List ByteArray} (h : Srt l) (s : ByteArray) (k : Nat) (_hk : k ≤ l.length) (hgt : ∀ j, k ≤ j → j < l.length → lt s (Base.get l j) = true) (hle : 0 < k → lt s (Base.get l (k - 1)) = false) :
    Srt (l.take k ++ s :: l.drop k) ∧ (l.take k ++ s :: l.drop k).Perm (l ++ [s]) := by
  constructor
  · refine List.pairwise_append.2 ⟨h.sublist (List.take_sublist _ _), List.pairwise_cons.2 ⟨?_, h.sublist (List.drop_sublist _ _)⟩, ?_⟩
    · intro y hy
      obtain ⟨j, hj, rfl⟩ := List.mem_iff_getElem.1 hy
      rw [List.length_drop] at hj
      have := hgt (k + j) (by omega) (by omega)
      rw [List.getElem_drop]
      unfold Base.get at this
      rw [List.getD_eq_getElem?_getD, List.getElem?_eq_getElem (show k + j < l.length by omega)] at this
      exact lt_asymm this
    · intro y hy z hz
      obtain ⟨i, hi, rfl⟩ := List.mem_iff_getElem.1 hy
      rw [List.length_take] at hi
      rw [List.getElem_take]
      rcases List.mem_cons.1 hz with rfl | hz
      · have h1 := hle (by omega)
        rcases Nat.lt_or_ge i (k - 1) with h2 | h2
        · have h3 := srt_get h i (k - 1) h2 (by omega)
          have h4 := le_trans h1 h3
          unfold Base.get at h4
          rwa [List.getD_eq_getElem?_getD, List.getElem?_eq_getElem (show i < l.length by omega)] at h4
        · have e : i = k - 1 := by omega
          subst e
          unfold Base.get at h1
          rwa [List.getD_eq_getElem?_getD, List.getElem?_eq_getElem (show k - 1 < l.length by omega)] at h1
      · obtain ⟨j, hj, rfl⟩ := List.mem_iff_getElem.1 hz
        rw [List.length_drop] at hj
        rw [List.getElem_drop]
        exact List.pairwise_iff_getElem.1 h i (k + j) (by omega) (by omega) (by omega)
  · have e : l ++ [s] = l.take k ++ (l.drop k ++ [s]) := by rw [← List.append_assoc, List.take_append_drop]
    rw [e]
    refine List.Perm.append_left _ ?_
    exact (List.perm_append_singleton s _).symm
end Go.Proofs.Ytiibkhogahdeiaa.Sorted
