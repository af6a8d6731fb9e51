/- The heap's theory in plain lists: the order of strings, sifting down and up, the least string. -/
import Derived.Test.YtiibkhogahdeiaaBase
namespace Go.Proofs.Ytiibkhogahdeiaa.Plain
open Go.Proofs.Ytiibkhogahdeiaa.Base

/-! ### The order -/
theorem less_irrefl (x : List UInt8) : Op.bytesLess x x = false := by
  induction x with
  | nil => rfl
  | cons a x ih => simp [Op.bytesLess, ih]
theorem less_total : ∀ (x y : List UInt8), Op.bytesLess x y = false → Op.bytesLess y x = false → x = y
  | [], [], _, _ => rfl
  | [], _ :: _, h, _ => by simp [Op.bytesLess] at h
  | _ :: _, [], _, h => by simp [Op.bytesLess] at h
  | a :: x, b :: y, h, h' => by
    simp only [Op.bytesLess, Bool.or_eq_false_iff, Bool.and_eq_false_iff, decide_eq_false_iff_not, beq_eq_false_iff_ne] at h h'
    have e : a = b := UInt8.le_antisymm (UInt8.not_lt.1 h'.1) (UInt8.not_lt.1 h.1)
    subst e
    have h1 : Op.bytesLess x y = false := by
      rcases h.2 with h | h
      · exact absurd rfl h
      · exact h
    have h2 : Op.bytesLess y x = false := by
      rcases h'.2 with h | h
      · exact absurd rfl h
      · exact h
    rw [less_total x y h1 h2]
theorem less_trans : ∀ (x y z : List UInt8), Op.bytesLess x y = true → Op.bytesLess y z = true → Op.bytesLess x z = true
  | _, [], _, h, _ => by simp [Op.bytesLess] at h
  | _, _ :: _, [], _, h => by simp [Op.bytesLess] at h
  | [], _ :: _, _ :: _, _, _ => rfl
  | a :: x, b :: y, c :: z, h, h' => by
    simp only [Op.bytesLess, Bool.or_eq_true, Bool.and_eq_true, decide_eq_true_eq, beq_iff_eq] at h h' ⊢
    rcases h with h | ⟨rfl, h⟩
    · rcases h' with h' | ⟨rfl, h'⟩
      · exact .inl (UInt8.lt_trans h h')
      · exact .inl h
    · rcases h' with h' | ⟨rfl, h'⟩
      · exact .inl h'
      · exact .inr ⟨rfl, less_trans x y z h h'⟩
theorem lt_irrefl (x : ByteArray) : lt x x = false := less_irrefl _
theorem lt_trans {x y z : ByteArray} (h : lt x y = true) (h' : lt y z = true) : lt x z = true := less_trans _ _ _ h h'
theorem lt_asymm {x y : ByteArray} (h : lt x y = true) : lt y x = false := by
  cases e : lt y x with
  | false => rfl
  | true =>
    have := lt_trans h e
    rw [lt_irrefl] at this
    cases this
theorem toList_inj {x y : ByteArray} (h : x.toList = y.toList) : x = y := by
  rw [ByteArray.toList_eq, ByteArray.toList_eq] at h
  cases x; cases y
  congr 1
  exact Array.ext' h
theorem eq_of_le {x y : ByteArray} (h : lt x y = false) (h' : lt y x = false) : x = y := toList_inj (less_total _ _ h h')
/-- y ≤ x and z ≤ y: z ≤ x. -/
theorem le_trans {x y z : ByteArray} (h : lt x y = false) (h' : lt y z = false) : lt x z = false := by
  cases e : lt x z with
  | false => rfl
  | true =>
    cases e2 : lt z y with
    | true =>
      have := lt_trans e e2
      rw [h] at this
      cases this
    | false =>
      have := eq_of_le h' e2
      subst this
      rw [h] at e
      cases e
theorem lt_of_lt_of_le {x y z : ByteArray} (h : lt x y = true) (h' : lt z y = false) : lt x z = true := by
  cases e : lt x z with
  | true => rfl
  | false =>
    have := le_trans e h'
    rw [this] at h
    cases h

/-! ### Swapping -/
theorem get_set (xs : List ByteArray) (i k : Nat) (x : ByteArray) (h : i < xs.length) : get (xs.set i x) k = if k = i then x else get xs k := by
  unfold Base.get
  by_cases hk : k = i
  · subst hk
    simp [List.getD_eq_getElem?_getD, h]
  · rw [if_neg hk]
    simp [List.getD_eq_getElem?_getD, List.getElem?_set_ne (Ne.symm hk)]
theorem get_swap (xs : List ByteArray) (i j k : Nat) (hi : i < xs.length) (hj : j < xs.length) : get (swapL xs i j) k = if k = j then get xs i else if k = i then get xs j else get xs k := by
  unfold swapL
  rw [get_set _ j k _ (by rw [List.length_set]; exact hj), get_set _ i k _ hi]
theorem swap_perm (xs : List ByteArray) (i j : Nat) (hi : i < xs.length) (hj : j < xs.length) : (swapL xs i j).Perm xs := by
  have h := Array.swap_perm (xs := xs.toArray) (i := i) (j := j) (by simpa using hi) (by simpa using hj)
  have e : (xs.toArray.swap i j (by simpa using hi) (by simpa using hj)).toList = swapL xs i j := by
    simp [swapL, Base.get, List.getD_eq_getElem?_getD, List.getElem?_eq_getElem hi, List.getElem?_eq_getElem hj, Array.swap_def]
  rw [← e]
  exact Array.perm_iff_toList_perm.1 h

/-! ### Heaps -/
/-- No element below n is less than its parent, for parents from lo on. -/
def HeapFrom (xs : List ByteArray) (n lo : Nat) : Prop := ∀ k, 0 < k → k < n → lo ≤ (k - 1) / 2 → lt (get xs k) (get xs ((k - 1) / 2)) = false
/-- Sifting down: all is well but at i. -/
structure Down (xs0 : List ByteArray) (n lo : Nat) (xs : List ByteArray) (i : Nat) : Prop where
  perm : xs.Perm xs0
  fits : n ≤ xs.length
  rest : ∀ k, n ≤ k → get xs k = get xs0 k
  ge : lo ≤ i
  anc : lo < i → lo ≤ (i - 1) / 2
  heap : ∀ k, 0 < k → k < n → lo ≤ (k - 1) / 2 → (k - 1) / 2 ≠ i → lt (get xs k) (get xs ((k - 1) / 2)) = false
  up : lo < i → ∀ k, 0 < k → k < n → (k - 1) / 2 = i → lt (get xs k) (get xs ((i - 1) / 2)) = false
theorem Down.start {xs : List ByteArray} {n lo : Nat} (h : HeapFrom xs n (lo + 1)) (hn : n ≤ xs.length) : Down xs n lo xs lo :=
  ⟨List.Perm.refl _, hn, fun _ _ => rfl, Nat.le_refl _, fun h => by omega, fun k h0 h1 h2 h3 => h k h0 h1 (by omega), fun h => by omega⟩
theorem Down.swap {xs0 xs : List ByteArray} {n lo i j : Nat} (h : Down xs0 n lo xs i) (hj0 : 0 < j) (hj : j < n) (hji : (j - 1) / 2 = i)
    (hmin : ∀ k, 0 < k → k < n → (k - 1) / 2 = i → lt (get xs k) (get xs j) = false) (hlt : lt (get xs j) (get xs i) = true) : Down xs0 n lo (swapL xs i j) j := by
  have hij : i < j := by omega
  have hin : i < n := by omega
  have hil : i < xs.length := Nat.lt_of_lt_of_le hin h.fits
  have hjl : j < xs.length := Nat.lt_of_lt_of_le hj h.fits
  have hge := h.ge
  have g := fun k => get_swap xs i j k hil hjl
  refine ⟨(swap_perm xs i j hil hjl).trans h.perm, by rw [swapL_len]; exact h.fits, fun k hk => ?_, by omega, fun _ => by omega, fun k h0 h1 h2 h3 => ?_, fun _ k h0 h1 h2 => ?_⟩
  · rw [g, if_neg (by omega), if_neg (by omega)]
    exact h.rest k hk
  · by_cases hp : (k - 1) / 2 = i
    · rw [hp, g i, if_neg (by omega), if_pos rfl, g k]
      by_cases hk : k = j
      · rw [if_pos hk]
        exact lt_asymm hlt
      · rw [if_neg hk, if_neg (by omega)]
        exact hmin k h0 h1 hp
    · rw [g ((k - 1) / 2), if_neg h3, if_neg hp, g k]
      by_cases hki : k = i
      · subst hki
        rw [if_neg (by omega), if_pos rfl]
        exact h.up (by omega) j hj0 hj hji
      · rw [if_neg (by intro e; subst e; omega), if_neg hki]
        exact h.heap k h0 h1 h2 hp
  · rw [hji, g i, if_neg (by omega), if_pos rfl, g k, if_neg (by omega), if_neg (by omega)]
    have := h.heap k h0 h1 (by omega) (by omega)
    rw [h2] at this
    exact this
theorem Down.done {xs0 xs : List ByteArray} {n lo i : Nat} (h : Down xs0 n lo xs i) (hmin : ∀ k, 0 < k → k < n → (k - 1) / 2 = i → lt (get xs k) (get xs i) = false) : HeapFrom xs n lo := by
  intro k h0 h1 h2
  by_cases hp : (k - 1) / 2 = i
  · rw [hp]; exact hmin k h0 h1 hp
  · exact h.heap k h0 h1 h2 hp
/-- Sifting up: all is well but at j. -/
structure Up (xs0 : List ByteArray) (xs : List ByteArray) (j : Nat) : Prop where
  perm : xs.Perm xs0
  lt_n : j < xs.length
  heap : ∀ k, 0 < k → k < xs.length → k ≠ j → lt (get xs k) (get xs ((k - 1) / 2)) = false
  up : 0 < j → ∀ k, 0 < k → k < xs.length → (k - 1) / 2 = j → lt (get xs k) (get xs ((j - 1) / 2)) = false
theorem Up.swap {xs0 xs : List ByteArray} {i j : Nat} (h : Up xs0 xs j) (hj0 : 0 < j) (hi : (j - 1) / 2 = i) (hlt : lt (get xs j) (get xs i) = true) : Up xs0 (swapL xs i j) i := by
  have hjl := h.lt_n
  have hil : i < xs.length := by omega
  have g := fun k => get_swap xs i j k hil hjl
  refine ⟨(swap_perm xs i j hil hjl).trans h.perm, by rw [swapL_len]; exact hil, fun k h0 h1 h3 => ?_, fun hi0 k h0 h1 h2 => ?_⟩
  · rw [swapL_len] at h1
    by_cases hp : (k - 1) / 2 = i
    · rw [hp, g i, if_neg (by omega), if_pos rfl, g k]
      by_cases hk : k = j
      · rw [if_pos hk]
        exact lt_asymm hlt
      · rw [if_neg hk, if_neg h3]
        have := h.heap k h0 h1 hk
        rw [hp] at this
        exact le_trans this (lt_asymm hlt)
    · by_cases hpj : (k - 1) / 2 = j
      · rw [hpj, g j, if_pos rfl, g k, if_neg (by omega), if_neg h3]
        have := h.up hj0 k h0 h1 hpj
        rw [hi] at this
        exact this
      · rw [g ((k - 1) / 2), if_neg hpj, if_neg hp, g k, if_neg (by intro e; subst e; omega), if_neg h3]
        exact h.heap k h0 h1 (by intro e; subst e; omega)
  · rw [swapL_len] at h1
    have hpi := h.heap i hi0 hil (by omega)
    rw [g ((i - 1) / 2), if_neg (by omega), if_neg (by omega), g k]
    by_cases hk : k = j
    · rw [if_pos hk]; exact hpi
    · rw [if_neg hk, if_neg (by omega)]
      have := h.heap k h0 h1 hk
      rw [h2] at this
      exact le_trans this hpi
theorem Up.done {xs0 xs : List ByteArray} {j : Nat} (h : Up xs0 xs j) (hd : 0 < j → lt (get xs j) (get xs ((j - 1) / 2)) = false) : HeapFrom xs xs.length 0 := by
  intro k h0 h1 _
  by_cases hk : k = j
  · subst hk; exact hd h0
  · exact h.heap k h0 h1 hk
theorem root_min {xs : List ByteArray} {n : Nat} (h : HeapFrom xs n 0) : ∀ k, k < n → lt (get xs k) (get xs 0) = false := by
  intro k
  induction k using Nat.strongRecOn with
  | ind k ih =>
    intro hk
    by_cases h0 : k = 0
    · subst h0; exact lt_irrefl _
    · exact le_trans (h k (by omega) hk (Nat.zero_le _)) (ih ((k - 1) / 2) (by omega) (by omega))
end Go.Proofs.Ytiibkhogahdeiaa.Plain
