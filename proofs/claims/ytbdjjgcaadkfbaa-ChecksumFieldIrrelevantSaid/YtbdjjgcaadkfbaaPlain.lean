/- The checksum of a block in plain lists: the sum, the sealed block, and what follows. -/
import Derived.Test.YtbdjjgcaadkfbaaOct
namespace Go.Proofs.Ytbdjjgcaadkfbaa.Plain
open Go.RowKit Go.Proofs.Ytbdjjgcaadkfbaa.Oct

/-- Bytes. -/
def Bytes (l : List Int) : Prop := ∀ x ∈ l, 0 ≤ x ∧ x < 256
/-- The sum of a list. -/
def tot : List Int → Int
  | [] => 0
  | x :: l => x + tot l
theorem tot_append (l m : List Int) : tot (l ++ m) = tot l + tot m := by
  induction l with
  | nil => simp [tot]
  | cons x l ih => simp [tot, ih]; omega
theorem tot_bound (l : List Int) (h : Bytes l) : 0 ≤ tot l ∧ tot l ≤ 255 * l.length := by
  induction l with
  | nil => simp [tot]
  | cons x l ih =>
    have hx := h x (by simp)
    have := ih (fun y hy => h y (by simp [hy]))
    simp only [tot, List.length_cons]
    omega
theorem Bytes.take {l : List Int} (h : Bytes l) (n : Nat) : Bytes (l.take n) := fun x hx => h x (List.mem_of_mem_take hx)
theorem Bytes.drop {l : List Int} (h : Bytes l) (n : Nat) : Bytes (l.drop n) := fun x hx => h x (List.mem_of_mem_drop hx)
theorem Bytes.append {l m : List Int} (h : Bytes l) (k : Bytes m) : Bytes (l ++ m) := fun x hx => by
  rcases List.mem_append.1 hx with hx | hx
  · exact h x hx
  · exact k x hx
theorem Bytes.spaces (n : Nat) : Bytes (List.replicate n 32) := fun x hx => by
  obtain ⟨_, rfl⟩ := List.mem_replicate.1 hx
  omega
theorem Bytes.zeros (n : Nat) : Bytes (List.replicate n 0) := fun x hx => by
  obtain ⟨_, rfl⟩ := List.mem_replicate.1 hx
  omega
theorem Bytes.fld (d : Nat) (n : Int) : Bytes (fld d n) := by
  intro x hx
  unfold Oct.fld at hx
  simp only [List.mem_append, List.mem_singleton] at hx
  rcases hx with h | h
  · have := digs_mem _ _ x h; omega
  · omega
theorem Bytes.getD {l : List Int} (h : Bytes l) (i : Nat) : 0 ≤ l.getD i 0 ∧ l.getD i 0 < 256 := by
  by_cases hi : i < l.length
  · rw [List.getD_eq_getElem?_getD, List.getElem?_eq_getElem hi]
    exact h _ (by simp)
  · rw [List.getD_eq_getElem?_getD, List.getElem?_eq_none (by omega)]
    simp
theorem take_snoc (l : List Int) (k : Nat) (h : k < l.length) : l.take (k + 1) = l.take k ++ [l.getD k 0] := by
  rw [List.take_succ_eq_append_getElem h]
  simp [List.getD_eq_getElem?_getD, List.getElem?_eq_getElem h]
theorem tot_snoc (l : List Int) (k : Nat) (h : k < l.length) : tot (l.take (k + 1)) = tot (l.take k) + l.getD k 0 := by
  rw [take_snoc l k h, tot_append]
  simp [tot]

/-- The block with spaces in the checksum field; the sum; the sealed block. -/
def fill (l : List Int) : List Int := l.take 148 ++ (List.replicate 8 32 ++ l.drop 156)
def sumL (l : List Int) : Int := tot (fill l)
def field (l : List Int) : List Int := fld 6 (sumL l) ++ [32]
def sealL (l : List Int) : List Int := l.take 148 ++ (field l ++ l.drop 156)
theorem fill_len (l : List Int) (h : l.length = 512) : (fill l).length = 512 := by simp [fill, h]
theorem field_len (l : List Int) : (field l).length = 8 := by simp [field, fld_len]
theorem seal_len (l : List Int) (h : l.length = 512) : (sealL l).length = 512 := by simp [sealL, field_len, h]
theorem fill_bytes (l : List Int) (h : Bytes l) : Bytes (fill l) := (h.take _).append ((Bytes.spaces _).append (h.drop _))
theorem seal_bytes (l : List Int) (h : Bytes l) : Bytes (sealL l) := (h.take _).append (((Bytes.fld _ _).append (Bytes.spaces 1)).append (h.drop _))
theorem sum_eq (l : List Int) : sumL l = tot (l.take 148) + 256 + tot (l.drop 156) := by
  unfold sumL fill
  rw [tot_append, tot_append]
  have : tot (List.replicate 8 32) = 256 := by decide
  omega
theorem sum_bound (l : List Int) (hl : l.length = 512) (h : Bytes l) : 256 ≤ sumL l ∧ sumL l ≤ 128776 := by
  have h1 := tot_bound _ (h.take 148)
  have h2 := tot_bound _ (h.drop 156)
  rw [List.length_take] at h1
  rw [List.length_drop] at h2
  have e1 : min 148 l.length = 148 := by omega
  rw [e1] at h1
  rw [hl] at h2
  rw [sum_eq]
  omega
theorem sum_small (l : List Int) (hl : l.length = 512) (h : Bytes l) : 0 ≤ sumL l ∧ sumL l < 8 ^ 6 := by
  have := sum_bound l hl h
  have e : (8 : Int) ^ 6 = 262144 := by decide
  omega
/-- Sealing leaves what lies outside of the field. -/
theorem seal_take (l : List Int) (hl : l.length = 512) : (sealL l).take 148 = l.take 148 := by
  unfold sealL
  rw [List.take_left' (by simp [hl])]
theorem seal_drop (l : List Int) (hl : l.length = 512) : (sealL l).drop 156 = l.drop 156 := by
  unfold sealL
  rw [← List.append_assoc, List.drop_left' (by simp [hl, field_len])]
theorem sum_seal (l : List Int) (hl : l.length = 512) : sumL (sealL l) = sumL l := by rw [sum_eq, sum_eq, seal_take l hl, seal_drop l hl]
theorem seal_seal (l : List Int) (hl : l.length = 512) : sealL (sealL l) = sealL l := by
  have e : field (sealL l) = field l := by unfold field; rw [sum_seal l hl]
  show (sealL l).take 148 ++ (field (sealL l) ++ (sealL l).drop 156) = sealL l
  rw [seal_take l hl, seal_drop l hl, e]
  rfl
/-- A block of 512 bytes out of whatever bytes there are. -/
def blk (l : List Int) : List Int := l.take 512 ++ List.replicate (512 - l.length) 0
theorem blk_len (l : List Int) : (blk l).length = 512 := by simp [blk]; omega
theorem blk_bytes (l : List Int) (h : Bytes l) : Bytes (blk l) := (h.take _).append (Bytes.zeros _)
/-- What Verify answers. -/
def vfy (l : List Int) : Int := if sealL l = l then 0 else 9
theorem vfy_seal (l : List Int) (hl : l.length = 512) : vfy (sealL l) = 0 := by
  unfold vfy
  rw [if_pos (seal_seal l hl)]
/-- One byte set: what happens to the sum. -/
theorem tot_set (l : List Int) (i : Nat) (x : Int) (h : i < l.length) : tot (l.set i x) = tot l - l.getD i 0 + x := by
  induction l generalizing i with
  | nil => simp at h
  | cons y l ih =>
    cases i with
    | zero => simp [tot]; omega
    | succ i =>
      have := ih i (by simpa using h)
      simp only [List.set_cons_succ, tot, this, List.getD_cons_succ]
      omega
theorem getD_take (l : List Int) (i n : Nat) (h : i < n) : (l.take n).getD i 0 = l.getD i 0 := by
  simp [List.getD_eq_getElem?_getD, h]
theorem getD_drop (l : List Int) (i n : Nat) : (l.drop n).getD i 0 = l.getD (n + i) 0 := by
  simp [List.getD_eq_getElem?_getD]
theorem sum_set (l : List Int) (hl : l.length = 512) (i : Nat) (x : Int) (hi : i < 512) (ho : i < 148 ∨ 156 ≤ i) : sumL (l.set i x) = sumL l - l.getD i 0 + x := by
  rw [sum_eq, sum_eq]
  rcases ho with h | h
  · rw [List.take_set, List.drop_set, if_pos (by omega), tot_set _ i x (by simp [hl]; omega), getD_take l i 148 h]
    omega
  · rw [List.take_set, List.set_eq_of_length_le (by simp; omega), List.drop_set, if_neg (by omega), tot_set _ (i - 156) x (by simp [hl]; omega), getD_drop l (i - 156) 156, show 156 + (i - 156) = i by omega]
    omega
theorem sum_set_in (l : List Int) (i : Nat) (x : Int) (h0 : 148 ≤ i) (h1 : i < 156) : sumL (l.set i x) = sumL l := by
  rw [sum_eq, sum_eq, List.take_set, List.set_eq_of_length_le (by simp; omega), List.drop_set, if_pos (by omega)]
theorem seal_getD (l : List Int) (hl : l.length = 512) (i : Nat) (h : i < 8) : (sealL l).getD (148 + i) 0 = (field l).getD i 0 := by
  unfold sealL
  have e : (l.take 148).length = 148 := by simp [hl]
  simp [List.getD_eq_getElem?_getD, List.getElem?_append_right, e, List.getElem?_append_left, field_len, h]
theorem field_inj (a b : List Int) (ha : 0 ≤ sumL a ∧ sumL a < 8 ^ 6) (hb : 0 ≤ sumL b ∧ sumL b < 8 ^ 6) (h : field a = field b) : sumL a = sumL b := by
  unfold field fld at h
  have h1 := List.append_inj_left' h rfl
  have h2 := List.append_inj_left' h1 rfl
  have p := prs_digs 6 (sumL a) ha.1 ha.2
  rw [h2, prs_digs 6 (sumL b) hb.1 hb.2] at p
  simpa using p.symm
/-- A sealed block with one byte changed is sealed no more. -/
theorem changed (l : List Int) (hl : l.length = 512) (hb : Bytes l) (i : Nat) (hi : i < 512) (x : Int) (hx0 : 0 ≤ x) (hx1 : x < 256) (hne : x ≠ (sealL l).getD i 0) : vfy ((sealL l).set i x) = 9 := by
  unfold vfy
  rw [if_neg]
  intro h
  have hsl := seal_len l hl
  have hcl : ((sealL l).set i x).length = 512 := by rw [List.length_set]; exact hsl
  have hsb := seal_bytes l hb
  have hcb : Bytes ((sealL l).set i x) := fun y hy => by
    rcases List.mem_or_eq_of_mem_set hy with h | h
    · exact hsb y h
    · omega
  by_cases hin : 148 ≤ i ∧ i < 156
  · have e1 : sumL ((sealL l).set i x) = sumL l := by rw [sum_set_in _ i x hin.1 hin.2, sum_seal l hl]
    have e2 : field ((sealL l).set i x) = field l := by unfold field; rw [e1]
    have g := seal_getD ((sealL l).set i x) hcl (i - 148) (by omega)
    have g2 := seal_getD l hl (i - 148) (by omega)
    rw [h, show 148 + (i - 148) = i by omega, e2] at g
    rw [show 148 + (i - 148) = i by omega] at g2
    rw [← g2] at g
    have : ((sealL l).set i x).getD i 0 = x := by simp [List.getD_eq_getElem?_getD, hsl, hi]
    omega
  · have e1 := sum_set (sealL l) hsl i x hi (by omega)
    have hne2 : sumL ((sealL l).set i x) ≠ sumL l := by rw [e1, sum_seal l hl]; omega
    apply hne2
    refine field_inj _ _ (sum_small _ hcl hcb) (sum_small _ hl hb) ?_
    apply List.ext_getElem
    · rw [field_len, field_len]
    · intro j h1 h2
      rw [field_len] at h1
      have g := seal_getD ((sealL l).set i x) hcl j h1
      have g2 := seal_getD l hl j h1
      rw [h] at g
      have g3 : ((sealL l).set i x).getD (148 + j) 0 = (sealL l).getD (148 + j) 0 := by
        have hji : i ≠ 148 + j := by omega
        simp [List.getD_eq_getElem?_getD, List.getElem?_set_ne hji]
      rw [g3, g2] at g
      rw [List.getD_eq_getElem?_getD, List.getD_eq_getElem?_getD, List.getElem?_eq_getElem h2, List.getElem?_eq_getElem (by rw [field_len]; exact h1)] at g
      simpa using g.symm
end Go.Proofs.Ytbdjjgcaadkfbaa.Plain
