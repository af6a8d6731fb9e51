/- The plain arithmetic of octal fields: digits, their value, their order. -/
import Derived.RowKit
import Derived.Laws.BitsLemmas
import Derived.Laws.BytesArg
import Derived.Lib.Bytes
namespace Go.Proofs.Ytbdjjgcaadkfbaa.Oct
open Go.RowKit

theorem wraps_i64 (n : Int) (h₀ : 0 ≤ n) (h₁ : n < 2 ^ 63) : IntKind.i64.wrap n = n := by rw [IntKind.wrap_i64]; omega
theorem and7 (x : Int) (h₀ : 0 ≤ x) (h₁ : x < 9223372036854775808) : Go.bits .and .i64 x 7 = x % 8 :=
  bits_mask .i64 63 (by decide) wraps_i64 3 (by decide) x h₀ h₁
theorem or3 (x y : Int) (hx₀ : 0 ≤ x) (hx : x % 8 = 0) (hx₁ : x < 9223372036854775808) (h₀ : 0 ≤ y) (h₁ : y < 8) : Go.bits .or .i64 x y = x + y :=
  bits_join .i64 63 (by decide) wraps_i64 3 x y hx₀ hx hx₁ h₀ h₁ (by omega)
theorem w64s {x : Int} (h0 : -9223372036854775808 ≤ x) (h1 : x < 9223372036854775808) : wrap64 x = x := by unfold wrap64; omega

theorem byte_bounds {n : Int} (h : (Lit.int .u8 n).wf = true) : 0 ≤ n ∧ n ≤ 255 := by
  simp [Lit.wf, IntKind.min, IntKind.max, IntKind.signed, IntKind.bits] at h
  omega
theorem getD_behind (l m : List Int) (n : Nat) (c : Int) (h : l.length = n) : (l ++ c :: m).getD n 0 = c := by
  subst h
  simp [List.getD_eq_getElem?_getD]
theorem getD_before (l m : List Int) (n : Nat) (h : n < l.length) : (l ++ m).getD n 0 = l.getD n 0 := by
  simp [List.getD_eq_getElem?_getD, List.getElem?_append_left h]

/-- The d octal digits of n, the highest first. -/
def digs : Nat → Int → List Int
  | 0, _ => []
  | d + 1, n => digs d (n / 8) ++ [48 + n % 8]
/-- The field: the digits and a NUL. -/
def fld (d : Nat) (n : Int) : List Int := digs d n ++ [0]
theorem digs_len : ∀ d n, (digs d n).length = d
  | 0, _ => rfl
  | d + 1, n => by simp [digs, digs_len d]
theorem fld_len (d : Nat) (n : Int) : (fld d n).length = d + 1 := by simp [fld, digs_len]
theorem digs_mem : ∀ d n x, x ∈ digs d n → 48 ≤ x ∧ x ≤ 55
  | 0, _, x, h => by simp [digs] at h
  | d + 1, n, x, h => by
    simp only [digs, List.mem_append, List.mem_singleton] at h
    rcases h with h | h
    · exact digs_mem d _ x h
    · omega

/-- Digits read from the highest on, n before them; none at a sign that is no octal digit. -/
def prs : Int → List Int → Option Int
  | n, [] => some n
  | n, c :: l => if c < 48 then none else if c > 55 then none else prs (n * 8 + (c - 48)) l
theorem prs_append (n : Int) (l m : List Int) : prs n (l ++ m) = (prs n l).bind fun k => prs k m := by
  induction l generalizing n with
  | nil => rfl
  | cons c l ih =>
    simp only [List.cons_append, prs]
    split
    · rfl
    · split
      · rfl
      · exact ih _
theorem prs_digs : ∀ (d : Nat) (n : Int), 0 ≤ n → n < 8 ^ d → prs 0 (digs d n) = some n
  | 0, n, h0, h1 => by
    have : n = 0 := by simp at h1; omega
    subst this; rfl
  | d + 1, n, h0, h1 => by
    have h8 : n < 8 ^ d * 8 := by rw [← Int.pow_succ]; exact h1
    rw [digs, prs_append, prs_digs d (n / 8) (by omega) (by omega)]
    simp only [Option.bind_some, prs]
    rw [if_neg (by omega), if_neg (by omega)]
    congr 1
    omega
theorem prs_bound : ∀ (l : List Int) (n m : Int), 0 ≤ n → prs n l = some m → 0 ≤ m ∧ m < (n + 1) * 8 ^ l.length
  | [], n, m, h0, h => by
    simp only [prs, Option.some.injEq] at h; subst h
    refine ⟨h0, ?_⟩
    simp only [List.length_nil, Int.pow_zero]; omega
  | c :: l, n, m, h0, h => by
    simp only [prs] at h
    split at h
    · cases h
    · split at h
      · cases h
      · rename_i h1 h2
        obtain ⟨a, b⟩ := prs_bound l _ m (by omega) h
        refine ⟨a, Int.lt_of_lt_of_le b ?_⟩
        rw [List.length_cons, Int.pow_succ, Int.mul_comm (8 ^ l.length) 8, ← Int.mul_assoc]
        exact Int.mul_le_mul_of_nonneg_right (by omega) (Int.pow_nonneg (by omega))
theorem digs_prs : ∀ (l : List Int) (m : Int), prs 0 l.reverse = some m → digs l.length m = l.reverse
  | [], m, _ => rfl
  | c :: l, m, h => by
    rw [List.reverse_cons, prs_append] at h
    cases e : prs 0 l.reverse with
    | none => rw [e] at h; cases h
    | some q =>
      rw [e] at h
      simp only [Option.bind_some, prs] at h
      split at h
      · cases h
      · split at h
        · cases h
        · rename_i h1 h2
          have hm : q * 8 + (c - 48) = m := by simpa using h
          have hq := prs_bound _ _ _ (by omega) e
          rw [List.length_cons, digs, List.reverse_cons]
          have e1 : m / 8 = q := by omega
          have e2 : 48 + m % 8 = c := by omega
          rw [e1, e2, digs_prs l q e]
theorem digs_of_prs (l : List Int) (m : Int) (h : prs 0 l = some m) : digs l.length m = l := by
  have := digs_prs l.reverse m (by simpa using h)
  simpa using this

/-- In bytes. -/
def bts (l : List Int) : List UInt8 := l.map fun n => UInt8.ofNat n.toNat
theorem str_list (l : List Int) : (strOfNums l).toList = bts l := by
  rw [Lib.strOfNums_toList]; rfl
theorem bts_inj : ∀ (l m : List Int), (∀ x ∈ l, 0 ≤ x ∧ x < 256) → (∀ x ∈ m, 0 ≤ x ∧ x < 256) → bts l = bts m → l = m
  | [], [], _, _, _ => rfl
  | [], _ :: _, _, _, h => by simp [bts] at h
  | _ :: _, [], _, _, h => by simp [bts] at h
  | a :: l, b :: m, hl, hm, h => by
    simp only [bts, List.map_cons, List.cons.injEq] at h
    have ha := hl a (by simp)
    have hb := hm b (by simp)
    have e : a = b := by
      have := congrArg UInt8.toNat h.1
      rw [UInt8.toNat_ofNat_of_lt' (by simp; omega), UInt8.toNat_ofNat_of_lt' (by simp; omega)] at this
      omega
    rw [e, bts_inj l m (fun x hx => hl x (by simp [hx])) (fun x hx => hm x (by simp [hx])) h.2]

/-- The order of bytes, of lists of equal length with one byte more behind each. -/
theorem less_append (x y s t : List UInt8) (h : x.length = y.length) : Op.bytesLess (x ++ s) (y ++ t) = (Op.bytesLess x y || (x == y && Op.bytesLess s t)) := by
  induction x generalizing y with
  | nil => cases y with
    | nil => simp [Op.bytesLess]
    | cons b y => simp at h
  | cons a x ih => cases y with
    | nil => simp at h
    | cons b y =>
      simp only [List.cons_append, Op.bytesLess, ih y (by simpa using h)]
      by_cases e : a = b
      · subst e; simp
      · have : (a == b) = false := by simpa using e
        simp [this]
theorem less_digs : ∀ (d : Nat) (a b : Int), 0 ≤ a → 0 ≤ b → a < 8 ^ d → b < 8 ^ d → Op.bytesLess (bts (digs d a)) (bts (digs d b)) = decide (a < b)
  | 0, a, b, h0, h1, h2, h3 => by
    simp at h2 h3
    have : ¬ a < b := by omega
    simp [digs, bts, Op.bytesLess, this]
  | d + 1, a, b, h0, h1, h2, h3 => by
    have h8 : a < 8 ^ d * 8 := by rw [← Int.pow_succ]; exact h2
    have h9 : b < 8 ^ d * 8 := by rw [← Int.pow_succ]; exact h3
    have e : ∀ n : Int, bts (digs (d + 1) n) = bts (digs d (n / 8)) ++ [UInt8.ofNat (48 + n % 8).toNat] := fun n => by simp [digs, bts]
    rw [e, e, less_append _ _ _ _ (by simp [bts, digs_len]), less_digs d (a / 8) (b / 8) (by omega) (by omega) (by omega) (by omega)]
    have e1 : (bts (digs d (a / 8)) == bts (digs d (b / 8))) = decide (a / 8 = b / 8) := by
      rw [Bool.eq_iff_iff]
      simp only [beq_iff_eq, decide_eq_true_eq]
      constructor
      · intro h
        have h' := bts_inj _ _ (fun x hx => by have := digs_mem _ _ x hx; omega) (fun x hx => by have := digs_mem _ _ x hx; omega) h
        have p := prs_digs d (a / 8) (by omega) (by omega)
        rw [h', prs_digs d (b / 8) (by omega) (by omega)] at p
        simpa using p.symm
      · intro h; rw [h]
    have e2 : Op.bytesLess [UInt8.ofNat (48 + a % 8).toNat] [UInt8.ofNat (48 + b % 8).toNat] = decide (a % 8 < b % 8) := by
      simp only [Op.bytesLess, Bool.and_false, Bool.or_false]
      congr 1
      rw [UInt8.lt_iff_toNat_lt, UInt8.toNat_ofNat_of_lt' (by simp; omega), UInt8.toNat_ofNat_of_lt' (by simp; omega)]
      simp only [eq_iff_iff]
      omega
    rw [e1, e2]
    rw [Bool.eq_iff_iff]
    simp only [Bool.or_eq_true, Bool.and_eq_true, decide_eq_true_eq]
    omega
theorem less_fld (d : Nat) (a b : Int) (h0 : 0 ≤ a) (h1 : 0 ≤ b) (h2 : a < 8 ^ d) (h3 : b < 8 ^ d) : Op.bytesLess (bts (fld d a)) (bts (fld d b)) = decide (a < b) := by
  have e : ∀ n : Int, bts (fld d n) = bts (digs d n) ++ [0] := fun n => by simp [fld, bts]
  rw [e, e, less_append _ _ _ _ (by simp [bts, digs_len]), less_digs d a b h0 h1 h2 h3]
  simp [Op.bytesLess]
theorem digs_more : ∀ (d : Nat) (n : Int), 0 ≤ n → n < 8 ^ d → digs (d + 1) n = 48 :: digs d n
  | 0, n, h0, h1 => by
    have : n = 0 := by simp at h1; omega
    subst this; rfl
  | d + 1, n, h0, h1 => by
    have h8 : n < 8 ^ d * 8 := by rw [← Int.pow_succ]; exact h1
    rw [digs, digs_more d (n / 8) (by omega) (by omega), digs]
    rfl

/-- The greatest number of d digits. -/
theorem pow_cast (d : Nat) : ((8 ^ d : Nat) : Int) = (8 : Int) ^ d := by rw [Int.natCast_pow]; rfl
theorem pow_le (d : Nat) (h : d ≤ 21) : (8 : Int) ^ d ≤ 9223372036854775808 := by
  have := Nat.pow_le_pow_right (n := 8) (by omega) h
  have e : (8 : Nat) ^ 21 = 9223372036854775808 := by decide
  rw [e] at this
  rw [← pow_cast]
  omega
theorem pow_up (d e : Nat) (h : d ≤ e) : (8 : Int) ^ d ≤ 8 ^ e := by
  have := Nat.pow_le_pow_right (n := 8) (by omega) h
  rw [← pow_cast, ← pow_cast]
  omega
theorem pow_pos (d : Nat) : (1 : Int) ≤ 8 ^ d := by
  have := Nat.pow_pos (n := d) (show 0 < 8 by omega)
  rw [← pow_cast]
  omega

end Go.Proofs.Ytbdjjgcaadkfbaa.Oct
