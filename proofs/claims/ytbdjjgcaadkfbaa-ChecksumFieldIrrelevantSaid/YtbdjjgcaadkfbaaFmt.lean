/- What the printed octal.Max and octal.Format tell, at every number and width. -/
import Derived.Test.YtbdjjgcaadkfbaaPChecksumMatchesReferencex1
import Derived.Test.YtbdjjgcaadkfbaaOct
import Derived.Lib.Hide
import Derived.Outline
import Derived.LoopTactic
namespace Go.Proofs.Ytbdjjgcaadkfbaa.Fmt
open Go.RowKit Go.Proofs.Ytbdjjgcaadkfbaa.PChecksumMatchesReference Go.Proofs.YtbdjjgcaadkfbaaW.PrintWords Go.Proofs.YtbdjjgcaadkfbaaW.PrintLast Go.Proofs.YtbdjjgcaadkfbaaW.PrintMore Go.Proofs.Ytbdjjgcaadkfbaa.Oct
theorem valid_ok (w : Int) (h0 : 2 ≤ w) (h1 : w ≤ 22) : octal_valid.f w = some true := by
  unfold octal_valid.f; rw [if_pos (by omega)]; simp [h1]
theorem valid_no (w : Int) (h : w < 2 ∨ 22 < w) : octal_valid.f w = some false := by
  unfold octal_valid.f
  by_cases h0 : w ≥ 2
  · rw [if_pos h0]; have : ¬ w ≤ 22 := by omega
    simp [this]
  · rw [if_neg h0]
theorem max_all : ∀ d : Nat, d < 21 → octal_Max.f (((d + 1 : Nat) : Int) + 1) = some (8 ^ (d + 1) - 1) := by decide +kernel
theorem max_ok (d : Nat) (h0 : 1 ≤ d) (h1 : d ≤ 21) : octal_Max.f ((d : Int) + 1) = some (8 ^ d - 1) := by
  obtain ⟨e, rfl⟩ : ∃ e, d = e + 1 := ⟨d - 1, by omega⟩
  exact max_all e (by omega)
theorem fmt_l0 : ∀ (r k i : Nat) (m : Int) (tail : List Int) (d : Nat), r + i = d → d ≤ 21 → 0 ≤ m → m < 9223372036854775808 → r < k →
    octal_Format.l0 k m ((d : Int) + 1) (List.replicate r 0 ++ tail) (d : Int) (i : Int) = some (digs r m ++ tail, 0) := by
  intro r
  induction r with
  | zero =>
    intro k i m tail d hd _ _ _ hk
    obtain ⟨k, rfl⟩ : ∃ q, k = q + 1 := ⟨k - 1, by omega⟩
    simp only [octal_Format.l0]
    rw [if_neg (by omega)]
    rfl
  | succ r ih =>
    intro k i m tail d hd h21 hm hM hk
    obtain ⟨k, rfl⟩ : ∃ q, k = q + 1 := ⟨k - 1, by omega⟩
    have e1 : wrap64 (wrap64 ((d : Int) + 1 - 2) - (i : Int)) = (r : Int) := by
      rw [w64s (x := (d : Int) + 1 - 2) (by omega) (by omega), w64s (by omega) (by omega)]; omega
    have e2 : wrap64 ((i : Int) + 1) = ((i + 1 : Nat) : Int) := by rw [w64s (by omega) (by omega)]; omega
    simp only [octal_Format.l0]
    rw [if_pos (by omega), e1, if_pos (by omega), if_pos (by simp; omega), e2, and7 m hm hM]
    have e3 : (48 + m % 8 % 256) % 256 = 48 + m % 8 := by omega
    have e4 : (List.replicate (r + 1) (0 : Int) ++ tail).set ((r : Nat) : Int).toNat (48 + m % 8) = List.replicate r 0 ++ ((48 + m % 8) :: tail) := by
      rw [List.replicate_succ', List.append_assoc, Int.toNat_natCast, List.set_append_right _ _ (by simp)]
      simp
    rw [e3, e4, ih k (i + 1) (m / 8) ((48 + m % 8) :: tail) d (by omega) h21 (by omega) (by omega) (by omega)]
    simp [digs]
theorem fmt_ok (d k : Nat) (n : Int) (h0 : 1 ≤ d) (h1 : d ≤ 21) (hn : 0 ≤ n) (hN : n < 8 ^ d) (hk : d < k) : octal_Format.f k n ((d : Int) + 1) = some (fld d n, 0) := by
  have hp := pow_le d h1
  unfold octal_Format.f
  rw [valid_ok _ (by omega) (by omega)]
  simp only [Option.bind_some, if_true]
  rw [if_neg (by omega), max_ok d h0 h1]
  simp only [Option.bind_some]
  rw [if_neg (by omega), if_pos (by omega), if_pos (by omega)]
  have e1 : wrap64 ((d : Int) + 1 - 1) = (d : Int) := by rw [w64s (by omega) (by omega)]; omega
  have e2 : ((d : Int) + 1).toNat = d + 1 := by omega
  rw [e1, e2, List.replicate_succ']
  exact fmt_l0 d k 0 n [0] d (by omega) h1 hn (by omega) hk
theorem fmt_range (d k : Nat) (n : Int) (h0 : 1 ≤ d) (h1 : d ≤ 21) (hn : n < 0 ∨ 8 ^ d ≤ n) : octal_Format.f k n ((d : Int) + 1) = some ([], 3) := by
  unfold octal_Format.f
  rw [valid_ok _ (by omega) (by omega)]
  simp only [Option.bind_some, if_true]
  by_cases h : n < 0
  · rw [if_pos h]
  · rw [if_neg h, max_ok d h0 h1]
    simp only [Option.bind_some]
    rw [if_pos (by omega)]
theorem fmt_arg (k : Nat) (n w : Int) (h : w < 2 ∨ 22 < w) : octal_Format.f k n w = some ([], 2) := by
  unfold octal_Format.f
  rw [valid_no w h]
  rfl
/-- What Format answers, at any width and number. -/
theorem fmt_cases (k : Nat) (n w : Int) (hk : 22 ≤ k) : (∃ d : Nat, 1 ≤ d ∧ d ≤ 21 ∧ w = (d : Int) + 1 ∧ 0 ≤ n ∧ n < 8 ^ d ∧ octal_Format.f k n w = some (fld d n, 0)) ∨ ∃ e : Int, e ≠ 0 ∧ octal_Format.f k n w = some ([], e) := by
  by_cases hw : w < 2 ∨ 22 < w
  · exact Or.inr ⟨2, by decide, fmt_arg k n w hw⟩
  · obtain ⟨d, rfl⟩ : ∃ d : Nat, w = (d : Int) + 1 := ⟨(w - 1).toNat, by omega⟩
    by_cases hn : n < 0 ∨ 8 ^ d ≤ n
    · exact Or.inr ⟨3, by decide, fmt_range d k n (by omega) (by omega) hn⟩
    · exact Or.inl ⟨d, by omega, by omega, rfl, by omega, by omega, fmt_ok d k n (by omega) (by omega) (by omega) (by omega) (by omega)⟩

/-- octal.Format's contract, for the answer that is known: a slice that reads it. -/
theorem format_calls (n wd : Int) (l : List Int) (code : Int) (h : octal_Format.f 40 n wd = some (l, code)) (N : Nat) (hN : l.length = N) (w : World) :
    Calls Try.prog 20 #[.int .i64 n, .int .i64 wd] w fun e w' => ∃ (A : Option Addr) (c : Nat), e = .returned (.tuple #[.slice A N c, .int .i64 code]) ∧ N ≤ c ∧ Aside0 (Kd.C (Kd.int .u8) w' A N l) ∧ Below w.heap.size w w' := by
  refine (octal_Format.calls 40 n wd l code w h).mono ?_
  rintro e w' ⟨v, rfl, hR, hb⟩
  obtain ⟨A, c, rfl, hc, hC⟩ := Kd.R_reads hR
  subst hN
  exact ⟨A, c, rfl, hc, ⟨hC⟩, hb⟩
theorem fld_bytes (d : Nat) (n : Int) : ∀ x ∈ fld d n, 0 ≤ x ∧ x < 256 := by
  intro x hx
  unfold fld at hx
  simp only [List.mem_append, List.mem_singleton] at hx
  rcases hx with h | h
  · have := digs_mem _ _ x h; omega
  · omega
end Go.Proofs.Ytbdjjgcaadkfbaa.Fmt
