/- What a call of octal.Parse answers, at every slice of bytes: the walk through its text. -/
import Derived.Test.YtgfihndbpphekaaPOctalOrderx1
import Derived.Test.YtgfihndbpphekaaOct
import Derived.Test.YtgfihndbpphekaaFmt
import Derived.Lib.Hide
import Derived.Outline
import Derived.LoopTactic
namespace Go.Proofs.Ytgfihndbpphekaa.Parse
open Go.RowKit Go.Proofs.YtgfihndbpphekaaW.PrintWords Go.Proofs.YtgfihndbpphekaaW.PrintLast Go.Proofs.YtgfihndbpphekaaW.PrintMore Go.Proofs.Ytgfihndbpphekaa.Oct

/-- What a reading of the digits tells. -/
def told : Option Int → Int × Int
  | some v => (v, 0)
  | none => (0, 6)
/-- The state of Parse's loop: k digits are read, m is their value. -/
structure At (l : List Int) (k : Nat) (m : Int) : Prop where
  rest : prs m (l.drop k) = prs 0 l
  low : 0 ≤ m
  high : m < 8 ^ k
theorem At.zero (l : List Int) : At l 0 0 := ⟨rfl, by omega, by simp⟩
theorem At.done {l : List Int} {m : Int} (h : At l l.length m) : told (prs 0 l) = (m, 0) := by
  have := h.rest
  rw [List.drop_length] at this
  rw [← this]; rfl
theorem drop_at (l : List Int) (k : Nat) (h : k < l.length) : l.drop k = l.getD k 0 :: l.drop (k + 1) := by
  rw [List.drop_eq_getElem_cons h]
  simp [List.getD_eq_getElem?_getD, List.getElem?_eq_getElem h]
theorem At.low_sign {l : List Int} {k : Nat} {m : Int} (h : At l k m) (hk : k < l.length) (hc : l.getD k 0 < 48) : told (prs 0 l) = (0, 6) := by
  rw [← h.rest, drop_at l k hk]
  simp only [prs]
  rw [if_pos hc]; rfl
theorem At.high_sign {l : List Int} {k : Nat} {m : Int} (h : At l k m) (hk : k < l.length) (hc : 55 < l.getD k 0) : told (prs 0 l) = (0, 6) := by
  rw [← h.rest, drop_at l k hk]
  simp only [prs]
  rw [if_neg (by omega), if_pos hc]; rfl
theorem At.next {l : List Int} {k : Nat} {m : Int} (h : At l k m) (hk : k < l.length) (h0 : ¬ l.getD k 0 < 48) (h1 : ¬ 55 < l.getD k 0) : At l (k + 1) (m * 8 + (l.getD k 0 - 48)) := by
  have h8 : (8 : Int) ^ (k + 1) = 8 ^ k * 8 := Int.pow_succ _ _
  have := h.low
  have := h.high
  refine ⟨?_, by omega, by omega⟩
  rw [← h.rest, drop_at l k hk]
  simp only [prs]
  rw [if_neg h0, if_neg h1]
theorem At.small {l : List Int} {k : Nat} {m : Int} (h : At l k m) (hk : k < 21) : 0 ≤ m ∧ m * 8 + 8 ≤ 9223372036854775808 := by
  have h8 : (8 : Int) ^ (k + 1) = 8 ^ k * 8 := Int.pow_succ _ _
  have := pow_le (k + 1) (by omega)
  have := h.low
  have := h.high
  omega
/-- Parse's answer on digits t and a last byte c. -/
def pars (t : List Int) (c : Int) : Int × Int := if c = 0 then told (prs 0 t) else (0, 6)

set_option maxHeartbeats 1000000 in
set_option maxRecDepth 100000 in
theorem parse_loop (x : Addr) (d c0 : Nat) (l : List Int) (w : World) (h1 : 1 ≤ d) (h2 : d ≤ 21) (hc : d + 1 ≤ c0) (hl : l.length = d)
    (hcell : ∀ i, i < d → w.cell? (x.add i) = some (.int .u8 (l.getD i 0))) (hlast : w.cell? (x.add d) = some (.int .u8 0)) (hb : ∀ i, 0 ≤ l.getD i 0 ∧ l.getD i 0 < 256) :
    Calls Try.prog 15 #[.slice (some x) (d + 1) c0] w fun e w' => e = .returned (.tuple #[.int .i64 (told (prs 0 l)).1, .int .i64 (told (prs 0 l)).2]) ∧ Drawn0 w w' := by
  have HL := Lib.hid hl
  have HC := Lib.hid hcell
  have HB := Lib.hid hb
  clear hl hcell hb
  go_enter Try.func15, Try.ntmps15
  go_wp2_with (go_at_call 17; refine (Fmt.valid_calls _ (by omega) (by omega) _).mono ?_; rintro e w' ⟨rfl, ⟨nd, rfl⟩⟩)
  go_loop [5, 24] (fun n i => ∃ (k : Nat) (m : Int), k ≤ d ∧ i = .int .i64 k ∧ n = .int .i64 m ∧ At l k m) (fun _ i => d - (intOf i).toNat)
  case atStart => exact ⟨0, 0, Nat.zero_le _, rfl, rfl, At.zero l⟩
  case round =>
    obtain ⟨k, m, hk, rfl, rfl, hA⟩ := hrel
    by_cases hlt : k < d
    · have hx := HC.out k hlt
      have hbk := HB.out k
      have hcl : k < l.length := by have := HL.out; omega
      have hsm := hA.small (by omega)
      by_cases hlo : l.getD k 0 < 48
      · have T := Lib.hid (hA.low_sign hcl hlo)
        generalize l.getD k 0 = c at hx hbk hlo
        go_wp2
        go_ret2
        exact ⟨by rw [T.out]; rfl, ⟨⟨_, rfl⟩⟩⟩
      · by_cases hhi : 55 < l.getD k 0
        · have T := Lib.hid (hA.high_sign hcl hhi)
          generalize l.getD k 0 = c at hx hbk hlo hhi
          go_wp2
          go_ret2
          exact ⟨by rw [T.out]; rfl, ⟨⟨_, rfl⟩⟩⟩
        · have T := Lib.hid (hA.next hcl hlo hhi)
          generalize l.getD k 0 = c at hx hbk hlo hhi T
          go_wp2
          go_round
          case rel => exact ⟨k + 1, m * 8 + (c - 48), by omega, by go_num, by rw [or3 (m * 8) (c - 48) (by omega) (by omega) (by omega) (by omega) (by omega)], T.out⟩
          case measure => simp [intOf]; omega
    · have hkd : k = l.length := by have := HL.out; omega
      have T := Lib.hid (At.done (hkd ▸ hA))
      clear hkd
      go_wp2
      go_ret2
      exact ⟨by rw [T.out]; rfl, ⟨⟨_, rfl⟩⟩⟩
/-- The last byte is not NUL. -/
theorem parse_last (x : Addr) (d c0 : Nat) (c : Int) (w : World) (h1 : 1 ≤ d) (h2 : d ≤ 21) (_hc : d + 1 ≤ c0)
    (hlast : w.cell? (x.add d) = some (.int .u8 c)) (hne : c ≠ 0) :
    Calls Try.prog 15 #[.slice (some x) (d + 1) c0] w fun e w' => e = .returned (.tuple #[.int .i64 0, .int .i64 6]) ∧ Drawn0 w w' := by
  have hb : (c != 0) = true := bne_iff_ne.mpr hne
  go_enter Try.func15, Try.ntmps15
  go_wp2_with (go_at_call 17; refine (Fmt.valid_calls _ (by omega) (by omega) _).mono ?_; rintro e w' ⟨rfl, ⟨nd, rfl⟩⟩)
  go_ret2
  exact ⟨rfl, ⟨⟨_, rfl⟩⟩⟩
/-- The length is not valid. -/
theorem parse_width (A : Option Addr) (n c0 : Nat) (w : World) (h : n < 2 ∨ 22 < n) :
    Calls Try.prog 15 #[.slice A n c0] w fun e w' => e = .returned (.tuple #[.int .i64 0, .int .i64 2]) ∧ Drawn0 w w' := by
  go_enter Try.func15, Try.ntmps15
  go_wp2_with (go_at_call 17; refine (Fmt.invalid_calls _ (by omega) _).mono ?_; rintro e w' ⟨rfl, ⟨nd, rfl⟩⟩)
  go_ret2
  exact ⟨rfl, ⟨⟨_, rfl⟩⟩⟩

/-- All of it: Parse's answer at a slice of bytes. -/
def answer (l : List Int) : Int × Int := if l.length < 2 ∨ 22 < l.length then (0, 2) else pars l.dropLast (l.getLastD 0)
theorem answer_snoc (t : List Int) (c : Int) (h1 : 1 ≤ t.length) (h2 : t.length ≤ 21) : answer (t ++ [c]) = pars t c := by
  unfold answer
  rw [if_neg (by simp; omega)]
  simp
theorem answer_width (l : List Int) (h : l.length < 2 ∨ 22 < l.length) : answer l = (0, 2) := by
  unfold answer
  rw [if_pos h]
theorem parse_calls (A : Option Addr) (c0 : Nat) (l : List Int) (w : World) (hr : Kd.C (Kd.int .u8) w A l.length l) (hc : l.length ≤ c0) (hb : ∀ x ∈ l, 0 ≤ x ∧ x < 256) :
    Calls Try.prog 15 #[.slice A l.length c0] w fun e w' => e = .returned (.tuple #[.int .i64 (answer l).1, .int .i64 (answer l).2]) ∧ Drawn0 w w' := by
  by_cases hv : l.length < 2 ∨ 22 < l.length
  · rw [answer_width l hv]
    exact parse_width A l.length c0 w hv
  · obtain ⟨t, c, rfl⟩ : ∃ t c, l = t ++ [c] := ⟨l.dropLast, l.getLast (by intro h; subst h; simp at hv), (List.dropLast_concat_getLast _).symm⟩
    have hlen : (t ++ [c]).length = t.length + 1 := by simp
    rw [hlen] at hv hr hc ⊢
    have cell : ∀ i : Nat, i < t.length + 1 → ∃ ad, A = some ad ∧ w.cell? (ad.add i) = some (.int .u8 ((t ++ [c]).getD i 0)) := fun i hi => by
      obtain ⟨ad, h0, h1⟩ := Kd.at_int hr (i : Int) (by omega) (by omega)
      exact ⟨ad, h0, by simpa [rd] using h1⟩
    obtain ⟨x, rfl, hx⟩ := cell t.length (by omega)
    rw [getD_behind t [] t.length c rfl] at hx
    rw [answer_snoc t c (by omega) (by omega)]
    unfold pars
    by_cases h0 : c = 0
    · subst h0
      rw [if_pos rfl]
      refine parse_loop x t.length c0 t w (by omega) (by omega) hc rfl (fun i hi => ?_) hx (fun i => ?_)
      · obtain ⟨ad, h0, h1⟩ := cell i (by omega)
        obtain rfl : x = ad := by injection h0
        rw [getD_before t [0] i hi] at h1
        exact h1
      · by_cases hi : i < t.length
        · rw [List.getD_eq_getElem?_getD, List.getElem?_eq_getElem hi]
          exact hb _ (by simp)
        · rw [List.getD_eq_getElem?_getD, List.getElem?_eq_none (by omega)]
          simp
    · rw [if_neg h0]
      exact parse_last x t.length c0 c w (by omega) (by omega) hc hx h0
end Go.Proofs.Ytgfihndbpphekaa.Parse
