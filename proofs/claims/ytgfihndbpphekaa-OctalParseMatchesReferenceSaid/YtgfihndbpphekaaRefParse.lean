/- What a call of the reference's Parse answers, at every slice of bytes: the walk through its text. It is what octal.Parse answers. -/
import Derived.Test.YtgfihndbpphekaaParse
namespace Go.Proofs.Ytgfihndbpphekaa.RefParse
open Go.RowKit Go.Proofs.YtgfihndbpphekaaW.PrintWords Go.Proofs.YtgfihndbpphekaaW.PrintLast Go.Proofs.YtgfihndbpphekaaW.PrintMore Go.Proofs.Ytgfihndbpphekaa.Oct Go.Proofs.Ytgfihndbpphekaa.Parse

/-- The state of the reference's loop: among the digits, or behind the NUL. -/
inductive RAt (t : List Int) (c : Int) : Nat → Int → Prop where
  | run (k : Nat) (m : Int) (hk : k ≤ t.length) (h : At t k m) : RAt t c k m
  | fin (m : Int) (hc : c = 0) (h : told (prs 0 t) = (m, 0)) : RAt t c (t.length + 1) m
theorem step_num (m c : Int) (h0 : 0 ≤ m) (h1 : m * 8 + 8 ≤ 9223372036854775808) (h2 : 48 ≤ c) (h3 : c ≤ 55) : wrap64 (wrap64 (8 * m + c) - 48) = m * 8 + (c - 48) := by
  unfold wrap64
  omega
theorem bad_pars {t : List Int} (c : Int) (h : told (prs 0 t) = (0, 6)) : pars t c = (0, 6) := by
  unfold pars
  rw [h]
  split <;> rfl

set_option maxHeartbeats 2000000 in
set_option maxRecDepth 100000 in
theorem ref_loop (x : Addr) (d c0 : Nat) (t : List Int) (c : Int) (w : World) (h1 : 1 ≤ d) (h2 : d ≤ 21) (hc : d + 1 ≤ c0) (hl : t.length = d)
    (hcell : ∀ i, i < d → w.cell? (x.add i) = some (.int .u8 (t.getD i 0))) (hlast : w.cell? (x.add d) = some (.int .u8 c)) (hb : ∀ i, 0 ≤ t.getD i 0 ∧ t.getD i 0 < 256) :
    Calls Try.prog 16 #[.slice (some x) (d + 1) c0] w fun e w' => e = .returned (.tuple #[.int .i64 (pars t c).1, .int .i64 (pars t c).2]) ∧ Drawn0 w w' := by
  have HL := Lib.hid hl
  have HC := Lib.hid hcell
  have HB := Lib.hid hb
  have HLAST := Lib.hid hlast
  clear hl hcell hb hlast
  have hd0 : decide ((d : Int) + 1 < 2) = false := by simp; omega
  go_enter Try.func16, Try.ntmps16
  go_wp2
  go_loop [4, 5] (fun n i => ∃ (k : Nat) (m : Int), k ≤ d + 1 ∧ i = .int .i64 k ∧ n = .int .i64 m ∧ RAt t c k m) (fun _ i => d + 1 - (intOf i).toNat)
  case atStart => exact ⟨0, 0, Nat.zero_le _, rfl, rfl, .run 0 0 (Nat.zero_le _) (At.zero t)⟩
  case round =>
    obtain ⟨k, m, hk, rfl, rfl, hA⟩ := hrel
    by_cases hlt : k < d
    · have hcl : k < t.length := by have := HL.out; omega
      have hA' : At t k m := by
        cases hA with
        | run _ _ _ h => exact h
        | fin _ _ h => omega
      clear hA
      have hx := HC.out k hlt
      have hbk := HB.out k
      have hsm := hA'.small (by omega)
      by_cases hlo : t.getD k 0 < 48
      · have T := Lib.hid (bad_pars c (hA'.low_sign hcl hlo))
        generalize t.getD k 0 = b at hx hbk hlo
        go_wp2
        go_ret2
        exact ⟨by rw [T.out]; rfl, Drawn0.refl _⟩
      · by_cases hhi : 55 < t.getD k 0
        · have T := Lib.hid (bad_pars c (hA'.high_sign hcl hhi))
          generalize t.getD k 0 = b at hx hbk hlo hhi
          go_wp2
          go_ret2
          exact ⟨by rw [T.out]; rfl, Drawn0.refl _⟩
        · have T := Lib.hid (hA'.next hcl hlo hhi)
          generalize t.getD k 0 = b at hx hbk hlo hhi T
          go_wp2
          go_round
          case rel => exact ⟨k + 1, m * 8 + (b - 48), by omega, by go_num, by rw [step_num m b (by omega) (by omega) (by omega) (by omega)], .run _ _ (by omega) T.out⟩
          case measure => simp [intOf]; omega
    · by_cases hkd : k = d
      · subst hkd
        have hA' : At t k m := by
          cases hA with
          | run _ _ _ h => exact h
          | fin _ _ h => have := HL.out; omega
        clear hA
        have T := Lib.hid (At.done (show At t t.length m by have := HL.out; rw [this]; exact hA'))
        have hx := HLAST.out
        by_cases hc0 : c = 0
        · have hcb : (c != 0) = false := bne_eq_false_iff_eq.mpr hc0
          have HC0 := Lib.hid hc0
          clear hc0
          go_wp2
          go_round
          case rel =>
            refine ⟨k + 1, m, by omega, by go_num, rfl, ?_⟩
            have := HL.out
            subst this
            exact .fin m HC0.out T.out
          case measure => simp [intOf]
        · have hcb : (c != 0) = true := bne_iff_ne.mpr hc0
          have hp : Hid (pars t c = (0, 6)) := Lib.hid (by unfold pars; rw [if_neg hc0])
          clear hc0
          go_wp2
          go_ret2
          exact ⟨by rw [hp.out]; rfl, Drawn0.refl _⟩
      · have hp : Hid (pars t c = (m, 0)) := Lib.hid (by
          cases hA with
          | run _ _ hk' h => have := HL.out; omega
          | fin _ hc0 h => unfold pars; rw [if_pos hc0, h])
        obtain rfl : k = d + 1 := by omega
        clear hkd
        go_wp2
        go_ret2
        exact ⟨by rw [hp.out]; rfl, Drawn0.refl _⟩
/-- The length is not valid. -/
theorem ref_short (A : Option Addr) (n c0 : Nat) (w : World) (h : n < 2) :
    Calls Try.prog 16 #[.slice A n c0] w fun e w' => e = .returned (.tuple #[.int .i64 0, .int .i64 2]) ∧ Drawn0 w w' := by
  have hd0 : decide ((n : Int) < 2) = true := by simp; omega
  go_enter Try.func16, Try.ntmps16
  go_wp2
  go_ret2
  exact ⟨rfl, Drawn0.refl _⟩
theorem ref_long (A : Option Addr) (n c0 : Nat) (w : World) (h : 22 < n) :
    Calls Try.prog 16 #[.slice A n c0] w fun e w' => e = .returned (.tuple #[.int .i64 0, .int .i64 2]) ∧ Drawn0 w w' := by
  have hd0 : decide ((n : Int) < 2) = false := by simp; omega
  go_enter Try.func16, Try.ntmps16
  go_wp2
  go_ret2
  exact ⟨rfl, Drawn0.refl _⟩
theorem ref_calls (A : Option Addr) (c0 : Nat) (l : List Int) (w : World) (hr : Kd.C (Kd.int .u8) w A l.length l) (hc : l.length ≤ c0) (hb : ∀ x ∈ l, 0 ≤ x ∧ x < 256) :
    Calls Try.prog 16 #[.slice A l.length c0] w fun e w' => e = .returned (.tuple #[.int .i64 (answer l).1, .int .i64 (answer l).2]) ∧ Drawn0 w w' := by
  by_cases hv : l.length < 2 ∨ 22 < l.length
  · rw [answer_width l hv]
    rcases hv with hv | hv
    · exact ref_short A l.length c0 w hv
    · exact ref_long A l.length c0 w hv
  · obtain ⟨t, c, rfl⟩ : ∃ t c, l = t ++ [c] := ⟨l.dropLast, l.getLast (by intro h; subst h; simp at hv), (List.dropLast_concat_getLast _).symm⟩
    have hlen : (t ++ [c]).length = t.length + 1 := by simp
    rw [hlen] at hv hr hc ⊢
    have cell : ∀ i : Nat, i < t.length + 1 → ∃ ad, A = some ad ∧ w.cell? (ad.add i) = some (.int .u8 ((t ++ [c]).getD i 0)) := fun i hi => by
      obtain ⟨ad, h0, h1⟩ := Kd.at_int hr (i : Int) (by omega) (by omega)
      exact ⟨ad, h0, by simpa [rd] using h1⟩
    obtain ⟨x, rfl, hx⟩ := cell t.length (by omega)
    rw [getD_behind t [] t.length c rfl] at hx
    rw [answer_snoc t c (by omega) (by omega)]
    refine ref_loop x t.length c0 t c w (by omega) (by omega) hc rfl (fun i hi => ?_) hx (fun i => ?_)
    · obtain ⟨ad, h0, h1⟩ := cell i (by omega)
      obtain rfl : x = ad := by injection h0
      rw [getD_before t [c] i hi] at h1
      exact h1
    · by_cases hi : i < t.length
      · rw [List.getD_eq_getElem?_getD, List.getElem?_eq_getElem hi]
        exact hb _ (by simp)
      · rw [List.getD_eq_getElem?_getD, List.getElem?_eq_none (by omega)]
        simp

/-- OctalParseMatchesReference, walked. -/
theorem law_walk (A : Option Addr) (c0 : Nat) (l : List Int) (w : World) (hr : Kd.C (Kd.int .u8) w A l.length l) (hc : l.length ≤ c0) (hm : l.length ≤ 140737488351232) (hw : ∀ x ∈ l, (Lit.int .u8 x).wf = true) :
    Calls Try.prog 7 #[.slice A l.length c0] w fun e w' => e = .returned (.bool true) ∧ Below w.heap.size w w' := by
  have hb : ∀ x ∈ l, 0 ≤ x ∧ x < 256 := fun x hx => by have := byte_bounds (hw x hx); omega
  have HR := Aside0.mk hr
  have P := Lib.hid (parse_calls A c0 l)
  have R := Lib.hid (ref_calls A c0 l)
  have HB := Aside0.mk hb
  clear hr hb hw
  generalize answer l = p at P R
  generalize l.length = n at *
  obtain ⟨v, e0⟩ := p
  by_cases hlt : n > 1000
  · go_enter Try.func7, Try.ntmps7
    go_wp2_with (go_at_call 12; refine (Fmt.alive_calls _).mono ?_; rintro e w' ⟨rfl, hbl⟩)
    go_ret
    exact ⟨rfl, hbl⟩
  · go_enter Try.func7, Try.ntmps7
    go_wp2_with fail
    refine (P.out _ HR.out hc HB.out).mono ?_
    rintro e w' ⟨rfl, ⟨n1, rfl⟩⟩
    go_wp2_with fail
    refine (R.out _ (Kd.C_below HR.out (Drawn0.below ⟨⟨n1, rfl⟩⟩)) hc HB.out).mono ?_
    rintro e w' ⟨rfl, ⟨n2, rfl⟩⟩
    go_wp2_with (go_at_call 12; refine (Fmt.alive_calls _).mono ?_; rintro e w' ⟨rfl, hbl⟩)
    go_ret
    exact ⟨by simp, below_step (pw_below_drewN (Below.refl _ _) _) hbl⟩
end Go.Proofs.Ytgfihndbpphekaa.RefParse
