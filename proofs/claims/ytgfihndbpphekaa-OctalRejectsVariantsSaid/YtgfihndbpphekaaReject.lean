/- OctalRejectsVariants, walked: a field with one byte set is read exactly where it is still a field. -/
import Derived.Test.YtgfihndbpphekaaRound
namespace Go.Proofs.Ytgfihndbpphekaa.Reject
open Go.RowKit Go.Proofs.YtgfihndbpphekaaW.PrintWords Go.Proofs.YtgfihndbpphekaaW.PrintLast Go.Proofs.YtgfihndbpphekaaW.PrintMore Go.Proofs.Ytgfihndbpphekaa.Oct Go.Proofs.Ytgfihndbpphekaa.Parse Go.Proofs.Ytgfihndbpphekaa.Round Go.Proofs.Ytgfihndbpphekaa.POctalOrder

set_option maxHeartbeats 1000000 in
set_option maxRecDepth 100000 in
/-- Format refuses. -/
theorem walk_no (n a c : Int) (w : World) (q : Int) (hq : q ≠ 0) (hf : octal_Format.f 40 n 12 = some ([], q)) :
    Calls Try.prog 9 #[.int .i64 n, .int .u8 a, .int .u8 c] w fun e w' => e = .returned (.bool true) ∧ Below w.heap.size w w' := by
  have F := Lib.hid (format_calls n 12 _ _ hf 0 rfl)
  have hq1 : (q != 0) = true := bne_iff_ne.mpr hq
  clear hf hq
  go_enter Try.func9, Try.ntmps9
  go_wp2_with fail
  refine (F.out _).mono ?_
  rintro e w1 ⟨A1, c1, rfl, hc1, hC1, hb1⟩
  go_wp2_with fail
  refine (Fmt.alive_calls _).mono ?_
  rintro e w4 ⟨rfl, hb4⟩
  go_wp2
  go_ret
  exact ⟨rfl, below_step hb1 hb4⟩
theorem own_C {W : World} {base n cap : Nat} {ad : Addr} {xs : List Int} (h : W.ownsRow base 5 1 (.slice (some ad) n cap) n (nums .u8 xs)) : Kd.C (Kd.int .u8) W (some ad) n xs ∧ n ≤ cap := by
  refine ⟨Kd.C_of_reads (d := (0 : Int)) (h1 := fun _ => rfl) (own_reads' h), ?_⟩
  rcases h.2 with ⟨h', _⟩ | ⟨g', cap', cur, h', _, _, hn, _⟩
  · cases h'
  · injection h' with _ _ h3
    omega
/-- What Parse's code is, at place i set to c. -/
inductive Told (i : Nat) (c q : Int) : Prop where
  | nul (h : i = 11) (h0 : c = 0) (hq : q = 0)
  | bad (h : i = 11) (h0 : c ≠ 0) (hq : q = 6)
  | low (h : i < 11) (h0 : c < 48) (hq : q = 6)
  | high (h : i < 11) (h0 : 55 < c) (hq : q = 6)
  | digit (h : i < 11) (h0 : 48 ≤ c) (h1 : c ≤ 55) (hq : q = 0)
set_option maxHeartbeats 4000000 in
set_option maxRecDepth 100000 in
theorem walk_set (n a c : Int) (ha0 : 0 ≤ a) (ha1 : a ≤ 255) (w : World) (l : List Int) (hl : l.length = 12) (hf : octal_Format.f 40 n 12 = some (l, 0)) (hb : ∀ x ∈ l, 0 ≤ x ∧ x < 256) (hc0 : 0 ≤ c) (hc1 : c < 256) (i : Nat) (hi : a % 12 = (i : Int)) (v q : Int) (hans : answer (l.set i c) = (v, q)) (htold : Told i c q) :
    Calls Try.prog 9 #[.int .i64 n, .int .u8 a, .int .u8 c] w fun e w' => e = .returned (.bool true) ∧ Below w.heap.size w w' := by
  have F := Lib.hid (format_calls n 12 _ _ hf 12 hl)
  have P := Lib.hid (parse_told (l.set i c) v q hans (fun x hx => by
    rcases List.mem_or_eq_of_mem_set hx with h | h
    · exact hb x h
    · omega) 12 (by simpa using hl))
  have HT := Lib.hid htold
  clear hf hb hans htold
  go_enter Try.func9, Try.ntmps9
  go_wp2_with fail
  refine (F.out _).mono ?_
  rintro e w1 ⟨A1, c1, rfl, hc1, hC1, hb1⟩
  have hs1 := hb1.size
  go_wp2_with (at_builtin; (refine print_append_row (w0 := w) w.heap.size rfl (.tmp 27) (.tmp 28) 22 5 .u8 1 rfl Try.underlying22 info5 ?aZ (.slice (some ⟨w1.heap.size, 0, none⟩) 0 0) [] l A1 12 c1 rfl rfl ?aO ?aR ?aB ?aS ?aL ?_); (case aZ => decide); (case aL => decide); (case aO => (exact own_lit w1 w.heap.size 5 .u8 [] hs1 (Nat.zero_le _))); (case aR => (exact Kd.reads_of_C (enc := Value.int .u8) (d := (0 : Int)) (h1 := fun _ => rfl) (Kd.C_alloc hC1.out _))); (case aB => (exact below_alloc hb1 _)); (case aS => (simp; omega)); intro v1 w2 hown0 hB2 hg2 hat2; clear hg2 hat2; have hown : w2.ownsRow w.heap.size 5 1 v1 12 (nums .u8 l) := (by rw [List.nil_append, hl] at hown0; exact hown0); clear hown0; obtain ⟨g, cap, hv, hgb, hgl⟩ := World.ownsRow.form hown (by decide); subst hv; have hat := own_at hown (i : Int) (by omega) (by omega); rw [Int.toNat_natCast] at hat; obtain ⟨hat1, hat2⟩ := hat; have hst := own_store hown (i : Int) c; rw [Int.toNat_natCast] at hst; have HST := Aside0.mk hst; clear hst hown)
  obtain ⟨hC, hcap⟩ := own_C HST.out.1
  have HB3 := Aside0.mk (pw_below_grown hB2 (some g) hB2.size HST.out.2 (by rintro k hk; injection hk with hk; omega))
  refine (P.out _ _ _ hC hcap).mono ?_
  rintro e w3 ⟨rfl, ⟨n3, rfl⟩⟩
  clear hC hcap
  rcases HT.out with ⟨h, h0, rfl⟩ | ⟨h, h0, rfl⟩ | ⟨h, h0, rfl⟩ | ⟨h, h0, rfl⟩ | ⟨h, h0, h1, rfl⟩
  · have k1 : ((i : Int) == 11) = true := by simp; omega
    have k2 : (c == 0) = true := by simp [h0]
    clear h h0
    go_wp2_with (go_at_call 12; refine (Fmt.alive_calls _).mono ?_; rintro e w4 ⟨rfl, hb4⟩)
    go_ret
    exact ⟨by simp, below_step (pw_below_drewN HB3.out _) hb4⟩
  · have k1 : ((i : Int) == 11) = true := by simp; omega
    have k2 : (c == 0) = false := by simpa using h0
    have k3 : decide ((i : Int) < 11) = false := by simp; omega
    clear h h0
    go_wp2_with (go_at_call 12; refine (Fmt.alive_calls _).mono ?_; rintro e w4 ⟨rfl, hb4⟩)
    go_ret
    exact ⟨by simp, below_step (pw_below_drewN HB3.out _) hb4⟩
  · have k1 : ((i : Int) == 11) = false := by simp; omega
    have k3 : decide ((i : Int) < 11) = true := by simp; omega
    clear h
    go_wp2_with (go_at_call 12; refine (Fmt.alive_calls _).mono ?_; rintro e w4 ⟨rfl, hb4⟩)
    go_ret
    exact ⟨by simp, below_step (pw_below_drewN HB3.out _) hb4⟩
  · have k1 : ((i : Int) == 11) = false := by simp; omega
    have k3 : decide ((i : Int) < 11) = true := by simp; omega
    clear h
    go_wp2_with (go_at_call 12; refine (Fmt.alive_calls _).mono ?_; rintro e w4 ⟨rfl, hb4⟩)
    go_ret
    exact ⟨by simp; omega, below_step (pw_below_drewN HB3.out _) hb4⟩
  · have k1 : ((i : Int) == 11) = false := by simp; omega
    have k3 : decide ((i : Int) < 11) = true := by simp; omega
    clear h
    go_wp2_with (go_at_call 12; refine (Fmt.alive_calls _).mono ?_; rintro e w4 ⟨rfl, hb4⟩)
    go_ret
    exact ⟨by simp, below_step (pw_below_drewN HB3.out _) hb4⟩
theorem prs_set_ok : ∀ (l : List Int) (n : Int) (i : Nat) (c : Int), (∀ x ∈ l, 48 ≤ x ∧ x ≤ 55) → 48 ≤ c → c ≤ 55 → ∃ v, prs n (l.set i c) = some v := by
  intro l
  induction l with
  | nil => intro n i c _ _ _; exact ⟨n, rfl⟩
  | cons x l ih =>
    intro n i c hl h0 h1
    have hx := hl x (by simp)
    cases i with
    | zero =>
      simp only [List.set_cons_zero, prs]
      rw [if_neg (by omega), if_neg (by omega)]
      have := ih (n * 8 + (c - 48)) l.length c (fun y hy => hl y (by simp [hy])) h0 h1
      rwa [List.set_eq_of_length_le (Nat.le_refl _)] at this
    | succ i =>
      simp only [List.set_cons_succ, prs]
      rw [if_neg (by omega), if_neg (by omega)]
      exact ih _ i c (fun y hy => hl y (by simp [hy])) h0 h1
theorem prs_set_no : ∀ (l : List Int) (n : Int) (i : Nat) (c : Int), i < l.length → (∀ x ∈ l, 48 ≤ x ∧ x ≤ 55) → (c < 48 ∨ 55 < c) → prs n (l.set i c) = none := by
  intro l
  induction l with
  | nil => intro n i c h _ _; simp at h
  | cons x l ih =>
    intro n i c hi hl h
    have hx := hl x (by simp)
    cases i with
    | zero =>
      simp only [List.set_cons_zero, prs]
      by_cases h0 : c < 48
      · rw [if_pos h0]
      · rw [if_neg h0, if_pos (by omega)]
    | succ i =>
      simp only [List.set_cons_succ, prs]
      rw [if_neg (by omega), if_neg (by omega)]
      exact ih _ i c (by simpa using hi) (fun y hy => hl y (by simp [hy])) h
theorem told_of (n : Int) (hn : 0 ≤ n) (hN : n < 8 ^ 11) (i : Nat) (hi : i < 12) (c : Int) : ∃ v q, answer ((fld 11 n).set i c) = (v, q) ∧ Told i c q := by
  have hg := digs_mem 11 n
  have hl := digs_len 11 n
  by_cases hi11 : i = 11
  · subst hi11
    have ef : (fld 11 n).set 11 c = digs 11 n ++ [c] := by
      unfold fld
      rw [List.set_append_right _ _ (by rw [hl]; omega), hl]; rfl
    rw [ef, answer_snoc _ _ (by omega) (by omega)]
    unfold pars
    by_cases h0 : c = 0
    · rw [if_pos h0, prs_digs 11 n hn hN]
      exact ⟨n, 0, rfl, .nul rfl h0 rfl⟩
    · rw [if_neg h0]
      exact ⟨0, 6, rfl, .bad rfl h0 rfl⟩
  · have ef : (fld 11 n).set i c = (digs 11 n).set i c ++ [0] := by
      unfold fld
      rw [List.set_append_left _ _ (by rw [hl]; omega)]
    rw [ef, answer_snoc _ _ (by simp [hl]) (by simp [hl])]
    unfold pars
    rw [if_pos rfl]
    by_cases hv : 48 ≤ c ∧ c ≤ 55
    · obtain ⟨v, ev⟩ := prs_set_ok (digs 11 n) 0 i c hg hv.1 hv.2
      rw [ev]
      exact ⟨v, 0, rfl, .digit (by omega) hv.1 hv.2 rfl⟩
    · rw [prs_set_no (digs 11 n) 0 i c (by omega) hg (by omega)]
      by_cases h48 : c < 48
      · exact ⟨0, 6, rfl, .low (by omega) h48 rfl⟩
      · exact ⟨0, 6, rfl, .high (by omega) (by omega) rfl⟩
theorem law_walk (n a c : Int) (w : World) (_ : (Lit.int .i64 n).wf = true) (ha : (Lit.int .u8 a).wf = true) (hc : (Lit.int .u8 c).wf = true) :
    Calls Try.prog 9 #[.int .i64 n, .int .u8 a, .int .u8 c] w fun e w' => e = .returned (.bool true) ∧ Below w.heap.size w w' := by
  have hab := byte_bounds ha
  have hcb := byte_bounds hc
  rcases Fmt.fmt_cases 40 n 12 (by omega) with ⟨d, h0, h1, hd, hn, hM, hf⟩ | ⟨q, hq, hf⟩
  · obtain rfl : d = 11 := by omega
    obtain ⟨v, q, hans, ht⟩ := told_of n hn hM (a % 12).toNat (by omega) c
    exact walk_set n a c hab.1 hab.2 w (fld 11 n) (fld_len 11 n) hf (fld_bytes 11 n) hcb.1 (by omega) _ (by omega) v q hans ht
  · exact walk_no n a c w q hq hf
end Go.Proofs.Ytgfihndbpphekaa.Reject
