/- OctalRoundTrip, walked: Parse undoes Format and Format undoes Parse, at every number, width and slice of bytes. -/
import Derived.Test.YtgfihndbpphekaaParse
namespace Go.Proofs.Ytgfihndbpphekaa.Round
open Go.RowKit Go.Proofs.YtgfihndbpphekaaW.PrintWords Go.Proofs.YtgfihndbpphekaaW.PrintLast Go.Proofs.YtgfihndbpphekaaW.PrintMore Go.Proofs.Ytgfihndbpphekaa.Oct Go.Proofs.Ytgfihndbpphekaa.Parse Go.Proofs.Ytgfihndbpphekaa.POctalOrder

/-- octal.Format's contract, for the answer that is known: a slice that reads it. -/
theorem format_calls (n wd : Int) (l : List Int) (code : Int) (h : octal_Format.f 40 n wd = some (l, code)) (N : Nat) (hN : l.length = N) (w : World) :
    Calls Try.prog 10 #[.int .i64 n, .int .i64 wd] w fun e w' => ∃ (A : Option Addr) (c : Nat), e = .returned (.tuple #[.slice A N c, .int .i64 code]) ∧ N ≤ c ∧ Aside0 (Kd.C (Kd.int .u8) w' A N l) ∧ Below w.heap.size w w' := by
  refine (octal_Format.calls 40 n wd l code w h).mono ?_
  rintro e w' ⟨v, rfl, hR, hb⟩
  obtain ⟨A, c, rfl, hc, hC⟩ := Kd.R_reads hR
  subst hN
  exact ⟨A, c, rfl, hc, ⟨hC⟩, hb⟩
theorem parse_told (l : List Int) (m g : Int) (h : answer l = (m, g)) (hb : ∀ x ∈ l, 0 ≤ x ∧ x < 256) (N : Nat) (hN : l.length = N) (A : Option Addr) (c0 : Nat) (w : World) (hr : Kd.C (Kd.int .u8) w A N l) (hc : N ≤ c0) :
    Calls Try.prog 15 #[.slice A N c0] w fun e w' => e = .returned (.tuple #[.int .i64 m, .int .i64 g]) ∧ Drawn0 w w' := by
  subst hN
  have := parse_calls A c0 l w hr hc hb
  rw [h] at this
  exact this
theorem fld_answer (d : Nat) (n : Int) (h0 : 1 ≤ d) (h1 : d ≤ 21) (hn : 0 ≤ n) (hN : n < 8 ^ d) : answer (fld d n) = (n, 0) := by
  unfold fld
  rw [answer_snoc _ _ (by rw [digs_len]; omega) (by rw [digs_len]; omega)]
  unfold pars
  rw [if_pos rfl, prs_digs d n hn hN]
  rfl
theorem fld_bytes (d : Nat) (n : Int) : ∀ x ∈ fld d n, 0 ≤ x ∧ x < 256 := by
  intro x hx
  unfold fld at hx
  simp only [List.mem_append, List.mem_singleton] at hx
  rcases hx with h | h
  · have := digs_mem _ _ x h; omega
  · omega
/-- What Parse answers, and that Format undoes it. -/
theorem answer_cases (l : List Int) : (∃ g, g ≠ 0 ∧ answer l = (0, g)) ∨ (∃ m, answer l = (m, 0) ∧ octal_Format.f 40 m (l.length : Int) = some (l, 0)) := by
  by_cases hv : l.length < 2 ∨ 22 < l.length
  · exact .inl ⟨2, by decide, answer_width l hv⟩
  · obtain ⟨t, c, rfl⟩ : ∃ t c, l = t ++ [c] := ⟨l.dropLast, l.getLast (by intro h; subst h; simp at hv), (List.dropLast_concat_getLast _).symm⟩
    simp only [List.length_append, List.length_singleton] at hv
    rw [answer_snoc t c (by omega) (by omega)]
    unfold pars
    by_cases hc : c = 0
    · rw [if_pos hc]
      cases e : prs 0 t with
      | none => exact .inl ⟨6, by decide, rfl⟩
      | some m =>
        obtain ⟨m0, m1⟩ := prs_bound t 0 m (by omega) e
        refine .inr ⟨m, rfl, ?_⟩
        have hl : ((t ++ [c]).length : Int) = (t.length : Int) + 1 := by simp
        rw [hl, Fmt.fmt_ok t.length 40 m (by omega) (by omega) m0 (by omega) (by omega)]
        unfold fld
        rw [digs_of_prs t m e, hc]
    · rw [if_neg hc]
      exact .inl ⟨6, by decide, rfl⟩

set_option maxHeartbeats 1000000 in
set_option maxRecDepth 100000 in
theorem walk_far (n wd : Int) (A : Option Addr) (c0 N : Nat) (w : World) (h : N > 1000) :
    Calls Try.prog 8 #[.int .i64 n, .int .i64 wd, .slice A N c0] w fun e w' => e = .returned (.bool true) ∧ Below w.heap.size w w' := by
  go_enter Try.func8, Try.ntmps8
  go_wp2_with (go_at_call 12; refine (Fmt.alive_calls _).mono ?_; rintro e w' ⟨rfl, hbl⟩)
  go_ret
  exact ⟨rfl, hbl⟩
set_option maxHeartbeats 1000000 in
set_option maxRecDepth 100000 in
/-- Format answers a field; Parse refuses b. -/
theorem walk_a (n : Int) (d : Nat) (A : Option Addr) (c0 : Nat) (l : List Int) (N : Nat) (hN : l.length = N) (hle : ¬ N > 1000) (w : World) (hr : Kd.C (Kd.int .u8) w A N l) (hc : N ≤ c0) (hb : ∀ x ∈ l, 0 ≤ x ∧ x < 256)
    (h0 : 1 ≤ d) (h1 : d ≤ 21) (hn : 0 ≤ n) (hM : n < 8 ^ d) (g : Int) (hg : g ≠ 0) (ha : answer l = (0, g)) :
    Calls Try.prog 8 #[.int .i64 n, .int .i64 ((d : Int) + 1), .slice A N c0] w fun e w' => e = .returned (.bool true) ∧ Below w.heap.size w w' := by
  have HR := Aside0.mk hr
  have F := Lib.hid (format_calls n ((d : Int) + 1) _ _ (Fmt.fmt_ok d 40 n h0 h1 hn hM (by omega)) (d + 1) (fld_len d n))
  have P1 := Lib.hid (parse_told (fld d n) n 0 (fld_answer d n h0 h1 hn hM) (fld_bytes d n) (d + 1) (fld_len d n))
  have P2 := Lib.hid (parse_told l 0 g ha hb N hN)
  have hg1 : (g != 0) = true := bne_iff_ne.mpr hg
  clear hr hb ha hg hN hM
  go_enter Try.func8, Try.ntmps8
  go_wp2_with fail
  refine (F.out _).mono ?_
  rintro e w1 ⟨A1, c1, rfl, hc1, hC1, hb1⟩
  go_wp2_with fail
  refine (P1.out _ _ _ hC1.out hc1).mono ?_
  rintro e w2 ⟨rfl, ⟨n2, rfl⟩⟩
  go_wp2_with fail
  refine (P2.out _ _ _ (Kd.C_below HR.out (pw_below_drewN hb1 n2)) hc).mono ?_
  rintro e w3 ⟨rfl, ⟨n3, rfl⟩⟩
  go_wp2_with fail
  refine (Fmt.alive_calls _).mono ?_
  rintro e w4 ⟨rfl, hb4⟩
  go_wp2
  go_ret
  exact ⟨by simp, below_step (pw_below_drewN hb1 _) hb4⟩
set_option maxHeartbeats 2000000 in
set_option maxRecDepth 100000 in
/-- Format answers a field; Parse takes b. -/
theorem walk_b (n : Int) (d : Nat) (A : Option Addr) (c0 : Nat) (l : List Int) (N : Nat) (hN : l.length = N) (hle : ¬ N > 1000) (w : World) (hr : Kd.C (Kd.int .u8) w A N l) (hc : N ≤ c0) (hb : ∀ x ∈ l, 0 ≤ x ∧ x < 256)
    (h0 : 1 ≤ d) (h1 : d ≤ 21) (hn : 0 ≤ n) (hM : n < 8 ^ d) (m : Int) (ha : answer l = (m, 0)) (hf : octal_Format.f 40 m (N : Int) = some (l, 0)) :
    Calls Try.prog 8 #[.int .i64 n, .int .i64 ((d : Int) + 1), .slice A N c0] w fun e w' => e = .returned (.bool true) ∧ Below w.heap.size w w' := by
  have HR := Aside0.mk hr
  have F := Lib.hid (format_calls n ((d : Int) + 1) _ _ (Fmt.fmt_ok d 40 n h0 h1 hn hM (by omega)) (d + 1) (fld_len d n))
  have P1 := Lib.hid (parse_told (fld d n) n 0 (fld_answer d n h0 h1 hn hM) (fld_bytes d n) (d + 1) (fld_len d n))
  have P2 := Lib.hid (parse_told l m 0 ha hb N hN)
  have F2 := Lib.hid (format_calls m N _ _ hf N hN)
  clear hr hb ha hf hN hM
  go_enter Try.func8, Try.ntmps8
  go_wp2_with fail
  refine (F.out _).mono ?_
  rintro e w1 ⟨A1, c1, rfl, hc1, hC1, hb1⟩
  go_wp2_with fail
  refine (P1.out _ _ _ hC1.out hc1).mono ?_
  rintro e w2 ⟨rfl, ⟨n2, rfl⟩⟩
  go_wp2_with fail
  refine (P2.out _ _ _ (Kd.C_below HR.out (pw_below_drewN hb1 n2)) hc).mono ?_
  rintro e w3 ⟨rfl, ⟨n3, rfl⟩⟩
  go_wp2_with fail
  refine (F2.out _).mono ?_
  rintro e w4 ⟨A4, c4, rfl, hc4, hC4, hb4⟩
  have HB4 := Aside0.mk (below_step (pw_below_drewN hb1 _) hb4)
  go_wp2_with fail
  refine (Fmt.alive_calls _).mono ?_
  rintro e w5 ⟨rfl, hb5⟩
  have k1 := Kd.C_string (P := Try.prog) Try.underlying22 Try.underlying5 Try.underlying9 (c := c4) (Kd.C_below hC4.out hb5)
  have k2 := Kd.C_string (P := Try.prog) Try.underlying22 Try.underlying5 Try.underlying9 (c := c0) (Kd.C_below HR.out (below_step HB4.out hb5))
  go_wp2
  go_ret
  exact ⟨by simp, below_step HB4.out hb5⟩
set_option maxHeartbeats 1000000 in
set_option maxRecDepth 100000 in
/-- Format refuses; Parse refuses b. -/
theorem walk_c (n wd : Int) (A : Option Addr) (c0 : Nat) (l : List Int) (N : Nat) (hN : l.length = N) (hle : ¬ N > 1000) (w : World) (hr : Kd.C (Kd.int .u8) w A N l) (hc : N ≤ c0) (hb : ∀ x ∈ l, 0 ≤ x ∧ x < 256)
    (q : Int) (hq : q ≠ 0) (hf : octal_Format.f 40 n wd = some ([], q)) (g : Int) (hg : g ≠ 0) (ha : answer l = (0, g)) :
    Calls Try.prog 8 #[.int .i64 n, .int .i64 wd, .slice A N c0] w fun e w' => e = .returned (.bool true) ∧ Below w.heap.size w w' := by
  have HR := Aside0.mk hr
  have F := Lib.hid (format_calls n wd _ _ hf 0 rfl)
  have P2 := Lib.hid (parse_told l 0 g ha hb N hN)
  have hg1 : (g != 0) = true := bne_iff_ne.mpr hg
  have hq1 : (q == 0) = false := beq_eq_false_iff_ne.mpr hq
  clear hr hb ha hf hN hg hq
  go_enter Try.func8, Try.ntmps8
  go_wp2_with fail
  refine (F.out _).mono ?_
  rintro e w1 ⟨A1, c1, rfl, hc1, hC1, hb1⟩
  go_wp2_with fail
  refine (P2.out _ _ _ (Kd.C_below HR.out hb1) hc).mono ?_
  rintro e w3 ⟨rfl, ⟨n3, rfl⟩⟩
  go_wp2_with fail
  refine (Fmt.alive_calls _).mono ?_
  rintro e w4 ⟨rfl, hb4⟩
  go_wp2
  go_ret
  exact ⟨by simp, below_step (pw_below_drewN hb1 _) hb4⟩
set_option maxHeartbeats 2000000 in
set_option maxRecDepth 100000 in
/-- Format refuses; Parse takes b. -/
theorem walk_d (n wd : Int) (A : Option Addr) (c0 : Nat) (l : List Int) (N : Nat) (hN : l.length = N) (hle : ¬ N > 1000) (w : World) (hr : Kd.C (Kd.int .u8) w A N l) (hc : N ≤ c0) (hb : ∀ x ∈ l, 0 ≤ x ∧ x < 256)
    (q : Int) (hq : q ≠ 0) (hf : octal_Format.f 40 n wd = some ([], q)) (m : Int) (ha : answer l = (m, 0)) (hf2 : octal_Format.f 40 m (N : Int) = some (l, 0)) :
    Calls Try.prog 8 #[.int .i64 n, .int .i64 wd, .slice A N c0] w fun e w' => e = .returned (.bool true) ∧ Below w.heap.size w w' := by
  have HR := Aside0.mk hr
  have F := Lib.hid (format_calls n wd _ _ hf 0 rfl)
  have P2 := Lib.hid (parse_told l m 0 ha hb N hN)
  have F2 := Lib.hid (format_calls m N _ _ hf2 N hN)
  have hq1 : (q == 0) = false := beq_eq_false_iff_ne.mpr hq
  clear hr hb ha hf hf2 hN hq
  go_enter Try.func8, Try.ntmps8
  go_wp2_with fail
  refine (F.out _).mono ?_
  rintro e w1 ⟨A1, c1, rfl, hc1, hC1, hb1⟩
  go_wp2_with fail
  refine (P2.out _ _ _ (Kd.C_below HR.out hb1) hc).mono ?_
  rintro e w3 ⟨rfl, ⟨n3, rfl⟩⟩
  go_wp2_with fail
  refine (F2.out _).mono ?_
  rintro e w4 ⟨A4, c4, rfl, hc4, hC4, hb4⟩
  have HB4 := Aside0.mk (below_step (pw_below_drewN hb1 _) hb4)
  go_wp2_with fail
  refine (Fmt.alive_calls _).mono ?_
  rintro e w5 ⟨rfl, hb5⟩
  have k1 := Kd.C_string (P := Try.prog) Try.underlying22 Try.underlying5 Try.underlying9 (c := c4) (Kd.C_below hC4.out hb5)
  have k2 := Kd.C_string (P := Try.prog) Try.underlying22 Try.underlying5 Try.underlying9 (c := c0) (Kd.C_below HR.out (below_step HB4.out hb5))
  go_wp2
  go_ret
  exact ⟨by simp, below_step HB4.out hb5⟩
theorem law_walk (n wd : Int) (A : Option Addr) (c0 : Nat) (l : List Int) (w : World) (_ : (Lit.int .i64 n).wf = true) (_ : (Lit.int .i64 wd).wf = true) (hr : Kd.C (Kd.int .u8) w A l.length l) (hc : l.length ≤ c0) (_ : l.length ≤ 140737488351232) (hw : ∀ x ∈ l, (Lit.int .u8 x).wf = true) :
    Calls Try.prog 8 #[.int .i64 n, .int .i64 wd, .slice A l.length c0] w fun e w' => e = .returned (.bool true) ∧ Below w.heap.size w w' := by
  have hb : ∀ x ∈ l, 0 ≤ x ∧ x < 256 := fun x hx => by have := byte_bounds (hw x hx); omega
  by_cases hle : l.length > 1000
  · exact walk_far n wd A c0 _ w hle
  · rcases Fmt.fmt_cases 40 n wd (by omega) with ⟨d, h0, h1, rfl, hn, hM, _⟩ | ⟨q, hq, hf⟩
    · rcases answer_cases l with ⟨g, hg, ha⟩ | ⟨m, ha, hf⟩
      · exact walk_a n d A c0 l _ rfl hle w hr hc hb h0 h1 hn hM g hg ha
      · exact walk_b n d A c0 l _ rfl hle w hr hc hb h0 h1 hn hM m ha hf
    · rcases answer_cases l with ⟨g, hg, ha⟩ | ⟨m, ha, hf2⟩
      · exact walk_c n wd A c0 l _ rfl hle w hr hc hb q hq hf g hg ha
      · exact walk_d n wd A c0 l _ rfl hle w hr hc hb q hq hf m ha hf2
end Go.Proofs.Ytgfihndbpphekaa.Round
