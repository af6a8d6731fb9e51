/- What the reference's Max and Format answer: the walks through their text. -/
import Derived.Test.YtbdjjgcaadkfbaaFmt
namespace Go.Proofs.Ytbdjjgcaadkfbaa.RefFormat
open Go.RowKit Go.Proofs.YtbdjjgcaadkfbaaW.PrintWords Go.Proofs.YtbdjjgcaadkfbaaW.PrintLast Go.Proofs.YtbdjjgcaadkfbaaW.PrintMore Go.Proofs.Ytbdjjgcaadkfbaa.Oct Go.Proofs.Ytbdjjgcaadkfbaa.Fmt Go.Proofs.Ytbdjjgcaadkfbaa.PChecksumMatchesReference

/-- The state of the reference's Max: k rounds are done. -/
structure MaxAt (k : Nat) (n : Int) : Prop where mk :: (out : n + 1 = 8 ^ k)
theorem MaxAt.next {k : Nat} {n : Int} (h : MaxAt k n) : MaxAt (k + 1) (8 * n + 7) := ⟨by have := h.out; rw [Int.pow_succ]; omega⟩
theorem MaxAt.bound {k : Nat} {n : Int} (h : MaxAt k n) (hk : k < 21) : 0 ≤ n ∧ 8 * n + 7 < 9223372036854775808 := by
  have h8 : (8 : Int) ^ (k + 1) = 8 ^ k * 8 := Int.pow_succ _ _
  have := pow_le (k + 1) (by omega)
  have := pow_pos k
  have := h.out
  omega
set_option maxHeartbeats 1000000 in
set_option maxRecDepth 100000 in
theorem max_calls (d : Nat) (h0 : 1 ≤ d) (h1 : d ≤ 21) (w : World) :
    Calls Try.prog 21 #[.int .i64 ((d : Int) + 1)] w fun e w' => e = .returned (.int .i64 (8 ^ d - 1)) ∧ Drawn0 w w' := by
  have hd0 : decide ((d : Int) + 1 < 2) = false := by simp; omega
  go_enter Try.func21, Try.ntmps21
  go_wp2
  go_loop [3, 4] (fun n i => ∃ (k : Nat) (m : Int), k ≤ d ∧ i = .int .i64 ((k : Int) + 1) ∧ n = .int .i64 m ∧ MaxAt k m) (fun _ i => d + 1 - (intOf i).toNat)
  case atStart => exact ⟨0, 0, Nat.zero_le _, rfl, rfl, ⟨rfl⟩⟩
  case round =>
    obtain ⟨k, m, hk, rfl, rfl, hA⟩ := hrel
    by_cases hlt : k < d
    · have hb := hA.bound (by omega)
      have T := Lib.hid hA.next
      clear hA
      go_wp2
      go_round
      case rel => exact ⟨k + 1, 8 * m + 7, by omega, by go_num, by go_num, T.out⟩
      case measure => simp [intOf]; omega
    · obtain rfl : k = d := by omega
      have T := Lib.hid (show m = 8 ^ k - 1 by have := hA.out; omega)
      clear hA
      go_wp2
      go_ret
      exact ⟨by rw [← T.out]; rfl, Drawn0.refl _⟩
theorem max_short (n : Int) (h : n < 2) (w : World) : Calls Try.prog 21 #[.int .i64 n] w fun e w' => e = .returned (.int .i64 0) ∧ Drawn0 w w' := by
  have hd0 : decide (n < 2) = true := by simp; omega
  go_enter Try.func21, Try.ntmps21
  go_wp2
  go_ret
  exact ⟨rfl, Drawn0.refl _⟩
theorem max_long (n : Int) (h : 22 < n) (w : World) : Calls Try.prog 21 #[.int .i64 n] w fun e w' => e = .returned (.int .i64 0) ∧ Drawn0 w w' := by
  have hd0 : decide (n < 2) = false := by simp; omega
  go_enter Try.func21, Try.ntmps21
  go_wp2
  go_ret
  exact ⟨rfl, Drawn0.refl _⟩
/-- The state of the reference's loop: k digits are written. -/
structure FmtAt (d : Nat) (n : Int) (k : Nat) (m : Int) (s : ByteArray) : Prop where mk ::
  (out : ∃ tl : List Int, fld d n = digs (d - k) m ++ tl ∧ s = strOfNums tl ∧ tl.length = k + 1 ∧ 0 ≤ m ∧ m < 9223372036854775808)
theorem FmtAt.zero (d : Nat) (n : Int) (h : 0 ≤ n) (h' : n < 9223372036854775808) : FmtAt d n 0 n ⟨#[0]⟩ := ⟨[0], rfl, rfl, rfl, h, h'⟩
theorem FmtAt.next {d : Nat} {n : Int} {k : Nat} {m : Int} {s : ByteArray} (h : FmtAt d n k m s) (hk : k < d) : FmtAt d n (k + 1) (m / 8) (strOfNums [48 + m % 8] ++ s) := by
  obtain ⟨tl, h1, rfl, h3, h4⟩ := h.out
  refine ⟨(48 + m % 8) :: tl, ?_, ?_, by simp [h3], by omega, by omega⟩
  · rw [h1, show d - k = (d - (k + 1)) + 1 by omega]
    simp [digs]
  · simp only [strOfNums]
    rw [ByteArray.mk_append_mk]
    rfl
theorem FmtAt.nonneg {d : Nat} {n : Int} {k : Nat} {m : Int} {s : ByteArray} (h : FmtAt d n k m s) : 0 ≤ m ∧ m < 9223372036854775808 := by
  obtain ⟨tl, h1, rfl, h3, h4⟩ := h.out
  exact h4
theorem FmtAt.size {d : Nat} {n : Int} {k : Nat} {m : Int} {s : ByteArray} (h : FmtAt d n k m s) : s.size = k + 1 := by
  obtain ⟨tl, h1, rfl, h3, h4⟩ := h.out
  rw [strOfNums_size, h3]
theorem FmtAt.done {d : Nat} {n : Int} {m : Int} {s : ByteArray} (h : FmtAt d n d m s) : s = strOfNums (fld d n) := by
  obtain ⟨tl, h1, rfl, h3, h4⟩ := h.out
  rw [h1, Nat.sub_self]
  rfl
theorem bytesOf_str (l : List Int) (hb : ∀ x ∈ l, 0 ≤ x ∧ x < 256) : bytesOf (strOfNums l) = l := by
  unfold bytesOf
  rw [strOfNums_data, List.map_map]
  conv => rhs; rw [← List.map_id l]
  apply List.map_congr_left
  intro x hx
  have := hb x hx
  simp only [Function.comp_apply, id_eq]
  rw [UInt8.toNat_ofNat_of_lt' (by simp; omega)]
  omega
set_option maxHeartbeats 1000000 in
set_option maxRecDepth 100000 in
theorem format_loop (d : Nat) (n : Int) (h0 : 1 ≤ d) (h1 : d ≤ 21) (hn : 0 ≤ n) (hN : n < 8 ^ d) (w : World) :
    Calls Try.prog 18 #[.int .i64 n, .int .i64 ((d : Int) + 1)] w fun e w' => ∃ (A : Option Addr) (c : Nat), e = .returned (.tuple #[.slice A (d + 1) c, .int .i64 0]) ∧ Aside0 (Kd.C (Kd.int .u8) w' A (d + 1) (fld d n)) ∧ Below w.heap.size w w' := by
  have hd0 : decide ((d : Int) + 1 < 2) = false := by simp; omega
  have hp := pow_le d h1
  have hle : decide ((8 : Int) ^ d - 1 < n) = false := by simp; omega
  have HZ := Lib.hid (FmtAt.zero d n hn (by omega))
  generalize hq : (8 : Int) ^ d - 1 = Q at hle
  have M := Lib.hid (max_calls d h0 h1)
  rw [hq] at M
  have hnM : n < 9223372036854775808 := by omega
  clear hq hN hp
  go_enter Try.func18, Try.ntmps18
  go_wp2_with fail
  refine (M.out _).mono ?_
  rintro e w1 ⟨rfl, ⟨n1, rfl⟩⟩
  go_wp2_with fail
  go_loopw [0, 6, 7] (fun v s i wr => ∃ (k : Nat) (m : Int) (sb : ByteArray), k ≤ d ∧ v = .int .i64 m ∧ s = .string sb ∧ i = .int .i64 ((k : Int) + 1) ∧ FmtAt d n k m sb ∧ Below w.heap.size w wr) (fun _ _ i _ => d + 1 - (intOf i).toNat)
  case atStart => exact ⟨0, n, _, Nat.zero_le _, rfl, rfl, rfl, HZ.out, pw_below_drewN (Below.refl _ _) _⟩
  case round =>
    obtain ⟨k, m, sb, hk, rfl, rfl, rfl, hA, hbl⟩ := hrel
    obtain ⟨hm0, hm1⟩ := hA.nonneg
    by_cases hlt : k < d
    · have hsz := hA.size
      have hsz2 : ¬ 9223372036854775807 < (strOfNums [48 + m % 8]).size + sb.size := by rw [strOfNums_size]; simp; omega
      have T := Lib.hid (hA.next hlt)
      have HBL := Aside0.mk hbl
      have hcv : ∀ W : World, (convert 22 9 (.slice (some ⟨W.heap.size, 0, none⟩) 1 1)).run Try.prog (W.alloc (.cells #[.int .u8 (48 + m % 8)] 5)) = .ok (.string (strOfNums [48 + m % 8])) (W.alloc (.cells #[.int .u8 (48 + m % 8)] 5)) :=
        fun W => own_string (P := Try.prog) Try.underlying22 Try.underlying5 Try.underlying9 (own_lit W W.heap.size 5 .u8 [48 + m % 8] (Nat.le_refl _) (by simp))
      clear hA hbl hsz
      go_wp2
      go_roundw
      case rel => exact ⟨k + 1, m / 8, _, by omega, rfl, rfl, by go_num, T.out, HBL.out.alloc HBL.out.size _⟩
      case measure => simp [intOf]; omega
    · obtain rfl : k = d := by omega
      have hsz := Lib.hid hA.size
      have T := Lib.hid hA.done
      have HBL := Aside0.mk hbl
      have kb := fun W : World => print_bytes (P := Try.prog) 9 22 5 Try.underlying9 Try.underlying22 Try.underlying5 sb W
      clear hA hbl
      go_wp2
      go_ret2
      refine ⟨_, _, by rw [← hsz.out]; rfl, ⟨?_⟩, bytes_below HBL.out HBL.out.size _ _⟩
      have h := bytes_reads wr 5 sb (by have := hsz.out; omega)
      rw [hsz.out, T.out, bytesOf_str _ (fld_bytes k n)] at h
      rw [T.out]
      exact Kd.C_of_reads (d := (0 : Int)) (h1 := fun _ => rfl) h
theorem format_short (n wd : Int) (h : wd < 2) (w : World) : Calls Try.prog 18 #[.int .i64 n, .int .i64 wd] w fun e w' => e = .returned (.tuple #[.slice none 0 0, .int .i64 2]) ∧ Drawn0 w w' := by
  have hd0 : decide (wd < 2) = true := by simp; omega
  go_enter Try.func18, Try.ntmps18
  go_wp2
  go_ret2
  exact ⟨rfl, Drawn0.refl _⟩
theorem format_long (n wd : Int) (h : 22 < wd) (w : World) : Calls Try.prog 18 #[.int .i64 n, .int .i64 wd] w fun e w' => e = .returned (.tuple #[.slice none 0 0, .int .i64 2]) ∧ Drawn0 w w' := by
  have hd0 : decide (wd < 2) = false := by simp; omega
  go_enter Try.func18, Try.ntmps18
  go_wp2
  go_ret2
  exact ⟨rfl, Drawn0.refl _⟩
theorem format_neg (n : Int) (d : Nat) (h0 : 1 ≤ d) (h1 : d ≤ 21) (h : n < 0) (w : World) : Calls Try.prog 18 #[.int .i64 n, .int .i64 ((d : Int) + 1)] w fun e w' => e = .returned (.tuple #[.slice none 0 0, .int .i64 3]) ∧ Drawn0 w w' := by
  have hd0 : decide ((d : Int) + 1 < 2) = false := by simp; omega
  have hn0 : decide (n < 0) = true := by simp; omega
  go_enter Try.func18, Try.ntmps18
  go_wp2
  go_ret2
  exact ⟨rfl, Drawn0.refl _⟩
theorem format_great (n : Int) (d : Nat) (h0 : 1 ≤ d) (h1 : d ≤ 21) (h : 8 ^ d ≤ n) (w : World) : Calls Try.prog 18 #[.int .i64 n, .int .i64 ((d : Int) + 1)] w fun e w' => e = .returned (.tuple #[.slice none 0 0, .int .i64 3]) ∧ Drawn0 w w' := by
  have hd0 : decide ((d : Int) + 1 < 2) = false := by simp; omega
  have hp := pow_pos d
  have hn0 : decide (n < 0) = false := by simp; omega
  have hle : decide ((8 : Int) ^ d - 1 < n) = true := by simp; omega
  have M := Lib.hid (max_calls d h0 h1)
  generalize (8 : Int) ^ d - 1 = Q at M hle
  clear hp h
  go_enter Try.func18, Try.ntmps18
  go_wp2_with fail
  refine (M.out _).mono ?_
  rintro e w1 ⟨rfl, ⟨n1, rfl⟩⟩
  go_wp2
  go_ret2
  exact ⟨rfl, ⟨⟨_, rfl⟩⟩⟩
/-- The reference's Format answers what octal.Format answers, at every number and width. -/
theorem format_any (n wd : Int) (l : List Int) (q : Int) (h : octal_Format.f 40 n wd = some (l, q)) (N : Nat) (hN : l.length = N) (w : World) :
    Calls Try.prog 18 #[.int .i64 n, .int .i64 wd] w fun e w' => ∃ (A : Option Addr) (c : Nat), e = .returned (.tuple #[.slice A N c, .int .i64 q]) ∧ Aside0 (Kd.C (Kd.int .u8) w' A N l) ∧ Below w.heap.size w w' := by
  subst hN
  by_cases hw : wd < 2 ∨ 22 < wd
  · rw [Fmt.fmt_arg 40 n wd hw] at h
    simp only [Option.some.injEq, Prod.mk.injEq] at h
    obtain ⟨rfl, rfl⟩ := h
    rcases hw with hw | hw
    · exact (format_short n wd hw w).mono fun e w' ⟨he, hd⟩ => ⟨none, 0, he, ⟨Kd.C_nil _ _⟩, hd.below⟩
    · exact (format_long n wd hw w).mono fun e w' ⟨he, hd⟩ => ⟨none, 0, he, ⟨Kd.C_nil _ _⟩, hd.below⟩
  · obtain ⟨d, rfl⟩ : ∃ d : Nat, wd = (d : Int) + 1 := ⟨(wd - 1).toNat, by omega⟩
    by_cases hr : n < 0 ∨ 8 ^ d ≤ n
    · rw [Fmt.fmt_range d 40 n (by omega) (by omega) hr] at h
      simp only [Option.some.injEq, Prod.mk.injEq] at h
      obtain ⟨rfl, rfl⟩ := h
      rcases hr with hr | hr
      · exact (format_neg n d (by omega) (by omega) hr w).mono fun e w' ⟨he, hd⟩ => ⟨none, 0, he, ⟨Kd.C_nil _ _⟩, hd.below⟩
      · exact (format_great n d (by omega) (by omega) hr w).mono fun e w' ⟨he, hd⟩ => ⟨none, 0, he, ⟨Kd.C_nil _ _⟩, hd.below⟩
    · rw [Fmt.fmt_ok d 40 n (by omega) (by omega) (by omega) (by omega) (by omega)] at h
      simp only [Option.some.injEq, Prod.mk.injEq] at h
      obtain ⟨rfl, rfl⟩ := h
      rw [fld_len]
      exact format_loop d n (by omega) (by omega) (by omega) (by omega) w
end Go.Proofs.Ytbdjjgcaadkfbaa.RefFormat
