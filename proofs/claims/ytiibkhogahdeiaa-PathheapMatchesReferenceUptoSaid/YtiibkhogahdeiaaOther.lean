/- What calls of the law's size and alive, and of slices.Equal and slices.IsSorted, answer. -/
import Derived.Test.YtiibkhogahdeiaaMerge
import Derived.Deep.QuietTactic
import Derived.BigQuiet
namespace Go.Proofs.Ytiibkhogahdeiaa.Other
open Go.RowKit Go.Proofs.YtiibkhogahdeiaaW.PrintWords Go.Proofs.YtiibkhogahdeiaaW.PrintLast Go.Proofs.YtiibkhogahdeiaaW.PrintMore Go.Proofs.Ytiibkhogahdeiaa.Base Go.Proofs.Ytiibkhogahdeiaa.Plain Go.Proofs.Ytiibkhogahdeiaa.Sift Go.Proofs.Ytiibkhogahdeiaa.Ops Go.Proofs.Ytiibkhogahdeiaa.Methods Go.Proofs.Ytiibkhogahdeiaa.Sorted Go.Proofs.Ytiibkhogahdeiaa.Refs Go.Proofs.Ytiibkhogahdeiaa.RefMerge Go.Proofs.Ytiibkhogahdeiaa.Merge
theorem drawn_trans {a b c : World} (h : Drawn0 a b) (h' : Drawn0 b c) : Drawn0 a c := by
  obtain ⟨m, rfl⟩ := h'
  exact h.step m
set_option maxHeartbeats 4000000 in
set_option maxRecDepth 100000 in
/-- slices.Equal of a row and itself. -/
theorem equal_same (A A' : Option Addr) (n c c' : Nat) (l : List ByteArray) (w : World) (hr : Kd.C Kd.string w A n l) (hr' : Kd.C Kd.string w A' n l) :
    Calls Try.prog 11 #[.slice A n c, .slice A' n c'] w fun e w' => e = .returned (.bool true) ∧ Below w.heap.size w w' := by
  have nm := Kd.C_max hr
  have HR := Lib.hid hr
  have HR' := Lib.hid hr'
  clear hr hr'
  go_enter Try.func11, Try.ntmps11
  go_wp2_with fail
  go_loopw [13] (fun i wr => ∃ k : Nat, k ≤ n ∧ i = .int .i64 k ∧ Below w.heap.size w wr) (fun i _ => n - (intOf i).toNat)
  case atStart => exact ⟨0, Nat.zero_le _, rfl, Below.refl _ _⟩
  case round =>
    obtain ⟨k, hk, rfl, hb⟩ := hrel
    by_cases hlt : k < n
    · obtain ⟨ad, rfl, hx⟩ := str_at (Kd.C_below HR.out hb) k hlt
      obtain ⟨ad', rfl, hx'⟩ := str_at (Kd.C_below HR'.out hb) k hlt
      replace hb := Lib.hid hb
      generalize Base.get l k = x at *
      go_wp2
      repeat (go_quiet (fail); try go_wp2)
      go_roundw
      case rel => exact ⟨k + 1, by omega, by go_num, by repeat (first | exact hb.out | apply pw_below_drewN | apply below_drew1)⟩
      case measure => simp [intOf]; omega
    · replace hb := Lib.hid hb
      go_wp2
      go_ret
      exact ⟨rfl, hb.out⟩
set_option maxHeartbeats 4000000 in
set_option maxRecDepth 100000 in
/-- The size of a row of rows: some number. -/
theorem size_calls (A : Option Addr) (n c : Nat) (ls : List (List ByteArray)) (w : World) (hr : CC w A n ls) :
    Calls Try.prog 9 #[.slice A n c] w fun e w' => (∃ k : Int, e = .returned (.int .i64 k)) ∧ Drawn0 w w' := by
  have nm : n ≤ 9223372036854775807 := Kd.C_max hr
  have HR := Lib.hid hr
  clear hr
  go_enter Try.func9, Try.ntmps9
  go_wp2_with fail
  go_loopw [3, 10] (fun s i wr => ∃ (z : Int) (k : Nat), k ≤ n ∧ s = .int .i64 z ∧ i = .int .i64 k ∧ Drawn0 w wr) (fun _ i _ => n - (intOf i).toNat)
  case atStart => exact ⟨0, 0, Nat.zero_le _, rfl, rfl, Drawn0.refl _⟩
  case round =>
    obtain ⟨z, k, hk, rfl, rfl, hb⟩ := hrel
    by_cases hlt : k < n
    · obtain ⟨ad, A0, c0, rfl, hx, hc0, hC⟩ := CC.at (HR.out.below hb.below) k hlt
      have FX := Lib.hid fun (W : World) (h : Below w.heap.size w W) => CC.at (HR.out.below h) k hlt
      have lm := Kd.C_max hC
      have hbb := hb.below
      replace hb := Lib.hid hb
      have HC : Hid (∀ W, Drawn0 wr W → Kd.C Kd.string W A0 (getL ls k).length (getL ls k)) := Lib.hid fun W h => Kd.C_below hC h.below
      clear hC FX
      generalize getL ls k = l at *
      go_wp2_with fail
      go_loopw [3, 16] (fun s i w2 => ∃ (z : Int) (j : Nat), j ≤ l.length ∧ s = .int .i64 z ∧ i = .int .i64 j ∧ Drawn0 wr w2) (fun _ i _ => l.length - (intOf i).toNat)
      case atStart => exact ⟨z, 0, Nat.zero_le _, rfl, rfl, Drawn0.refl _⟩
      case round =>
        clear hx
        obtain ⟨z2, j, hj, rfl, rfl, hb2⟩ := hrel
        by_cases hlt2 : j < l.length
        · obtain ⟨ad1, rfl, hx1⟩ := str_at (HC.out _ hb2) j hlt2
          replace hb2 := Lib.hid hb2
          generalize Base.get l j = x at *
          go_wp2
          go_roundw
          case rel => exact ⟨_, j + 1, by omega, rfl, by go_num, by repeat (first | exact hb2.out | apply Drawn0.step)⟩
          case measure => simp [intOf]; omega
        · have hT := Lib.hid (drawn_trans hb.out hb2)
          clear hb2
          go_wp2
          go_roundw
          case rel => exact ⟨z2, k + 1, by omega, rfl, by go_num, by repeat (first | exact hT.out | apply Drawn0.step)⟩
          case measure => simp [intOf]; omega
    · replace hb := Lib.hid hb
      go_wp2
      go_ret
      exact ⟨⟨z, rfl⟩, by repeat (first | exact hb.out | apply Drawn0.step)⟩
set_option maxRecDepth 100000 in
theorem isnan (x : ByteArray) (w : World) : Calls Try.prog 29 #[.string x] w fun e w' => e = .returned (.bool false) ∧ w = w' := by
  go_enter Try.func29, Try.ntmps29
  go_wp2
  go_ret
  exact ⟨rfl, rfl⟩
set_option maxRecDepth 100000 in
theorem cmp_less (x y : ByteArray) (h : lt x y = false) (w : World) : Calls Try.prog 26 #[.string x, .string y] w fun e w' => e = .returned (.bool false) ∧ Drawn0 w w' := by
  have hlt : Op.bytesLess x.toList y.toList = false := h
  have N1 := Lib.hid (isnan x w)
  clear h
  go_enter Try.func26, Try.ntmps26
  go_wp2_with fail
  refine N1.out.mono ?_
  rintro e w1 ⟨rfl, rfl⟩
  go_wp2
  go_ret
  exact ⟨rfl, Drawn0.refl _⟩
set_option maxHeartbeats 4000000 in
set_option maxRecDepth 100000 in
/-- slices.IsSorted of a sorted row. -/
theorem sorted_calls (A : Option Addr) (n c : Nat) (l : List ByteArray) (w : World) (hr : Kd.C Kd.string w A n l) (hs : Srt l) :
    Calls Try.prog 19 #[.slice A n c] w fun e w' => e = .returned (.bool true) ∧ Below w.heap.size w w' := by
  have nm := Kd.C_max hr
  have hlen := Lib.hid (Kd.C_len hr)
  have HR := Lib.hid hr
  clear hr
  go_enter Try.func19, Try.ntmps19
  go_wp2_with fail
  go_loopw [3] (fun i wr => Below w.heap.size w wr ∧ ((n = 0 ∧ i = .int .i64 (-1)) ∨ ∃ k : Nat, k < n ∧ i = .int .i64 k)) (fun i _ => (intOf i).toNat)
  case atStart =>
    refine ⟨Below.refl _ _, ?_⟩
    rcases Nat.eq_zero_or_pos n with h | h
    · subst h; exact .inl ⟨rfl, by go_num⟩
    · exact .inr ⟨n - 1, by omega, by go_num⟩
  case round =>
    obtain ⟨hb, ⟨h0, rfl⟩ | ⟨k, hk1, rfl⟩⟩ := hrel
    · replace hb := Lib.hid hb
      go_wp2
      go_ret
      exact ⟨rfl, hb.out⟩
    by_cases hlt : 0 < k
    · obtain ⟨ad, rfl, hx⟩ := str_at (Kd.C_below HR.out hb) k (by omega)
      obtain ⟨ad', e, hx'⟩ := str_at (Kd.C_below HR.out hb) (k - 1) (by omega)
      cases e
      have LC := Lib.hid (cmp_less (Base.get l k) (Base.get l (k - 1)) (srt_get hs (k - 1) k (by omega) (by have := hlen.out; omega)))
      replace hb := Lib.hid hb
      generalize Base.get l k = x at *
      generalize Base.get l (k - 1) = y at *
      go_wp2_with (first | (go_at_call 26; (with_reducible refine (LC.out _).mono ?_); rintro e w' ⟨rfl, ⟨nd, rfl⟩⟩; (try first | exact ⟨rfl, _, World.drewN_drewN _ _ _⟩ | exact ⟨rfl, _, Eq.trans (World.drewN_drewN _ _ _) (congrArg (World.drewN _) (Nat.add_assoc _ _ _))⟩)))
      repeat (go_quiet (first | (go_at_call 26; (with_reducible refine (LC.out _).mono ?_); rintro e w' ⟨rfl, ⟨nd, rfl⟩⟩; (try first | exact ⟨rfl, _, World.drewN_drewN _ _ _⟩ | exact ⟨rfl, _, Eq.trans (World.drewN_drewN _ _ _) (congrArg (World.drewN _) (Nat.add_assoc _ _ _))⟩))); try go_wp2)
      exact ⟨⟨pw_below_drewN hb.out _, .inr ⟨k - 1, by omega, by rw [show ((k : Int) - 1) = ((k - 1 : Nat) : Int) by omega]⟩⟩, by simp only [intOf]; omega⟩
    · replace hb := Lib.hid hb
      obtain rfl : k = 0 := by omega
      go_wp2
      go_ret
      exact ⟨rfl, hb.out⟩
end Go.Proofs.Ytiibkhogahdeiaa.Other
