/- What calls of container/heap's down, up and Init answer over a heap of strings: the walks through their text. -/
import Derived.Test.YtiibkhogahdeiaaPlain
namespace Go.Proofs.Ytiibkhogahdeiaa.Sift
open Go.RowKit Go.Proofs.YtiibkhogahdeiaaW.PrintWords Go.Proofs.YtiibkhogahdeiaaW.PrintLast Go.Proofs.YtiibkhogahdeiaaW.PrintMore Go.Proofs.Ytiibkhogahdeiaa.Base Go.Proofs.Ytiibkhogahdeiaa.Plain

/-- The state of down's loop. -/
structure DownAt (w wr : World) (base hb : Nat) (v : Value) (xs0 : List ByteArray) (n lo : Nat) (xs : List ByteArray) (i : Nat) : Prop where
  hp : Hp wr base hb v xs
  moved : Moved w wr base hb v v
  down : Down xs0 n lo xs i
/-- What down leaves. -/
structure Sifted (w w' : World) (base hb : Nat) (v : Value) (xs : List ByteArray) (n lo : Nat) (xs' : List ByteArray) : Prop where
  hp : Hp w' base hb v xs'
  moved : Moved w w' base hb v v
  perm : xs'.Perm xs
  heap : HeapFrom xs' n lo
  rest : ∀ k, n ≤ k → Base.get xs' k = Base.get xs k
theorem DownAt.done {w wr : World} {base hb n lo i : Nat} {v : Value} {xs0 xs : List ByteArray} (h : DownAt w wr base hb v xs0 n lo xs i) (m : Nat)
    (hmin : ∀ k, 0 < k → k < n → (k - 1) / 2 = i → lt (Base.get xs k) (Base.get xs i) = false) : Sifted w (wr.drewN m) base hb v xs0 n lo xs :=
  ⟨h.hp.drewN m, h.moved.drewN m, h.down.perm, h.down.done hmin, h.down.rest⟩
theorem less_at {w : World} {base hb : Nat} {v : Value} {xs : List ByteArray} (h : Hp w base hb v xs) (a b : Int) (i j : Nat) (ha : (i : Int) = a) (hb' : (j : Int) = b) (hi : i < xs.length) (hj : j < xs.length) :
    Calls Try.prog 46 #[v, .int .i64 a, .int .i64 b] w fun e w' => e = .returned (.bool (lt (Base.get xs i) (Base.get xs j))) ∧ Drawn0 w w' := by
  subst ha hb'
  exact less_hp h i j hi hj
theorem swap_at {w : World} {base hb : Nat} {v : Value} {xs : List ByteArray} (h : Hp w base hb v xs) (a b : Int) (i j : Nat) (ha : (i : Int) = a) (hb' : (j : Int) = b) (hi : i < xs.length) (hj : j < xs.length) :
    Calls Try.prog 47 #[v, .int .i64 a, .int .i64 b] w fun e w' => e = .returned (.tuple #[]) ∧ Hp w' base hb v (swapL xs i j) ∧ Moved w w' base hb v v := by
  subst ha hb'
  exact swap_calls h i j hi hj
set_option maxHeartbeats 8000000 in
set_option maxRecDepth 100000 in
theorem down_calls {w : World} {base hb : Nat} {v : Value} {xs : List ByteArray} (h : Hp w base hb v xs) (lo n : Nat) (hn : n ≤ xs.length) (hlo : lo ≤ 140737488355328) (hN : xs.length ≤ 140737488355328) (hh : HeapFrom xs n (lo + 1)) :
    Calls Try.prog 27 #[.iface 50 (.pointer (some ⟨hb, 0, none⟩)), .int .i64 lo, .int .i64 n] w fun e w' => ∃ (b : Bool) (xs' : List ByteArray), e = .returned (.bool b) ∧ Sifted w w' base hb v xs n lo xs' := by
  have K0 := Lib.hid (show DownAt w w base hb v xs n lo xs lo from ⟨h, Moved.refl _ _ _ _, Down.start hh hn⟩)
  have HN := Lib.hid hn
  clear hh h hn
  go_enter Try.func27, Try.ntmps27
  go_wp2_with fail
  go_loopw [7] (fun i wr => ∃ (k : Nat) (ys : List ByteArray), k ≤ 140737488355328 ∧ i = .int .i64 k ∧ DownAt w wr base hb v xs n lo ys k) (fun i _ => 140737488355328 - (intOf i).toNat)
  case atStart => exact ⟨lo, xs, hlo, rfl, K0.out⟩
  case round =>
    obtain ⟨i, ys, hi, rfl, hK⟩ := hrel
    clear K0
    have hnl : n ≤ 140737488355328 := Nat.le_trans HN.out hN
    have hlen := Lib.hid hK.down.fits
    by_cases h1 : 2 * i + 1 < n
    · have hcell := hK.hp.cell
      replace hK := Lib.hid hK
      by_cases h2 : 2 * i + 2 < n
      · have hmem : (2 : Int) * (i : Int) + 1 + 1 < (n : Int) := by omega
        by_cases c1 : lt (Base.get ys (2 * i + 2)) (Base.get ys (2 * i + 1)) = true
        · have hmin := Lib.hid (show ∀ k, 0 < k → k < n → (k - 1) / 2 = i → lt (Base.get ys k) (Base.get ys (2 * i + 2)) = false from fun k h0 h3 h4 => by
            rcases (show k = 2 * i + 1 ∨ k = 2 * i + 2 by omega) with rfl | rfl
            · exact lt_asymm c1
            · exact lt_irrefl _)
          have m1 := method_less hb v wr hcell
          go_wp2_with fail
          refine (less_at hK.out.hp _ _ (2 * i + 2) (2 * i + 1) (by omega) (by omega) (by have := hlen.out; omega) (by have := hlen.out; omega)).mono ?_
          rintro e w1 ⟨rfl, ⟨n1, rfl⟩⟩
          rw [c1]
          clear c1 m1
          have m2 := method_less hb v (wr.drewN n1) hcell
          by_cases c2 : lt (Base.get ys (2 * i + 2)) (Base.get ys i) = true
          · have S := Lib.hid (hK.out.down.swap (j := 2 * i + 2) (by omega) (by omega) (by omega) hmin.out c2)
            go_wp2_with fail
            refine (less_at (hK.out.hp.drewN n1) _ _ (2 * i + 2) i (by omega) (by omega) (by have := hlen.out; omega) (by have := hlen.out; omega)).mono ?_
            rintro e w2 ⟨rfl, ⟨n2, rfl⟩⟩
            have m3 := method_swap hb v (wr.drewN (n1 + n2)) hcell
            rw [c2]
            go_wp2_with fail
            refine (swap_at (hK.out.hp.drewN (n1 + n2)) _ _ i (2 * i + 2) (by omega) (by omega) (by have := hlen.out; omega) (by have := hlen.out; omega)).mono ?_
            rintro e w3 ⟨rfl, hp3, mv3⟩
            have T := Lib.hid (show DownAt w w3 base hb v xs n lo (swapL ys i (2 * i + 2)) (2 * i + 2) from ⟨hp3, (hK.out.moved.drewN _).trans mv3, S.out⟩)
            clear hp3 mv3 S
            go_wp2
            go_roundw
            case rel => exact ⟨2 * i + 2, _, by omega, by first | rfl | go_num, T.out⟩
            case measure => simp [intOf]; omega
          · replace c2 := Bool.eq_false_iff.mpr c2
            have D := Lib.hid (fun m => hK.out.done m (fun k h0 h2 h3 => by
              have hk := hmin.out k h0 h2 h3
              exact le_trans hk c2))
            go_wp2_with fail
            refine (less_at (hK.out.hp.drewN n1) _ _ (2 * i + 2) i (by omega) (by omega) (by have := hlen.out; omega) (by have := hlen.out; omega)).mono ?_
            rintro e w2 ⟨rfl, ⟨n2, rfl⟩⟩
            rw [c2]
            go_wp2
            go_ret
            exact ⟨_, _, rfl, D.out _⟩
        · replace c1 := Bool.eq_false_iff.mpr c1
          have hmin := Lib.hid (show ∀ k, 0 < k → k < n → (k - 1) / 2 = i → lt (Base.get ys k) (Base.get ys (2 * i + 1)) = false from fun k h0 h3 h4 => by
            rcases (show k = 2 * i + 1 ∨ k = 2 * i + 2 by omega) with rfl | rfl
            · exact lt_irrefl _
            · exact c1)
          have m1 := method_less hb v wr hcell
          go_wp2_with fail
          refine (less_at hK.out.hp _ _ (2 * i + 2) (2 * i + 1) (by omega) (by omega) (by have := hlen.out; omega) (by have := hlen.out; omega)).mono ?_
          rintro e w1 ⟨rfl, ⟨n1, rfl⟩⟩
          rw [c1]
          clear c1 m1
          have m2 := method_less hb v (wr.drewN n1) hcell
          by_cases c2 : lt (Base.get ys (2 * i + 1)) (Base.get ys i) = true
          · have S := Lib.hid (hK.out.down.swap (j := 2 * i + 1) (by omega) (by omega) (by omega) hmin.out c2)
            go_wp2_with fail
            refine (less_at (hK.out.hp.drewN n1) _ _ (2 * i + 1) i (by omega) (by omega) (by have := hlen.out; omega) (by have := hlen.out; omega)).mono ?_
            rintro e w2 ⟨rfl, ⟨n2, rfl⟩⟩
            have m3 := method_swap hb v (wr.drewN (n1 + n2)) hcell
            rw [c2]
            go_wp2_with fail
            refine (swap_at (hK.out.hp.drewN (n1 + n2)) _ _ i (2 * i + 1) (by omega) (by omega) (by have := hlen.out; omega) (by have := hlen.out; omega)).mono ?_
            rintro e w3 ⟨rfl, hp3, mv3⟩
            have T := Lib.hid (show DownAt w w3 base hb v xs n lo (swapL ys i (2 * i + 1)) (2 * i + 1) from ⟨hp3, (hK.out.moved.drewN _).trans mv3, S.out⟩)
            clear hp3 mv3 S
            go_wp2
            go_roundw
            case rel => exact ⟨2 * i + 1, _, by omega, by first | rfl | go_num, T.out⟩
            case measure => simp [intOf]; omega
          · replace c2 := Bool.eq_false_iff.mpr c2
            have D := Lib.hid (fun m => hK.out.done m (fun k h0 h2 h3 => by
              have hk := hmin.out k h0 h2 h3
              exact le_trans hk c2))
            go_wp2_with fail
            refine (less_at (hK.out.hp.drewN n1) _ _ (2 * i + 1) i (by omega) (by omega) (by have := hlen.out; omega) (by have := hlen.out; omega)).mono ?_
            rintro e w2 ⟨rfl, ⟨n2, rfl⟩⟩
            rw [c2]
            go_wp2
            go_ret
            exact ⟨_, _, rfl, D.out _⟩
      · have hmem : ¬ (2 : Int) * (i : Int) + 1 + 1 < (n : Int) := by omega
        have hmin := Lib.hid (show ∀ k, 0 < k → k < n → (k - 1) / 2 = i → lt (Base.get ys k) (Base.get ys (2 * i + 1)) = false from fun k h0 h3 h4 => by
          obtain rfl : k = 2 * i + 1 := by omega
          exact lt_irrefl _)
        have m2 := method_less hb v (wr) hcell
        by_cases c2 : lt (Base.get ys (2 * i + 1)) (Base.get ys i) = true
        · have S := Lib.hid (hK.out.down.swap (j := 2 * i + 1) (by omega) (by omega) (by omega) hmin.out c2)
          go_wp2_with fail
          refine (less_at (hK.out.hp.drewN 0) _ _ (2 * i + 1) i (by omega) (by omega) (by have := hlen.out; omega) (by have := hlen.out; omega)).mono ?_
          rintro e w2 ⟨rfl, ⟨n2, rfl⟩⟩
          have m3 := method_swap hb v (wr.drewN (n2)) hcell
          rw [c2]
          go_wp2_with fail
          refine (swap_at (hK.out.hp.drewN (n2)) _ _ i (2 * i + 1) (by omega) (by omega) (by have := hlen.out; omega) (by have := hlen.out; omega)).mono ?_
          rintro e w3 ⟨rfl, hp3, mv3⟩
          have T := Lib.hid (show DownAt w w3 base hb v xs n lo (swapL ys i (2 * i + 1)) (2 * i + 1) from ⟨hp3, (hK.out.moved.drewN _).trans mv3, S.out⟩)
          clear hp3 mv3 S
          go_wp2
          go_roundw
          case rel => exact ⟨2 * i + 1, _, by omega, by first | rfl | go_num, T.out⟩
          case measure => simp [intOf]; omega
        · replace c2 := Bool.eq_false_iff.mpr c2
          have D := Lib.hid (fun m => hK.out.done m (fun k h0 h2 h3 => by
            have hk := hmin.out k h0 h2 h3
            exact le_trans hk c2))
          go_wp2_with fail
          refine (less_at (hK.out.hp.drewN 0) _ _ (2 * i + 1) i (by omega) (by omega) (by have := hlen.out; omega) (by have := hlen.out; omega)).mono ?_
          rintro e w2 ⟨rfl, ⟨n2, rfl⟩⟩
          rw [c2]
          go_wp2
          go_ret
          exact ⟨_, _, rfl, D.out _⟩
    · have D := Lib.hid (hK.done 0 (fun k h0 h2 h3 => by omega))
      have hmem : (n : Int) ≤ 2 * (i : Int) + 1 := by omega
      clear hK
      go_wp2
      go_ret
      exact ⟨_, _, rfl, D.out⟩
/-- The state of up's loop. -/
structure UpAt (w wr : World) (base hb : Nat) (v : Value) (xs0 : List ByteArray) (xs : List ByteArray) (j : Nat) : Prop where
  hp : Hp wr base hb v xs
  moved : Moved w wr base hb v v
  up : Up xs0 xs j
/-- What up and Init leave: a heap of the same strings. -/
structure Heaped (w w' : World) (base hb : Nat) (v v' : Value) (xs xs' : List ByteArray) : Prop where
  hp : Hp w' base hb v' xs'
  moved : Moved w w' base hb v v'
  perm : xs'.Perm xs
  heap : HeapFrom xs' xs'.length 0
theorem UpAt.done {w wr : World} {base hb j : Nat} {v : Value} {xs0 xs : List ByteArray} (h : UpAt w wr base hb v xs0 xs j) (m : Nat) (hd : 0 < j → lt (Base.get xs j) (Base.get xs ((j - 1) / 2)) = false) : Heaped w (wr.drewN m) base hb v v xs0 xs :=
  ⟨h.hp.drewN m, h.moved.drewN m, h.up.perm, h.up.done hd⟩
set_option maxHeartbeats 4000000 in
set_option maxRecDepth 100000 in
theorem up_calls {w : World} {base hb : Nat} {v : Value} {xs0 xs : List ByteArray} (h : Hp w base hb v xs) (j : Nat) (hU : Up xs0 xs j) (hN : xs.length ≤ 140737488355328) :
    Calls Try.prog 28 #[.iface 50 (.pointer (some ⟨hb, 0, none⟩)), .int .i64 j] w fun e w' => ∃ xs' : List ByteArray, e = .returned (.tuple #[]) ∧ Heaped w w' base hb v v xs0 xs' := by
  have K0 := Lib.hid (show UpAt w w base hb v xs0 xs j from ⟨h, Moved.refl _ _ _ _, hU⟩)
  have hj : j ≤ 140737488355328 := Nat.le_trans (Nat.le_of_lt hU.lt_n) hN
  clear h hU
  go_enter Try.func28, Try.ntmps28
  go_wp2_with fail
  go_loopw [1] (fun j wr => ∃ (k : Nat) (ys : List ByteArray), k ≤ 140737488355328 ∧ j = .int .i64 k ∧ UpAt w wr base hb v xs0 ys k) (fun j _ => (intOf j).toNat)
  case atStart => exact ⟨j, xs, hj, rfl, K0.out⟩
  case round =>
    obtain ⟨k, ys, hk, rfl, hK⟩ := hrel
    clear K0 hj
    by_cases h0 : k = 0
    · subst h0
      have D := Lib.hid (hK.done 0 (fun h => by omega))
      clear hK
      go_wp2_with fail
      go_end0
      exact ⟨_, rfl, D.out⟩
    · have hlen := Lib.hid hK.up.lt_n
      have hcell := hK.hp.cell
      have e1 : ((k : Int) - 1) / 2 = (((k - 1) / 2 : Nat) : Int) := by omega
      have hne : ((((k - 1) / 2 : Nat) : Int) == (k : Int)) = false := by rw [beq_eq_false_iff_ne]; omega
      have hk1 : 1 ≤ (k : Int) := by omega
      by_cases c : lt (Base.get ys k) (Base.get ys ((k - 1) / 2)) = true
      · have S := Lib.hid (hK.up.swap (by omega) rfl c)
        replace hK := Lib.hid hK
        have m1 := method_less hb v wr hcell
        generalize hi : (k - 1) / 2 = i at *
        replace hi := Lib.hid hi
        go_wp2_with fail
        refine (less_at hK.out.hp _ _ k i (by omega) (by omega) (by have := hlen.out; omega) (by have := hlen.out; have := hi.out; omega)).mono ?_
        rintro e w2 ⟨rfl, ⟨n2, rfl⟩⟩
        rw [c]
        have m3 := method_swap hb v (wr.drewN n2) hcell
        go_wp2_with fail
        refine (swap_at (hK.out.hp.drewN n2) _ _ i k (by omega) (by omega) (by have := hlen.out; have := hi.out; omega) (by have := hlen.out; omega)).mono ?_
        rintro e w3 ⟨rfl, hp3, mv3⟩
        have T := Lib.hid (show UpAt w w3 base hb v xs0 (swapL ys i k) i from ⟨hp3, (hK.out.moved.drewN _).trans mv3, S.out⟩)
        clear hp3 mv3 S
        go_wp2
        go_roundw
        case rel => exact ⟨i, _, by have := hi.out; omega, by first | rfl | go_num, T.out⟩
        case measure => simp [intOf]; have := hi.out; omega
      · replace c := Bool.eq_false_iff.mpr c
        have D := Lib.hid (fun m => hK.done m (fun _ => c))
        replace hK := Lib.hid hK
        have m1 := method_less hb v wr hcell
        generalize hi : (k - 1) / 2 = i at *
        replace hi := Lib.hid hi
        go_wp2_with fail
        refine (less_at hK.out.hp _ _ k i (by omega) (by omega) (by have := hlen.out; omega) (by have := hlen.out; have := hi.out; omega)).mono ?_
        rintro e w2 ⟨rfl, ⟨n2, rfl⟩⟩
        rw [c]
        go_wp2
        go_end0
        exact ⟨_, rfl, D.out _⟩
theorem HeapFrom.leaves (xs : List ByteArray) (n : Nat) : HeapFrom xs n (n / 2) := fun k h0 h1 h2 => by omega
/-- The state of Init's loop. -/
structure InitAt (w wr : World) (base hb : Nat) (v : Value) (xs : List ByteArray) (ys : List ByteArray) (k : Nat) : Prop where
  hp : Hp wr base hb v ys
  moved : Moved w wr base hb v v
  perm : ys.Perm xs
  heap : HeapFrom ys xs.length k
set_option maxHeartbeats 4000000 in
set_option maxRecDepth 100000 in
theorem init_calls {w : World} {base hb : Nat} {v : Value} {xs : List ByteArray} (h : Hp w base hb v xs) (hN : xs.length ≤ 140737488355328) :
    Calls Try.prog 22 #[.iface 50 (.pointer (some ⟨hb, 0, none⟩))] w fun e w' => ∃ xs' : List ByteArray, e = .returned (.tuple #[]) ∧ Heaped w w' base hb v v xs xs' := by
  obtain ⟨A, c, hv⟩ := h.slice
  have hcell := h.cell
  have K0 := Lib.hid (show InitAt w w base hb v xs xs (xs.length / 2) from ⟨h, Moved.refl _ _ _ _, List.Perm.refl _, HeapFrom.leaves _ _⟩)
  have m1 := method_len hb v w hcell
  have LC := Lib.hid (show Calls Try.prog 25 #[v] w fun e w' => e = .returned (.int .i64 xs.length) ∧ w = w' by rw [hv]; exact len_calls A _ c w)
  clear hv h
  generalize hn : xs.length = n at *
  replace hn := Lib.hid hn
  go_enter Try.func22, Try.ntmps22
  go_wp2_with fail
  refine LC.out.mono ?_
  rintro e w' ⟨rfl, rfl⟩
  go_wp2_with fail
  go_loopw [3] (fun i wr => ∃ (k : Nat) (ys : List ByteArray), k ≤ n ∧ i = .int .i64 ((k : Int) - 1) ∧ InitAt w wr base hb v xs ys k) (fun i _ => (intOf i + 1).toNat)
  case atStart => exact ⟨n / 2, xs, by omega, by simp, K0.out⟩
  case round =>
    obtain ⟨k, ys, hk, rfl, hK⟩ := hrel
    clear K0 LC m1 hcell
    rcases Nat.eq_zero_or_pos k with rfl | hk0
    · have D := Lib.hid (show Heaped w wr base hb v v xs ys from ⟨hK.hp, hK.moved, hK.perm, by have := hK.heap; rw [← hK.perm.length_eq] at this; exact this⟩)
      clear hK
      go_wp2
      go_end0
      exact ⟨_, rfl, D.out⟩
    · obtain ⟨m, rfl⟩ : ∃ m, k = m + 1 := ⟨k - 1, by omega⟩
      have e1 : (((m + 1 : Nat) : Int)) - 1 = (m : Int) := by omega
      rw [e1]
      clear e1
      have hl := Lib.hid (hK.perm.length_eq)
      replace hK := Lib.hid hK
      go_wp2_with fail
      refine (down_calls hK.out.hp m n (by have := hl.out; have := hn.out; omega) (by omega) (by have := hl.out; have := hn.out; omega) (by have := hK.out.heap; rw [hn.out] at this; exact this)).mono ?_
      rintro e w2 ⟨b, ys2, rfl, hS⟩
      have T := Lib.hid (show InitAt w w2 base hb v xs ys2 m from ⟨hS.hp, hK.out.moved.trans hS.moved, hS.perm.trans hK.out.perm, by rw [hn.out]; exact hS.heap⟩)
      clear hS hK
      go_wp2
      go_roundw
      case rel => exact ⟨m, _, by omega, by first | rfl | go_num, T.out⟩
      case measure => simp [intOf]
end Go.Proofs.Ytiibkhogahdeiaa.Sift
