/- The walk of PathheapPeekIsPop. -/
import Derived.Test.YtiibkhogahdeiaaAlive
namespace Go.Proofs.Ytiibkhogahdeiaa.Peek
open Go.RowKit Go.Proofs.YtiibkhogahdeiaaW.PrintWords Go.Proofs.YtiibkhogahdeiaaW.PrintLast Go.Proofs.YtiibkhogahdeiaaW.PrintMore Go.Proofs.Ytiibkhogahdeiaa.Base Go.Proofs.Ytiibkhogahdeiaa.Plain Go.Proofs.Ytiibkhogahdeiaa.Sift Go.Proofs.Ytiibkhogahdeiaa.Ops Go.Proofs.Ytiibkhogahdeiaa.Methods Go.Proofs.Ytiibkhogahdeiaa.Sorted Go.Proofs.Ytiibkhogahdeiaa.Refs Go.Proofs.Ytiibkhogahdeiaa.RefMerge Go.Proofs.Ytiibkhogahdeiaa.Merge Go.Proofs.Ytiibkhogahdeiaa.Other Go.Proofs.Ytiibkhogahdeiaa.Alive
theorem cc_one {w : World} {A : Option Addr} {n c : Nat} {l : List ByteArray} (h : Kd.C Kd.string w A n l) (hc : n ≤ c) : CC (w.alloc (.cells #[.slice A n c] 26)) (some ⟨w.heap.size, 0, none⟩) 1 [l] := by
  have hl := Kd.C_len h
  subst hl
  exact CC_lits w [⟨A, c, l⟩] (by intro x hx; rw [List.mem_singleton.1 hx]; exact ⟨hc, h⟩) (by simp)
set_option maxHeartbeats 8000000 in
set_option maxRecDepth 100000 in
theorem law_walk (A : Option Addr) (n c : Nat) (l : List ByteArray) (w : World) (hr : Kd.C Kd.string w A n l) (hc : n ≤ c) (hn : n < 8796093022208) :
    Calls Try.prog 7 #[.slice A n c] w fun e w' => e = .returned (.bool true) ∧ Below w.heap.size w w' := by
  have hlen := Lib.hid (Kd.C_len hr)
  have HR := Lib.hid hr
  have NC := Lib.hid (new_calls A n c l w hr hn)
  clear hr
  go_enter Try.func7, Try.ntmps7
  go_wp2_with fail
  refine NC.out.mono ?_
  rintro e w1 ⟨hb, v, rfl, hB, hb1⟩
  have SC := Lib.hid (size_calls _ 1 1 [l] _ (cc_one (Kd.C_below HR.out hb1) hc))
  replace hB := Lib.hid hB
  replace hb1 := Lib.hid hb1
  clear NC
  go_wp2_with fail
  refine SC.out.mono ?_
  rintro e w2 ⟨⟨k, rfl⟩, hd2⟩
  have hb2 := Lib.hid (hb1.out.trans ((below_alloc (Below.refl w1.heap.size w1) _ |>.trans (hd2.below.mono (below_alloc (Below.refl w1.heap.size w1) _).size)).mono hb1.out.size))
  have hB2 := Lib.hid (Bag.below hB.out (below_alloc (Below.refl w1.heap.size w1) _ |>.trans (hd2.below.mono (below_alloc (Below.refl w1.heap.size w1) _).size)))
  have AL := Lib.hid alive_calls
  clear SC hB hb1 hd2
  by_cases hk : 3000 < k
  · go_wp2_with fail
    refine (AL.out _).mono ?_
    rintro e w3 ⟨rfl, hb3⟩
    have hb4 := Lib.hid (hb2.out.trans (hb3.mono hb2.out.size))
    clear hb3
    go_wp2
    go_ret
    exact ⟨rfl, hb4.out⟩
  · go_wp2_with fail
    go_loopw [25] (fun i wr => ∃ (j : Nat) (u : Value) (bag : List ByteArray), j ≤ n + 1 ∧ i = .int .i64 j ∧ bag.length = n - j ∧ Bag wr w.heap.size hb u bag ∧ Below w.heap.size w wr) (fun i _ => n + 1 - (intOf i).toNat)
    case atStart => exact ⟨0, v, l, Nat.zero_le _, rfl, hlen.out, hB2.out, hb2.out⟩
    case round =>
      obtain ⟨j, u, bag, hj, rfl, hbl, hB, hbe⟩ := hrel
      have LC := Lib.hid (len_of hB)
      replace hbe := Lib.hid hbe
      clear hB2 hb2
      by_cases hlt : j < n + 1
      · by_cases h0 : bag = []
        · have PK := Lib.hid (peek_empty hB h0)
          have PP := Lib.hid (pop_empty hB h0)
          subst h0
          replace hB := Lib.hid hB
          have hjn : j = n := by simp at hbl; omega
          subst hjn
          go_wp2_with fail
          refine LC.out.mono ?_
          rintro e w3 ⟨rfl, rfl⟩
          go_wp2_with fail
          refine PK.out.mono ?_
          rintro e w3 ⟨rfl, rfl⟩
          go_wp2_with fail
          refine PK.out.mono ?_
          rintro e w3 ⟨rfl, rfl⟩
          go_wp2_with fail
          refine PP.out.mono ?_
          rintro e w3 ⟨rfl, rfl⟩
          go_wp2
          exact ⟨⟨j + 1, u, [], Nat.le_refl _, by go_num, by simp, hB.out, hbe.out⟩, by simp [intOf]⟩
        · have PK := Lib.hid (peek_calls hB h0)
          have PP := Lib.hid (pop_calls hB h0 (by omega))
          have hpos : 0 < bag.length := List.length_pos_iff.2 h0
          have e1 : decide ((bag.length : Int) > 0) = true := by rw [decide_eq_true_iff]; omega
          obtain ⟨m, hm⟩ : ∃ m, bag.length = m + 1 := ⟨bag.length - 1, by omega⟩
          clear hB h0
          go_wp2_with fail
          refine LC.out.mono ?_
          rintro e w3 ⟨rfl, rfl⟩
          go_wp2_with fail
          refine PK.out.mono ?_
          rintro e w3 ⟨x, rfl, hx1, hx2, rfl⟩
          go_wp2_with fail
          refine PK.out.mono ?_
          rintro e w3 ⟨y, rfl, hy1, hy2, rfl⟩
          obtain rfl : x = y := eq_of_le (hy2 x hx1) (hx2 y hy1)
          go_wp2_with fail
          refine PP.out.mono ?_
          rintro e w3 ⟨z, u3, bag3, rfl, hB3, hp3, hz2, hM3⟩
          obtain rfl : x = z := eq_of_le (hz2 x hx1) (hx2 z (hp3.mem_iff.1 (List.mem_append_right _ (List.mem_singleton_self _))))
          have hl3 := hp3.length_eq
          rw [List.length_append, List.length_singleton] at hl3
          have LC3 := Lib.hid (len_of hB3)
          have hbe3 := Lib.hid (hbe.out.trans hM3.below)
          replace hB3 := Lib.hid hB3
          clear hp3 hz2 hM3 hx1 hx2 hy1 hy2
          have e2 : ((bag3.length : Int) == (bag.length : Int) - 1) = true := by rw [beq_iff_eq]; omega
          go_wp2_with fail
          refine LC3.out.mono ?_
          rintro e w4 ⟨rfl, rfl⟩
          go_wp2
          exact ⟨⟨j + 1, u3, bag3, by omega, by go_num, by omega, hB3.out, hbe3.out⟩, by simp only [intOf]; omega⟩
      · have hjn : j = n + 1 := by omega
        subst hjn
        obtain rfl : bag = [] := List.eq_nil_of_length_eq_zero (by omega)
        replace hB := Lib.hid hB
        go_wp2_with fail
        refine (AL.out _).mono ?_
        rintro e w3 ⟨rfl, hb3⟩
        have LC3 := Lib.hid (len_of (Bag.below hB.out hb3))
        have hb4 := Lib.hid (hbe.out.trans (hb3.mono hbe.out.size))
        clear hb3
        go_wp2_with fail
        refine LC3.out.mono ?_
        rintro e w4 ⟨rfl, rfl⟩
        go_wp2
        go_ret
        exact ⟨rfl, hb4.out⟩
end Go.Proofs.Ytiibkhogahdeiaa.Peek
