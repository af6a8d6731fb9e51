/- What calls of the reference's Merge answer. -/
import Derived.Test.YtiibkhogahdeiaaRefs
namespace Go.Proofs.Ytiibkhogahdeiaa.RefMerge
open Go.RowKit Go.Proofs.YtiibkhogahdeiaaW.PrintWords Go.Proofs.YtiibkhogahdeiaaW.PrintLast Go.Proofs.YtiibkhogahdeiaaW.PrintMore Go.Proofs.Ytiibkhogahdeiaa.Base Go.Proofs.Ytiibkhogahdeiaa.Plain Go.Proofs.Ytiibkhogahdeiaa.Sift Go.Proofs.Ytiibkhogahdeiaa.Ops Go.Proofs.Ytiibkhogahdeiaa.Methods Go.Proofs.Ytiibkhogahdeiaa.Sorted Go.Proofs.Ytiibkhogahdeiaa.Refs
def getL (ls : List (List ByteArray)) (i : Nat) : List ByteArray := ls.getD i []
/-- A row of rows that is read. -/
def CC (w : World) (A : Option Addr) (n : Nat) (ls : List (List ByteArray)) : Prop := Kd.C (Kd.slice 9 Kd.string) w A n ls
theorem CC.len {w : World} {A : Option Addr} {n : Nat} {ls : List (List ByteArray)} (h : CC w A n ls) : ls.length = n := Kd.C_len h
theorem CC.below {w w1 : World} {A : Option Addr} {n : Nat} {ls : List (List ByteArray)} (h : CC w A n ls) (hb : Below w.heap.size w w1) : CC w1 A n ls := Kd.C_below h hb
theorem CC.at {w : World} {A : Option Addr} {n : Nat} {ls : List (List ByteArray)} (h : CC w A n ls) (i : Nat) (hi : i < n) : ∃ ad A0 c0, A = some ad ∧ w.cell? (ad.add i) = some (.slice A0 (getL ls i).length c0) ∧ (getL ls i).length ≤ c0 ∧ Kd.C Kd.string w A0 (getL ls i).length (getL ls i) := by
  obtain ⟨ad, c, e, _, hK, hc0⟩ := Kd.C_get h ([] : List ByteArray) (i : Int) (by omega) (by omega)
  have hc : ∀ j u, c[j]? = some u → w.cell? (ad.add (i * 1 + j)) = some u := hc0
  obtain ⟨A0, c0, rfl, l0, g0⟩ := hK
  exact ⟨ad, A0, c0, e, by have hq := hc 0 _ rfl; rwa [Nat.mul_one, Nat.add_zero] at hq, l0, g0⟩
theorem take_nextL (ls : List (List ByteArray)) (i : Nat) (h : i < ls.length) : (ls.take (i + 1)).flatten = (ls.take i).flatten ++ getL ls i := by
  rw [List.take_succ_eq_append_getElem h, List.flatten_append]
  simp [getL, List.getD_eq_getElem?_getD, List.getElem?_eq_getElem h]
theorem part_le (ls : List (List ByteArray)) (i k : Nat) (h : i < ls.length) (hk : k < (getL ls i).length) : ((ls.take i).flatten ++ (getL ls i).take k).length + 1 ≤ ls.flatten.length := by
  have e : ls = ls.take (i + 1) ++ ls.drop (i + 1) := (List.take_append_drop _ _).symm
  have e2 : ls.flatten.length = (ls.take (i + 1)).flatten.length + (ls.drop (i + 1)).flatten.length := by rw [← List.length_append, ← List.flatten_append, List.take_append_drop]
  rw [take_nextL ls i h, List.length_append] at e2
  rw [List.length_append, List.length_take]
  omega
set_option maxHeartbeats 4000000 in
set_option maxRecDepth 100000 in
/-- The reference's Merge. -/
theorem refmerge_calls (A : Option Addr) (n c : Nat) (ls : List (List ByteArray)) (w : World) (hr : CC w A n ls) (hN : ls.flatten.length < 8796093022207) :
    Calls Try.prog 13 #[.slice A n c] w fun e w' => ∃ v r, e = .returned v ∧ w'.ownsRow w.heap.size 9 1 v r.length (strs r) ∧ Srt r ∧ r.Perm ls.flatten ∧ Below w.heap.size w w' := by
  have hlen := Lib.hid hr.len
  have HR := Lib.hid hr
  have nm : n ≤ 9223372036854775807 := Kd.C_max hr
  clear hr
  go_enter Try.func13, Try.ntmps13
  go_wp2
  go_loopw [3, 4] (fun out i wr => ∃ (k : Nat) (r : List ByteArray), k ≤ n ∧ i = .int .i64 k ∧ wr.ownsRow w.heap.size 9 1 out r.length (strs r) ∧ Srt r ∧ r.Perm (ls.take k).flatten ∧ Below w.heap.size w wr) (fun _ i _ => n - (intOf i).toNat)
  case atStart => exact ⟨0, [], Nat.zero_le _, rfl, own_nil _ _ _ _, List.Pairwise.nil, by simp, Below.refl _ _⟩
  case round =>
    obtain ⟨k, r, hk, rfl, ho, hs, hp, hb⟩ := hrel
    by_cases hlt : k < n
    · obtain ⟨ad, A0, c0, rfl, hx, hc0, hC⟩ := CC.at (HR.out.below hb) k hlt
      have FX := Lib.hid fun (W : World) (h : Below w.heap.size w W) => CC.at (HR.out.below h) k hlt
      have PL := Lib.hid (part_le ls k)
      have TN := Lib.hid (take_nextL ls k (by rw [hlen.out]; exact hlt))
      have ST := Lib.hid (And.intro ho (And.intro hs (And.intro hp hb)))
      have lm := Kd.C_max hC
      replace hC := Lib.hid hC
      clear ho hs hp hb
      generalize getL ls k = l at *
      go_wp2_with fail
      go_loopw [3, 5] (fun out i wr => ∃ (j : Nat) (r : List ByteArray), j ≤ l.length ∧ i = .int .i64 j ∧ wr.ownsRow w.heap.size 9 1 out r.length (strs r) ∧ Srt r ∧ r.Perm ((ls.take k).flatten ++ l.take j) ∧ Below w.heap.size w wr) (fun _ i _ => l.length - (intOf i).toNat)
      case atStart => exact ⟨0, r, Nat.zero_le _, rfl, ST.out.1, ST.out.2.1, by simpa using ST.out.2.2.1, ST.out.2.2.2⟩
      case round =>
        clear hx
        obtain ⟨j, r, hj, rfl, ho, hs, hp, hb⟩ := hrel
        obtain ⟨ad', A1, c1, e, hx, hc1, hC1⟩ := FX.out _ hb
        cases e
        by_cases hlt2 : j < l.length
        · obtain ⟨A2, c2, rfl, hc2, hC2⟩ := own_strs ho
          obtain ⟨ad1, rfl, hx1⟩ := str_at hC1 j hlt2
          have hrl : r.length = ((ls.take k).flatten ++ l.take j).length := hp.length_eq
          have IC := Lib.hid (insert_calls A2 r.length c2 r (Base.get l j) wr hC2 hc2 hs (by have := PL.out j (by rw [hlen.out]; exact hlt) hlt2; omega))
          have TK := Lib.hid (take_next l j hlt2)
          replace hb := Lib.hid hb
          replace hp := Lib.hid hp
          clear hs hC1 hC2 ho hc1 hrl
          generalize Base.get l j = x at *
          go_wp2_with fail
          refine IC.out.mono ?_
          rintro e w2 ⟨v, r2, rfl, ho2, hs2, hp2, hb2⟩
          have T := Lib.hid (show w2.ownsRow w.heap.size 9 1 v r2.length (strs r2) ∧ Srt r2 ∧ r2.Perm ((ls.take k).flatten ++ l.take (j + 1)) ∧ Below w.heap.size w w2 from
            ⟨own_weaken (by have := hp2.length_eq; rw [this, List.length_append]; exact ho2) hb.out.size, hs2, by rw [TK.out, ← List.append_assoc]; exact hp2.trans (hp.out.append_right _), hb.out.trans (hb2.mono hb.out.size)⟩)
          clear hs2 hp2 hb2 ho2
          go_wp2
          go_roundw
          case rel => exact ⟨j + 1, r2, by omega, by go_num, T.out.1, T.out.2.1, T.out.2.2.1, T.out.2.2.2⟩
          case measure => simp [intOf]; omega
        · have T := Lib.hid (show wr.ownsRow w.heap.size 9 1 u3 r.length (strs r) ∧ Srt r ∧ r.Perm (ls.take (k + 1)).flatten ∧ Below w.heap.size w wr from
            ⟨ho, hs, by rw [TN.out]; rwa [List.take_of_length_le (show l.length ≤ j by omega)] at hp, hb⟩)
          clear ho hs hp hb
          go_wp2
          go_roundw
          case rel => exact ⟨k + 1, r, by omega, by go_num, T.out.1, T.out.2.1, T.out.2.2.1, T.out.2.2.2⟩
          case measure => simp [intOf]; omega
    · have T := Lib.hid (show wr.ownsRow w.heap.size 9 1 u3 r.length (strs r) ∧ Srt r ∧ r.Perm ls.flatten ∧ Below w.heap.size w wr from
        ⟨ho, hs, by rwa [List.take_of_length_le (show ls.length ≤ k by rw [hlen.out]; omega)] at hp, hb⟩)
      clear ho hs hp hb
      go_wp2
      go_ret
      exact ⟨_, _, rfl, T.out.1, T.out.2.1, T.out.2.2.1, T.out.2.2.2⟩
end Go.Proofs.Ytiibkhogahdeiaa.RefMerge
