/- What calls of the reference's Insert answer. -/
import Derived.Test.YtiibkhogahdeiaaMethods
import Derived.Test.YtiibkhogahdeiaaSorted
namespace Go.Proofs.Ytiibkhogahdeiaa.Refs
open Go.RowKit Go.Proofs.YtiibkhogahdeiaaW.PrintWords Go.Proofs.YtiibkhogahdeiaaW.PrintLast Go.Proofs.YtiibkhogahdeiaaW.PrintMore Go.Proofs.Ytiibkhogahdeiaa.Base Go.Proofs.Ytiibkhogahdeiaa.Plain Go.Proofs.Ytiibkhogahdeiaa.Sift Go.Proofs.Ytiibkhogahdeiaa.Ops Go.Proofs.Ytiibkhogahdeiaa.Methods Go.Proofs.Ytiibkhogahdeiaa.Sorted
theorem own_strs {W : World} {base n : Nat} {v : Value} {xs : List ByteArray} (h : W.ownsRow base 9 1 v n (strs xs)) : ∃ A c, v = .slice A n c ∧ n ≤ c ∧ Kd.C Kd.string W A n xs := by
  obtain ⟨A, c, rfl, hc, hr⟩ := own_reads_of_le (enc := .string) (d := ByteArray.empty) h
  exact ⟨A, c, rfl, hc, Kd.C_of_reads (h1 := fun _ => rfl) hr⟩
theorem gt_cases (s x : ByteArray) : (lt s x = true ∧ Op.bytesLess x.toList s.toList = false ∧ (x.toList == s.toList) = false) ∨ (lt s x = false ∧ Op.bytesLess x.toList s.toList = true) ∨ (lt s x = false ∧ Op.bytesLess x.toList s.toList = false ∧ (x.toList == s.toList) = true) := by
  by_cases h : lt s x = true
  · refine .inl ⟨h, lt_asymm h, beq_eq_false_iff_ne.2 fun e => ?_⟩
    rw [toList_inj e, lt_irrefl] at h
    cases h
  · have h' : lt s x = false := by simpa using h
    by_cases h2 : Op.bytesLess x.toList s.toList = true
    · exact .inr (.inl ⟨h', h2⟩)
    · have h2' : Op.bytesLess x.toList s.toList = false := by simpa using h2
      exact .inr (.inr ⟨h', h2', beq_iff_eq.2 (less_total _ _ h2' h')⟩)
theorem C_take' {W : World} {A : Option Addr} {n : Nat} {xs : List ByteArray} (h : Kd.C Kd.string W A n xs) (m : Nat) (hm : m ≤ n) : Kd.C Kd.string W A m (xs.take m) := by
  have hl := Kd.C_len h
  subst hl
  have := Kd.C_take h hm
  rwa [List.length_take, Nat.min_eq_left hm] at this
theorem C_drop' {W : World} {A : Option Addr} {n c : Nat} {xs : List ByteArray} (h : Kd.C Kd.string W A n xs) (m : Nat) (hm : m ≤ n) (hc : n ≤ c) : Kd.C Kd.string W (if c = m then A else A.map (·.add m)) (n - m) (xs.drop m) := by
  have hl := Kd.C_len h
  subst hl
  have := Kd.C_drop h hm hc
  rw [List.length_drop] at this
  have e : m * Kd.string.sz = m := Nat.mul_one m
  rwa [e] at this
theorem own_lit0 {w W : World} (h : w.heap.size ≤ W.heap.size) : (W.alloc (.cells #[] 9)).ownsRow w.heap.size 9 1 (.slice (some ⟨W.heap.size, 0, none⟩) 0 0) ([] : List ByteArray).length (strs []) := by
  have := World.ownsRow_lit (base := w.heap.size) (e := 9) (size := 1) W #[] 0 h (Nat.zero_le _) rfl
  simpa [strs] using this
theorem C_lit1 (W : World) (s : ByteArray) : Kd.C Kd.string (W.alloc (.cells #[.string s] 9)) (some ⟨W.heap.size, 0, none⟩) 1 [s] := by
  have := World.ownsRow_lit (base := 0) (e := 9) (size := 1) W #[.string s] 1 (Nat.zero_le _) (by decide) rfl
  obtain ⟨A, c, e, _, hC⟩ := own_strs (xs := [s]) (n := 1) (by simpa [strs] using this)
  cases e
  exact hC
theorem slice_to (A : Option Addr) (n c k : Nat) (hk : k ≤ n) (hc : n ≤ c) : ∀ W : World, (Instr.slice 26 (.slice A n c) none (some (.int .i64 k)) none).run Try.prog W = .ok (.slice A k c) W := by
  obtain ⟨i9, hi9, _⟩ := Option.map_eq_some_iff.1 info9
  have := cut_to (P := Try.prog) 26 9 .i64 Try.underlying26 hi9 A n c (k : Int) (by omega) (by omega) hc
  simpa using this
theorem slice_from (A : Option Addr) (n c k : Nat) (hk : k ≤ n) : ∀ W : World, (Instr.slice 26 (.slice A n c) (some (.int .i64 k)) none none).run Try.prog W = .ok (.slice (if c = k then A else A.map (·.add k)) (n - k) (c - k)) W := by
  obtain ⟨i9, hi9, hzz⟩ := Option.map_eq_some_iff.1 info9
  simp only [Prod.mk.injEq] at hzz
  have := cut_from (P := Try.prog) 26 9 .i64 Try.underlying26 hi9 1 hzz.2.1 A n c (k : Int) (by omega) (by omega)
  simpa using this
theorem ins_at {l : List ByteArray} (h : Srt l) (s : ByteArray) {n : Nat} (hn : l.length = n) (k : Nat) (hk : k ≤ n) (hgt : ∀ j, k ≤ j → j < n → lt s (Base.get l j) = true) (hle : 0 < k → lt s (Base.get l (k - 1)) = false) :
    ∃ r, Srt r ∧ r.Perm (l ++ [s]) ∧ r = l.take k ++ [s] ++ l.drop k := by
  subst hn
  obtain ⟨h1, h2⟩ := insert_srt h s k hk hgt hle
  have e : l.take k ++ [s] ++ l.drop k = l.take k ++ s :: l.drop k := by simp
  exact ⟨_, by rw [e]; exact h1, by rw [e]; exact h2, rfl⟩
theorem own_len0 {W : World} {base k : Nat} {v : Value} {l : List ByteArray} (h : W.ownsRow base 9 1 v (([] : List ByteArray).length + k) (strs ([] ++ l.take k))) (hk : (l.take k).length = k) : W.ownsRow base 9 1 v (l.take k).length (strs (l.take k)) := by
  rw [hk]; simpa using h
theorem own_len1 {W : World} {base k : Nat} {s : ByteArray} {v : Value} {l : List ByteArray} (h : W.ownsRow base 9 1 v ((l.take k).length + 1) (strs (l.take k ++ [s]))) : W.ownsRow base 9 1 v (l.take k ++ [s]).length (strs (l.take k ++ [s])) := by
  rw [List.length_append, List.length_singleton]; exact h
theorem own_len2 {W : World} {base k n : Nat} {s : ByteArray} {v : Value} {l : List ByteArray} (h : W.ownsRow base 9 1 v ((l.take k ++ [s]).length + (n - k)) (strs (l.take k ++ [s] ++ l.drop k))) (hk : (l.take k).length = k) (hn : k ≤ n) : W.ownsRow base 9 1 v (n + 1) (strs (l.take k ++ [s] ++ l.drop k)) := by
  rw [List.length_append, hk, List.length_singleton, show k + 1 + (n - k) = n + 1 by omega] at h
  exact h
set_option maxHeartbeats 4000000 in
set_option maxRecDepth 100000 in
/-- The reference's Insert. -/
theorem insert_calls (A : Option Addr) (n c : Nat) (l : List ByteArray) (s : ByteArray) (w : World) (hr : Kd.C Kd.string w A n l) (hc : n ≤ c) (hs : Srt l) (hn : n < 8796093022207) :
    Calls Try.prog 20 #[.slice A n c, .string s] w fun e w' => ∃ v r, e = .returned v ∧ w'.ownsRow w.heap.size 9 1 v (n + 1) (strs r) ∧ Srt r ∧ r.Perm (l ++ [s]) ∧ Below w.heap.size w w' := by
  have hlen := Lib.hid (Kd.C_len hr)
  have HR := Lib.hid hr
  have HS := Lib.hid hs
  clear hr hs
  go_enter Try.func20, Try.ntmps20
  go_wp2
  go_loopw [5] (fun i wr => ∃ k : Nat, k ≤ n ∧ i = .int .i64 k ∧ (∀ j, k ≤ j → j < n → lt s (Base.get l j) = true) ∧ Drawn0 w wr) (fun i _ => (intOf i).toNat)
  case atStart => exact ⟨n, Nat.le_refl _, rfl, fun j h1 h2 => by omega, Drawn0.refl _⟩
  case round =>
    obtain ⟨k, hk, rfl, hgt, hd⟩ := hrel
    have HD := Lib.hid hd
    clear hd
    have HT := Lib.hid (show (l.take k).length = k by rw [List.length_take, hlen.out, Nat.min_eq_left hk])
    have HL2 := Lib.hid (show ((l.take k).length + 1) * 16 ≤ 140737488355328 by rw [HT.out]; omega)
    have HL3 := Lib.hid (show ((l.take k ++ [s]).length + (n - k)) * 16 ≤ 140737488355328 by rw [List.length_append, HT.out, List.length_singleton]; omega)
    have hs1 := slice_to A n c k hk hc
    have hs2 := slice_from A n c k hk
    have HD2 := Lib.hid (C_drop' HR.out k hk hc)
    generalize (if c = k then A else A.map (·.add k)) = A2 at hs2 HD2
    have HL1 := Lib.hid (show (([] : List ByteArray).length + k) * 16 ≤ 140737488355328 by simp; omega)
    by_cases h0 : 0 < k
    · obtain ⟨ad, rfl, hx⟩ := str_at (Kd.C_below HR.out HD.out.below) (k - 1) (by omega)
      rcases gt_cases s (Base.get l (k - 1)) with ⟨e0, e1, e2⟩ | ⟨e0, e1⟩ | ⟨e0, e1, e2⟩
      · have hG := Lib.hid (show ∀ j, k - 1 ≤ j → j < n → lt s (Base.get l j) = true from fun j h1 h2 => by
          rcases Nat.eq_or_lt_of_le h1 with e | e
          · rw [← e]; exact e0
          · exact hgt j (by omega) h2)
        clear hgt
        go_wp2
        go_roundw
        case rel => exact ⟨k - 1, by omega, by go_num, hG.out, by repeat (first | exact HD.out | apply Drawn0.step)⟩
        case measure => simp [intOf]; omega
      · have T := Lib.hid (ins_at HS.out s hlen.out k hk hgt fun _ => e0)
        clear hgt e0
        obtain ⟨r, hres, hpm, hrl⟩ := T.out
        have TT := Lib.hid (And.intro hres hpm)
        clear hres hpm
        subst hrl
        clear T
        go_wp2_with (first
          | (at_builtin; refine append_strs (w0 := w) w.heap.size rfl (.tmp 22) (.tmp 25) 26 rfl Try.underlying26 _ [] _ k _ (l.take k) rfl rfl ?ho ?hr ?hB ?hb ?hl ?_; (case ho => exact own_lit0 HD.out.below.size); (case hr => exact Kd.C_below (C_take' HR.out k hk) (below_alloc HD.out.below _)); (case hB => exact below_alloc HD.out.below _); (case hb => exact (below_alloc HD.out.below _).size); (case hl => exact HL1.out); intro v1 w1 ho1 hB1 hg1 _; replace ho1 := Lib.hid ho1; replace hB1 := Lib.hid hB1; clear hg1; simp only [Act.put, List.setIfInBounds_toArray, List.set_cons_succ, List.set_cons_zero])
          | (at_builtin; refine append_strs (w0 := w) w.heap.size rfl (.tmp 27) (.tmp 29) 26 rfl Try.underlying26 _ (l.take k) _ 1 _ [s] rfl rfl ?ho ?hr ?hB ?hb ?hl ?_; (case ho => exact own_alloc (own_len0 ho1.out HT.out) _); (case hr => exact C_lit1 _ _); (case hB => exact below_alloc hB1.out _); (case hb => exact (below_alloc hB1.out _).size); (case hl => exact HL2.out); intro v2 w2 ho2 hB2 hg2 _; replace ho2 := Lib.hid ho2; replace hB2 := Lib.hid hB2; clear hg2; simp only [Act.put, List.setIfInBounds_toArray, List.set_cons_succ, List.set_cons_zero])
          | (at_builtin; refine append_strs (w0 := w) w.heap.size rfl (.tmp 31) (.tmp 34) 26 rfl Try.underlying26 _ (l.take k ++ [s]) _ (n - k) _ (l.drop k) rfl rfl ?ho ?hr ?hB ?hb ?hl ?_; (case ho => exact own_len1 ho2.out); (case hr => exact Kd.C_below HD2.out hB2.out); (case hB => exact hB2.out); (case hb => exact hB2.out.size); (case hl => exact HL3.out); intro v3 w3 ho3 hB3 hg3 _; replace ho3 := Lib.hid ho3; replace hB3 := Lib.hid hB3; clear hg3; simp only [Act.put, List.setIfInBounds_toArray, List.set_cons_succ, List.set_cons_zero]))
        go_ret
        exact ⟨_, _, rfl, own_len2 ho3.out HT.out hk, TT.out.1, TT.out.2, hB3.out⟩
      · have T := Lib.hid (ins_at HS.out s hlen.out k hk hgt fun _ => e0)
        clear hgt e0
        obtain ⟨r, hres, hpm, hrl⟩ := T.out
        have TT := Lib.hid (And.intro hres hpm)
        clear hres hpm
        subst hrl
        clear T
        go_wp2_with (first
          | (at_builtin; refine append_strs (w0 := w) w.heap.size rfl (.tmp 22) (.tmp 25) 26 rfl Try.underlying26 _ [] _ k _ (l.take k) rfl rfl ?ho ?hr ?hB ?hb ?hl ?_; (case ho => exact own_lit0 HD.out.below.size); (case hr => exact Kd.C_below (C_take' HR.out k hk) (below_alloc HD.out.below _)); (case hB => exact below_alloc HD.out.below _); (case hb => exact (below_alloc HD.out.below _).size); (case hl => exact HL1.out); intro v1 w1 ho1 hB1 hg1 _; replace ho1 := Lib.hid ho1; replace hB1 := Lib.hid hB1; clear hg1; simp only [Act.put, List.setIfInBounds_toArray, List.set_cons_succ, List.set_cons_zero])
          | (at_builtin; refine append_strs (w0 := w) w.heap.size rfl (.tmp 27) (.tmp 29) 26 rfl Try.underlying26 _ (l.take k) _ 1 _ [s] rfl rfl ?ho ?hr ?hB ?hb ?hl ?_; (case ho => exact own_alloc (own_len0 ho1.out HT.out) _); (case hr => exact C_lit1 _ _); (case hB => exact below_alloc hB1.out _); (case hb => exact (below_alloc hB1.out _).size); (case hl => exact HL2.out); intro v2 w2 ho2 hB2 hg2 _; replace ho2 := Lib.hid ho2; replace hB2 := Lib.hid hB2; clear hg2; simp only [Act.put, List.setIfInBounds_toArray, List.set_cons_succ, List.set_cons_zero])
          | (at_builtin; refine append_strs (w0 := w) w.heap.size rfl (.tmp 31) (.tmp 34) 26 rfl Try.underlying26 _ (l.take k ++ [s]) _ (n - k) _ (l.drop k) rfl rfl ?ho ?hr ?hB ?hb ?hl ?_; (case ho => exact own_len1 ho2.out); (case hr => exact Kd.C_below HD2.out hB2.out); (case hB => exact hB2.out); (case hb => exact hB2.out.size); (case hl => exact HL3.out); intro v3 w3 ho3 hB3 hg3 _; replace ho3 := Lib.hid ho3; replace hB3 := Lib.hid hB3; clear hg3; simp only [Act.put, List.setIfInBounds_toArray, List.set_cons_succ, List.set_cons_zero]))
        go_ret
        exact ⟨_, _, rfl, own_len2 ho3.out HT.out hk, TT.out.1, TT.out.2, hB3.out⟩
    · have e0 : ¬ (0 : Int) < (k : Int) := by omega
      have T := Lib.hid (ins_at HS.out s hlen.out k hk hgt fun h => absurd h h0)
      clear hgt
      obtain ⟨r, hres, hpm, hrl⟩ := T.out
      have TT := Lib.hid (And.intro hres hpm)
      clear hres hpm
      subst hrl
      clear T
      go_wp2_with (first
        | (at_builtin; refine append_strs (w0 := w) w.heap.size rfl (.tmp 22) (.tmp 25) 26 rfl Try.underlying26 _ [] _ k _ (l.take k) rfl rfl ?ho ?hr ?hB ?hb ?hl ?_; (case ho => exact own_lit0 HD.out.below.size); (case hr => exact Kd.C_below (C_take' HR.out k hk) (below_alloc HD.out.below _)); (case hB => exact below_alloc HD.out.below _); (case hb => exact (below_alloc HD.out.below _).size); (case hl => exact HL1.out); intro v1 w1 ho1 hB1 hg1 _; replace ho1 := Lib.hid ho1; replace hB1 := Lib.hid hB1; clear hg1; simp only [Act.put, List.setIfInBounds_toArray, List.set_cons_succ, List.set_cons_zero])
        | (at_builtin; refine append_strs (w0 := w) w.heap.size rfl (.tmp 27) (.tmp 29) 26 rfl Try.underlying26 _ (l.take k) _ 1 _ [s] rfl rfl ?ho ?hr ?hB ?hb ?hl ?_; (case ho => exact own_alloc (own_len0 ho1.out HT.out) _); (case hr => exact C_lit1 _ _); (case hB => exact below_alloc hB1.out _); (case hb => exact (below_alloc hB1.out _).size); (case hl => exact HL2.out); intro v2 w2 ho2 hB2 hg2 _; replace ho2 := Lib.hid ho2; replace hB2 := Lib.hid hB2; clear hg2; simp only [Act.put, List.setIfInBounds_toArray, List.set_cons_succ, List.set_cons_zero])
        | (at_builtin; refine append_strs (w0 := w) w.heap.size rfl (.tmp 31) (.tmp 34) 26 rfl Try.underlying26 _ (l.take k ++ [s]) _ (n - k) _ (l.drop k) rfl rfl ?ho ?hr ?hB ?hb ?hl ?_; (case ho => exact own_len1 ho2.out); (case hr => exact Kd.C_below HD2.out hB2.out); (case hB => exact hB2.out); (case hb => exact hB2.out.size); (case hl => exact HL3.out); intro v3 w3 ho3 hB3 hg3 _; replace ho3 := Lib.hid ho3; replace hB3 := Lib.hid hB3; clear hg3; simp only [Act.put, List.setIfInBounds_toArray, List.set_cons_succ, List.set_cons_zero]))
      go_ret
      exact ⟨_, rfl, _, own_len2 ho3.out HT.out hk, TT.out.1, TT.out.2, hB3.out⟩
end Go.Proofs.Ytiibkhogahdeiaa.Refs
