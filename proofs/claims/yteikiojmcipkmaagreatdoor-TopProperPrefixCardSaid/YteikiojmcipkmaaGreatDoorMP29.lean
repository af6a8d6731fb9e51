/- Parts of the proof, gathered by a program: ZNum: what calls of the functions answer, and what follows in plain lists. Conditions: those that each theorem states. -/
import Derived.Test.YteikiojmcipkmaaGreatDoorMP19
import Derived.Laws.RangeAny
import Derived.Laws.RangeString
set_option linter.unusedVariables false
set_option linter.unusedSimpArgs false
section
namespace Go.Proofs.YteikiojmcipkmaaGreatDoor.ZNum
open Go.RowKit Go.Proofs.YteikiojmcipkmaaGreatDoorW.PrintWords Go.Proofs.YteikiojmcipkmaaGreatDoorW.PrintLast Go.Proofs.YteikiojmcipkmaaGreatDoorW.PrintMore Oct ZBase ZGlob ZMo
open Go.Lib (decDigits parseUintM parseUintB parseIntB)
def digit (c : UInt8) : Prop := 48 ≤ c.toNat ∧ c.toNat ≤ 57
theorem parseUintM_append (M : Nat) (m : List UInt8) : ∀ (l : List UInt8) (acc x : Nat), parseUintM M acc l = .ok x → parseUintM M acc (l ++ m) = parseUintM M x m := by
  intro l
  induction l with
  | nil =>
    intro acc x h
    simp only [parseUintM] at h
    cases h
    rfl
  | cons c l ih =>
    intro acc x h
    simp only [List.cons_append, parseUintM] at h ⊢
    split at h
    · rename_i hd
      rw [if_pos hd]
      split at h
      · cases h
      · rename_i h1
        rw [if_neg h1]
        split at h
        · cases h
        · rename_i h2
          rw [if_neg h2]
          exact ih _ _ h
    · cases h
theorem dec_digit : ∀ (u : Nat), (∀ c ∈ decDigits u, digit c) ∧ (u < 10000000000 → parseUintM (2 ^ 64 - 1) 0 (decDigits u) = .ok u) ∧ (1 ≤ u → ∃ c r, decDigits u = c :: r ∧ c.toNat ≠ 48) := by
  intro u
  induction u using Nat.strongRecOn with
  | _ u ih =>
    have hd : ∀ i, i < 10 → (UInt8.ofNat (48 + i)).toNat = 48 + i := fun i hi => by
      rw [UInt8.toNat_ofNat']
      omega
    by_cases h : u < 10
    · have e : decDigits u = [UInt8.ofNat (48 + u)] := Go.Lib.decDigits_one h
      rw [e]
      refine ⟨fun c hc => ?_, fun _ => ?_, fun h1 => ⟨_, _, rfl, by rw [hd u h]; omega⟩⟩
      · obtain rfl := List.mem_singleton.1 hc
        unfold digit
        rw [hd u h]
        omega
      · simp only [parseUintM, hd u h]
        rw [if_pos (by omega), if_neg (by omega), if_neg (by omega)]
        congr 1
        omega
    · have e : decDigits u = decDigits (u / 10) ++ [UInt8.ofNat (48 + u % 10)] := by
        rw [decDigits, dif_neg h]
      obtain ⟨h1, h2, h3⟩ := ih (u / 10) (by omega)
      have hm : u % 10 < 10 := Nat.mod_lt _ (by decide)
      rw [e]
      refine ⟨fun c hc => ?_, fun hu => ?_, fun _ => ?_⟩
      · rcases List.mem_append.1 hc with hc | hc
        · exact h1 c hc
        · obtain rfl := List.mem_singleton.1 hc
          unfold digit
          rw [hd _ hm]
          omega
      · rw [parseUintM_append _ _ _ _ _ (h2 (by omega))]
        simp only [parseUintM, hd _ hm]
        rw [if_pos (by omega), if_neg (by omega), if_neg (by omega)]
        congr 1
        omega
      · obtain ⟨c, r, e2, hc⟩ := h3 (by omega)
        exact ⟨c, r ++ [UInt8.ofNat (48 + u % 10)], by rw [e2]; rfl, hc⟩
theorem dec_parse (u : Nat) (h : u < 1000000) : parseIntB 64 (decDigits u) = .ok (u : Int) := by
  obtain ⟨h1, h2, h3⟩ := dec_digit u
  have h2 := h2 (by omega)
  have hne : decDigits u ≠ [] := by
    intro e
    have := Go.Lib.decDigits_length u
    rw [e] at this
    have := Go.Lib.nDigits_pos u
    simp at *
    omega
  obtain ⟨c, r, e⟩ := List.exists_cons_of_ne_nil hne
  have hc := h1 c (by rw [e]; simp)
  unfold digit at hc
  rw [e] at h2 ⊢
  unfold parseIntB
  have c1 : ¬ (c.toNat = 43 ∨ c.toNat = 45) := by omega
  have c2 : ¬ c.toNat = 45 := by omega
  simp only [if_neg c1, parseUintB]
  rw [if_neg (by simp), h2]
  simp only
  rw [if_neg (by intro h; have := h.2; omega), if_neg (by intro h; exact c2 h.1), if_neg c2]
set_option maxHeartbeats 2000000 in
set_option maxRecDepth 100000 in
theorem number_calls (s : ByteArray) (u : Nat) (L : Int) (hs : s.data.toList = decDigits u) (h1 : 1 ≤ u) (hu : u < 1000000) (hL : (u : Int) ≤ L) (hsz : s.size ≤ 100) (w : World) : Calls Tryz.prog 159 #[.string s, .int .i64 L] w fun e w' => e = .returned (.tuple #[.int .i64 u, .int .i64 0]) ∧ Below w.heap.size w w' := by
  have hdig : ∀ (p : Nat) (h : p < s.size), 48 ≤ (s[p]'h).toNat ∧ (s[p]'h).toNat ≤ 57 := fun p h => (dec_digit u).1 _ (by rw [← hs]; exact List.getElem_mem (by simpa using h))
  have HP := dec_parse u hu
  rw [← hs] at HP
  have h0 : 0 < s.size := by
    have := Go.Lib.decDigits_length u
    have := Go.Lib.nDigits_pos u
    have h2 : s.size = (decDigits u).length := by rw [← hs]; simp
    omega
  have hc0 : (s[0]'h0).toNat ≠ 48 := by
    obtain ⟨c, r, e, hc⟩ := (dec_digit u).2.2 h1
    have : s.data.toList[0]'(by simpa using h0) = c := by
      have e2 : s.data.toList = c :: r := by rw [hs, e]
      simp [e2]
    have e3 : s[0]'h0 = s.data.toList[0]'(by simpa using h0) := rfl
    rw [e3, this]
    exact hc
  have PI := Lib.hid (fun W => Tryz.strconv_ParseInt_10_at64_ok s (by omega) u HP W)
  have HD := Lib.hid hdig
  have n0 : ¬ s.toList = [] := by
    intro e
    rw [ByteArray.toList_eq] at e
    have : s.data.toList.length = s.size := Array.length_toList
    rw [e] at this
    simp at this
    omega
  have n1 : s.toList.isEmpty = false := by simp [n0]
  have n2 : ¬ (((s[0]'h0).toNat : Int) = 48) := by omega
  have n3 : (((s[0]'h0).toNat : Int) == 48) = false := beq_eq_false_iff_ne.2 n2
  have n4 : ¬ (u : Int) > L := by omega
  clear hs HP hdig hc0
  go_enter Tryz.func159, Tryz.ntmps159
  go_wp2_with fail
  go_loopw [7] (fun _ wr => ∃ pos : Nat, pos ≤ s.size ∧ wr = w.iter s pos) (fun _ w' => s.size - w'.iterPos w.heap.size)
  case atStart => exact ⟨0, Nat.zero_le _, rfl⟩
  case round =>
    obtain ⟨pos, hpos, rfl⟩ := hrel
    by_cases hp : pos < s.size
    · obtain ⟨d1, d2⟩ := HD.out pos hp
      have hnx : ∀ ty, (Instr.next (.pointer (some ⟨w.heap.size, 0, none⟩)) true ty).run Tryz.prog (w.iter s pos) = _ := fun ty => run_next_ascii w s pos ty hp (by omega)
      obtain ⟨c, hc⟩ : ∃ c, (s[pos]'hp).toNat = c := ⟨_, rfl⟩
      rw [hc] at hnx d1 d2
      have k1 : ¬ (c : Int) < 48 := by omega
      have k2 : ¬ (c : Int) > 57 := by omega
      go_wp2_with fail
      go_roundw
      case rel => exact ⟨pos + 1, by omega, rfl⟩
      case measure => simp; omega
    · have hnx : ∀ ty, (Instr.next (.pointer (some ⟨w.heap.size, 0, none⟩)) true ty).run Tryz.prog (w.iter s pos) = _ := fun ty => run_next_end w s pos ty hp
      go_wp2_with fail
      refine (PI.out _).mono ?_
      rintro r w2 ⟨rfl, hw⟩
      have HB : Hid (Below w.heap.size w w2) := Lib.hid (by
        have hi : Below w.heap.size w (w.iter s pos) := below_alloc (Below.refl _ _) _
        rcases hw with rfl | ⟨t, rfl⟩
        · exact hi
        · exact bytes_below hi hi.size 5 t)
      clear hw
      go_wp2_with fail
      go_ret2
      exact ⟨rfl, HB.out⟩
end Go.Proofs.YteikiojmcipkmaaGreatDoor.ZNum
end
