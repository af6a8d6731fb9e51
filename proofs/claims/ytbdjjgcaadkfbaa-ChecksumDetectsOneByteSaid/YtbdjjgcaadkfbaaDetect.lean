/- ChecksumDetectsOneByte, walked. -/
import Derived.Test.YtbdjjgcaadkfbaaBlock
namespace Go.Proofs.Ytbdjjgcaadkfbaa.Detect
open Go.RowKit Go.Proofs.YtbdjjgcaadkfbaaW.PrintWords Go.Proofs.YtbdjjgcaadkfbaaW.PrintLast Go.Proofs.YtbdjjgcaadkfbaaW.PrintMore Go.Proofs.Ytbdjjgcaadkfbaa.Oct Go.Proofs.Ytbdjjgcaadkfbaa.Fmt Go.Proofs.Ytbdjjgcaadkfbaa.Plain Go.Proofs.Ytbdjjgcaadkfbaa.Sealed Go.Proofs.Ytbdjjgcaadkfbaa.Calls Go.Proofs.Ytbdjjgcaadkfbaa.Block

theorem xor_byte (a b : Nat) (ha : a < 256) (hb : b < 256) : Go.bits .xor .u8 (a : Int) (b : Int) = ((a ^^^ b : Nat) : Int) := by
  have ha' : a % 2 ^ 8 = a := Nat.mod_eq_of_lt ha
  have hb' : b % 2 ^ 8 = b := Nat.mod_eq_of_lt hb
  have hx : a ^^^ b < 2 ^ 8 := Nat.xor_lt_two_pow ha hb
  have e : (BitVec.ofNat 8 a ^^^ BitVec.ofNat 8 b).toNat = a ^^^ b := by rw [BitVec.toNat_xor, BitVec.toNat_ofNat, BitVec.toNat_ofNat, ha', hb']
  simp only [Go.bits, IntKind.bits, BitVec.ofInt_natCast]
  refine (congrArg (fun n : Nat => IntKind.u8.wrap (n : Int)) e).trans ?_
  exact wraps_u8 _ (Int.natCast_nonneg _) (by exact_mod_cast hx)
theorem xor_facts (v b : Int) (hv0 : 0 ≤ v) (hv1 : v < 256) (hb0 : 0 ≤ b) (hb1 : b < 256) (hb : b ≠ 0) : 0 ≤ Go.bits .xor .u8 v b ∧ Go.bits .xor .u8 v b < 256 ∧ Go.bits .xor .u8 v b ≠ v := by
  obtain ⟨a, rfl⟩ := Int.eq_ofNat_of_zero_le hv0
  obtain ⟨c, rfl⟩ := Int.eq_ofNat_of_zero_le hb0
  rw [xor_byte a c (by omega) (by omega)]
  have hx : a ^^^ c < 2 ^ 8 := Nat.xor_lt_two_pow (by omega) (by omega)
  refine ⟨Int.natCast_nonneg _, by omega, fun h => hb ?_⟩
  have h' : a ^^^ c = a := by exact_mod_cast h
  have : a ^^^ (a ^^^ c) = a ^^^ a := by rw [h']
  rw [← Nat.xor_assoc, Nat.xor_self, Nat.zero_xor] at this
  simp [this]
set_option maxHeartbeats 1000000 in
set_option maxRecDepth 100000 in
theorem walk_far (A : Option Addr) (c N : Nat) (a b : Int) (w : World) (h : N > 2000) :
    Calls Try.prog 7 #[.slice A N c, .int .u16 a, .int .u8 b] w fun e w' => e = .returned (.bool true) ∧ Below w.heap.size w w' := by
  have h' : decide ((2000 : Int) < (N : Int)) = true := by simp; omega
  go_enter Try.func7, Try.ntmps7
  go_wp2_with (go_at_call 8; refine (alive_calls _).mono ?_; rintro e w' ⟨rfl, hbl⟩)
  go_ret
  exact ⟨rfl, hbl⟩
set_option maxHeartbeats 1000000 in
set_option maxRecDepth 100000 in
theorem walk_zero (A : Option Addr) (c N : Nat) (a : Int) (w : World) (h : ¬ N > 2000) :
    Calls Try.prog 7 #[.slice A N c, .int .u16 a, .int .u8 0] w fun e w' => e = .returned (.bool true) ∧ Below w.heap.size w w' := by
  have h' : decide ((2000 : Int) < (N : Int)) = false := by simp; omega
  go_enter Try.func7, Try.ntmps7
  go_wp2_with (go_at_call 8; refine (alive_calls _).mono ?_; rintro e w' ⟨rfl, hbl⟩)
  go_ret
  exact ⟨rfl, hbl⟩
set_option maxHeartbeats 4000000 in
set_option maxRecDepth 100000 in
theorem walk_in (A : Option Addr) (c N : Nat) (l : List Int) (a b : Int) (w : World) (hr : Kd.C (Kd.int .u8) w A N l) (hN : ¬ N > 2000) (hb : Bytes l) (ha0 : 0 ≤ a) (ha1 : a < 65536) (hb0 : 0 ≤ b) (hb1 : b < 256) (hbz : b ≠ 0)
    (i : Nat) (hi512 : i < 512) (hi : a % 512 = (i : Int)) :
    Calls Try.prog 7 #[.slice A N c, .int .u16 a, .int .u8 b] w fun e w' => e = .returned (.bool true) ∧ Below w.heap.size w w' := by
  have h' : decide ((2000 : Int) < (N : Int)) = false := by simp; omega
  have hbz' : (b == 0) = false := beq_eq_false_iff_ne.mpr hbz
  have hXl := blk_len l
  have hXb := blk_bytes l hb
  have B := Lib.hid (block_calls A N c l w hr)
  generalize blk l = X at *
  have hsl := seal_len X hXl
  have hsb := seal_bytes X hXb
  have hv := hsb.getD i
  obtain ⟨hx0, hx1, hxn⟩ := xor_facts _ b hv.1 hv.2 hb0 hb1 hbz
  have V := Lib.hid (changed X hXl hXb i hi512 _ hx0 hx1 hxn)
  have S := Lib.hid (fun (g : Nat) (W : World) (h : Kd.C (Kd.int .u8) W (some ⟨g, 0, none⟩) 512 X) => seal_calls ⟨g, 0, none⟩ 512 X W h hXb)
  clear hXl hXb hr hb hbz hxn
  generalize sealL X = Y at *
  have hYb : Bytes (Y.set i (Go.bits .xor .u8 (Y.getD i 0) b)) := fun y hy => by
    rcases List.mem_or_eq_of_mem_set hy with h | h
    · exact hsb y h
    · omega
  have R := Lib.hid (fun (g cap : Nat) (W : World) (h : Kd.C (Kd.int .u8) W (some ⟨g, 0, none⟩) 512 (Y.set i (Go.bits .xor .u8 (Y.getD i 0) b))) (hc : 512 ≤ cap) => verify_calls ⟨g, 0, none⟩ cap _ W h hc hYb)
  rw [V.out] at R
  clear hYb V hsl hsb
  generalize hv' : Y.getD i 0 = v at *
  replace hv' := Lib.hid hv'
  go_enter Try.func7, Try.ntmps7
  go_wp2_with fail
  refine B.out.mono ?_
  rintro e w1 ⟨g1, rfl, ho1, hbl1⟩
  replace hbl1 := Lib.hid hbl1
  clear B
  go_wp2_with fail
  refine (S.out g1 w1 ho1.reads).mono ?_
  rintro e w2 ⟨g2, cap2, rfl, ho2, hbl2⟩
  replace ho2 := Lib.hid ho2
  replace hbl2 := Lib.hid (below_step hbl1.out hbl2)
  clear ho1 hbl1 S
  go_wp2_with (at_builtin; refine append_new w2 rfl (.tmp 31) (.tmp 32) rfl (some ⟨g2, 0, none⟩) 512 cap2 Y rfl rfl ho2.out.reads (by decide) (by decide) ?_; intro g3 cap3 w3 ho3 hbl3; obtain ⟨hc1, hc2⟩ := ho3.cell i (by omega); rw [hv'.out] at hc1; have HO3 := Lib.hid ho3; have HB3 := Lib.hid hbl3; clear ho3 hbl3)
  have hov := Lib.hid (HO3.out.set i (Go.bits .xor .u8 v b))
  have hbw := Lib.hid ((below_step hbl2.out HB3.out).setCell (p := ⟨g3, i, none⟩) (by have := HO3.out.from_; have := hbl2.out.size; show w.heap.size ≤ g3; omega) (.int .u8 (Go.bits .xor .u8 v b)))
  clear HO3 HB3 ho2 hbl2 hc1 hc2
  refine (alive_calls _).mono ?_
  rintro e w4 ⟨rfl, hb4⟩
  have hov4 := Lib.hid (hov.out.below hb4)
  have hbw4 := Lib.hid (below_step hbw.out hb4)
  clear hov hbw hb4
  go_wp2_with fail
  refine (R.out _ _ _ hov4.out.reads hov4.out.le).mono ?_
  rintro e w5 ⟨rfl, hb5⟩
  go_wp2
  go_ret
  exact ⟨rfl, below_step hbw4.out hb5⟩
theorem law_walk (A : Option Addr) (c : Nat) (l : List Int) (a b : Int) (w : World) (hr : Kd.C (Kd.int .u8) w A l.length l) (_ : l.length ≤ c) (_ : l.length ≤ 140737488351232) (hw : ∀ x ∈ l, (Lit.int .u8 x).wf = true) (ha : (Lit.int .u16 a).wf = true) (hbw : (Lit.int .u8 b).wf = true) :
    Calls Try.prog 7 #[.slice A l.length c, .int .u16 a, .int .u8 b] w fun e w' => e = .returned (.bool true) ∧ Below w.heap.size w w' := by
  have hb : Bytes l := fun x hx => by have := byte_bounds (hw x hx); omega
  have hab : 0 ≤ a ∧ a ≤ 65535 := by
    simp [Lit.wf, IntKind.min, IntKind.max, IntKind.signed, IntKind.bits] at ha
    omega
  have hbb := byte_bounds hbw
  by_cases hN : l.length > 2000
  · exact walk_far A c _ a b w hN
  · by_cases hz : b = 0
    · subst hz
      exact walk_zero A c _ a w hN
    · exact walk_in A c _ l a b w hr hN hb (by omega) (by omega) (by omega) (by omega) hz (a % 512).toNat (by omega) (by omega)
end Go.Proofs.Ytbdjjgcaadkfbaa.Detect
