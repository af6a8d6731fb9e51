/- What calls of checksum.Sum, slices.Clone, checksum.Seal and checksum.Verify answer: the walks through their text. -/
import Derived.Test.YtbdjjgcaadkfbaaSealed
import Derived.WalkSpells
import Derived.Deep.AppendLies
namespace Go.Proofs.Ytbdjjgcaadkfbaa.Calls
open Go.RowKit Go.Proofs.YtbdjjgcaadkfbaaW.PrintWords Go.Proofs.YtbdjjgcaadkfbaaW.PrintLast Go.Proofs.YtbdjjgcaadkfbaaW.PrintMore Go.Proofs.Ytbdjjgcaadkfbaa.Oct Go.Proofs.Ytbdjjgcaadkfbaa.Fmt Go.Proofs.Ytbdjjgcaadkfbaa.Plain Go.Proofs.Ytbdjjgcaadkfbaa.Sealed Go.Proofs.Ytbdjjgcaadkfbaa.PChecksumMatchesReference

/-- A slice of bytes that a call has made, in block g. -/
structure Own (w : World) (base g cap n : Nat) (l : List Int) : Prop where
  row : w.ownsRow base 5 1 (.slice (some ⟨g, 0, none⟩) n cap) n (nums .u8 l)
section
variable {w w1 : World} {base g cap n : Nat} {l : List Int}
theorem Own.le (h : Own w base g cap n l) : n ≤ cap := by
  rcases h.row.2 with ⟨h', _⟩ | ⟨g', cap', cur, h', _, _, hn, _⟩
  · cases h'
  · injection h' with _ _ h3
    omega
theorem Own.reads (h : Own w base g cap n l) : Kd.C (Kd.int .u8) w (some ⟨g, 0, none⟩) n l := Kd.C_of_reads (d := (0 : Int)) (h1 := fun _ => rfl) (own_reads' h.row)
theorem Own.from_ (h : Own w base g cap n l) : base ≤ g := own_base h.row g rfl
theorem Own.lt (h : Own w base g cap n l) : g < w.heap.size := own_lt h.row g rfl
theorem Own.below (h : Own w base g cap n l) (hb : Below w.heap.size w w1) : Own w1 base g cap n l := ⟨pw_own_below h.row hb⟩
theorem Own.drewN (h : Own w base g cap n l) (m : Nat) : Own (w.drewN m) base g cap n l := ⟨h.row⟩
theorem Own.lower {b : Nat} (h : Own w base g cap n l) (hb : b ≤ base) : Own w b g cap n l := ⟨own_less h.row hb⟩
theorem Own.len (h : Own w base g cap n l) : l.length = n := by
  have := h.row.1
  simpa [nums] using this
theorem Own.cell (h : Own w base g cap n l) (i : Nat) (hi : i < n) : w.cell? ⟨g, i, none⟩ = some (.int .u8 (l.getD i 0)) ∧ w.frozen? ⟨g, i, none⟩ = false := by
  have := own_at h.row (i : Int) (by omega) (by omega)
  simpa [rd] using this
theorem Own.set (h : Own w base g cap n l) (i : Nat) (x : Int) : Own (w.setCell ⟨g, i, none⟩ (.int .u8 x)) base g cap n (l.set i x) := by
  have := (own_store h.row (i : Int) x).1
  rw [Int.toNat_natCast] at this
  exact ⟨this⟩
theorem Own.far (h : Own w base g cap n l) {p : Addr} (hp : g ≠ p.block) (u : Value) : Own (w.setCell p u) base g cap n l :=
  ⟨own_setCell h.row (by simp [Value.ownBlock]; exact fun e => hp e.symm) u⟩
end
theorem info5 : (Try.prog.info? 5).map (fun i => (i.zero, i.size, i.bytes)) = some (some (.int .u8 0), 1, 1) := by kernel_rfl
theorem size5 : (Try.prog.info? 5).map (·.size) = some 1 := by kernel_rfl

/-- append([]byte{}, ys...): behind the literal at block H. -/
theorem append_new {ops : Array Oper} {rest : List Oper} {o : Oper} {a : Act} {Q : Exit → Act → World → Prop} (W : World) (hgd : o.guard = none) (s x : Operand)
    (ho : o.op = .call { callee := .builtin .append, args := #[s, x], argTypes := #[22, 22] }) (A : Option Addr) (m c : Nat) (ys : List Int)
    (hs : a.eval s = .slice (some ⟨W.heap.size, 0, none⟩) 0 0) (hx : a.eval x = .slice A m c) (HR : Kd.C (Kd.int .u8) W A m ys) (hm : 0 < m) (hl : m ≤ 140737488355328)
    (h : ∀ g cap w1, Own w1 W.heap.size g cap m ys → Below W.heap.size W w1 → wpList Try.prog ops Q rest (a.put o.dst (.slice (some ⟨g, 0, none⟩) m cap)) w1) :
    wpList Try.prog ops Q (o :: rest) a (W.alloc (.cells #[] 5)) := by
  refine print_append_row (w0 := W) W.heap.size hgd s x 22 5 .u8 1 ho Try.underlying22 info5 (by decide) (.slice (some ⟨W.heap.size, 0, none⟩) 0 0) [] ys A m c hs hx
    (own_lit W W.heap.size 5 .u8 [] (Nat.le_refl _) (Nat.zero_le _)) (Kd.reads_of_C (enc := Value.int .u8) (d := (0 : Int)) (h1 := fun _ => rfl) (Kd.C_alloc HR _)) (below_alloc (Below.refl _ _) _) (by simp) (by simpa using hl) ?_
  intro v1 w1 hown hB _ _
  have hlen := Kd.C_len HR
  rw [List.nil_append, hlen] at hown
  obtain ⟨g, cap, rfl, _, _⟩ := World.ownsRow.form hown hm
  exact h g cap w1 ⟨hown⟩ hB

set_option maxHeartbeats 1000000 in
set_option maxRecDepth 100000 in
/-- slices.Clone of a slice that isn't empty. -/
theorem clone_calls (ad : Addr) (n c : Nat) (l : List Int) (w : World) (hr : Kd.C (Kd.int .u8) w (some ad) n l) (hn : 0 < n) (hm : n ≤ 140737488355328) :
    Calls Try.prog 17 #[.slice (some ad) n c] w fun e w' => ∃ g cap, e = .returned (.slice (some ⟨g, 0, none⟩) n cap) ∧ Own w' w.heap.size g cap n l ∧ Below w.heap.size w w' := by
  have hq := fun W : World => Lib.run_eql_slice_nil (P := Try.prog) W 22 5 (some ad) n c 0 0 Try.underlying22
  go_enter Try.func17, Try.ntmps17
  go_wp2_with (at_builtin; refine append_new w rfl (.tmp 5) (.tmp 6) rfl (some ad) n c l rfl rfl hr hn hm ?_; intro g cap w1 ho hb)
  go_ret
  exact ⟨g, cap, rfl, ho, hb⟩
/-- A whole array read where its cells lie. -/
theorem wpList_load_cells {ops : Array Oper} {rest : List Oper} {o : Oper} {a : Act} {w : World} {Q : Exit → Act → World → Prop} (hgd : o.guard = none) (x : Operand) (ho : o.op = .load 42 x)
    (ad : Addr) (l : List Int) (hx : a.eval x = .pointer (some ad)) (hr : Kd.C (Kd.int .u8) w (some ad) 512 l)
    (h : wpList Try.prog ops Q rest (a.put o.dst (.agg (cellsOf l))) w) : wpList Try.prog ops Q (o :: rest) a w := by
  have hlen := Kd.C_len hr
  obtain ⟨ad', e, hc⟩ := read_cells hr (by decide)
  injection e with e
  subst e
  have hl : (loadCells ad 512).run Try.prog w = .ok (cellsOf l) w := by
    have := run_loadCells_list (P := Try.prog) w ad (nums .u8 l) (fun j v hj => hc j v hj)
    rw [nums_length, hlen] at this
    exact this
  obtain ⟨i42, hi, hs⟩ := Option.map_eq_some_iff.1 (info42 l hlen)
  rw [cellsOf_size, hlen] at hs
  have hagg : (isAgg 42).run Try.prog w = .ok true w := by
    unfold isAgg
    rw [Sem.run_bind, run_underlying Try.underlying42 w]
    rfl
  have hlv : (loadVar 42 ad).run Try.prog w = .ok (.agg (cellsOf l)) w := by
    simp [loadVar, Sem.run_bind, hagg, sizeOf, typeInfo, hi, hs, hl]
  refine wpList_plain hgd fun K hK => ?_
  unfold Oper.wp execOp
  simp only [ho, hx, Instr.loadAt, Instr.sureAddr, Sem.run_bind, Sem.run_pure, Result.andThen_ok, hlv]
  exact hK _ _ h
theorem run_array (ad : Addr) (c : Nat) (W : World) : (Instr.arrayAt 42 (.slice (some ad) 512 c)).run Try.prog W = .ok (.pointer (some ad)) W := by
  simp [Instr.arrayAt, run_underlying Try.underlying42]
theorem below_var {w w1 : World} (hb : Below w.heap.size w w1) (o : Obj) (cs : Array Value) : Below w.heap.size w ((w1.alloc o).setRow w1.heap.size cs) :=
  (hb.alloc hb.size o).trans ⟨rfl, rfl, rfl, by simp, fun k hk => setRow_other _ _ _ _ (by have := hb.size; omega)⟩
theorem var_cells (w1 : World) (m : List Int) (cs : Array Value) : ((w1.alloc (.cells cs 42)).setRow w1.heap.size (cellsOf m)).heap[w1.heap.size]? = some (.cells (cellsOf m) 42 (0, 0)) :=
  setRow_heap _ _ _ _ _ _ (heap_alloc_new _ _)
theorem block_reads {W : World} {g : Nat} {m : List Int} {t : TypeId} (h : W.heap[g]? = some (.cells (cellsOf m) t (0, 0))) (hm : m.length ≤ 9223372036854775807) : Kd.C (Kd.int .u8) W (some ⟨g, 0, none⟩) m.length m := by
  refine Kd.C_of_reads (enc := Value.int .u8) (d := (0 : Int)) (h1 := fun _ => rfl) ⟨rfl, hm, fun _ => ⟨_, rfl, fun j hj => ?_⟩⟩
  rw [add_plain, blk_cell h, cellsOf_get m j hj]
theorem zeros_size (l : List Int) (h : l.length = 512) : (cellsOf zeros).size = (cellsOf l).size := by
  rw [cellsOf_size, cellsOf_size, h]; unfold zeros; rw [List.length_replicate]
theorem cellsOf_all (l : List Int) : (cellsOf l).all (·.oneCell') = true := Array.all_eq_true_iff_forall_mem.2 (cellsOf_one _)
set_option maxHeartbeats 1000000 in
set_option maxRecDepth 100000 in
/-- checksum.Sum. -/
theorem sum_calls (ad : Addr) (c : Nat) (l : List Int) (w : World) (hr : Kd.C (Kd.int .u8) w (some ad) 512 l) (hb : Bytes l) :
    Calls Try.prog 10 #[.slice (some ad) 512 c] w fun e w' => e = .returned (.tuple #[.int .i64 (sumL l), .int .i64 0]) ∧ Below w.heap.size w w' := by
  have hlen := Kd.C_len hr
  have S := Lib.hid (sealed_calls l hlen hb)
  have hz := zero42
  have ha := run_array ad c
  have hi := info42 (sealL l) (seal_len l hlen)
  have hold := zeros_size (sealL l) (seal_len l hlen)
  have hone := cellsOf_all (sealL l)
  clear hlen
  go_enter Try.func10, Try.ntmps10
  go_wp2_with (refine wpList_load_cells rfl (.tmp 11) rfl ad l rfl hr ?_)
  refine (S.out _).mono ?_
  rintro e w1 ⟨rfl, hb1⟩
  go_wp2_with (refine wpList_store_row rfl 42 (.tmp 4) (.tmp 14) rfl w1.heap.size (cellsOf (sealL l)) rfl rfl 42 _ (heap_alloc_new _ _) hi hold hone ?_)
  go_ret2
  exact ⟨rfl, below_var hb1 _ _⟩
theorem sum_no (A : Option Addr) (n c : Nat) (w : World) (h : n ≠ 512) : Calls Try.prog 10 #[.slice A n c] w fun e w' => e = .returned (.tuple #[.int .i64 0, .int .i64 2]) ∧ Below w.heap.size w w' := by
  have hn : ((n : Int) != 512) = true := by simp; omega
  go_enter Try.func10, Try.ntmps10
  go_wp2
  go_ret2
  exact ⟨rfl, Below.refl _ _⟩
set_option maxHeartbeats 1000000 in
set_option maxRecDepth 100000 in
/-- checksum.Seal. -/
theorem seal_calls (ad : Addr) (c : Nat) (l : List Int) (w : World) (hr : Kd.C (Kd.int .u8) w (some ad) 512 l) (hb : Bytes l) :
    Calls Try.prog 11 #[.slice (some ad) 512 c] w fun e w' => ∃ g cap, e = .returned (.tuple #[.slice (some ⟨g, 0, none⟩) 512 cap, .int .i64 0]) ∧ Own w' w.heap.size g cap 512 (sealL l) ∧ Below w.heap.size w w' := by
  have hlen := Kd.C_len hr
  have hsl := seal_len l hlen
  have S := Lib.hid (sealed_calls l hlen hb)
  have hz := zero42
  have ha := run_array ad c
  have hi := info42 (sealL l) hsl
  have hold := zeros_size (sealL l) hsl
  have hone := cellsOf_all (sealL l)
  have HSL := Lib.hid hsl
  clear hlen hsl
  go_enter Try.func11, Try.ntmps11
  go_wp2_with (refine wpList_load_cells rfl (.tmp 11) rfl ad l rfl hr ?_)
  refine (S.out _).mono ?_
  rintro e w1 ⟨rfl, hb1⟩
  go_wp2_with (refine wpList_store_row rfl 42 (.tmp 4) (.tmp 14) rfl w1.heap.size (cellsOf (sealL l)) rfl rfl 42 _ (heap_alloc_new _ _) hi hold hone ?_)
  have hv := var_cells w1 (sealL l) (cellsOf zeros)
  have hbv := below_var hb1 (.cells (cellsOf zeros) 42) (cellsOf (sealL l))
  have hC := block_reads hv (by rw [HSL.out]; decide)
  rw [HSL.out] at hC
  refine (clone_calls _ 512 512 _ _ hC (by decide) (by decide)).mono ?_
  rintro e w2 ⟨g, cap, rfl, ho, hb2⟩
  go_wp2
  go_ret2
  exact ⟨g, cap, rfl, ho.lower hbv.size, below_step hbv hb2⟩
theorem seal_no (A : Option Addr) (n c : Nat) (w : World) (h : n ≠ 512) : Calls Try.prog 11 #[.slice A n c] w fun e w' => e = .returned (.tuple #[.slice none 0 0, .int .i64 2]) ∧ Below w.heap.size w w' := by
  have hn : ((n : Int) != 512) = true := by simp; omega
  go_enter Try.func11, Try.ntmps11
  go_wp2
  go_ret2
  exact ⟨rfl, Below.refl _ _⟩
/-- slices.Equal, in plain lists. -/
theorem equal_l0 (l m : List Int) (hm : m.length = l.length) (hs : l.length ≤ 1000000) : ∀ (d k i : Nat), l.length - i = d → d < k → (∀ j, j < i → l.getD j 0 = m.getD j 0) → i ≤ l.length →
    slices_Equal_byte_byte.l0 k l m (l.length : Int) (i : Int) = some (decide (l = m)) := by
  intro d
  induction d with
  | zero =>
    intro k i hd hk he hi
    obtain ⟨k, rfl⟩ : ∃ q, k = q + 1 := ⟨k - 1, by omega⟩
    simp only [slices_Equal_byte_byte.l0]
    rw [if_neg (by omega)]
    have : l = m := by
      apply List.ext_getElem hm.symm
      intro j h1 h2
      have := he j (by omega)
      simpa [List.getD_eq_getElem?_getD, List.getElem?_eq_getElem h1, List.getElem?_eq_getElem h2] using this
    simp [this]
  | succ d ih =>
    intro k i hd hk he hi
    obtain ⟨k, rfl⟩ : ∃ q, k = q + 1 := ⟨k - 1, by omega⟩
    simp only [slices_Equal_byte_byte.l0]
    rw [if_pos (by omega), if_pos (by omega), if_pos (by omega), if_pos (by omega)]
    have e1 : rd l (i : Int) = l.getD i 0 := by unfold rd; rw [Int.toNat_natCast]
    have e2 : rd m (i : Int) = m.getD i 0 := by unfold rd; rw [Int.toNat_natCast]
    have e3 : wrap64 ((i : Int) + 1) = ((i + 1 : Nat) : Int) := by rw [w64s (by omega) (by omega)]; omega
    rw [e1, e2, e3]
    clear e1 e2 e3
    by_cases h : l.getD i 0 = m.getD i 0
    · rw [if_pos h]
      exact ih k (i + 1) (by omega) (by omega) (fun j hj => by
        by_cases hji : j = i
        · subst hji; exact h
        · exact he j (by omega)) (by omega)
    · rw [if_neg h]
      have : l ≠ m := fun e => h (by rw [e])
      simp [this]
theorem equal_calls (A0 A1 : Option Addr) (c0 c1 N : Nat) (l m : List Int) (w : World) (h0 : Kd.C (Kd.int .u8) w A0 N l) (hc0 : N ≤ c0) (h1 : Kd.C (Kd.int .u8) w A1 N m) (hc1 : N ≤ c1) (hN : N ≤ 1000000) :
    Calls Try.prog 19 #[.slice A0 N c0, .slice A1 N c1] w fun e w' => e = .returned (.bool (decide (l = m))) ∧ Drawn0 w w' := by
  have e0 := Kd.C_len h0
  have e1 := Kd.C_len h1
  subst e0
  have h := slices_Equal_byte_byte.calls (l.length + 1) A0 c0 l A1 c1 m (decide (l = m)) w h0 hc0 (by rw [e1]; exact h1) (by omega) (by
    unfold slices_Equal_byte_byte.f
    rw [if_pos (by omega)]
    have hz : ∀ j, j < 0 → l.getD j 0 = m.getD j 0 := fun j hj => absurd hj (Nat.not_lt_zero j)
    exact equal_l0 l m e1 hN l.length (l.length + 1) 0 (Nat.sub_zero _) (Nat.lt_succ_self _) hz (Nat.zero_le _))
  rw [e1] at h
  exact h
set_option maxHeartbeats 1000000 in
set_option maxRecDepth 100000 in
/-- checksum.Verify. -/
theorem verify_calls (ad : Addr) (c : Nat) (l : List Int) (w : World) (hr : Kd.C (Kd.int .u8) w (some ad) 512 l) (hc : 512 ≤ c) (hb : Bytes l) :
    Calls Try.prog 14 #[.slice (some ad) 512 c] w fun e w' => e = .returned (.int .i64 (vfy l)) ∧ Below w.heap.size w w' := by
  have HR := Aside0.mk hr
  have S := Lib.hid (seal_calls ad c l w hr hb)
  clear hr hb
  go_enter Try.func14, Try.ntmps14
  go_wp2_with fail
  refine S.out.mono ?_
  rintro e w1 ⟨g, cap, rfl, ho, hb1⟩
  have E := Lib.hid (equal_calls (some ⟨g, 0, none⟩) (some ad) cap c 512 (sealL l) l w1 ho.reads ho.le (Kd.C_below HR.out hb1) hc (by decide))
  by_cases hv : sealL l = l
  · have V : Hid (vfy l = 0) := Lib.hid (by unfold vfy; rw [if_pos hv])
    have hd : decide (sealL l = l) = true := by simp [hv]
    rw [hd] at E
    clear hv hd
    go_wp2_with fail
    refine E.out.mono ?_
    rintro e w2 ⟨rfl, ⟨n2, rfl⟩⟩
    go_wp2
    go_ret
    exact ⟨by rw [V.out]; rfl, pw_below_drewN hb1 _⟩
  · have V : Hid (vfy l = 9) := Lib.hid (by unfold vfy; rw [if_neg hv])
    have hd : decide (sealL l = l) = false := by simp [hv]
    rw [hd] at E
    clear hv hd
    go_wp2_with fail
    refine E.out.mono ?_
    rintro e w2 ⟨rfl, ⟨n2, rfl⟩⟩
    go_wp2
    go_ret
    exact ⟨by rw [V.out]; rfl, pw_below_drewN hb1 _⟩
theorem verify_no (A : Option Addr) (n c : Nat) (w : World) (h : n ≠ 512) : Calls Try.prog 14 #[.slice A n c] w fun e w' => e = .returned (.int .i64 2) ∧ Below w.heap.size w w' := by
  go_enter Try.func14, Try.ntmps14
  go_wp2_with fail
  refine (seal_no A n c w h).mono ?_
  rintro e w1 ⟨rfl, hb1⟩
  go_wp2
  go_ret
  exact ⟨rfl, hb1⟩
end Go.Proofs.Ytbdjjgcaadkfbaa.Calls
