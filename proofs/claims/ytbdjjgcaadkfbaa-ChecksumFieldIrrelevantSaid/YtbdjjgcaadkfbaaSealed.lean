/- What a call of checksum.sealed answers: the walk through its text. -/
import Derived.Test.YtbdjjgcaadkfbaaFmt
import Derived.Test.YtbdjjgcaadkfbaaPlain
import Derived.Laws.ResultCell
import Derived.Laws.CopyOwn
namespace Go.Proofs.Ytbdjjgcaadkfbaa.Sealed
open Go.RowKit Go.Proofs.YtbdjjgcaadkfbaaW.PrintWords Go.Proofs.YtbdjjgcaadkfbaaW.PrintLast Go.Proofs.YtbdjjgcaadkfbaaW.PrintMore Go.Proofs.Ytbdjjgcaadkfbaa.Oct Go.Proofs.Ytbdjjgcaadkfbaa.Fmt Go.Proofs.Ytbdjjgcaadkfbaa.Plain

/-- The bytes as cells. -/
def cellsOf (l : List Int) : Array Value := (nums .u8 l).toArray

/-- The block behind k - 148 rounds. -/
def setN (l : List Int) (k : Nat) : List Int := l.take 148 ++ (List.replicate (k - 148) 32 ++ l.drop k)
theorem setN_start (l : List Int) : setN l 148 = l := by simp [setN]
theorem setN_next (l : List Int) (k : Nat) (h0 : 148 ≤ k) (h1 : k < l.length) : (setN l k).set k 32 = setN l (k + 1) := by
  unfold setN
  have e : k + 1 - 148 = (k - 148) + 1 := by omega
  rw [List.drop_eq_getElem_cons h1, List.set_append_right _ _ (by simp; omega), List.set_append_right _ _ (by simp; omega), e, List.replicate_succ']
  have e2 : k - (List.take 148 l).length - (List.replicate (k - 148) (32 : Int)).length = 0 := by simp; omega
  rw [e2, List.set_cons_zero]
  simp
theorem setN_len (l : List Int) (k : Nat) (h0 : 148 ≤ k) (h1 : k ≤ l.length) : (setN l k).length = l.length := by
  simp [setN]; omega
theorem cellsOf_get (l : List Int) (k : Nat) (h : k < l.length) : (cellsOf l)[k]? = some (.int .u8 (l.getD k 0)) := by
  simp [cellsOf, nums, List.getD_eq_getElem?_getD, List.getElem?_eq_getElem h]
theorem cellsOf_set (l : List Int) (k : Nat) (x : Int) : (cellsOf l).setIfInBounds k (.int .u8 x) = cellsOf (l.set k x) := by
  simp [cellsOf, nums, List.map_set]
/-- What the memory holds: the block's variable and the result's. -/
structure St (w wr : World) (m : List Int) : Prop where
  below : Below w.heap.size w wr
  blk : wr.heap[w.heap.size]? = some (.cells (cellsOf m) 42 (0, 0))
  res : wr.heap[w.heap.size + 1]? = some (.cells (cellsOf (List.replicate 512 0)) 42 (0, 0))
theorem St.start (w : World) (l : List Int) : St w ((w.alloc (.cells (cellsOf l) 42)).alloc (.cells (cellsOf (List.replicate 512 0)) 42)) l :=
  ⟨((Below.refl _ _).alloc (Nat.le_refl _) _).alloc (by simp) _, heap_alloc2_old _ _ _, heap_alloc2_new _ _ _⟩
theorem St.cell {w wr : World} {m : List Int} (h : St w wr m) (k : Nat) (hk : k < m.length) : wr.cell? ⟨w.heap.size, k, none⟩ = some (.int .u8 (m.getD k 0)) ∧ wr.frozen? ⟨w.heap.size, k, none⟩ = false := by
  rw [blk_cell h.blk, cellsOf_get m k hk]
  exact ⟨rfl, blk_frozen h.blk k⟩
theorem St.set {w wr : World} {m : List Int} (h : St w wr m) (k : Nat) (x : Int) : St w (wr.setCell ⟨w.heap.size, k, none⟩ (.int .u8 x)) (m.set k x) :=
  ⟨h.below.setCell (Nat.le_refl _) _, by rw [blk_set h.blk, cellsOf_set], blk_far h.res (by simp) _⟩

theorem St.step {w wr w2 : World} {m : List Int} (h : St w wr m) (hb : Below wr.heap.size wr w2) : St w w2 m := by
  have h1 := blk_lt h.blk
  have h2 := blk_lt h.res
  exact ⟨below_then h.below h.below.size hb, (hb.block _ h1).trans h.blk, (hb.block _ h2).trans h.res⟩
theorem cells_splice (F s : List Int) (k n : Nat) (hs : s.length = n) : ((cellsOf F).toList.take k ++ (nums .u8 s ++ (cellsOf F).toList.drop (k + (nums .u8 s).length))).toArray = cellsOf (F.take k ++ (s ++ F.drop (k + n))) := by
  subst hs
  simp [cellsOf, nums]
theorem St.row {w wr : World} {m : List Int} (h : St w wr m) (m2 : List Int) : St w (wr.setRow w.heap.size (cellsOf m2)) m2 :=
  ⟨h.below.trans ⟨rfl, rfl, rfl, by simp, fun k hk => setRow_other wr w.heap.size k _ (by omega)⟩, setRow_heap wr _ _ _ _ _ h.blk, (setRow_other wr w.heap.size _ _ (by omega)).trans h.res⟩
theorem read_cells {W : World} {A : Option Addr} {n : Nat} {xs : List Int} (h : Kd.C (Kd.int .u8) W A n xs) (hn : 0 < n) : ∃ ad, A = some ad ∧ ∀ (j : Nat) (v : Value), (nums .u8 xs)[j]? = some v → W.cell? (ad.add j) = some v := by
  obtain ⟨ad, rfl, _⟩ := Kd.at_int h 0 (by omega) (by omega)
  have hl := Kd.C_len h
  refine ⟨ad, rfl, fun j v hv => ?_⟩
  have hj : j < xs.length := by
    have := (List.getElem?_eq_some_iff.1 hv).1
    simpa [nums] using this
  obtain ⟨ad', e, hc⟩ := Kd.at_int h (j : Int) (by omega) (by omega)
  injection e with e
  subst e
  rw [Int.toNat_natCast] at hc
  rw [hc]
  simp [nums, List.getElem?_eq_getElem hj] at hv
  rw [← hv]
  simp [rd, List.getD_eq_getElem?_getD, List.getElem?_eq_getElem hj]
theorem nums_one (xs : List Int) : ∀ v ∈ nums .u8 xs, v.oneCell' = true := by
  intro v hv
  simp only [nums, List.mem_map] at hv
  obtain ⟨q, _, rfl⟩ := hv
  rfl
theorem wpList_store_row {P : Program} {ops : Array Oper} {rest : List Oper} {o : Oper} {a : Act} {w : World} {Q : Exit → Act → World → Prop} (hgd : o.guard = none) (ty : TypeId) (x y : Operand) (ho : o.op = .store ty x y)
    (g : Nat) (cells : Array Value) (hx : a.eval x = .pointer (some ⟨g, 0, none⟩)) (hy : a.eval y = .agg cells)
    (t : TypeId) (old : Array Value) (hg : w.heap[g]? = some (.cells old t (0, 0))) (hi : (P.info? ty).map (·.size) = some cells.size)
    (hold : old.size = cells.size) (h1 : cells.all (·.oneCell') = true)
    (h : wpList P ops Q rest (a.put o.dst undef) (w.setRow g cells)) : wpList P ops Q (o :: rest) a w :=
  wpList_plain hgd fun _ hK => wp_store_row ty x y ho g cells hx hy t old hg hi hold h1 (hK _ _ h)
theorem St.result {w wr : World} {m : List Int} (h : St w wr m) (m2 : List Int) : Below w.heap.size w (wr.setRow (w.heap.size + 1) (cellsOf m2)) ∧ (wr.setRow (w.heap.size + 1) (cellsOf m2)).heap[w.heap.size + 1]? = some (.cells (cellsOf m2) 42 (0, 0)) :=
  ⟨h.below.trans ⟨rfl, rfl, rfl, by simp, fun k hk => setRow_other wr (w.heap.size + 1) k _ (by omega)⟩, setRow_heap wr _ _ _ _ _ h.res⟩
theorem seal_of (l F : List Int) (h : F = fill l) (hl : l.length = 512) : F.take 148 ++ (fld 6 (sumL l) ++ F.drop (148 + 7)) = sealL l := by
  subst h
  have e1 : (fill l).take 148 = l.take 148 := by unfold fill; rw [List.take_left' (by simp [hl])]
  have e2 : (fill l).drop (148 + 7) = 32 :: l.drop 156 := by
    have e3 : fill l = (l.take 148 ++ List.replicate 7 32) ++ (32 :: l.drop 156) := by
      unfold fill
      rw [List.replicate_succ' (n := 7)]
      simp
    rw [e3, List.drop_left' (by simp [hl])]
  rw [e1, e2]
  unfold sealL field
  simp
theorem cellsOf_size (l : List Int) : (cellsOf l).size = l.length := by simp [cellsOf, nums]
theorem cellsOf_one (l : List Int) : ∀ u ∈ cellsOf l, u.oneCell' = true := by
  intro u hu
  simp only [cellsOf, nums, List.mem_toArray, List.mem_map] at hu
  obtain ⟨x, _, rfl⟩ := hu
  rfl
theorem info42 (m : List Int) (hm : m.length = 512) : (Try.prog.info? 42).map (·.size) = some (cellsOf m).size := by
  rw [cellsOf_size, hm]
  kernel_rfl
theorem run_index_cells (m : List Int) (hm : m.length = 512) (k : Nat) (hk : k < 512) (w : World) : (Instr.index 42 (.agg (cellsOf m)) (.int .i64 (k : Int))).run Try.prog w = .ok (.int .u8 (m.getD k 0)) w := by
  have h5 : (Try.prog.info? 5).map (·.size) = some 1 := by kernel_rfl
  obtain ⟨i5, hi5, hs5⟩ := Option.map_eq_some_iff.1 h5
  have hg := cellsOf_get m k (by omega)
  have hag : (isAgg 5).run Try.prog w = .ok false w := by
    unfold isAgg
    rw [Sem.run_bind, run_underlying Try.underlying5 w]
    rfl
  simp [Instr.index, asIntOf, run_underlying Try.underlying42, part, hag, sizeOf, typeInfo, hi5, hs5, hg, hk, Result.andThen]

def zeros : List Int := List.replicate 512 0
theorem zero42 (w : World) : (zeroValue 42).run Try.prog w = .ok (.agg (cellsOf zeros)) w := by kernel_rfl
set_option maxHeartbeats 1000000 in
set_option maxRecDepth 100000 in
theorem sealed_calls (l : List Int) (hl : l.length = 512) (hb : ∀ x ∈ l, 0 ≤ x ∧ x < 256) (w : World) :
    Calls Try.prog 16 #[.agg (cellsOf l)] w fun e w' => e = .returned (.tuple #[.agg (cellsOf (sealL l)), .int .i64 (sumL l)]) ∧ Below w.heap.size w w' := by
  have HL := Lib.hid hl
  clear hl
  have hz := zero42
  go_enter Try.func16, Try.ntmps16
  go_wp2_with fail
  go_loopw [4] (fun i wr => ∃ k : Nat, 148 ≤ k ∧ k ≤ 156 ∧ i = .int .i64 k ∧ St w wr (setN l k)) (fun i _ => 156 - (intOf i).toNat)
  case atStart => exact ⟨148, Nat.le_refl _, by decide, rfl, by rw [setN_start]; exact St.start w l⟩
  case round =>
    obtain ⟨k, hk0, hk1, rfl, hS⟩ := hrel
    by_cases hlt : k < 156
    · have hlen : k < (setN l k).length := by have := HL.out; rw [setN_len l k hk0 (by omega)]; omega
      obtain ⟨hc1, hc2⟩ := hS.cell k hlen
      have T := Lib.hid (hS.set k 32)
      rw [setN_next l k hk0 (by have := HL.out; omega)] at T
      clear hS hlen
      go_wp2
      go_roundw
      case rel => exact ⟨k + 1, by omega, by omega, by go_num, T.out⟩
      case measure => simp [intOf]; omega
    · obtain rfl : k = 156 := by omega
      have HS := Lib.hid hS
      have hblk := hS.blk
      clear hS
      have hlen : (setN l 156).length = 512 := by rw [setN_len l 156 (by omega) (by have := HL.out; omega)]; exact HL.out
      have hi42 := info42 (setN l 156) hlen
      have hix := run_index_cells (setN l 156) hlen
      have hbF : Bytes (setN l 156) := fill_bytes l hb
      have hst : sumL l = tot (setN l 156) := rfl
      have HF : Hid (setN l 156 = fill l) := Lib.hid rfl
      generalize setN l 156 = F at *
      have HLF := Lib.hid hlen
      clear hlen
      go_wp2_with (refine wpList_load_row rfl 42 (.tmp 1) rfl w.heap.size rfl 42 _ (0, 0) _ hblk Try.underlying42 rfl hi42 ?_)
      go_loop [5, 7, 17] (fun n _ i => ∃ k : Nat, k ≤ 512 ∧ i = .int .i64 k ∧ n = .int .i64 (tot (F.take k))) (fun _ _ i => 512 - (intOf i).toNat)
      case atStart => exact ⟨0, Nat.zero_le _, rfl, rfl⟩
      case round =>
        obtain ⟨k, hk, rfl, rfl⟩ := hrel
        by_cases hlt : k < 512
        · have hx := hix k hlt
          have hbk := hbF.getD k
          have htk := tot_bound _ (hbF.take k)
          have hmin : (F.take k).length ≤ 512 := by have := List.length_take_le k F; omega
          have T := Lib.hid (tot_snoc F k (by have := HLF.out; omega))
          clear hix
          generalize F.getD k 0 = c at hx hbk T
          generalize tot (F.take k) = s at htk T
          go_wp2
          go_round
          case rel => exact ⟨k + 1, by omega, by go_num, by rw [T.out]⟩
          case measure => simp [intOf]; omega
        · obtain rfl : k = 512 := by omega
          have hF : F.take 512 = F := by rw [List.take_of_length_le (by have := HLF.out; omega)]
          rw [hF, ← hst]
          clear hF hix
          obtain ⟨hs0, hs1⟩ := sum_small l HL.out hb
          have e7 : ((6 : Nat) : Int) + 1 = 7 := rfl
          have FC := Lib.hid (format_calls (sumL l) 7 _ _ (by rw [← e7]; exact fmt_ok 6 40 (sumL l) (by omega) (by omega) hs0 hs1 (by omega)) 7 (fld_len 6 _))
          have HST := Lib.hid hst
          clear hst e7 hs1
          go_wp2_with fail
          refine (FC.out _).mono ?_
          rintro e w2 ⟨A2, c2, rfl, hc2, hC2, hb2⟩
          have hblk2 := (HS.out.step hb2).blk
          obtain ⟨ad, rfl, hsrc⟩ := read_cells hC2.out (by decide)
          have hn7 : (nums .u8 (fld 6 (sumL l))).length = Nat.min 7 7 := by rw [nums_length, fld_len]; rfl
          have hfit : 148 + (nums .u8 (fld 6 (sumL l))).length ≤ (cellsOf F).size := by rw [nums_length, fld_len, cellsOf_size, HLF.out]; decide
          have h1c := nums_one (fld 6 (sumL l))
          have h5 : (Try.prog.info? 5).map (·.size) = some 1 := by kernel_rfl
          have hi3 := info42 (sealL l) (seal_len l HL.out)
          have hold : (cellsOf (List.replicate 512 0)).size = (cellsOf (sealL l)).size := by rw [cellsOf_size, cellsOf_size, seal_len l HL.out]; simp
          have hone : (cellsOf (sealL l)).all (·.oneCell') = true := Array.all_eq_true_iff_forall_mem.2 (cellsOf_one _)
          go_wp2_with (first | (refine wpList_copy_own rfl (.tmp 30) (.tmp 31) 22 22 rfl 5 Try.underlying22 h5 w.heap.size 148 7 364 ad 7 c2 rfl rfl (cellsOf F) 42 hblk2 (nums .u8 (fld 6 (sumL l))) hn7 hsrc hfit h1c ?_; rw [cells_splice F (fld 6 (sumL l)) 148 7 (fld_len 6 _), seal_of l F HF.out HL.out, nums_length, fld_len]; generalize hw3 : w2.setRow w.heap.size (cellsOf (sealL l)) = w3; have HS3 := Lib.hid (hw3 ▸ (HS.out.step hb2).row (sealL l)); clear hw3; have hblk3 := HS3.out.blk; have hres3 := HS3.out.res; simp only [Act.put, List.setIfInBounds_toArray, List.set_cons_succ, List.set_cons_zero, goInt]) | (refine wpList_load_row rfl 42 (.tmp 1) rfl w.heap.size rfl 42 _ (0, 0) _ hblk3 Try.underlying42 rfl hi3 ?_) | (refine wpList_store_row rfl 42 (.tmp 2) (.tmp 33) rfl (w.heap.size + 1) (cellsOf (sealL l)) rfl rfl 42 _ hres3 hi3 hold hone ?_))
          refine bodyPost_ret (v := .tuple #[.agg (cellsOf (sealL l)), .int .i64 (sumL l)]) ?_ rfl ⟨rfl, (HS3.out.result (sealL l)).1⟩
          rw [results_cell_tmp Try.results16]
          simp [asAddr, run_loadVar_row _ (w.heap.size + 1) 42 42 (cellsOf (sealL l)) (0, 0) _ (HS3.out.result (sealL l)).2 Try.underlying42 rfl hi3, Result.andThen]
end Go.Proofs.Ytbdjjgcaadkfbaa.Sealed
