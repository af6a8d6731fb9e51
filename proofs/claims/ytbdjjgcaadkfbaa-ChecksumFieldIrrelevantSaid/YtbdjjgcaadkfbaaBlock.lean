/- What calls of the laws' own block and alive answer: the walks through their text. -/
import Derived.Test.YtbdjjgcaadkfbaaCalls
namespace Go.Proofs.Ytbdjjgcaadkfbaa.Block
open Go.RowKit Go.Proofs.YtbdjjgcaadkfbaaW.PrintWords Go.Proofs.YtbdjjgcaadkfbaaW.PrintLast Go.Proofs.YtbdjjgcaadkfbaaW.PrintMore Go.Proofs.Ytbdjjgcaadkfbaa.Oct Go.Proofs.Ytbdjjgcaadkfbaa.Fmt Go.Proofs.Ytbdjjgcaadkfbaa.Plain Go.Proofs.Ytbdjjgcaadkfbaa.Sealed Go.Proofs.Ytbdjjgcaadkfbaa.Calls

theorem run_make512 (W : World) : (Instr.makeSlice 22 (.int .i64 512) (.int .i64 512)).run Try.prog W = .ok (.slice (some ⟨W.heap.size, 0, none⟩) 512 512) (W.alloc (.cells (madeCells #[.int .u8 0] 512) 5)) :=
  print_make 22 5 .u8 1 Try.underlying22 info5 (by decide) 512 (by decide) W
theorem made_any (n : Nat) : madeCells #[Value.int .u8 0] n = (nums .u8 (List.replicate n 0)).toArray := by
  apply Array.ext'
  apply List.ext_getElem
  · simp [nums, madeCells]
  · intro i h1 h2
    simp [nums, madeCells, Nat.mod_one]
theorem made_cells : madeCells #[Value.int .u8 0] 512 = (nums .u8 zeros).toArray := made_any 512
theorem own_of_block {W : World} {base g : Nat} {m : List Int} (h : W.heap[g]? = some (.cells (nums .u8 m).toArray 5 (0, 0))) (hb : base ≤ g) (hm : m.length = 512) : Own W base g 512 512 m :=
  ⟨⟨by simp [nums, hm], .inr ⟨g, 512, _, rfl, hb, h, Nat.le_refl _, by decide, by simp [nums, hm], List.take_of_length_le (by simp [nums, hm])⟩⟩⟩
theorem splice_blk (l : List Int) : splice (nums .u8 zeros) 0 (nums .u8 (l.take 512)) = nums .u8 (blk l) := by
  have e : (zeros.drop (min 512 l.length)) = List.replicate (512 - l.length) 0 := by
    unfold zeros
    rw [List.drop_replicate]
    congr 1
    omega
  simp only [splice, nums, blk, List.take_zero, List.nil_append, List.length_map, List.length_take, Nat.zero_add, List.map_append, ← List.map_drop, e]
set_option maxHeartbeats 1000000 in
set_option maxRecDepth 100000 in
theorem block_calls (A : Option Addr) (n c : Nat) (l : List Int) (w : World) (hr : Kd.C (Kd.int .u8) w A n l) :
    Calls Try.prog 9 #[.slice A n c] w fun e w' => ∃ g, e = .returned (.slice (some ⟨g, 0, none⟩) 512 512) ∧ Own w' w.heap.size g 512 512 (blk l) ∧ Below w.heap.size w w' := by
  have hlen := Kd.C_len hr
  have hmk := run_make512
  have hg := heap_alloc_new w (.cells (madeCells #[.int .u8 0] 512) 5)
  rw [made_cells] at hmk hg
  have hn : (nums .u8 (l.take 512)).length = Nat.min n 512 := by rw [nums_length, List.length_take, hlen]; show min 512 n = min n 512; omega
  have hpos : 0 < (nums .u8 (l.take 512)).length → (some (⟨w.heap.size, 0, none⟩ : Addr)) = some ⟨w.heap.size, 0, none⟩ ∧ ∃ ad, A = some ad ∧ ∀ j v, (nums .u8 (l.take 512))[j]? = some v → (w.alloc (.cells (nums .u8 zeros).toArray 5)).cell? (ad.add j) = some v := by
    intro h
    refine ⟨rfl, ?_⟩
    have hn0 : 0 < n := by
      rw [hn] at h
      rcases Nat.eq_zero_or_pos n with h0 | h0
      · subst h0; simp at h
      · exact h0
    obtain ⟨ad, rfl, hc⟩ := read_cells (Kd.C_alloc hr (.cells (nums .u8 zeros).toArray 5)) hn0
    refine ⟨ad, rfl, fun j v hv => hc j v ?_⟩
    have hj := (List.getElem?_eq_some_iff.1 hv).1
    rw [nums_length, List.length_take] at hj
    simp only [nums, List.getElem?_map, List.getElem?_take] at hv ⊢
    rw [if_pos (by omega)] at hv
    exact hv
  have hfit : 0 + (nums .u8 (l.take 512)).length ≤ (nums .u8 zeros).length := by
    rw [hn, nums_length]
    show 0 + min n 512 ≤ (List.replicate 512 (0 : Int)).length
    rw [List.length_replicate]
    omega
  have h1 := nums_one (l.take 512)
  have hbl := (Below.refl w.heap.size w).alloc (Nat.le_refl _) (.cells (nums .u8 zeros).toArray 5)
  clear hlen
  go_enter Try.func9, Try.ntmps9
  go_wp2_with (refine wpList_copy_splice rfl (.tmp 5) (.tmp 6) 22 22 rfl 5 Try.underlying22 size5 (some ⟨w.heap.size, 0, none⟩) A 512 512 n c rfl rfl w.heap.size 0 (nums .u8 zeros) 5 hg (nums .u8 (l.take 512)) hn hpos hfit h1 w.heap.size w hbl (Nat.le_refl _) ?_; intro w1 hg1 hb1)
  go_ret
  refine ⟨w.heap.size, rfl, own_of_block ?_ (Nat.le_refl _) (blk_len l), hb1⟩
  have := hg1.out
  rw [splice_blk] at this
  exact this
theorem tot_zeros (n : Nat) : tot (List.replicate n 0) = 0 := by
  induction n with
  | zero => rfl
  | succ n ih => simp [List.replicate_succ, tot, ih]
theorem zeros_len : zeros.length = 512 := by unfold zeros; rw [List.length_replicate]
theorem sum_zeros : sumL zeros = 256 := by
  rw [sum_eq]
  unfold zeros
  rw [List.take_replicate, List.drop_replicate, tot_zeros, tot_zeros]
  rfl
theorem seal_field (l : List Int) (hl : l.length = 512) : ((sealL l).drop 148).take 8 = field l := by
  unfold sealL
  rw [List.drop_left' (by simp [hl]), List.take_left' (field_len l)]
theorem field_zeros : strOfNums (field zeros) = ⟨#[48, 48, 48, 52, 48, 48, 0, 32]⟩ := by
  unfold field
  rw [sum_zeros]
  rfl
/-- A part of a made slice, read. -/
theorem own_part {w : World} {base g cap n : Nat} {l : List Int} (h : Own w base g cap n l) (o m : Nat) (hm : o + m ≤ n) : Kd.C (Kd.int .u8) w (some ⟨g, o, none⟩) m ((l.drop o).take m) := by
  have hl := h.len
  have hmax : n ≤ 9223372036854775807 := Kd.C_max h.reads
  refine Kd.C_of_reads (enc := Value.int .u8) (d := (0 : Int)) (h1 := fun _ => rfl) ⟨by simp; omega, by omega, fun _ => ⟨_, rfl, fun j hj => ?_⟩⟩
  rw [add_at, (h.cell (o + j) (by omega)).1]
  congr 2
  simp [List.getD_eq_getElem?_getD, hj]
set_option maxHeartbeats 1000000 in
set_option maxRecDepth 100000 in
theorem alive_calls (w : World) : Calls Try.prog 8 #[] w fun e w' => e = .returned (.bool true) ∧ Below w.heap.size w w' := by
  have hmk := run_make512
  have hzb : Bytes zeros := Bytes.zeros 512
  rw [made_cells] at hmk
  have own0 : ∀ W : World, Own (W.alloc (.cells (nums .u8 zeros).toArray 5)) W.heap.size W.heap.size 512 512 zeros := fun W => own_of_block (heap_alloc_new W _) (Nat.le_refl _) zeros_len
  replace own0 := Lib.hid own0
  have S0 := Lib.hid (fun W : World => sum_calls ⟨W.heap.size, 0, none⟩ 512 zeros _ (own0.out W).reads hzb)
  rw [sum_zeros] at S0
  have S1 := Lib.hid (fun W : World => seal_calls ⟨W.heap.size, 0, none⟩ 512 zeros _ (own0.out W).reads hzb)
  go_enter Try.func8, Try.ntmps8
  go_wp2_with fail
  refine (S0.out w).mono ?_
  rintro e w1 ⟨rfl, hb1⟩
  have hb1' := Aside0.mk (below_step (below_alloc (Below.refl _ _) _) hb1)
  clear hb1
  go_wp2_with fail
  refine (S1.out w1).mono ?_
  rintro e w2 ⟨g, cap, rfl, ho, hb2⟩
  have hb2' := Aside0.mk (below_step (below_alloc hb1'.out _) hb2)
  have hcap := ho.le
  have hp := own_part ho 148 8 (by decide)
  rw [seal_field zeros zeros_len] at hp
  have hcv := fun c => Kd.C_string (P := Try.prog) Try.underlying22 Try.underlying5 Try.underlying9 (c := c) hp
  rw [field_zeros] at hcv
  replace ho := Lib.hid ho
  clear hb2 hp
  go_wp2
  go_ret
  exact ⟨rfl, hb2'.out⟩
end Go.Proofs.Ytbdjjgcaadkfbaa.Block
