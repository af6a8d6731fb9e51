/- Acts that are read, and a row of headers of the call's own. -/
import Derived.Test.YtiibkhogahdeiaaIsolated
import Derived.Deep.Slices
namespace Go.Proofs.Ytiibkhogahdeiaa.Acts
open Go.RowKit Go.Proofs.YtiibkhogahdeiaaW.PrintWords Go.Proofs.YtiibkhogahdeiaaW.PrintLast Go.Proofs.YtiibkhogahdeiaaW.PrintMore Go.Proofs.Ytiibkhogahdeiaa.Base Go.Proofs.Ytiibkhogahdeiaa.Plain Go.Proofs.Ytiibkhogahdeiaa.Sift Go.Proofs.Ytiibkhogahdeiaa.Ops Go.Proofs.Ytiibkhogahdeiaa.Methods Go.Proofs.Ytiibkhogahdeiaa.Sorted Go.Proofs.Ytiibkhogahdeiaa.Refs Go.Proofs.Ytiibkhogahdeiaa.RefMerge Go.Proofs.Ytiibkhogahdeiaa.Merge Go.Proofs.Ytiibkhogahdeiaa.Other Go.Proofs.Ytiibkhogahdeiaa.Alive Go.Proofs.Ytiibkhogahdeiaa.Assoc Go.Proofs.Ytiibkhogahdeiaa.Isolated
theorem info26 : (Try.prog.info? 26).map (fun i => (i.zero, i.size, i.bytes)) = some (some (.slice none 0 0), 1, 24) := by kernel_rfl
/-- A call on a heap: its kind, its strings. -/
structure Step where
  k : Int
  h : Hd
def Acts (W : World) (a : Option Addr) (n : Nat) (l : List Step) : Prop :=
  n = l.length ∧ n ≤ 9223372036854775807 ∧ (0 < n → ∃ ad, a = some ad ∧ ∀ (j : Nat) s, l[j]? = some s → W.cell? (ad.add (j * 2)) = some (.int .i64 s.k) ∧ W.cell? (ad.add (j * 2 + 1)) = some s.h.val ∧ s.h.ok W)
theorem Acts.below {W W1 : World} {a : Option Addr} {n : Nat} {l : List Step} (h : Acts W a n l) (hb : Below W.heap.size W W1) : Acts W1 a n l := by
  refine ⟨h.1, h.2.1, fun h0 => ?_⟩
  obtain ⟨ad, e, hc⟩ := h.2.2 h0
  refine ⟨ad, e, fun j s hs => ?_⟩
  obtain ⟨h1, h2, h3⟩ := hc j s hs
  exact ⟨pw_cell_below hb h1, pw_cell_below hb h2, h3.1, Kd.C_below h3.2 hb⟩
def nth (l : List Step) (j : Nat) : Step := l.getD j ⟨0, ⟨none, 0, []⟩⟩
theorem nth_get (l : List Step) (j : Nat) (hj : j < l.length) : l[j]? = some (nth l j) := by
  unfold nth
  rw [List.getD_eq_getElem?_getD, List.getElem?_eq_getElem hj]
  rfl
theorem Acts.at {W : World} {a : Option Addr} {n : Nat} {l : List Step} (h : Acts W a n l) (j : Nat) (hj : j < n) :
    ∃ ad, a = some ad ∧ W.cell? (ad.add (j * 2)) = some (.int .i64 (nth l j).k) ∧ W.cell? ⟨(ad.add (j * 2)).block, (ad.add (j * 2)).off + 1, none⟩ = some (.slice (nth l j).h.A (nth l j).h.l.length (nth l j).h.c) ∧ (nth l j).h.ok W := by
  obtain ⟨ad, e, hc⟩ := h.2.2 (by omega)
  obtain ⟨h1, h2, h3⟩ := hc j _ (nth_get l j (by have := h.1; omega))
  exact ⟨ad, e, h1, by have h4 : W.cell? ((ad.add (j * 2)).add 1) = some (nth l j).h.val := by { rw [Go.Deep.add_add]; exact h2 }; exact h4, h3⟩
def hdK : Kd Hd := Kd.scalar Hd.val (fun _ => rfl)
theorem append_hds {ops : Array Oper} {rest : List Oper} {o : Oper} {a : Act} {Q : Exit → Act → World → Prop} {w0 W : World} (base : Nat) (hgd : o.guard = none) (s x : Operand) (t : TypeId)
    (ho : o.op = .call { callee := .builtin .append, args := #[s, x], argTypes := #[t, t] }) (ht : Try.prog.underlying t = some (.slice 26)) (v : Value) (xs : List Hd) (A : Option Addr) (m c : Nat) (ys : List Hd)
    (hs : a.eval s = v) (hx : a.eval x = .slice A m c) (HO : W.ownsRow base 26 1 v xs.length (xs.map Hd.val)) (HR : hdK.C W A m ys) (HB : Below base w0 W) (hbase : base ≤ W.heap.size) (hl : (xs.length + m) * 24 ≤ 140737488355328)
    (h : ∀ v1 w1, w1.ownsRow base 26 1 v1 (xs ++ ys).length ((xs ++ ys).map Hd.val) → Below base w0 w1 → W.grownBy w1 v.ownBlock → wpList Try.prog ops Q rest (a.put o.dst v1) w1) :
    wpList Try.prog ops Q (o :: rest) a W := by
  refine Kd.R_append_row (w0 := w0) Hd.val ⟨none, 0, []⟩ base hgd s x t 26 (.slice none 0 0) 24 ho ht info26 rfl (by decide) v xs ys A m c (fun _ => True) hs hx (fun _ _ => trivial) ?_ HR HB hbase hl ?_
  · exact Kd.R_of_own HO (fun _ _ => trivial)
  · intro v1 w1 hR hB hg _
    exact h v1 w1 (Kd.own_of_R hR) hB hg
/-- One literal header. -/
theorem C_lit_hd (W : World) (h : Hd) : hdK.C (W.alloc (.cells #[h.val] 26)) (some ⟨W.heap.size, 0, none⟩) 1 [h] := by
  refine ⟨rfl, by decide, fun _ => ⟨_, rfl, fun j p hj => ?_⟩⟩
  cases j with
  | succ j => simp at hj
  | zero =>
    obtain rfl : h = p := by simpa using hj
    refine ⟨[h.val], rfl, rfl, fun i u hu => ?_⟩
    cases i with
    | succ i => simp at hu
    | zero =>
      have : u = h.val := by simpa using hu.symm
      subst this
      have := World.news_of_block (cs := #[h.val]) (t := 26) (fr := (0, 0)) (heap_alloc_new W _) 0 h.val (by simp)
      simpa using this
theorem own_lit_hd (W : World) (h : Hd) : (W.alloc (.cells #[h.val] 26)).ownsRow W.heap.size 26 1 (.slice (some ⟨W.heap.size, 0, none⟩) 1 1) [h].length ([h].map Hd.val) := by
  have := World.ownsRow_lit (base := W.heap.size) (e := 26) (size := 1) W #[h.val] 1 (Nat.le_refl _) (by decide) rfl
  simpa using this
/-- A row of headers of rows that are read. -/
theorem cc_own {W : World} {base : Nat} {v : Value} {hs : List Hd} (h : W.ownsRow base 26 1 v hs.length (hs.map Hd.val)) (hok : ∀ x ∈ hs, x.ok W) : ∃ A c, v = .slice A hs.length c ∧ CC W A hs.length (hs.map Hd.l) := by
  obtain ⟨A, c, e, _, hC⟩ := Kd.R_reads (d := hdK) (e := 26) (base := base) (ok := fun _ => True) (xs := hs) (v := v) (w := W) (Kd.R_of_own h (fun _ _ => trivial))
  refine ⟨A, c, e, by simp, hC.2.1, fun h0 => ?_⟩
  obtain ⟨ad, e1, hc⟩ := hC.2.2 h0
  refine ⟨ad, e1, fun j p hj => ?_⟩
  rw [List.getElem?_map] at hj
  obtain ⟨x, hx, rfl⟩ := Option.map_eq_some_iff.1 hj
  obtain ⟨h1, h2⟩ := hok x (List.mem_of_getElem? hx)
  obtain ⟨cs, hl, hR, hcell⟩ := hc j x hx
  obtain rfl : cs = [x.val] := hR
  exact ⟨[x.val], rfl, ⟨x.A, x.c, rfl, h1, h2⟩, hcell⟩
end Go.Proofs.Ytiibkhogahdeiaa.Acts
