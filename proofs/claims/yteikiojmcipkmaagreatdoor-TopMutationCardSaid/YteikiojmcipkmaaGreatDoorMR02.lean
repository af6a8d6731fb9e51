/- Parts of the proof, gathered by a program: what calls of the functions answer, and what follows in plain lists. Conditions: those that each theorem states. -/
import Derived.Test.YteikiojmcipkmaaGreatDoorMR00
import Derived.Test.YteikiojmcipkmaaGreatDoorMR01
set_option linter.unusedVariables false
set_option linter.unusedSimpArgs false
namespace Go.Proofs
section
namespace YteikiojmcipkmaaGreatDoorW.PrintWords
open Go.RowKit
namespace Kd
section
end
section
end
end Kd
end YteikiojmcipkmaaGreatDoorW.PrintWords
namespace YteikiojmcipkmaaGreatDoorW.PrintWords
open Go.RowKit
namespace Kd
section
end
section
end
section
open Classical in
end
section
open Classical in
end
section
end
end Kd
end YteikiojmcipkmaaGreatDoorW.PrintWords
namespace YteikiojmcipkmaaGreatDoorW.PrintWords
open Go.RowKit
section
end
namespace Kd
section
end
section
end
section
end
end Kd
end YteikiojmcipkmaaGreatDoorW.PrintWords
namespace YteikiojmcipkmaaGreatDoorW.PrintWords
open Go.RowKit
namespace Kd
structure Heap {α:Type} (d:Kd α):Prop where
 K:∀ {w w1:World} {x:α} {cs:List Value},(∀ k,k < w.heap.size→w1.heap[k]?=w.heap[k]?)→d.K w x cs→d.K w1 x cs
theorem cell_heap {w w1:World} (hb:∀ k,k < w.heap.size→w1.heap[k]?=w.heap[k]?) {a:Addr} {v:Value} (h:w.cell? a=some v):w1.cell? a=some v:=by have:=hb a.block (World.block_lt_of_cell? w a h);simpa [World.cell?,this] using h
theorem Heap.C {α:Type} {d:Kd α} (hd:Heap d) {w w1:World} {A:Option Addr} {n:Nat} {xs:List α} (hb:∀ k,k < w.heap.size→w1.heap[k]?=w.heap[k]?) (h:d.C w A n xs):d.C w1 A n xs :=
 ⟨h.1,h.2.1,fun hn=>by obtain ⟨ad,e,hc⟩:=h.2.2 hn;refine ⟨ad,e,fun j p hj=>?_⟩;obtain ⟨c,hs,hr,hcell⟩:=hc j p hj;exact ⟨c,hs,hd.K hb hr,fun i u hu=>cell_heap hb (hcell i u hu)⟩⟩
section
end
end Kd
end YteikiojmcipkmaaGreatDoorW.PrintWords
namespace YteikiojmcipkmaaGreatDoorW.PrintWords
open Go.RowKit
def Kept (w W:World) (S:Nat→Prop):Prop:=w.heap.size≤W.heap.size∧∀ i,i < w.heap.size→¬ S i→W.heap[i]?=w.heap[i]?
section
variable {w W W2:World} {S S2 S':Nat→Prop}
theorem Kept.refl (w:World) (S:Nat→Prop):Kept w w S:=⟨Nat.le_refl _,fun _ _ _=>rfl⟩
theorem Kept.of_below (h:Below w.heap.size w W) (S:Nat→Prop):Kept w W S:=⟨h.size,fun i hi _=>h.block i hi⟩
theorem Kept.mono (h:Kept w W S) (hs:∀ k,S k→S' k):Kept w W S':=⟨h.1,fun i hi hn=>h.2 i hi (fun hk=>hn (hs i hk))⟩
theorem Kept.then_ (h:Kept w W S) (k:Kept W W2 S2) (hs:∀ k,S2 k→S k∨w.heap.size≤k):Kept w W2 S :=
 ⟨Nat.le_trans h.1 k.1,fun i hi hn=>(k.2 i (Nat.lt_of_lt_of_le hi h.1) (fun h2=>(hs i h2).elim hn (fun h3=>by omega))).trans (h.2 i hi hn)⟩
theorem Kept.of_grown {row:Option Nat} (hg:W.grownBy W2 row) (h:Kept w W S) (hr:∀ k,row=some k→S k∨w.heap.size≤k):Kept w W2 S :=
 h.then_ (S2:=fun k=>row=some k) ⟨hg.size,fun i hi hn=>hg.block i hi (fun he=>hn he.symm)⟩ hr
theorem Kept.below (h:Kept w W S) (hb:Below W.heap.size W W2):Kept w W2 S:=h.then_ (Kept.of_below hb (fun _=>False)) (fun _ hk=>hk.elim)
theorem Kept.alloc (h:Kept w W S) (o:Obj):Kept w (W.alloc o) S:=h.below (below_alloc (Below.refl _ _) o)
theorem Kept.drew (h:Kept w W S):Kept w W.drew S:=h
theorem Kept.drewN (h:Kept w W S) (m:Nat):Kept w (W.drewN m) S:=h
theorem Kept.setCell (h:Kept w W S) {p:Addr} (hp:S p.block∨w.heap.size≤p.block) (u:Value):Kept w (W.setCell p u) S :=
 h.then_ (S2:=fun k=>k=p.block) ⟨by simp [World.setCell],fun i _ hn=>Below.heap_setCell W p u i hn⟩ (fun k hk=>by rw [hk];exact hp)
theorem Kept.keep {g:Nat} (h:KeepBut w W g none) (k:Kept W W2 S2) (hs:∀ k,S2 k→w.heap.size≤k):KeepBut w W2 g none :=
 ⟨Nat.le_trans h.1 k.1,fun i hi hg hr=>(k.2 i (Nat.lt_of_lt_of_le hi h.1) (fun h2=>by have:=hs i h2;omega)).trans (h.2 i hi hg hr)⟩
end
namespace Kd
section
end
end Kd
end YteikiojmcipkmaaGreatDoorW.PrintWords
namespace YteikiojmcipkmaaGreatDoorW.PrintWords
open Go.RowKit
namespace Foot
end Foot
namespace Kd
section
end
end Kd
end YteikiojmcipkmaaGreatDoorW.PrintWords
namespace YteikiojmcipkmaaGreatDoorW.PrintWords
open Go.RowKit
namespace Kd
section
end
end Kd
end YteikiojmcipkmaaGreatDoorW.PrintWords
namespace YteikiojmcipkmaaGreatDoorW.PrintWords
open Go.RowKit
namespace Kd
section
end
section
end
end Kd
end YteikiojmcipkmaaGreatDoorW.PrintWords
section
namespace YteikiojmcipkmaaGreatDoorW.PrintMore
open Go.RowKit YteikiojmcipkmaaGreatDoorW.PrintWords
namespace Kd
open YteikiojmcipkmaaGreatDoorW.PrintWords.Kd
end Kd
namespace Kd
open YteikiojmcipkmaaGreatDoorW.PrintWords.Kd
section
end
end Kd
theorem max2_int (k k':IntKind) (x y:Int):Builtin.max2 (.int k x) (.int k' y)=pure (.int k (if x < y then y else x)):=by simp only [Builtin.max2,gt_iff_lt]
theorem min2_int (k k':IntKind) (x y:Int):Builtin.min2 (.int k x) (.int k' y)=pure (.int k (if y < x then y else x)):=by simp only [Builtin.min2]
theorem max_two (ats:Array TypeId) (ty:TypeId) (a b:Value):Builtin.max_ ats ty #[a,b]=(Builtin.max2 a b >>= fun s=>pure s):=by simp only [Builtin.max_,List.foldlM_cons,List.foldlM_nil]
theorem min_two (ats:Array TypeId) (ty:TypeId) (a b:Value):Builtin.min_ ats ty #[a,b]=(Builtin.min2 a b >>= fun s=>pure s):=by simp only [Builtin.min_,List.foldlM_cons,List.foldlM_nil]
theorem max_three (ats:Array TypeId) (ty:TypeId) (a b c:Value):Builtin.max_ ats ty #[a,b,c]=(Builtin.max2 a b >>= fun s=>Builtin.max2 s c >>= fun s=>pure s):=by simp only [Builtin.max_,List.foldlM_cons,List.foldlM_nil]
theorem min_three (ats:Array TypeId) (ty:TypeId) (a b c:Value):Builtin.min_ ats ty #[a,b,c]=(Builtin.min2 a b >>= fun s=>Builtin.min2 s c >>= fun s=>pure s):=by simp only [Builtin.min_,List.foldlM_cons,List.foldlM_nil]
end YteikiojmcipkmaaGreatDoorW.PrintMore
namespace YteikiojmcipkmaaGreatDoorW.PrintWords
open Go.RowKit
section
end
def mx (a b:Int):Int:=if a < b then b else a
namespace Kd
section
end
section
end
section
end
end Kd
end YteikiojmcipkmaaGreatDoorW.PrintWords
namespace YteikiojmcipkmaaGreatDoorW.PrintWords
open Go.RowKit
namespace Kd
section
end
end Kd
end YteikiojmcipkmaaGreatDoorW.PrintWords
end
end
end Go.Proofs
