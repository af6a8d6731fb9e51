/- Parts of the proof, gathered by a program: what calls of the functions answer, and what follows in plain lists. Conditions: those that each theorem states. -/
import Derived.Test.YteikiojmcipkmaaGreatDoorMR18
import Derived.Test.YteikiojmcipkmaaGreatDoorMR13
set_option linter.unusedVariables false
set_option linter.unusedSimpArgs false
namespace Go.Proofs.YteikiojmcipkmaaGreatDoor
open Go.RowKit YteikiojmcipkmaaGreatDoorW.PrintWords YteikiojmcipkmaaGreatDoorW.PrintLast YteikiojmcipkmaaGreatDoorW.PrintMore Oct ZBase
section
namespace ZRf
open ZPath ZPlanOk ZRec ZFit ZRe
open ZTCheck (cell_of)
end ZRf
namespace ZRm
open ZFit ZNod ZTree
open ZTCheck (cell_of)
end ZRm
namespace ZRd
open ZSumPlain ZCstr ZCheck ZRc
open ZTCheck (cell_of)
end ZRd
namespace ZRn
open ZFit ZNod ZTree ZPath
open ZSumPlain (Bytes)
end ZRn
namespace ZRi
open ZRec ZSize ZFmt ZRe
open ZTCheck (cell_of)
open Go.Lib (nDigits)
theorem nDigits_le (n:Nat) (h:n < 1000000000000000000):nDigits n≤18:=by
 rcases Nat.lt_or_ge (nDigits n) 19 with h' | h'
 ·omega
 ·have:=Go.Lib.lt_pow_nDigits n;have h2:=nDigits_mono (a:=n) (b:=999999999999999999) (by omega);have h3:nDigits 999999999999999999=18:=Go.Lib.nDigits_unique 17 _ (by decide) (by decide);omega
structure DecAt (n:Nat) (m:Nat) (s:ByteArray):Prop where mk :: (out:∃ tl:List Int,decB n=decB m++tl∧s=strOfNums tl)
theorem DecAt.size {n m:Nat} {s:ByteArray} (h:DecAt n m s) (hn:n < 1000000000000000000):s.size≤18:=by obtain ⟨tl,h1,rfl⟩:=h.out;have e:=congrArg List.length h1;rw [List.length_append,decB_len] at e;have:=nDigits_le n hn;rw [strOfNums_size];omega
end ZRi
namespace ZRj
open ZRec ZSize ZFmt ZRe ZRi ZPlanOk
open ZTCheck (cell_of)
open ZGlob (sLink sPath)
open Go.Lib (nDigits)
end ZRj
namespace ZRk
open ZPath ZRec ZFit ZFmt ZPlan ZCheck
open ZTCheck (cell_of)
open ZGlob (sLink sPath)
structure Pq (w W:World) (e:Ent) (hb:Nat) (h:Hdr):Prop where
 bel:Below w.heap.size w W
 box:W.heap[w.heap.size]?=some (.cells #[.int .i64 e.kind,.string e.path,.int .i64 e.mode,.string e.target,.int .i64 e.size] 54 (0,0))
 res:W.heap[w.heap.size+1]?=some (.cells #[.int .u8 0,.string ⟨#[]⟩,.string ⟨#[]⟩,.string ⟨#[]⟩,.int .i64 0,.int .i64 0] 85 (0,0))
 hdr:W.heap[hb]?=some (.cells #[.int .u8 h.typ,.string h.name,.string h.pre,.string h.link,.int .i64 h.mode,.int .i64 h.size] 85 (0,0))
 lt:w.heap.size+1 < hb
section
variable {w W W1:World} {e:Ent} {hb:Nat} {h:Hdr}
theorem Pq.step (p:Pq w W e hb h) (hbl:Below W.heap.size W W1):Pq w W1 e hb h :=
 ⟨below_step p.bel hbl,(hbl.block _ (blk_lt p.box)).trans p.box,(hbl.block _ (blk_lt p.res)).trans p.res,(hbl.block _ (blk_lt p.hdr)).trans p.hdr,p.lt⟩
theorem Pq.set (p:Pq w W e hb h) (i:Nat) (v:Value) (h':Hdr) (hv:(#[.int .u8 h.typ,.string h.name,.string h.pre,.string h.link,.int .i64 h.mode,.int .i64 h.size]:Array Value).setIfInBounds i v=#[.int .u8 h'.typ,.string h'.name,.string h'.pre,.string h'.link,.int .i64 h'.mode,.int .i64 h'.size]):Pq w (W.setCell ⟨hb,i,none⟩ v) e hb h':=by
 have l1:=p.lt;refine ⟨p.bel.setCell (p:=⟨hb,i,none⟩) (by show w.heap.size≤hb;omega) v,?_,?_,?_,p.lt⟩
 ·rw [Below.heap_setCell _ _ _ _ (by show w.heap.size≠hb;omega)];exact p.box
 ·rw [Below.heap_setCell _ _ _ _ (by show w.heap.size+1≠hb;omega)];exact p.res
 ·rw [heap_setCell_same W hb i _ _ v p.hdr,hv]
theorem Pq.cells (p:Pq w W e hb h):W.cell? ⟨w.heap.size,1,none⟩=some (.string e.path)∧W.cell? ⟨w.heap.size,3,none⟩=some (.string e.target)∧W.cell? ⟨w.heap.size,4,none⟩=some (.int .i64 e.size):=by simp [World.cell?,p.box]
end
end ZRk
end
end Go.Proofs.YteikiojmcipkmaaGreatDoor
