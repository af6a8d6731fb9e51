/- Parts of the proof, gathered by a program: what calls of the functions answer, and what follows in plain lists. Conditions: those that each theorem states. -/
import Derived.Test.YteikiojmcipkmaaGreatDoorMR07
import Derived.Test.YteikiojmcipkmaaGreatDoorMR09
set_option linter.unusedVariables false
set_option linter.unusedSimpArgs false
namespace Go.Proofs.YteikiojmcipkmaaGreatDoor
set_option maxRecDepth 100000
section
namespace ZRow
open Go Go.Proofs Go.Shelf Go.RowKit Go.Lib Go.Sort YteikiojmcipkmaaGreatDoorW.PrintWords YteikiojmcipkmaaGreatDoorW.PrintLast YteikiojmcipkmaaGreatDoorW.PrintMore
open ZSortP ZNod ZSym ZSym2 ZStable ZStr ZMo
def rowCells (l:List NV):List Value:=l.flatMap NV.cells
theorem rowCells_len (l:List NV):(rowCells l).length=l.length * 6:=by
 induction l with
 | nil=>rfl
 | cons x l ih =>have e:rowCells (x :: l)=x.cells++rowCells l:=rfl;rw [e,List.length_append,cells_len,ih,List.length_cons];omega
theorem rowCells_get (l:List NV) (i j:Nat) (hi:i < l.length) (hj:j < 6):(rowCells l)[i * 6+j]?=(l[i]).cells[j]?:=by
 induction l generalizing i with
 | nil=>simp at hi
 | cons x l ih =>
  have e:rowCells (x :: l)=x.cells++rowCells l:=rfl;rw [e];cases i with
  | zero =>rw [List.getElem?_append_left (by rw [cells_len];omega)];simp
  | succ i =>rw [List.getElem?_append_right (by rw [cells_len];omega),cells_len];have:=ih i (by simpa using hi);rw [show (i+1) * 6+j - 6=i * 6+j by omega,this];simp
def Row (w:World) (g:Nat) (l:List NV):Prop:=w.heap[g]?=some (.cells (rowCells l).toArray 46 (0,0))
theorem Row.lt {w:World} {g:Nat} {l:List NV} (h:Row w g l):g < w.heap.size:=blk_lt h
theorem Row.of {w w1:World} {g:Nat} {l:List NV} (h:Row w g l) (hk:w1.heap[g]?=w.heap[g]?):Row w1 g l:=hk.trans h
theorem Row.cell {w:World} {g:Nat} {l:List NV} (h:Row w g l) (i j:Nat) (hi:i < l.length) (hj:j < 6):w.cell? ⟨g,i * 6+j,none⟩=(l[i]).cells[j]?:=by rw [← rowCells_get l i j hi hj];have h':w.heap[g]?=some (.cells (rowCells l).toArray 46 (0,0)):=h;simp [World.cell?,h']
theorem Row.frozen {w:World} {g:Nat} {l:List NV} (h:Row w g l) (t:Nat):w.frozen? ⟨g,t,none⟩=false:=by have h':w.heap[g]?=some (.cells (rowCells l).toArray 46 (0,0)):=h;simp [World.frozen?,h']
theorem flat_get (l:List NV) (t:Nat) (h:t < l.length * 6):(flatK NV.cells 6 l.toArray)[t]! = (rowCells l)[t]!:=by
 rw [get_flatK _ _ _ _ (by simpa using h)];have h1:t / 6 < l.length:=by omega
 have h2:=rowCells_get l (t / 6) (t % 6) h1 (Nat.mod_lt _ (by decide));rw [show t / 6 * 6+t % 6=t by omega] at h2;rw [List.getElem!_eq_getElem?_getD (l:=rowCells l),h2,List.getElem!_eq_getElem?_getD,getElem!_pos _ _ (by simpa using h1)];simp
theorem row_holds {w:World} {g:Nat} {l:List NV} (h:Row w g l):HoldsK NV.cells 6 w g 0 l.toArray:=by
 intro t ht;have ht':t < l.length * 6:=by simpa using ht
 refine ⟨?_,by rw [Nat.zero_add];exact h.frozen t⟩;rw [flat_get l t ht'];have h':w.heap[g]?=some (.cells (rowCells l).toArray 46 (0,0)):=h;have h3:t < (rowCells l).length:=by rw [rowCells_len];exact ht'
 simp [World.cell?,h',List.getElem?_eq_getElem h3,getElem!_pos (rowCells l) t h3]
theorem row_swap {w:World} {g:Nat} {l l2:List NV} (h:Row w g l) (hs:l2.length=l.length) (m:Nat) (os:Array Obj): Row (sortWorldK NV.cells 6 w g 0 m l2.toArray os) g l2∧Mo [g] w (sortWorldK NV.cells 6 w g 0 m l2.toArray os):=by
 have h':w.heap[g]?=some (.cells (rowCells l).toArray 46 (0,0)):=h;have hlt:g < w.heap.size:=h.lt;have e1:∀ k,k < w.heap.size→(sortWorldK NV.cells 6 w g 0 m l2.toArray os).heap[k]?=(w.heap.modify g (onCells (putCells id 0 (flatK NV.cells 6 l2.toArray))))[k]?:=by intro k hk;unfold sortWorldK grow putRowK putRow mapBlock;simp only [heap_ahead];rw [Array.getElem?_append_left (by simpa using hk)]
 refine ⟨?_,?_⟩
 ·
  show _=_;rw [e1 g hlt,Array.getElem?_modify,if_pos rfl,h'];simp only [Option.map_some,onCells];congr 2;apply Array.ext';apply List.ext_getElem?;intro t;have hl1:=rowCells_len l;have hl2:=rowCells_len l2;rcases Nat.lt_or_ge t (l.length * 6) with ht | ht
  ·
   have h4:t < (rowCells l).length:=by omega
   have h5:t < (rowCells l2).length:=by omega
   simp only [putCells,Array.toList_mapIdx,List.getElem?_mapIdx,List.getElem?_eq_getElem h4,Option.map_some,Nat.zero_le,Nat.zero_add,true_and,Nat.sub_zero,id_eq];rw [if_pos (by simp;omega),flat_get l2 t (by omega),List.getElem?_eq_getElem h5,getElem!_pos (rowCells l2) t h5]
  ·rw [List.getElem?_eq_none (by simp [putCells];omega),List.getElem?_eq_none (by simp;omega)]
 ·
  refine ⟨rfl,rfl,rfl,?_,fun k hk hS=>?_⟩
  ·unfold sortWorldK grow putRowK putRow mapBlock;simp
  ·rw [e1 k hk,Array.getElem?_modify,if_neg (by simpa using fun e=>hS (by simp [e]))]
def cf (x y:NV):Int:=cmpV x.path y.path
theorem le_iff (x y:NV):le cf x y↔lt y.path x.path=false:=by
 unfold le cf cmpV;cases h:lt y.path x.path with
 | true=>simp
 | false =>
  cases h2:lt x.path y.path with
  | true=>simp
  | false=>simp
theorem ord:ZSortP.Ord (le cf):=by
 refine ⟨fun {x y z} h1 h2=>?_,fun x y=>?_⟩
 ·rw [le_iff] at *;exact ZStr.le_trans h2 h1
 ·
  rw [le_iff,le_iff];cases h:lt y.path x.path with
  | false=>exact .inl rfl
  | true=>exact .inr (lt_asymm h)
theorem two_alloc (W:World) (a b:Obj):(W.alloc a).alloc b=grow (W.drewN 0) #[a,b]:=by rw [show W.drewN 0=W from rfl,alloc_eq_grow,alloc_eq_grow,grow_grow];rfl
set_option maxHeartbeats 4000000 in
theorem cmp_calls:CmpC Tryz.prog cf:=by
 intro W x y;obtain ⟨kind,path,mode,target,addr,cap,data,cls⟩:=x;obtain ⟨kind2,path2,mode2,target2,addr2,cap2,data2,cls2⟩:=y;have CC:=Lib.hid (fun W=>compare_calls path path2 W);unfold NV.cells cf;dsimp only;go_enter Tryz.func35,Tryz.ntmps35
 go_wp2_with fail
 refine (CC.out _).mono ?_;rintro e w1 ⟨rfl,rfl⟩
 go_wp2_with fail
 go_ret;exact ⟨rfl,0,_,two_alloc _ _ _⟩
theorem sort_calls (g cap:Nat) (l:List NV) (w:World) (h:Row w g l) (hn:l.length≤40): Calls Tryz.prog 34 #[.slice (some ⟨g,0,none⟩) l.length cap,.func (.func 35) #[] #[]] w fun e w'=>e=.returned (.tuple #[])∧∃ S,Row w' g S∧Mo [g] w w'∧S.Perm l∧S.Pairwise (fun x y=>lt y.path x.path=false):=by
 refine (sortStable_calls tys cf ord cmp_calls g cap l.length l.toArray w (row_holds h) h.lt (by simp) hn).mono ?_;rintro e w' ⟨rfl,d2,⟨⟨m,os,rfl⟩,h2,h3⟩,h4⟩;have hl:d2.toList.length=l.length:=by simpa using h2
 obtain ⟨q1,q2⟩:=row_swap h hl m os;refine ⟨rfl,d2.toList,by simpa using q1,by simpa using q2,by simpa using h3,?_⟩;rw [List.pairwise_iff_getElem];intro i j hi hj hij;have:=(le_iff _ _).1 (h4 i j (Nat.zero_le _) hij (by omega));simpa [at_,List.getD_eq_getElem?_getD,List.getElem?_eq_getElem hi,List.getElem?_eq_getElem hj] using this
end ZRow
end
end Go.Proofs.YteikiojmcipkmaaGreatDoor
