/- Parts of the proof, gathered by a program: what calls of the functions answer, and what follows in plain lists. Conditions: those that each theorem states. -/
import Derived.Test.YteikiojmcipkmaaGreatDoorMR13
set_option linter.unusedVariables false
set_option linter.unusedSimpArgs false
namespace Go.Proofs.YteikiojmcipkmaaGreatDoor
open Go.Lib (hid)
open Go.RowKit ZStr YteikiojmcipkmaaGreatDoorW.PrintWords YteikiojmcipkmaaGreatDoorW.PrintLast YteikiojmcipkmaaGreatDoorW.PrintMore Oct ZBase ZGlob ZMo ZPath ZRec ZFit ZNod ZMap ZTree ZTCheck ZCount ZRow
set_option maxRecDepth 100000
section
namespace ZCanon
theorem C_of {w W:World} {k:IntKind} {A:Option Addr} {n:Nat} {l:List Int} (h:Kd.C (Kd.int k) w A n l) (hA:∀ ad,A=some ad→0 < n→W.heap[ad.block]?=w.heap[ad.block]?):Kd.C (Kd.int k) W A n l:=by
 refine ⟨h.1,h.2.1,fun hn=>?_⟩;obtain ⟨ad,e,hc⟩:=h.2.2 hn;refine ⟨ad,e,fun j p hj=>?_⟩;have hb:=hA ad e hn;obtain ⟨c,hl,hk,hv⟩:=hc j p hj;refine ⟨c,hl,hk,fun i u hi=>?_⟩;have hb2:W.heap[(ad.add (j * (Kd.int k).sz+i)).block]?=w.heap[(ad.add (j * (Kd.int k).sz+i)).block]?:=by rw [ZMo.add_block];exact hb
 rw [cell_of_heap hb2];exact hv i u hi
theorem C_nil (w:World) (A:Option Addr) (c:Nat) (h:Kd.C (Kd.int .u8) w A 0 []) (A':Option Addr) (w':World):Kd.C (Kd.int .u8) w' A' 0 []:=⟨h.1,h.2.1,fun h=>absurd h (by decide)⟩
structure Cl (w:World) (g:Nat) (x:NV):Prop where
 reads:Reads w x
 out:∀ ad,x.addr=some ad→0 < x.data.length→ad.block≠g∧ad.block < w.heap.size
theorem Cl.step {w w1:World} {g:Nat} {x:NV} (h:Cl w g x) (hs:w.heap.size≤w1.heap.size) (hb:∀ k,k < w.heap.size→k≠g→w1.heap[k]?=w.heap[k]?):Cl w1 g x :=
 ⟨⟨C_of h.reads.1 fun ad ha hn=>hb _ (h.out ad ha hn).2 (h.out ad ha hn).1,h.reads.2⟩,fun ad ha hn=>⟨(h.out ad ha hn).1,by have:=(h.out ad ha hn).2;omega⟩⟩
theorem Cl.of_eq {w:World} {g:Nat} {x y:NV} (h:Cl w g x) (ha:y.addr=x.addr) (hc:y.cap=x.cap) (hd:y.data=x.data):Cl w g y:=by obtain ⟨⟨h1,h2⟩,h3⟩:=h;rw [← ha,← hd] at h1;rw [← hc,← hd] at h2;rw [← ha,← hd] at h3;exact ⟨⟨h1,h2⟩,h3⟩
theorem row_cellD {w:World} {blk:Nat} {l:List NV} (h:Row w blk l) (i j:Nat) (x:NV) (v:Value) (hi:l[i]?=some x) (hv:x.cells[j]?=some v):w.cell? ⟨blk,i * 6+j,none⟩=some v:=by
 have hlt:=(List.getElem?_eq_some_iff.1 hi).1;have hj:j < 6:=by
  have:=(List.getElem?_eq_some_iff.1 hv).1
  rwa [cells_len] at this
 rw [h.cell i j hlt hj,(List.getElem?_eq_some_iff.1 hi).2];exact hv
theorem ext6 {a b:List Value} {n:Nat} (ha:a.length=n * 6) (hb:b.length=n * 6) (h:∀ i j,i < n→j < 6→a[i * 6+j]?=b[i * 6+j]?):a=b:=by
 apply List.ext_getElem?;intro t;rcases Nat.lt_or_ge t (n * 6) with ht | ht
 ·
  have:=h (t / 6) (t % 6) (by omega) (Nat.mod_lt _ (by decide))
  rwa [show t / 6 * 6+t % 6=t by omega] at this
 ·rw [List.getElem?_eq_none (by omega),List.getElem?_eq_none (by omega)]
theorem rowCells_set (l:List NV) (i:Nat) (x:NV) (hi:i < l.length):(rowCells l).take (i * 6)++x.cells++(rowCells l).drop (i * 6+6)=rowCells (l.set i x):=by
 induction l generalizing i with
 | nil=>simp at hi
 | cons y l ih =>
  cases i with
  | zero=>simp [rowCells,List.drop_left' (cells_len y)]
  | succ i =>have:=ih i (by simpa using hi);simp only [rowCells,List.flatMap_cons,List.set_cons_succ] at *;rw [← this,show (i+1) * 6=y.cells.length+i * 6 by rw [cells_len];omega,List.take_append,List.drop_append];simp only [List.take_of_length_le (show y.cells.length≤y.cells.length+i * 6 by omega),Nat.add_sub_cancel_left,List.append_assoc];rw [show y.cells.length+i * 6+6 - y.cells.length=i * 6+6 by omega,List.drop_of_length_le (show y.cells.length≤y.cells.length+i * 6+6 by omega)];simp
theorem row_setRow {w:World} {g:Nat} {l:List NV} (h:Row w g l) (l2:List NV):Row (w.setRow g (rowCells l2).toArray) g l2:=setRow_heap _ _ _ _ _ _ h
theorem setRow_size (w:World) (g:Nat) (c:Array Value):(w.setRow g c).heap.size=w.heap.size:=by simp [World.setRow]
theorem setRow_other (w:World) (g:Nat) (c:Array Value) (k:Nat) (h:k≠g):(w.setRow g c).heap[k]?=w.heap[k]?:=by simp only [World.setRow];rw [Array.getElem?_modify,if_neg (Ne.symm h)]
theorem below_setRow {R g:Nat} {w W:World} (h:Below R w W) (hk:R≤g) (c:Array Value):Below R w (W.setRow g c) :=
 ⟨h.os,h.tape,h.output,by rw [setRow_size];exact h.size,fun j hj=>(setRow_other W g c j (by omega)).trans (h.block j hj)⟩
theorem row_setCell {w:World} {g:Nat} {l:List NV} (h:Row w g l) (i j:Nat) (x y:NV) (v:Value) (hi:l[i]?=some x) (hj:j < 6) (hy:y.cells=x.cells.set j v):w.setCell ⟨g,i * 6+j,none⟩ v=w.setRow g (rowCells (l.set i y)).toArray:=by
 have hlt:=(List.getElem?_eq_some_iff.1 hi).1;rw [setCell_eq_setRow w g (i * 6+j) _ 46 (0,0) v h];congr 1;have hl:(rowCells l).length=l.length * 6:=rowCells_len l;rw [← rowCells_set l i y hlt,hy];apply Array.ext';simp only [Array.toList_setIfInBounds];have hsplit:rowCells l=(rowCells l).take (i * 6)++x.cells++(rowCells l).drop (i * 6+6):=by have:=rowCells_set l i x hlt;rw [show l.set i x=l by rw [← (List.getElem?_eq_some_iff.1 hi).2];simp] at this;exact this.symm
 have hlen:((rowCells l).take (i * 6)).length=i * 6:=by rw [List.length_take];omega
 conv=>lhs;rw [hsplit]
 rw [List.append_assoc,List.set_append_right _ _ (by omega),hlen,show i * 6+j - i * 6=j by omega,List.set_append_left _ _ (by rw [cells_len];exact hj),List.append_assoc]
theorem row_cell_step {w:World} {g:Nat} {l:List NV} (h:Row w g l) {i:Nat} {y:NV} (hi:l[i]?=some y) (j:Nat) (hj:j < 6) (v:Value) (y2:NV) (hy:y2.cells=y.cells.set j v): w.frozen? ⟨g,i * 6+j,none⟩=false∧w.setCell ⟨g,i * 6+j,none⟩ v=w.setRow g (rowCells (l.set i y2)).toArray∧Row (w.setCell ⟨g,i * 6+j,none⟩ v) g (l.set i y2)∧(l.set i y2)[i]?=some y2:=by
 have e:=row_setCell h i j y y2 v hi hj hy;refine ⟨h.frozen _,e,by rw [e];exact row_setRow h _,?_⟩;have hlt:=(List.getElem?_eq_some_iff.1 hi).1;simp [hlt]
theorem six_store {w:World} {g:Nat} {l:List NV} (h:Row w g l) {i:Nat} {y:NV} (hi:l[i]?=some y) (x:NV): ∃ u0 u1 u2 u3 u4 u5,w.cell? ⟨g,i * 6,none⟩=some u0∧w.frozen? ⟨g,i * 6,none⟩=false ∧ (w.setCell ⟨g,i * 6,none⟩ (.int .i64 x.kind)).cell? ⟨g,i * 6+1,none⟩=some u1∧(w.setCell ⟨g,i * 6,none⟩ (.int .i64 x.kind)).frozen? ⟨g,i * 6+1,none⟩=false ∧ ((w.setCell ⟨g,i * 6,none⟩ (.int .i64 x.kind)).setCell ⟨g,i * 6+1,none⟩ (.string x.path)).cell? ⟨g,i * 6+2,none⟩=some u2∧((w.setCell ⟨g,i * 6,none⟩ (.int .i64 x.kind)).setCell ⟨g,i * 6+1,none⟩ (.string x.path)).frozen? ⟨g,i * 6+2,none⟩=false ∧ (((w.setCell ⟨g,i * 6,none⟩ (.int .i64 x.kind)).setCell ⟨g,i * 6+1,none⟩ (.string x.path)).setCell ⟨g,i * 6+2,none⟩ (.int .i64 x.mode)).cell? ⟨g,i * 6+3,none⟩=some u3∧(((w.setCell ⟨g,i * 6,none⟩ (.int .i64 x.kind)).setCell ⟨g,i * 6+1,none⟩ (.string x.path)).setCell ⟨g,i * 6+2,none⟩ (.int .i64 x.mode)).frozen? ⟨g,i * 6+3,none⟩=false ∧ ((((w.setCell ⟨g,i * 6,none⟩ (.int .i64 x.kind)).setCell ⟨g,i * 6+1,none⟩ (.string x.path)).setCell ⟨g,i * 6+2,none⟩ (.int .i64 x.mode)).setCell ⟨g,i * 6+3,none⟩ (.string x.target)).cell? ⟨g,i * 6+4,none⟩=some u4∧((((w.setCell ⟨g,i * 6,none⟩ (.int .i64 x.kind)).setCell ⟨g,i * 6+1,none⟩ (.string x.path)).setCell ⟨g,i * 6+2,none⟩ (.int .i64 x.mode)).setCell ⟨g,i * 6+3,none⟩ (.string x.target)).frozen? ⟨g,i * 6+4,none⟩=false ∧ (((((w.setCell ⟨g,i * 6,none⟩ (.int .i64 x.kind)).setCell ⟨g,i * 6+1,none⟩ (.string x.path)).setCell ⟨g,i * 6+2,none⟩ (.int .i64 x.mode)).setCell ⟨g,i * 6+3,none⟩ (.string x.target)).setCell ⟨g,i * 6+4,none⟩ (.slice x.addr x.data.length x.cap)).cell? ⟨g,i * 6+5,none⟩=some u5∧(((((w.setCell ⟨g,i * 6,none⟩ (.int .i64 x.kind)).setCell ⟨g,i * 6+1,none⟩ (.string x.path)).setCell ⟨g,i * 6+2,none⟩ (.int .i64 x.mode)).setCell ⟨g,i * 6+3,none⟩ (.string x.target)).setCell ⟨g,i * 6+4,none⟩ (.slice x.addr x.data.length x.cap)).frozen? ⟨g,i * 6+5,none⟩=false ∧ (((((w.setCell ⟨g,i * 6,none⟩ (.int .i64 x.kind)).setCell ⟨g,i * 6+1,none⟩ (.string x.path)).setCell ⟨g,i * 6+2,none⟩ (.int .i64 x.mode)).setCell ⟨g,i * 6+3,none⟩ (.string x.target)).setCell ⟨g,i * 6+4,none⟩ (.slice x.addr x.data.length x.cap)).setCell ⟨g,i * 6+5,none⟩ (.int .i64 x.cls)=w.setRow g (rowCells (l.set i x)).toArray:=by
 obtain ⟨f0,e0,r1,h1⟩:=row_cell_step h hi 0 (by decide) (.int .i64 x.kind) { y with kind:=x.kind } rfl;simp only [Nat.add_zero] at f0 e0 r1;obtain ⟨f1,e1,r2,h2⟩:=row_cell_step r1 h1 1 (by decide) (.string x.path) { y with kind:=x.kind,path:=x.path } rfl;obtain ⟨f2,e2,r3,h3⟩:=row_cell_step r2 h2 2 (by decide) (.int .i64 x.mode) { y with kind:=x.kind,path:=x.path,mode:=x.mode } rfl;obtain ⟨f3,e3,r4,h4⟩:=row_cell_step r3 h3 3 (by decide) (.string x.target) { y with kind:=x.kind,path:=x.path,mode:=x.mode,target:=x.target } rfl;obtain ⟨f4,e4,r5,h5⟩:=row_cell_step r4 h4 4 (by decide) (.slice x.addr x.data.length x.cap) { x with cls:=y.cls } rfl;obtain ⟨f5,e5,r6,h6⟩:=row_cell_step r5 h5 5 (by decide) (.int .i64 x.cls) x rfl;refine ⟨_,_,_,_,_,_,row_cellD h i 0 y _ hi rfl,f0,row_cellD r1 i 1 _ _ h1 rfl,f1,row_cellD r2 i 2 _ _ h2 rfl,f2,row_cellD r3 i 3 _ _ h3 rfl,f3,row_cellD r4 i 4 _ _ h4 rfl,f4,row_cellD r5 i 5 _ _ h5 rfl,f5,?_⟩;rw [e5,e4,setRow_setRow,e3,setRow_setRow,e2,setRow_setRow,e1,setRow_setRow,e0,setRow_setRow];simp only [List.set_set]
def zeroNV:NV:=⟨0,⟨#[]⟩,0,⟨#[]⟩,none,0,[],0⟩
theorem made_row (n:Nat):madeCells #[.int .i64 0,.string ⟨#[]⟩,.int .i64 0,.string ⟨#[]⟩,.slice none 0 0,.int .i64 0] (n * 6)=(rowCells (List.replicate n zeroNV)).toArray:=by
 apply Array.ext';refine ext6 (n:=n) (by simp [madeCells]) (by simp [rowCells_len]) fun i j hi hj=>?_;simp only [];rw [rowCells_get _ i j (by simpa using hi) hj,List.getElem_replicate];have ht:i * 6+j < n * 6:=by omega
 have hm:(i * 6+j) % 6=j:=by omega
 simp only [madeCells,Array.toList_map,Array.toList_range,List.getElem?_map,List.getElem?_range ht,Option.map_some];rw [show (#[.int .i64 0,.string ⟨#[]⟩,.int .i64 0,.string ⟨#[]⟩,.slice none 0 0,.int .i64 0]:Array Value).size=6 from rfl,hm];rcases j with _ | _ | _ | _ | _ | _ | j <;> first | rfl | omega
theorem info46:(Tryz.prog.info? 46).map (fun i=>(i.zero,i.size,decide (i.bytes≤1000)))=some (some (.agg #[.int .i64 0,.string ⟨#[]⟩,.int .i64 0,.string ⟨#[]⟩,.slice none 0 0,.int .i64 0]),6,true):=by kernel_rfl
theorem make_row (n:Nat) (hn:n≤1000) (W:World):(Instr.makeSlice 22 (.int .i64 (n:Int)) (.int .i64 (n:Int))).run Tryz.prog W=.ok (.slice (some ⟨W.heap.size,0,none⟩) n n) (W.alloc (.cells (rowCells (List.replicate n zeroNV)).toArray 46)):=by
 obtain ⟨i,hi,hz⟩:=Option.map_eq_some_iff.1 info46;simp only [Prod.mk.injEq,decide_eq_true_eq] at hz;have hb:(i.bytes:Int) * (n:Int)≤281474976710656:=by
  have:i.bytes * n≤1000 * 1000:=Nat.mul_le_mul hz.2.2 hn;have h2:((i.bytes * n:Nat):Int)≤281474976710656:=by omega
  rwa [Int.natCast_mul] at h2
 have:=run_make (P:=Tryz.prog) W 22 46 i _ Tryz.underlying22 hi hz.1 .i64 .i64 n n (by omega) (Int.le_refl _) hb (by omega);simp only [Int.toNat_natCast,hz.2.1] at this;rw [this];exact congrArg (fun c=>Result.ok (Value.slice (some ⟨W.heap.size,0,none⟩) n n) (W.alloc (.cells c 46))) (made_row n)
theorem clone_nv (x:NV) (hm:x.data.length≤1000000) (w:World) (hr:Reads w x):Calls Tryz.prog 25 #[.slice x.addr x.data.length x.cap] w fun r w'=>∃ A c,r=.returned (.slice A x.data.length c)∧Below w.heap.size w w'∧Reads w' { x with addr:=A,cap:=c }∧∀ ad,A=some ad→0 < x.data.length→w.heap.size≤ad.block∧ad.block < w'.heap.size:=by
 rcases Nat.eq_zero_or_pos x.data.length with h0 | hp
 ·
  refine (ZSum.clone_row x.addr x.data.length x.cap x.data w hr.1 (by omega)).mono ?_;rintro r w1 ⟨v,rfl,ho,hb⟩;rcases ho.2 with ⟨rfl,_⟩ | ⟨g,cap,_,rfl,_⟩
  ·refine ⟨none,0,by rw [h0],hb,⟨?_,by simp [h0]⟩,fun ad h=>by cases h⟩;have hx:=List.eq_nil_of_length_eq_zero h0;have h1:=hr.1;dsimp only;rw [hx] at h1 ⊢;exact C_nil _ _ 0 h1 _ _
  ·refine ⟨some ⟨g,0,none⟩,cap,rfl,hb,⟨?_,by simp [h0]⟩,fun ad h hn=>by omega⟩;have hx:=List.eq_nil_of_length_eq_zero h0;have h1:=hr.1;dsimp only;rw [hx] at h1 ⊢;exact C_nil _ _ 0 h1 _ _
 ·
  obtain ⟨ad,ha,_⟩:=hr.1.2.2 hp;have h1:=hr.1;rw [ha] at h1 ⊢;refine (ZSum.clone_calls ad x.data.length x.cap x.data w h1 hp (by omega)).mono ?_;rintro r w1 ⟨g,cap,rfl,ho,hb⟩;refine ⟨some ⟨g,0,none⟩,cap,rfl,hb,⟨ho.reads,?_⟩,fun ad h _=>?_⟩
  ·exact ho.le
  ·cases h;exact ⟨ho.from_,ho.lt⟩
def strip (x:NV):NV:={ x with addr:=none,cap:=0 }
structure C4 (w wr:World) (g cb:Nat) (m:List (Int×Int)) (l K:List NV) (j:Nat):Prop where
 bel:Below w.heap.size w wr
 row:Row wr g K
 map:MapAt wr ival ival cb m
 lo:w.heap.size≤g∧g < cb
 len:K.length=l.length
 done:∀ (i:Nat) (x:NV),i < j→l[i]?=some x→∃ y,K[i]?=some y∧strip y=strip x∧Cl wr g y
theorem C4.step {w wr w2:World} {g cb:Nat} {m:List (Int×Int)} {l K:List NV} {j:Nat} (h:C4 w wr g cb m l K j) (hb:Below wr.heap.size wr w2):C4 w w2 g cb m l K j :=
 ⟨below_step h.bel hb,h.row.of (hb.block _ h.row.lt),MapAt.of h.map (hb.block _ h.map.lt),h.lo,h.len,fun i x hi hx=>by obtain ⟨y,h1,h2,h3⟩:=h.done i x hi hx;exact ⟨y,h1,h2,h3.step hb.size fun k hk _=>hb.block k hk⟩⟩
theorem C4.set {w wr:World} {g cb:Nat} {m:List (Int×Int)} {l K:List NV} {j:Nat} (h:C4 w wr g cb m l K j) (y:NV):C4 w (wr.setRow g (rowCells (K.set j y)).toArray) g cb m l (K.set j y) j:=by have hlo:=h.lo;refine ⟨below_setRow h.bel hlo.1 _,row_setRow h.row _,MapAt.of h.map (setRow_other _ _ _ _ (by omega)),h.lo,by simp [h.len],fun i x hi hx=>?_⟩;obtain ⟨z,h1,h2,h3⟩:=h.done i x hi hx;refine ⟨z,?_,h2,h3.step (by rw [setRow_size];exact Nat.le_refl _) fun k _ hk=>setRow_other _ _ _ _ hk⟩;rw [List.getElem?_set_ne (by omega)];exact h1
theorem C4.next {w wr:World} {g cb:Nat} {m:List (Int×Int)} {l K:List NV} {j:Nat} (h:C4 w wr g cb m l K j) {x y:NV} (hx:l[j]?=some x) (hy:K[j]?=some y) (he:strip y=strip x) (hc:Cl wr g y):C4 w wr g cb m l K (j+1) :=
 ⟨h.bel,h.row,h.map,h.lo,h.len,fun i x' hi hx'=>by
  rcases Nat.lt_or_ge i j with h1 | h1
  ·exact h.done i x' h1 hx'
  ·
   obtain rfl:i=j:=by omega
   rw [hx] at hx';cases hx';exact ⟨y,hy,he,hc⟩⟩
def small (cnt:Int→Int) (c:Int):Prop:=c≤0∨cnt c < 2
instance (cnt:Int→Int) (c:Int):Decidable (small cnt c):=inferInstanceAs (Decidable (_∨_))
def reStep (cnt:Int→Int) (re:List (Int×Int)) (x:NV):List (Int×Int):=if small cnt x.cls then re else if num re x.cls=0 then ZMap.put re x.cls (re.length+1) else re
def clsOf (cnt:Int→Int) (re:List (Int×Int)) (x:NV):Int:=if small cnt x.cls then 0 else num (reStep cnt re x) x.cls
def reOf (cnt:Int→Int) (l:List NV):List (Int×Int):=l.foldl (reStep cnt) []
def newAt (cnt:Int→Int) (S:List NV) (i:Nat) (x:NV):NV:={ x with cls:=clsOf cnt (reOf cnt (S.take i)) x }
def renum (cnt:Int→Int) (S:List NV):List NV:=S.mapIdx (newAt cnt S)
theorem reOf_snoc (cnt:Int→Int) (l:List NV) (x:NV):reOf cnt (l++[x])=reStep cnt (reOf cnt l) x:=by unfold reOf;rw [List.foldl_append];rfl
theorem reStep_len (cnt:Int→Int) (re:List (Int×Int)) (x:NV):(reStep cnt re x).length≤re.length+1:=by
 unfold reStep;split
 ·omega
 ·
  split
  ·exact put_len_le _ _ _
  ·omega
theorem foldl_len (cnt:Int→Int) (l:List NV):∀ re:List (Int×Int),(l.foldl (reStep cnt) re).length≤re.length+l.length:=by
 induction l with
 | nil=>intro re;simp
 | cons x l ih =>intro re;have:=ih (reStep cnt re x);have h2:=reStep_len cnt re x;simp only [List.foldl_cons,List.length_cons];omega
theorem reOf_len (cnt:Int→Int) (l:List NV):(reOf cnt l).length≤l.length:=by have:=foldl_len cnt l [];simpa [reOf] using this
theorem len_map74 {w:World} {b:Nat} {l:List (Int×Int)} (h:MapAt w ival ival b l):(Builtin.len_ #[74] 3 #[.map (some b)]).run Tryz.prog w=.ok (.int .i64 l.length) w:=by have:=run_len_map (P:=Tryz.prog) (w:=w) 74 3 b _ _ (by kernel_rfl) h;rw [List.size_toArray,ents_len] at this;exact this
structure C5 (w wr:World) (g cb rb:Nat) (m:List (Int×Int)) (S K:List NV) (j:Nat):Prop where
 bel:Below w.heap.size w wr
 row:Row wr g K
 map:MapAt wr ival ival cb m
 re:MapAt wr ival ival rb (reOf (num m) (S.take j))
 lo:w.heap.size≤g∧g < cb∧cb < rb
 len:K.length=S.length
 cl:∀ (i:Nat) (y:NV),K[i]?=some y→Cl wr g y∧∀ ad,y.addr=some ad→0 < y.data.length→ad.block≠rb
 old:∀ (i:Nat),j≤i→K[i]?=S[i]?
 new:∀ (i:Nat) (x:NV),i < j→S[i]?=some x→K[i]?=some (newAt (num m) S i x)
theorem C5.putRe {w wr:World} {g cb rb:Nat} {m:List (Int×Int)} {S K:List NV} {j:Nat} (h:C5 w wr g cb rb m S K j) (m2:List (Int×Int)): MapAt (wr.putObj rb (.map (ents ival ival 0 m2).toArray m2.length)) ival ival rb m2∧Below w.heap.size w (wr.putObj rb (.map (ents ival ival 0 m2).toArray m2.length))∧(∀ k,k≠rb→(wr.putObj rb (.map (ents ival ival 0 m2).toArray m2.length)).heap[k]?=wr.heap[k]?)∧(wr.putObj rb (.map (ents ival ival 0 m2).toArray m2.length)).heap.size=wr.heap.size:=by
 have hl:=h.lo;exact ⟨MapAt.put h.re m2,below_put h.bel (by omega) _,fun k hk=>World.putObj_heap_other hk,World.putObj_size ..⟩
theorem C5.next {w wr wp:World} {g cb rb:Nat} {m:List (Int×Int)} {S K:List NV} {j:Nat} (h:C5 w wr g cb rb m S K j) {x:NV} (hx:S[j]?=some x) (hb:Below w.heap.size w wp) (hk:∀ k,k≠rb→wp.heap[k]?=wr.heap[k]?) (hs:wp.heap.size=wr.heap.size) (hm:MapAt wp ival ival rb (reStep (num m) (reOf (num m) (S.take j)) x)): C5 w (wp.setCell ⟨g,j * 6+5,none⟩ (.int .i64 (clsOf (num m) (reOf (num m) (S.take j)) x))) g cb rb m S (K.set j (newAt (num m) S j x)) (j+1):=by
 have hl:=h.lo;have hlt:=(List.getElem?_eq_some_iff.1 hx).1;have hrow:Row wp g K:=h.row.of (hk g (by omega));have hKj:K[j]?=some x:=by rw [h.old j (Nat.le_refl _),hx]
 have e:=row_setCell hrow j 5 x (newAt (num m) S j x) (.int .i64 (clsOf (num m) (reOf (num m) (S.take j)) x)) hKj (by decide) rfl;rw [e];refine ⟨below_setRow hb hl.1 _,row_setRow hrow _,MapAt.of h.map ((setRow_other _ _ _ _ (by omega)).trans (hk _ (by omega))),?_,h.lo,by simp [h.len],fun i y hy=>?_,fun i hi=>?_,fun i z hi hz=>?_⟩
 ·rw [take_snoc hx,reOf_snoc];exact MapAt.of hm (setRow_other _ _ _ _ (by omega))
 ·
  have key:∀ {z:NV},(Cl wr g z∧∀ ad,z.addr=some ad→0 < z.data.length→ad.block≠rb)→(Cl (wp.setRow g (rowCells (K.set j (newAt (num m) S j x))).toArray) g z∧∀ ad,z.addr=some ad→0 < z.data.length→ad.block≠rb):=by intro z ⟨hz,hf⟩;refine ⟨⟨⟨C_of hz.reads.1 fun ad ha hn=>(setRow_other _ _ _ _ (hz.out ad ha hn).1).trans (hk _ (hf ad ha hn)),hz.reads.2⟩,fun ad ha hn=>⟨(hz.out ad ha hn).1,?_⟩⟩,hf⟩;rw [setRow_size,hs];exact (hz.out ad ha hn).2
  rcases Nat.lt_trichotomy i j with h1 | h1 | h1
  ·rw [List.getElem?_set_ne (by omega)] at hy;exact key (h.cl i y hy)
  ·subst h1;rw [List.getElem?_set_self (by rw [h.len];exact hlt)] at hy;cases hy;exact ⟨(key (h.cl i x hKj)).1.of_eq rfl rfl rfl,(h.cl i x hKj).2⟩
  ·rw [List.getElem?_set_ne (by omega)] at hy;exact key (h.cl i y hy)
 ·rw [List.getElem?_set_ne (by omega)];exact h.old i (by omega)
 ·
  rcases Nat.lt_or_ge i j with h1 | h1
  ·rw [List.getElem?_set_ne (by omega)];exact h.new i z h1 hz
  ·
   obtain rfl:i=j:=by omega
   rw [hx] at hz;cases hz;rw [List.getElem?_set_self (by rw [h.len];exact hlt)]
set_option maxHeartbeats 8000000 in
theorem canon_calls (A:Option Addr) (cap:Nat) (l:List NV) (hn:l.length≤40) (hd:∀ x∈l,x.data.length≤1000000) (w:World) (hl:NodesAt w A l) (hc:l.length≤cap): Calls Tryz.prog 16 #[.slice A l.length cap] w fun r w'=>∃ g K S,r=.returned (.slice (some ⟨g,0,none⟩) l.length l.length)∧K.map strip=l.map strip∧S.Perm K∧S.Pairwise (fun x y=>lt y.path x.path=false)∧Below w.heap.size w w'∧w.heap.size≤g∧Row w' g (renum (num (countsOf (l.map (·.cls)))) S)∧∀ y∈renum (num (countsOf (l.map (·.cls)))) S,Cl w' g y:=by
 have HN:=hid hl;have HD:=hid hd;have MK:=make_row l.length (by omega);have hmm:=@run_makeMap Tryz.prog;have CC:=hid (counts_calls A cap l (by omega) (w.alloc (.cells (rowCells (List.replicate l.length zeroNV)).toArray 46)) (hl.below (below_alloc (Below.refl _ _) _)) hc);have R0:Hid (Row (w.alloc (.cells (rowCells (List.replicate l.length zeroNV)).toArray 46)) w.heap.size (List.replicate l.length zeroNV)):=hid (heap_alloc_new w _);have B0:=hid (below_alloc (Below.refl w.heap.size w) (.cells (rowCells (List.replicate l.length zeroNV)).toArray 46));clear hl hd;go_enter Tryz.func16,Tryz.ntmps16
 go_wp2_with fail
 obtain ⟨W1,hW1⟩:∃ X,w.alloc (.cells (rowCells (List.replicate l.length zeroNV)).toArray 46)=X:=⟨_,rfl⟩;rw [hW1] at CC R0 B0 ⊢;have HW:=hid hW1;refine CC.out.mono ?_;rintro r w2 ⟨cb,rfl,h3⟩;obtain ⟨g,hg⟩:∃ g,w.heap.size=g:=⟨_,rfl⟩;have S0:Hid (∃ K,C4 w w2 g cb (countsOf (l.map (·.cls))) l K 0):=hid (by
  have h1:=R0.out;have h2:=B0.out;have h4:=h3.lo;have h5:W1.heap.size=w.heap.size+1:=by rw [← hW1];simp
  rw [← hg];exact ⟨_,below_step h2 h3.bel,h1.of (h3.bel.block _ (by omega)),h3.row,⟨Nat.le_refl _,by omega⟩,by simp,fun i x h=>by omega⟩)
 clear hW1 h3 B0 R0 HW;rw [hg];have HGG:=hid hg;clear hg
 go_wp2_with fail
 go_loopw [17] (fun i wr=>∃ j:Nat,j≤l.length∧i=.int .i64 j∧Hid (∃ K,C4 w wr g cb (countsOf (l.map (·.cls))) l K j)) (fun i _=>l.length - (intOf i).toNat)
 case atStart=>exact ⟨0,Nat.zero_le _,rfl,S0⟩
 case round =>
  clear S0;obtain ⟨j,hj,rfl,HS⟩:=hrel;obtain ⟨K,HS⟩:=HS.out;replace HS:=hid HS;by_cases hlt:j < l.length
  ·
   have hltz:(j:Int) < (l.length:Int):=by omega
   obtain ⟨x,hx⟩:∃ x,l[j]?=some x:=⟨_,List.getElem?_eq_getElem hlt⟩;have hm:x∈l:=List.mem_of_getElem? hx;obtain ⟨b,o,hA,_,_⟩:=HN.out.row (fun e=>by rw [e] at hlt;simp at hlt);subst hA;obtain ⟨c0,c1,c2,c3,c4,c5⟩:=(HN.out.below HS.out.bel).cells j x hx;have S1:=hid (HS.out.step (below_alloc (Below.refl _ wr) (.cells x.cells.toArray 46)));obtain ⟨y,hy⟩:∃ y,K[j]?=some y:=⟨_,List.getElem?_eq_getElem (by rw [S1.out.len];exact hlt)⟩;have SIX:=six_store S1.out.row hy x;have S2:=hid (S1.out.set x);have hgw:g < wr.heap.size:=HS.out.row.lt;obtain ⟨W2,hW2⟩:∃ X,(wr.alloc (.cells x.cells.toArray 46)).setRow g (rowCells (K.set j x)).toArray=X:=⟨_,rfl⟩;rw [hW2] at S2 SIX;have HB2:Hid (W2.heap[wr.heap.size]?=some (.cells x.cells.toArray 46 (0,0))):=hid (by
    rw [← hW2,setRow_other _ _ _ _ (by omega)];exact heap_alloc_new _ _)
   have HB:=hid (heap_alloc_new wr (.cells x.cells.toArray 46));have CL:=hid (clone_nv x (HD.out x hm) W2 ((HN.out.below S2.out.bel).data x hm));have HX:=hid (And.intro hx hm);clear hx hm hW2 hgw hy;obtain ⟨kind,path,mode,target,addr,xcap,data,cls⟩:=x;unfold NV.cells at *;dsimp only at *;obtain ⟨d4⟩:PLift (W2.cell? ⟨wr.heap.size,4,none⟩=some (.slice addr data.length xcap)):=⟨cell_of HB2.out 4 _ rfl⟩;obtain ⟨u0,u1,u2,u3,u4,u5,m1,m2,m3,m4,m5,m6,m7,m8,m9,m10,m11,m12,m13⟩:=SIX
   go_wp2_with fail
   clear m1 m2 m3 m4 m5 m6 m7 m8 m9 m10 m11 m12 m13;refine CL.out.mono ?_;rintro r w3 ⟨A',c',rfl,hb,hrd,hfr⟩;have S3:=hid (S2.out.step hb);have hK:(K.set j ⟨kind,path,mode,target,addr,xcap,data,cls⟩)[j]?=some ⟨kind,path,mode,target,addr,xcap,data,cls⟩:=by have:=HS.out.len;rw [List.getElem?_set_self (by omega)]
   obtain ⟨n1,n2,n3,n4⟩:=row_cell_step S3.out.row hK 4 (by decide) (.slice A' data.length c') ⟨kind,path,mode,target,A',c',data,cls⟩ rfl;have n0:=row_cellD S3.out.row j 4 _ _ hK rfl;have hout:∀ ad,A'=some ad→0 < data.length→ad.block≠g∧ad.block < w3.heap.size:=fun ad h1 h2=>by have h3:=hfr ad h1 h2;have h4:=S2.out.row.lt;omega
   have S4:Hid (∃ K,C4 w (w3.setCell ⟨g,j * 6+4,none⟩ (.slice A' data.length c')) g cb (countsOf (l.map (·.cls))) l K (j+1)):=hid (by
    refine ⟨(K.set j ⟨kind,path,mode,target,addr,xcap,data,cls⟩).set j ⟨kind,path,mode,target,A',c',data,cls⟩,?_⟩;have h1:=S3.out.set ⟨kind,path,mode,target,A',c',data,cls⟩;rw [← n2] at h1;refine h1.next HX.out.1 n4 rfl ?_;have h2:Cl w3 g ⟨kind,path,mode,target,A',c',data,cls⟩:=⟨hrd,hout⟩;rw [n2];exact h2.step (by rw [setRow_size];exact Nat.le_refl _) fun k _ hk=>setRow_other _ _ _ _ hk)
   clear n2 n3 n4 hK hrd hfr hout hb
   go_wp2_with fail
   go_roundw
   case rel=>exact ⟨j+1,by omega,by go_num,S4⟩
   case measure=>simp [intOf];omega
  ·
   obtain rfl:j=l.length:=by omega
   have hlen:=HS.out.len;have hrow:=HS.out.row;have SORT:=sort_calls g l.length K wr hrow (by omega);rw [hlen] at SORT;have hstrip:K.map strip=l.map strip:=by
    apply List.ext_getElem?;intro i;simp only [List.getElem?_map];rcases Nat.lt_or_ge i l.length with h1 | h1
    ·obtain ⟨y,h2,h3,_⟩:=HS.out.done i l[i] h1 (List.getElem?_eq_getElem h1);rw [h2,List.getElem?_eq_getElem h1];simp [h3]
    ·rw [List.getElem?_eq_none (by omega),List.getElem?_eq_none (by omega)]
   have hclK:∀ y∈K,Cl wr g y:=by intro y hy;obtain ⟨i,hi⟩:=List.getElem?_of_mem hy;have h1:=(List.getElem?_eq_some_iff.1 hi).1;obtain ⟨z,h2,_,h4⟩:=HS.out.done i l[i] (by omega) (List.getElem?_eq_getElem (by omega));rw [hi] at h2;cases h2;exact h4
   have HK:=hid (And.intro hstrip hclK);clear hlen hrow hstrip hclK;replace SORT:=hid SORT
   go_wp2_with fail
   refine SORT.out.mono ?_;rintro r w4 ⟨rfl,S,q1,q2,q3,q4⟩;obtain ⟨rb,hrb⟩:∃ n,w4.heap.size=n:=⟨_,rfl⟩;have S0:Hid (∃ K2,C5 w (w4.alloc (.map #[] 0)) g cb rb (countsOf (l.map (·.cls))) S K2 0):=hid (by
    have hlo:=HS.out.lo;have hmlt:=HS.out.map.lt;have hsz:=q2.size;have b4:Below w.heap.size w w4:=⟨q2.os.trans HS.out.bel.os,q2.tape.trans HS.out.bel.tape,q2.output.trans HS.out.bel.output,by have:=HS.out.bel.size;omega,fun k hk=>(q2.keep k (by have:=HS.out.bel.size;omega) (by simp;omega)).trans (HS.out.bel.block k hk)⟩;refine ⟨S,b4.alloc (by have:=b4.size;omega) _,q1.of (heap_alloc_old _ _ q1.lt),MapAt.of HS.out.map ((heap_alloc_old _ _ (by omega)).trans (q2.keep cb hmlt (by simp;omega))),?_,⟨hlo.1,hlo.2,by omega⟩,rfl,fun i y hy=>?_,fun i _=>rfl,fun i x h=>by omega⟩
    ·rw [← hrb];exact MapAt.new w4
    ·have hy2:y∈K:=q3.mem_iff.1 (List.mem_of_getElem? hy);have c1:=HK.out.2 y hy2;have c2:Cl w4 g y:=c1.step hsz fun k hk hg=>q2.keep k hk (by simpa using hg);refine ⟨c2.step (by simp) fun k hk _=>heap_alloc_old _ _ hk,fun ad ha hn=>?_⟩;have:=(c2.out ad ha hn).2;omega)
   have HQ:=hid (And.intro q3 q4);have hSl:S.length=l.length:=by rw [q3.length_eq,HS.out.len]
   have HSL:=hid hSl;clear q1 q2 q3 q4 hSl HS SORT
   go_wp2_with fail
   obtain ⟨W5,hW5⟩:∃ X,w4.alloc (.map #[] 0)=X:=⟨_,rfl⟩;rw [hW5] at S0 ⊢;clear hW5 hrb
   go_loopw [39] (fun i wr=>∃ j:Nat,j≤l.length∧i=.int .i64 j∧Hid (∃ K,C5 w wr g cb rb (countsOf (l.map (·.cls))) S K j)) (fun i _=>l.length - (intOf i).toNat)
   case atStart=>exact ⟨0,Nat.zero_le _,rfl,S0⟩
   case round =>
    clear S0;obtain ⟨j,hj,rfl,HS⟩:=hrel;obtain ⟨K2,HS⟩:=HS.out;replace HS:=hid HS;by_cases hlt:j < l.length
    ·
     have hltz:(j:Int) < (l.length:Int):=by omega
     obtain ⟨x,hx⟩:∃ x,S[j]?=some x:=⟨_,List.getElem?_eq_getElem (by have:=HSL.out;omega)⟩;have hKj:K2[j]?=some x:=by rw [HS.out.old j (Nat.le_refl _),hx]
     have d5:=row_cellD HS.out.row j 5 x _ hKj rfl;have f5:=HS.out.row.frozen (j * 6+5);obtain ⟨m,hm⟩:∃ m,countsOf (l.map (·.cls))=m:=⟨_,rfl⟩;rw [hm] at HS;obtain ⟨re,hre⟩:∃ re,reOf (num m) (S.take j)=re:=⟨_,rfl⟩;have hget:=run_get map74 ikeys HS.out.map x.cls (.int .i64 0) (zero3 _);rw [int_get] at hget;obtain ⟨q,hq⟩:∃ q,(ZMap.get m x.cls).getD 0=q:=⟨_,rfl⟩;rw [hq] at hget;have NX:=hid (fun (wp:World) h1 h2 h3 h4=>HS.out.next (wp:=wp) hx h1 h2 h3 h4);rw [hre] at NX;have HX:=hid (And.intro hx (And.intro hKj (And.intro hm (And.intro hre hq))));clear hx hKj hre hq;by_cases hc0:x.cls≤0
     ·
      have SM:=hid (show small (num m) x.cls from .inl hc0)
      go_wp2_with fail
      go_roundw
      case rel =>have h:=NX.out wr HS.out.bel (fun _ _=>rfl) rfl;unfold clsOf reStep at h;rw [if_pos SM.out,if_pos SM.out] at h;rw [HX.out.2.2.1];exact ⟨j+1,by omega,by go_num,hid ⟨_,h (by have:=HS.out.re;rwa [HX.out.2.2.2.1] at this)⟩⟩
      case measure=>simp [intOf];omega
     ·
      have HC:=hid hc0;by_cases hq2:q < 2
      ·
       have SM:=hid (show small (num m) x.cls from .inr (by unfold num;rw [HX.out.2.2.2.2];exact hq2))
       go_wp2_with fail
       go_roundw
       case rel =>have h:=NX.out wr HS.out.bel (fun _ _=>rfl) rfl;unfold clsOf reStep at h;rw [if_pos SM.out,if_pos SM.out] at h;rw [HX.out.2.2.1];exact ⟨j+1,by omega,by go_num,hid ⟨_,h (by have:=HS.out.re;rwa [HX.out.2.2.2.1] at this)⟩⟩
       case measure=>simp [intOf];omega
      ·
       have SM:=hid (show ¬ small (num m) x.cls from fun h=>h.elim HC.out fun h=>by unfold num at h;rw [HX.out.2.2.2.2] at h;exact hq2 h);have HR:Hid (MapAt wr ival ival rb re):=hid (by have:=HS.out.re;rwa [HX.out.2.2.2.1] at this);have hget2:=run_get map74 ikeys HR.out x.cls (.int .i64 0) (zero3 _);rw [int_get] at hget2;obtain ⟨p,hp⟩:∃ p,(ZMap.get re x.cls).getD 0=p:=⟨_,rfl⟩;rw [hp] at hget2;have HP:=hid hp;clear hp;by_cases hp0:p=0
       ·
        have bp:(p == 0)=true:=beq_iff_eq.2 hp0;have HP0:=hid hp0;clear hp0;obtain ⟨n,hn2⟩:∃ n,re.length=n:=⟨_,rfl⟩;have hlenm:=len_map74 HR.out;rw [hn2] at hlenm;have hnb:(n:Int)≤1000:=by have h1:=reOf_len (num m) (S.take j);rw [HX.out.2.2.2.1,List.length_take] at h1;omega
        have hput:=run_put map74 ikeys HR.out x.cls ((n:Int)+1);obtain ⟨g1,g2,g3,g4⟩:=HS.out.putRe (ZMap.put re x.cls ((n:Int)+1));obtain ⟨W6,hW6⟩:∃ X,wr.putObj rb (.map (ents ival ival 0 (ZMap.put re x.cls ((n:Int)+1))).toArray (ZMap.put re x.cls ((n:Int)+1)).length)=X:=⟨_,rfl⟩;rw [hW6] at hput g1 g2 g3 g4;have hget3:=run_get map74 ikeys g1 x.cls (.int .i64 0) (zero3 _);rw [int_get,get_put,if_pos rfl] at hget3;have dd5:=row_cellD (HS.out.row.of (g3 g (by have:=HS.out.lo;omega))) j 5 x _ HX.out.2.1 rfl;have ff5:=(HS.out.row.of (g3 g (by have:=HS.out.lo;omega))).frozen (j * 6+5);have GG:=hid (And.intro g1 (And.intro g2 (And.intro g3 g4)));have HN2:=hid hn2;clear g1 g2 g3 g4 hW6 hn2;simp only [Option.getD_some] at hget3
        go_wp2_with fail
        go_roundw
        case rel =>have h:=NX.out W6 GG.out.2.1 GG.out.2.2.1 GG.out.2.2.2;unfold clsOf reStep at h;rw [if_neg SM.out,if_neg SM.out,if_pos (by unfold num;rw [HP.out];exact HP0.out),HN2.out] at h;rw [show num (ZMap.put re x.cls ((n:Int)+1)) x.cls=(n:Int)+1 by unfold num;rw [get_put,if_pos rfl];rfl] at h;rw [HX.out.2.2.1];exact ⟨j+1,by omega,by go_num,hid ⟨_,h GG.out.1⟩⟩
        case measure=>simp [intOf];omega
       ·
        have bp:(p == 0)=false:=beq_eq_false_iff_ne.2 hp0;have HP0:=hid hp0;clear hp0
        go_wp2_with fail
        go_roundw
        case rel =>have h:=NX.out wr HS.out.bel (fun _ _=>rfl) rfl;unfold clsOf reStep at h;rw [if_neg SM.out,if_neg SM.out,if_neg (by unfold num;rw [HP.out];exact HP0.out),show num re x.cls=p from HP.out] at h;rw [HX.out.2.2.1];exact ⟨j+1,by omega,by go_num,hid ⟨_,h HR.out⟩⟩
        case measure=>simp [intOf];omega
    ·
     obtain rfl:j=l.length:=by omega
     go_wp2_with fail
     go_ret;obtain ⟨q3,q4⟩:=HQ.out;have hlen:=HS.out.len;have hsl:=HSL.out;have hK2:K2=renum (num (countsOf (l.map (·.cls)))) S:=by
      apply List.ext_getElem?;intro i;unfold renum;rw [List.getElem?_mapIdx];rcases Nat.lt_or_ge i S.length with h1 | h1
      ·rw [HS.out.new i S[i] (by omega) (List.getElem?_eq_getElem h1),List.getElem?_eq_getElem h1];rfl
      ·rw [List.getElem?_eq_none (by omega),List.getElem?_eq_none (by omega)];rfl
     refine ⟨g,K,S,rfl,HK.out.1,q3,q4,HS.out.bel,HS.out.lo.1,?_,fun y hy=>?_⟩
     ·rw [← hK2];exact HS.out.row
     ·rw [← hK2] at hy;obtain ⟨i,hi⟩:=List.getElem?_of_mem hy;exact (HS.out.cl i y hi).1
end ZCanon
namespace ZMem
open ZCanon
structure MB where
 ent:Ent
 addr:Option Addr
 cap:Nat
 data:List Int
instance:Inhabited MB:=⟨⟨default,none,0,[]⟩⟩
def MB.cells (x:MB):List Value:=[.int .i64 x.ent.kind,.string x.ent.path,.int .i64 x.ent.mode,.string x.ent.target,.int .i64 x.ent.size,.slice x.addr x.data.length x.cap]
def linked (m:List (Int×ByteArray)) (x:NV):Option ByteArray:=if x.kind=1∧0 < x.cls then ZMap.get m x.cls else none
def memOf (m:List (Int×ByteArray)) (x:NV):MB:=match linked m x with
 | some p=>⟨⟨3,x.path,x.mode,p,0⟩,none,0,[]⟩
 | none=>if x.kind=1 then ⟨⟨x.kind,x.path,x.mode,x.target,x.data.length⟩,x.addr,x.cap,x.data⟩ else ⟨⟨x.kind,x.path,x.mode,x.target,0⟩,none,0,[]⟩
def memStep (m:List (Int×ByteArray)) (x:NV):List (Int×ByteArray):=match linked m x with
 | some _=>m
 | none=>if x.kind=1 then ZMap.put m x.cls x.path else m
def memS (l:List NV):List (Int×ByteArray)×List MB:=l.foldl (fun s x=>(memStep s.1 x,s.2++[memOf s.1 x])) ([],[])
theorem memS_snoc (l:List NV) (x:NV):memS (l++[x])=(memStep (memS l).1 x,(memS l).2++[memOf (memS l).1 x]):=by unfold memS;rw [List.foldl_append];rfl
def memCells (l:List MB):List Value:=l.flatMap MB.cells
theorem memCells_snoc (l:List MB) (x:MB):memCells (l++[x])=memCells l++x.cells:=by simp [memCells]
theorem mb_one (x:MB):∀ v∈x.cells,v.oneCell'=true:=by intro v hv;simp only [MB.cells,List.mem_cons,List.not_mem_nil,or_false] at hv;rcases hv with rfl | rfl | rfl | rfl | rfl | rfl <;> rfl
theorem info56:(Tryz.prog.info? 56).map (fun i=>(i.zero,i.size,i.bytes))=some (some (.agg #[.int .i64 0,.string ⟨#[]⟩,.int .i64 0,.string ⟨#[]⟩,.int .i64 0,.slice none 0 0]),6,80):=by kernel_rfl
theorem map156:Tryz.prog.underlying 156=some (.map 3 9):=Tryz.underlying156
theorem zero9 (w:World):(zeroValue 9).run Tryz.prog w=.ok (.string ⟨#[]⟩) w:=by kernel_rfl
theorem str_get (o:Option ByteArray):(o.map Value.string).getD (.string ⟨#[]⟩)=.string (o.getD ⟨#[]⟩):=by cases o <;> rfl
theorem C_ne_map {w:World} {A:Option Addr} {n:Nat} {l:List Int} (h:Kd.C (Kd.int .u8) w A n l) {mb:Nat} {es:Array MapEntry} {ck:Nat} (hm:w.heap[mb]?=some (.map es ck)) (ad:Addr) (ha:A=some ad) (hn:0 < n):ad.block≠mb:=by
 intro hb;have hlen:=Kd.C_len h;obtain ⟨ad',e,hc⟩:=h.2.2 hn;rw [ha] at e;cases e;obtain ⟨c,hl,hk,hv⟩:=hc 0 l[0] (List.getElem?_eq_getElem (by omega));have hc0:c.length=1:=(Kd.int .u8).K_len hk;have h1:=hv 0 c[0] (List.getElem?_eq_getElem (by omega));have h2:w.heap[(ad.add (0 * (Kd.int .u8).sz+0)).block]?=some (.map es ck):=by rw [ZMo.add_block,hb];exact hm
 simp only [World.cell?,h2] at h1;cases h1
theorem own_slice {w:World} {base e size n:Nat} {v:Value} {xs:List Value} (h:w.ownsRow base e size v n xs):∃ A c,v=.slice A n c:=by
 rcases h.2 with ⟨rfl,rfl⟩ | ⟨g,cap,cur,rfl,_⟩
 ·exact ⟨_,_,rfl⟩
 ·exact ⟨_,_,rfl⟩
theorem link_none {m:List (Int×ByteArray)} {x:NV} (h:linked m x=none) (hk:x.kind≠1):memOf m x=⟨⟨x.kind,x.path,x.mode,x.target,0⟩,none,0,[]⟩∧memStep m x=m:=by unfold memOf memStep;rw [h];simp [hk]
theorem link_file {m:List (Int×ByteArray)} {x:NV} (h:linked m x=none) (hk:x.kind=1):memOf m x=⟨⟨x.kind,x.path,x.mode,x.target,x.data.length⟩,x.addr,x.cap,x.data⟩∧memStep m x=ZMap.put m x.cls x.path:=by unfold memOf memStep;rw [h];simp [hk]
theorem link_some {m:List (Int×ByteArray)} {x:NV} {p:ByteArray} (h:linked m x=some p):memOf m x=⟨⟨3,x.path,x.mode,p,0⟩,none,0,[]⟩∧memStep m x=m:=by unfold memOf memStep;rw [h];simp
theorem slice2 (w:World) (a b:Obj):Value.slice (some ⟨w.heap.size+1+1,0,none⟩) 1 1=.slice (some ⟨((w.alloc a).alloc b).heap.size,0,none⟩) 1 1:=by simp
structure C6 (w wr:World) (B g mb:Nat) (v:Value) (C:List NV) (j:Nat):Prop where
 bel:Below w.heap.size w wr
 row:Row wr g C
 map:MapAt wr ival Value.string mb (memS (C.take j)).1
 own:wr.ownsRow B 56 6 v j (memCells (memS (C.take j)).2)
 lo:w.heap.size≤mb∧mb < g∧g < B∧B≤wr.heap.size
 cl:∀ y∈C,Reads wr y∧∀ ad,y.addr=some ad→0 < y.data.length→ad.block≠mb∧ad.block < B
theorem C6.move {w wr w2:World} {B g mb:Nat} {v v2:Value} {C:List NV} {j k:Nat} (h:C6 w wr B g mb v C j) (hb:Below B wr w2) (ho:w2.ownsRow B 56 6 v2 k (memCells (memS (C.take k)).2)) (hm:(memS (C.take k)).1=(memS (C.take j)).1):C6 w w2 B g mb v2 C k:=by
 have hl:=h.lo;have hs:=hb.size;refine ⟨⟨hb.os.trans h.bel.os,hb.tape.trans h.bel.tape,hb.output.trans h.bel.output,by have:=h.bel.size;omega,fun i hi=>(hb.block i (by omega)).trans (h.bel.block i hi)⟩,h.row.of (hb.block _ hl.2.2.1),?_,ho,⟨hl.1,hl.2.1,hl.2.2.1,by omega⟩,fun y hy=>?_⟩
 ·rw [hm];exact MapAt.of h.map (hb.block _ (by omega))
 ·obtain ⟨h1,h2⟩:=h.cl y hy;exact ⟨⟨C_of h1.1 fun ad ha hn=>hb.block _ (h2 ad ha hn).2,h1.2⟩,h2⟩
theorem C6.step {w wr w2:World} {B g mb:Nat} {v:Value} {C:List NV} {j:Nat} (h:C6 w wr B g mb v C j) (hb:Below wr.heap.size wr w2):C6 w w2 B g mb v C j :=
 h.move (hb.mono h.lo.2.2.2) (pw_own_below h.own hb) rfl
theorem C6.put {w wr:World} {B g mb:Nat} {v:Value} {C:List NV} {j:Nat} (h:C6 w wr B g mb v C j) (m2:List (Int×ByteArray)): let W:=wr.putObj mb (.map (ents ival Value.string 0 m2).toArray m2.length)
  Below w.heap.size w W∧Row W g C∧MapAt W ival Value.string mb m2∧W.ownsRow B 56 6 v j (memCells (memS (C.take j)).2)∧W.heap.size=wr.heap.size∧(∀ y∈C,Reads W y∧∀ ad,y.addr=some ad→0 < y.data.length→ad.block≠mb∧ad.block < B):=by
 have hl:=h.lo;refine ⟨below_put h.bel hl.1 _,h.row.of (World.putObj_heap_other (by omega)),MapAt.put h.map m2,own_move h.own fun k hk=>World.putObj_heap_other (by have:=own_base h.own k hk;omega),World.putObj_size ..,fun y hy=>?_⟩;obtain ⟨h1,h2⟩:=h.cl y hy;exact ⟨⟨C_of h1.1 fun ad ha hn=>World.putObj_heap_other (h2 ad ha hn).1,h1.2⟩,h2⟩
theorem C6.file {w V W4 w9:World} {B g mb:Nat} {v v2:Value} {C:List NV} {j:Nat} {m2:List (Int×ByteArray)} (h:C6 w V B g mb v C j) (P:Below w.heap.size w W4∧Row W4 g C∧MapAt W4 ival Value.string mb m2∧W4.ownsRow B 56 6 v j (memCells (memS (C.take j)).2)∧W4.heap.size=V.heap.size∧(∀ y∈C,Reads W4 y∧∀ ad,y.addr=some ad→0 < y.data.length→ad.block≠mb∧ad.block < B)) (hb:Below B W4 w9) (hm:(memS (C.take (j+1))).1=m2) (ho:w9.ownsRow B 56 6 v2 (j+1) (memCells (memS (C.take (j+1))).2)):C6 w w9 B g mb v2 C (j+1):=by
 obtain ⟨p1,p2,p3,p4,p5,p6⟩:=P;have hl:=h.lo;have hs:=hb.size;refine ⟨⟨hb.os.trans p1.os,hb.tape.trans p1.tape,hb.output.trans p1.output,by have:=p1.size;omega,fun i hi=>(hb.block i (by omega)).trans (p1.block i hi)⟩,p2.of (hb.block _ hl.2.2.1),?_,ho,⟨hl.1,hl.2.1,hl.2.2.1,by omega⟩,fun y hy=>?_⟩
 ·rw [hm];exact MapAt.of p3 (hb.block _ (by omega))
 ·obtain ⟨h1,h2⟩:=p6 y hy;exact ⟨⟨C_of h1.1 fun ad ha hn=>hb.block _ (h2 ad ha hn).2,h1.2⟩,h2⟩
set_option maxHeartbeats 8000000 in
theorem members_calls (A:Option Addr) (cap:Nat) (l:List NV) (hn:l.length≤40) (hd:∀ x∈l,x.data.length≤1000000) (hp:∀ x∈l,x.path.size≤1000000) (w:World) (hG:Gl w) (hl:NodesAt w A l) (hc:l.length≤cap): Calls Tryz.prog 51 #[.slice A l.length cap] w fun r w'=>Below w.heap.size w w' ∧ ((∃ i e:Int,r=.returned (.tuple #[.slice none 0 0,.int .i64 i,.int .i64 e])∧e≠0∧¬ TreeOk l) ∨ (TreeOk l∧∃ v K S C,r=.returned (.tuple #[v,.int .i64 l.length,.int .i64 0])∧K.map strip=l.map strip∧S.Perm K∧S.Pairwise (fun x y=>lt y.path x.path=false)∧C=renum (num (countsOf (l.map (·.cls)))) S ∧ w'.ownsRow w.heap.size 56 6 v l.length (memCells (memS C).2)∧∀ y∈C,Reads w' y)):=by
 have HN:=hid hl;have HC:=hid (ZTCheck.check_calls A cap l hd hp (by omega) w hG hl hc);have CAN:=hid (fun w1 (h:NodesAt w1 A l)=>canon_calls A cap l hn hd w1 h hc);have hmm:=@run_makeMap Tryz.prog;clear hl hG;go_enter Tryz.func51,Tryz.ntmps51
 go_wp2_with fail
 refine HC.out.mono ?_;rintro r w1 ⟨i,e,rfl,he,hb⟩;have HB:=hid hb;have HE:=hid he;clear hb he HC;by_cases he0:e=0
 ·
  subst he0;have be:((0:Int) != 0)=false:=rfl;have TOK:=hid (HE.out.1 rfl);clear HE
  go_wp2_with fail
  refine (CAN.out _ (HN.out.below (HB.out.alloc HB.out.size _))).mono ?_;rintro r w2 ⟨g,K,S,rfl,q1,q2,q3,q4,q5,q6,q7⟩;obtain ⟨C,hC⟩:∃ C,renum (num (countsOf (l.map (·.cls)))) S=C:=⟨_,rfl⟩;have hCl:C.length=l.length:=by rw [← hC];have:=congrArg List.length q1;simp only [List.length_map] at this;simp [renum,q2.length_eq,this]
  rw [hC] at q6 q7;rw [← hCl];obtain ⟨mb,hmb⟩:∃ n,w1.heap.size=n:=⟨_,rfl⟩;obtain ⟨B,hB⟩:∃ n,w2.heap.size=n:=⟨_,rfl⟩;have S0:Hid (C6 w w2 B g mb (.slice none 0 0) C 0):=hid (by
   have h1:=q4.size;have h2:=heap_alloc_new w1 (.map #[] 0);have h3:=HB.out.size;have hs:(w1.alloc (.map #[] 0)).heap.size=w1.heap.size+1:=by simp
   have h4:=q6.lt;have hmp:w2.heap[mb]?=some (.map #[] 0):=by rw [← hmb];exact (q4.block _ (by omega)).trans h2
   refine ⟨?_,q6,hmp,World.ownsRow_nil _ _ _ _,⟨by omega,by omega,by omega,by omega⟩,fun y hy=>⟨(q7 y hy).reads,fun ad ha hn=>⟨C_ne_map (q7 y hy).reads.1 hmp ad ha hn,?_⟩⟩⟩
   ·exact (HB.out.alloc h3 _).trans (q4.mono (by omega))
   ·rw [← hB];exact ((q7 y hy).out ad ha hn).2)
  have HQ:=hid (And.intro q1 (And.intro q2 (And.intro q3 (And.intro hC hCl))));have hC40:C.length≤40:=by omega
  clear q1 q2 q3 q4 q5 q6 q7 hC hCl hn
  go_wp2_with fail
  clear hmb hB
  go_loopw [27,8] (fun i v wr=>∃ j:Nat,j≤C.length∧i=.int .i64 j∧Hid (C6 w wr B g mb v C j)) (fun i _ _=>C.length - (intOf i).toNat)
  case atStart=>exact ⟨0,Nat.zero_le _,rfl,S0⟩
  case round =>
   clear S0;obtain ⟨j,hj,rfl,HS⟩:=hrel;by_cases hlt:j < C.length
   ·
    have hltz:(j:Int) < (C.length:Int):=by omega
    obtain ⟨x,hx⟩:∃ x,C[j]?=some x:=⟨_,List.getElem?_eq_getElem hlt⟩;have c0:=row_cellD HS.out.row j 0 x _ hx rfl;have c1:=row_cellD HS.out.row j 1 x _ hx rfl;have c2:=row_cellD HS.out.row j 2 x _ hx rfl;have c3:=row_cellD HS.out.row j 3 x _ hx rfl;have c4:=row_cellD HS.out.row j 4 x _ hx rfl;have c5:=row_cellD HS.out.row j 5 x _ hx rfl;simp only [Nat.add_zero] at c0;obtain ⟨m,hm⟩:∃ m,(memS (C.take j)).1=m:=⟨_,rfl⟩;have SN:=hid (memS_snoc (C.take j) x);rw [← take_snoc hx,hm] at SN;have HX:=hid (And.intro hx hm);have S1:=hid (HS.out.step (((Below.refl wr.heap.size wr).alloc (Nat.le_refl _) (.cells x.cells.toArray 46)).alloc (by simp) (.cells #[.int .i64 x.kind,.string x.path,.int .i64 x.mode,.string x.target,.int .i64 0,.slice none 0 0] 56)));have hget:=run_get_ok map156 ikeys S1.out.map x.cls _ (zero9 _);rw [hm,str_get] at hget;obtain ⟨A0,cc,rfl⟩:=own_slice HS.out.own;have hlen:(j+1) * 80≤140737488355328:=by omega
    clear hx hm;obtain ⟨kind,path,mode,target,addr,xcap,data,cls⟩:=x;unfold NV.cells at *;dsimp only at *;by_cases hk:kind=1
    ·
     have bk:(kind == 1)=true:=beq_iff_eq.2 hk;have HK:=hid hk;clear hk;by_cases hc:0 < cls
     ·
      cases hgm:ZMap.get m cls with
      | some p =>
       rw [hgm] at hget;have LN:=hid (link_some (m:=m) (x:=⟨kind,path,mode,target,addr,xcap,data,cls⟩) (p:=p) (by unfold linked;rw [if_pos ⟨HK.out,hc⟩];exact hgm));simp only [Option.getD_some,Option.isSome_some] at hget;clear hgm;have S2:=hid (HS.out.step (((Below.refl wr.heap.size wr).alloc (Nat.le_refl _) (.cells #[.int .i64 kind,.string path,.int .i64 mode,.string target,.slice addr data.length xcap,.int .i64 cls] 46)).alloc (by simp) (.cells #[.int .i64 3,.string path,.int .i64 mode,.string p,.int .i64 0,.slice none 0 0] 56)))
       go_wp2_with (at_builtin;(refine print_append_cells (w0:=(wr.alloc (.cells #[.int .i64 kind,.string path,.int .i64 mode,.string target,.slice addr data.length xcap,.int .i64 cls] 46)).alloc (.cells #[.int .i64 3,.string path,.int .i64 mode,.string p,.int .i64 0,.slice none 0 0] 56)) B rfl (.tmp 82) (.tmp 84) 49 56 (.agg #[.int .i64 0,.string ⟨#[]⟩,.int .i64 0,.string ⟨#[]⟩,.int .i64 0,.slice none 0 0]) 6 80 rfl Tryz.underlying49 info56 rfl (by decide) (by decide) _ j (memCells (memS (C.take j)).2) (MB.cells ⟨⟨3,path,mode,p,0⟩,none,0,[]⟩) rfl (slice2 _ _ _) rfl (mb_one _) S2.out.own (Below.refl _ _) S2.out.lo.2.2.2 hlen ?_;intro v1 w9 hr9 hb9 _ _;replace hr9:=hid hr9;replace hb9:=hid hb9))
       go_roundw
       case rel =>
        refine ⟨j+1,by omega,by go_num,hid (S2.out.move hb9.out ?_ ?_)⟩
        ·rw [SN.out,LN.out.1,memCells_snoc];exact hr9.out
        ·rw [SN.out,LN.out.2,HX.out.2]
       case measure=>simp [intOf];omega
      | none =>
       rw [hgm] at hget;simp only [Option.getD_none,Option.isSome_none] at hget;have LN:=hid (link_file (m:=m) (x:=⟨kind,path,mode,target,addr,xcap,data,cls⟩) (by unfold linked;rw [if_pos ⟨HK.out,hc⟩];exact hgm) HK.out)
       go_wp2_with fail
       go_big_region
       have S2:=hid (HS.out.step ((((Below.refl wr.heap.size wr).alloc (Nat.le_refl _) (.cells #[.int .i64 kind,.string path,.int .i64 mode,.string target,.slice addr data.length xcap,.int .i64 cls] 46)).alloc (by simp) (.cells #[.int .i64 kind,.string path,.int .i64 mode,.string target,.int .i64 data.length,.slice addr data.length xcap] 56)).drew));have hm2:(memS (C.take j)).1=m:=HX.out.2;have hmap:=S2.out.map;rw [hm2] at hmap;have hput:=run_put map156 ikeys hmap cls path;have P:=S2.out.put (ZMap.put m cls path);obtain ⟨W4,hW4⟩:∃ X,(((wr.alloc (.cells #[.int .i64 kind,.string path,.int .i64 mode,.string target,.slice addr data.length xcap,.int .i64 cls] 46)).alloc (.cells #[.int .i64 kind,.string path,.int .i64 mode,.string target,.int .i64 data.length,.slice addr data.length xcap] 56)).drew).putObj mb (.map (ents ival Value.string 0 (ZMap.put m cls path)).toArray (ZMap.put m cls path).length)=X:=⟨_,rfl⟩;dsimp only at P;rw [hW4] at hput P;have hB4:W4.heap[wr.heap.size+1]?=some (.cells #[.int .i64 kind,.string path,.int .i64 mode,.string target,.int .i64 data.length,.slice addr data.length xcap] 56 (0,0)):=by have h1:=HS.out.lo;rw [← hW4,World.putObj_heap_other (by omega)];exact heap_alloc2_new wr _ _
       obtain ⟨e0,e1,e2,e3,e4,e5⟩:W4.cell? ⟨wr.heap.size+1,0,none⟩=some (.int .i64 kind)∧W4.cell? ⟨wr.heap.size+1,1,none⟩=some (.string path)∧W4.cell? ⟨wr.heap.size+1,2,none⟩=some (.int .i64 mode)∧W4.cell? ⟨wr.heap.size+1,3,none⟩=some (.string target)∧W4.cell? ⟨wr.heap.size+1,4,none⟩=some (.int .i64 data.length)∧W4.cell? ⟨wr.heap.size+1,5,none⟩=some (.slice addr data.length xcap):=⟨cell_of hB4 0 _ rfl,cell_of hB4 1 _ rfl,cell_of hB4 2 _ rfl,cell_of hB4 3 _ rfl,cell_of hB4 4 _ rfl,cell_of hB4 5 _ rfl⟩;have P4:=hid P;clear P hmap hW4 hm2 hB4
       go_wp2_with (at_builtin;(refine print_append_cells (w0:=W4) B rfl (.tmp 82) (.tmp 84) 49 56 (.agg #[.int .i64 0,.string ⟨#[]⟩,.int .i64 0,.string ⟨#[]⟩,.int .i64 0,.slice none 0 0]) 6 80 rfl Tryz.underlying49 info56 rfl (by decide) (by decide) _ j (memCells (memS (C.take j)).2) (MB.cells ⟨⟨kind,path,mode,target,data.length⟩,addr,xcap,data⟩) rfl rfl rfl (mb_one _) P4.out.2.2.2.1 (Below.refl _ _) (by rw [P4.out.2.2.2.2.1];exact S2.out.lo.2.2.2) hlen ?_;intro v1 w9 hr9 hb9 _ _;replace hr9:=hid hr9;replace hb9:=hid hb9))
       go_roundw
       case rel =>
        refine ⟨j+1,by omega,by go_num,hid (S2.out.file P4.out hb9.out ?_ ?_)⟩
        ·rw [SN.out,LN.out.2]
        ·rw [SN.out,LN.out.1,memCells_snoc];exact hr9.out
       case measure=>simp [intOf];omega
     ·
      have LN:=hid (link_file (m:=m) (x:=⟨kind,path,mode,target,addr,xcap,data,cls⟩) (by unfold linked;rw [if_neg (fun h=>hc h.2)]) HK.out)
      go_wp2_with fail
      go_big_region
      have S2:=hid (HS.out.step ((((Below.refl wr.heap.size wr).alloc (Nat.le_refl _) (.cells #[.int .i64 kind,.string path,.int .i64 mode,.string target,.slice addr data.length xcap,.int .i64 cls] 46)).alloc (by simp) (.cells #[.int .i64 kind,.string path,.int .i64 mode,.string target,.int .i64 data.length,.slice addr data.length xcap] 56)).drew));have hm2:(memS (C.take j)).1=m:=HX.out.2;have hmap:=S2.out.map;rw [hm2] at hmap;have hput:=run_put map156 ikeys hmap cls path;have P:=S2.out.put (ZMap.put m cls path);obtain ⟨W4,hW4⟩:∃ X,(((wr.alloc (.cells #[.int .i64 kind,.string path,.int .i64 mode,.string target,.slice addr data.length xcap,.int .i64 cls] 46)).alloc (.cells #[.int .i64 kind,.string path,.int .i64 mode,.string target,.int .i64 data.length,.slice addr data.length xcap] 56)).drew).putObj mb (.map (ents ival Value.string 0 (ZMap.put m cls path)).toArray (ZMap.put m cls path).length)=X:=⟨_,rfl⟩;dsimp only at P;rw [hW4] at hput P;have hB4:W4.heap[wr.heap.size+1]?=some (.cells #[.int .i64 kind,.string path,.int .i64 mode,.string target,.int .i64 data.length,.slice addr data.length xcap] 56 (0,0)):=by have h1:=HS.out.lo;rw [← hW4,World.putObj_heap_other (by omega)];exact heap_alloc2_new wr _ _
      obtain ⟨e0,e1,e2,e3,e4,e5⟩:W4.cell? ⟨wr.heap.size+1,0,none⟩=some (.int .i64 kind)∧W4.cell? ⟨wr.heap.size+1,1,none⟩=some (.string path)∧W4.cell? ⟨wr.heap.size+1,2,none⟩=some (.int .i64 mode)∧W4.cell? ⟨wr.heap.size+1,3,none⟩=some (.string target)∧W4.cell? ⟨wr.heap.size+1,4,none⟩=some (.int .i64 data.length)∧W4.cell? ⟨wr.heap.size+1,5,none⟩=some (.slice addr data.length xcap):=⟨cell_of hB4 0 _ rfl,cell_of hB4 1 _ rfl,cell_of hB4 2 _ rfl,cell_of hB4 3 _ rfl,cell_of hB4 4 _ rfl,cell_of hB4 5 _ rfl⟩;have P4:=hid P;clear P hmap hW4 hm2 hB4
      go_wp2_with (at_builtin;(refine print_append_cells (w0:=W4) B rfl (.tmp 82) (.tmp 84) 49 56 (.agg #[.int .i64 0,.string ⟨#[]⟩,.int .i64 0,.string ⟨#[]⟩,.int .i64 0,.slice none 0 0]) 6 80 rfl Tryz.underlying49 info56 rfl (by decide) (by decide) _ j (memCells (memS (C.take j)).2) (MB.cells ⟨⟨kind,path,mode,target,data.length⟩,addr,xcap,data⟩) rfl rfl rfl (mb_one _) P4.out.2.2.2.1 (Below.refl _ _) (by rw [P4.out.2.2.2.2.1];exact S2.out.lo.2.2.2) hlen ?_;intro v1 w9 hr9 hb9 _ _;replace hr9:=hid hr9;replace hb9:=hid hb9))
      go_roundw
      case rel =>
       refine ⟨j+1,by omega,by go_num,hid (S2.out.file P4.out hb9.out ?_ ?_)⟩
       ·rw [SN.out,LN.out.2]
       ·rw [SN.out,LN.out.1,memCells_snoc];exact hr9.out
      case measure=>simp [intOf];omega
    ·
     have bk:(kind == 1)=false:=beq_eq_false_iff_ne.2 hk;have HK:=hid hk;have LN:=hid (link_none (m:=m) (x:=⟨kind,path,mode,target,addr,xcap,data,cls⟩) (by unfold linked;rw [if_neg (fun h=>hk h.1)]) hk);clear hk
     go_wp2_with (at_builtin;(refine print_append_cells (w0:=(wr.alloc (.cells #[.int .i64 kind,.string path,.int .i64 mode,.string target,.slice addr data.length xcap,.int .i64 cls] 46)).alloc (.cells #[.int .i64 kind,.string path,.int .i64 mode,.string target,.int .i64 0,.slice none 0 0] 56)) B rfl (.tmp 82) (.tmp 84) 49 56 (.agg #[.int .i64 0,.string ⟨#[]⟩,.int .i64 0,.string ⟨#[]⟩,.int .i64 0,.slice none 0 0]) 6 80 rfl Tryz.underlying49 info56 rfl (by decide) (by decide) _ j (memCells (memS (C.take j)).2) (MB.cells ⟨⟨kind,path,mode,target,0⟩,none,0,[]⟩) rfl (slice2 _ _ _) rfl (mb_one _) S1.out.own (Below.refl _ _) S1.out.lo.2.2.2 hlen ?_;intro v1 w9 hr9 hb9 _ _;replace hr9:=hid hr9;replace hb9:=hid hb9))
     go_roundw
     case rel =>
      refine ⟨j+1,by omega,by go_num,hid (S1.out.move hb9.out ?_ ?_)⟩
      ·rw [SN.out,LN.out.1,memCells_snoc];exact hr9.out
      ·rw [SN.out,LN.out.2,HX.out.2]
     case measure=>simp [intOf];omega
   ·
    obtain rfl:j=C.length:=by omega
    go_wp2_with fail
    go_ret3
    obtain ⟨q1,q2,q3,q4,q5⟩:=HQ.out;have ho:=HS.out.own;rw [List.take_length] at ho;exact ⟨HS.out.bel,.inr ⟨TOK.out,u8,K,S,C,by rw [← q5];rfl,q1,q2,q3,q4.symm,by rw [← q5];exact own_weaken ho (by have:=HS.out.lo;omega),fun y hy=>(HS.out.cl y hy).1⟩⟩
 ·
  have be:(e != 0)=true:=by rw [bne_iff_ne];exact he0
  have HE0:=hid he0;clear he0
  go_wp2_with fail
  go_ret3
  exact ⟨HB.out,.inl ⟨i,e,rfl,HE0.out,fun h=>HE0.out (HE.out.2 h)⟩⟩
end ZMem
end
end Go.Proofs.YteikiojmcipkmaaGreatDoor
