/- Parts of the proof, gathered by a program: what calls of the functions answer, and what follows in plain lists. Conditions: those that each theorem states. -/
import Derived.Test.YteikiojmcipkmaaGreatDoorMR13
import Derived.Deep.Slices
import Derived.Lib.SmallJoins
set_option linter.unusedVariables false
set_option linter.unusedSimpArgs false
namespace Go.Proofs.YteikiojmcipkmaaGreatDoor
set_option maxRecDepth 100000
section
namespace ZOpen
open Go.ChangeShapes Go.WideShapes Go.RowKit YteikiojmcipkmaaGreatDoorW.PrintWords YteikiojmcipkmaaGreatDoorW.PrintLast YteikiojmcipkmaaGreatDoorW.PrintMore
open ZNod ZTree
open ZBlock (okChunks)
open ZSumPlain (Bytes)
theorem cell_lt {w:World} {a:Addr} {v:Value} (h:w.cell? a=some v):a.block < w.heap.size:=by
 rcases Nat.lt_or_ge a.block w.heap.size with h' | h'
 ·exact h'
 ·simp [World.cell?,Array.getElem?_eq_none h'] at h
section
variable {H:Type} {enc:TypeId×Value→H} {P:Program} {W:World} {base:Nat} {spare:Nat→Bool} {held:Bool}
theorem trod_struct6 {t:TypeId} {f0 f1 f2 f3 f4 f5:Field} {fuel:Nat} {cs:List Value} {x:DataW H×List MemPlace} (ht:P.underlying t=some (.struct #[f0,f1,f2,f3,f4,f5])) (h:DataW.trod enc P W base spare held fuel t cs=some x): ∃ y0 y1 y2 y3 y4 y5 n,x.1=.agg [y0.1,y1.1,y2.1,y3.1,y4.1,y5.1]∧cs.length=P.cellsOf t∧DataW.trod enc P W base spare held n f0.type ((cs.drop f0.offset).take (P.cellsOf f0.type))=some y0 ∧ DataW.trod enc P W base spare held n f1.type ((cs.drop f1.offset).take (P.cellsOf f1.type))=some y1∧DataW.trod enc P W base spare held n f2.type ((cs.drop f2.offset).take (P.cellsOf f2.type))=some y2 ∧ DataW.trod enc P W base spare held n f3.type ((cs.drop f3.offset).take (P.cellsOf f3.type))=some y3∧DataW.trod enc P W base spare held n f4.type ((cs.drop f4.offset).take (P.cellsOf f4.type))=some y4 ∧ DataW.trod enc P W base spare held n f5.type ((cs.drop f5.offset).take (P.cellsOf f5.type))=some y5:=by
 obtain ⟨xs,n,_,rfl,hl,hlen,hf⟩:=DataW.trod_struct ht h
 match xs,hlen with
 | [y0,y1,y2,y3,y4,y5],_=>exact ⟨y0,y1,y2,y3,y4,y5,n,by simp,hl,by simpa using hf 0 f0 rfl,by simpa using hf 1 f1 rfl,by simpa using hf 2 f2 rfl,by simpa using hf 3 f3 rfl,by simpa using hf 4 f4 rfl,by simpa using hf 5 f5 rfl⟩
theorem open_nums {t e:TypeId} {k:IntKind} {fuel:Nat} {v:Value} {x:DataW H×List MemPlace} (ht:P.underlying t=some (.slice e)) (he:P.underlying e=some (.int k)) (hc:P.cellsOf e=1) (h:DataW.trod enc P W base (fun _=>true) held fuel t [v]=some x): ∃ (a:Option Addr) (cap:Nat) (l:List Int),v=.slice a l.length cap∧Kd.C (Kd.int k) W a l.length l∧l.length≤cap∧(∀ y∈l,(Lit.int k y).wf=true)∧(l=[]∨∃ es sp:List (DataW H),x.1=.slice es sp∧l.length≤es.length+sp.length):=by
 rcases open_ints ht he hc h with ⟨hcs,_⟩ | ⟨ad,l,c,zs,hcs,_,hl,hm,hz,hx,hcell,hwz⟩
 ·simp at hcs;subst hcs;obtain ⟨l,e,hr,_,hw,hc⟩:=ReadsInt.ofRowC (k:=k) (w:=W) (a:=none) (len:=0) (cap:=0) (zs:=[]) (.inl ⟨rfl,rfl,rfl,rfl⟩);refine ⟨none,0,l,by rw [← e],Kd.C_of_reads (d:=(0:Int)) (h1:=fun _=>rfl) hr,hc,hw,.inl (List.length_eq_zero_iff.1 e.symm)⟩
 ·
  simp at hcs;subst hcs;obtain ⟨l2,e,hr,_,hw,hc⟩:=ReadsInt.ofRowC (k:=k) (w:=W) (a:=some ad) (len:=l) (cap:=c) (zs:=zs) (.inr ⟨_,rfl,hl,hm,by simpa using hz,hcell,hwz⟩);refine ⟨some ad,c,l2,by rw [← e],Kd.C_of_reads (d:=(0:Int)) (h1:=fun _=>rfl) hr,hc,hw,.inr ⟨_,_,by rw [hx],?_⟩⟩;simp [lits];have:zs.length=c:=by simpa using hz
  omega
theorem pick {X Y:Type} (es:List X) (R:Nat→X→Y→Prop) (h:∀ i x,es[i]?=some x→∃ l,R i x l):∃ ls:List Y,ls.length=es.length∧∀ (i:Nat) (x:X) (y:Y),es[i]?=some x→ls[i]?=some y→R i x y:=by
 induction es generalizing R with
 | nil=>exact ⟨[],rfl,fun i x y hx=>by simp at hx⟩
 | cons y r ih =>
  obtain ⟨l0,h0⟩:=h 0 y rfl;obtain ⟨ls,hl,hP⟩:=ih (fun i=>R (i+1)) fun i x hx=>h (i+1) x (by simpa using hx);refine ⟨l0 :: ls,by simp [hl],fun i x z hx hz=>?_⟩;cases i with
  | zero =>
   obtain rfl:y=x:=by simpa using hx
   obtain rfl:l0=z:=by simpa using hz
   exact h0
  | succ i=>exact hP i x z (by simpa using hx) (by simpa using hz)
theorem weights_all {e:TypeId}:∀ {ds:List (DataW H)} {d:DataW H},d∈ds→∀ n∈d.weights P e,n∈DataW.weightsAll P e ds
 | x :: r,d,hd,n,hn=>by
  simp only [DataW.weightsAll,List.mem_append];rcases List.mem_cons.1 hd with rfl | hd
  ·exact .inl hn
  ·exact .inr (weights_all hd n hn)
theorem weights_elem {t e:TypeId} (hu:P.underlying t=some (.slice e)) {es sp:List (DataW H)} {d:DataW H} (hd:d∈es) (n:Nat) (hn:n∈d.weights P e):n∈(DataW.slice es sp).weights P t:=by simp only [DataW.weights,hu,List.mem_cons,List.mem_append];exact .inr (.inl (weights_all hd n hn))
end
section
variable {H:Type} {enc:TypeId×Value→H} {W:World} {base:Nat} {held:Bool}
theorem cells46:Tryz.prog.cellsOf 46=6:=by kernel_rfl
theorem cells3:Tryz.prog.cellsOf 3=1:=by kernel_rfl
theorem cells9:Tryz.prog.cellsOf 9=1:=by kernel_rfl
theorem cells5:Tryz.prog.cellsOf 5=1:=by kernel_rfl
theorem cells30:Tryz.prog.cellsOf 30=1:=by kernel_rfl
theorem bytes5:Tryz.prog.bytesOf 5=1:=by kernel_rfl
theorem open_node {fuel:Nat} {cs:List Value} {x:DataW H×List MemPlace} (h:DataW.trod enc Tryz.prog W base (fun _=>true) held fuel 46 cs=some x): ∃ y:NV,cs=y.cells∧Reads W y∧Bytes y.data∧((∀ n∈x.1.weights Tryz.prog 46,n≤reachBytes)→y.path.size≤1000000000000000∧y.target.size≤1000000000000000∧y.data.length≤1000000000000000):=by
 obtain ⟨y0,y1,y2,y3,y4,y5,n,hx,hl,t0,t1,t2,t3,t4,t5⟩:=trod_struct6 Tryz.underlying46 h;rw [cells46] at hl
 match cs,hl with
 | [v0,v1,v2,v3,v4,v5],_ =>
  simp only [cells3,cells9,cells30,List.drop_zero,List.drop_succ_cons,List.take_succ_cons,List.take_zero] at t0 t1 t2 t3 t4 t5;obtain ⟨kd,e0,_,_⟩:=DataW.trod_int (k:=.i64) Tryz.underlying3 t0;obtain ⟨pa,e1,d1,_⟩:=DataW.trod_string Tryz.underlying9 t1;obtain ⟨md,e2,_,_⟩:=DataW.trod_int (k:=.i64) Tryz.underlying3 t2;obtain ⟨ta,e3,d3,_⟩:=DataW.trod_string Tryz.underlying9 t3;obtain ⟨a,cap,l,e4,hC,hc,hw,hd⟩:=open_nums (k:=.u8) Tryz.underlying30 Tryz.underlying5 cells5 t4;obtain ⟨cl,e5,_,_⟩:=DataW.trod_int (k:=.i64) Tryz.underlying3 t5;simp only [List.cons.injEq,and_true] at e0 e1 e2 e3 e5;subst e0;subst e1;subst e2;subst e3;subst e4;subst e5;refine ⟨⟨kd,pa,md,ta,a,cap,l,cl⟩,rfl,⟨hC,hc⟩,fun y hy=>?_,fun hW=>?_⟩
  ·have:=hw y hy;simp only [Lit.wf,Bool.and_eq_true,decide_eq_true_eq] at this;simp [IntKind.min,IntKind.max,IntKind.signed,IntKind.bits] at this;show 0≤y∧y < 256;omega
  ·
   rw [hx] at hW;have each:∀ (j:Nat) (tj:TypeId) (d:DataW H),([3,9,3,9,30,3]:List TypeId)[j]?=some tj→[y0.1,y1.1,y2.1,y3.1,y4.1,y5.1][j]?=some d→∀ m∈d.weights Tryz.prog tj,m≤reachBytes:=fun j tj d hj hd m hm=>hW m (by
    have:=DataW.weights_mem_each (P:=Tryz.prog) hj hd m hm;simpa only [DataW.weights,Tryz.underlying46,List.map_cons,List.map_nil] using this)
   have h1:=each 1 9 _ rfl rfl pa.data.toList.length (by rw [d1];simp [DataW.weights]);have h3:=each 3 9 _ rfl rfl ta.data.toList.length (by rw [d3];simp [DataW.weights]);have h4:l.length≤reachBytes:=by
    rcases hd with rfl | ⟨es,sp,hes,hle⟩
    ·simp
    ·have:=each 4 30 _ rfl rfl ((es.length+sp.length) * 1) (by rw [hes];simp [DataW.weights,Tryz.underlying30,bytes5]);omega
   simp only [reachBytes] at h1 h3 h4;simp only [Array.length_toList] at h1 h3;refine ⟨?_,?_,?_⟩
   ·show pa.data.size≤_;omega
   ·show ta.data.size≤_;omega
   ·show l.length≤_;omega
theorem open_nodes {v:Value} {d:DataW H} {ps:List MemPlace} (h:DataW.Trod enc Tryz.prog W base (fun _=>true) held 22 v d ps) (hv:∃ a len cap,v=.slice a len cap): ∃ (A:Option Addr) (cap:Nat) (l:List NV),v=.slice A l.length cap∧NodesAt W A l∧l.length≤cap∧(∀ x∈l,Bytes x.data) ∧ ((∀ n∈d.weights Tryz.prog 22,n≤reachBytes)→∀ x∈l,x.path.size≤1000000000000000∧x.target.size≤1000000000000000∧x.data.length≤1000000000000000):=by
 obtain ⟨a,len,cap,rfl⟩:=hv;obtain ⟨fuel,hf⟩:=h;rcases DataW.trod_slice Tryz.underlying22 hf with ⟨hcs,hx⟩ | ⟨ad,len',cap',elems,rest,n,_,hcs,hx,_,hl,hm,hlen,hel,_,_⟩
 ·simp [Value.cells] at hcs;obtain ⟨rfl,rfl,rfl⟩:=hcs;exact ⟨none,0,[],rfl,⟨fun h=>absurd rfl h,(fun x hx=>by cases hx)⟩,Nat.le_refl _,(fun x hx=>by cases hx),(fun _ x hx=>by cases hx)⟩
 ·
  simp [Value.cells] at hcs;obtain ⟨rfl,rfl,rfl⟩:=hcs;obtain ⟨rfl,_⟩:=Prod.mk.inj hx;obtain ⟨ls,hls,hP⟩:=pick elems (fun i x (y:NV)=>(∀ (j:Nat) (u:Value),y.cells[j]?=some u→W.cell? (ad.add (i * 6+j))=some u)∧Reads W y∧Bytes y.data∧((∀ n∈x.1.weights Tryz.prog 46,n≤reachBytes)→y.path.size≤1000000000000000∧y.target.size≤1000000000000000∧y.data.length≤1000000000000000)) (by
   intro i x hx;have hi:i < len:=by rw [← hlen];exact (List.getElem?_eq_some_iff.1 hx).1
   have:=hel i hi;rw [hx,cells46,Option.bind_eq_some_iff] at this;obtain ⟨cs',h1,h2⟩:=this;obtain ⟨_,hcl,hat⟩:=World.cells?_some h1;obtain ⟨y,rfl,hr,hb,hw⟩:=open_node h2;refine ⟨y,fun j u hu=>?_,hr,hb,hw⟩;have hj:j < 6:=(List.getElem?_eq_some_iff.1 hu).1;have a0:=hat j hj;rw [Go.Deep.add_add,hu] at a0;exact a0)
  have hn:ls.length=len:=hls.trans hlen;have at_:∀ x∈ls,∃ i e,ls[i]?=some x∧elems[i]?=some e:=fun x hx=>by
   obtain ⟨i,hi⟩:=List.mem_iff_getElem?.1 hx;have h1:i < elems.length:=by rw [← hls];exact (List.getElem?_eq_some_iff.1 hi).1
   exact ⟨i,_,hi,List.getElem?_eq_getElem h1⟩
  refine ⟨some ad,cap,ls,by rw [hn],⟨fun hne=>?_,fun x hx=>?_⟩,by omega,fun x hx=>?_,fun hW x hx=>?_⟩
  ·
   obtain ⟨b,o,sp⟩:=ad;have h0:∃ x,ls[0]?=some x:=by
    cases ls with
    | nil=>exact absurd rfl hne
    | cons x r=>exact ⟨x,rfl⟩
   obtain ⟨x,hx0⟩:=h0;have h1:0 < elems.length:=by rw [← hls];exact (List.getElem?_eq_some_iff.1 hx0).1
   have c0:=(hP 0 _ x (List.getElem?_eq_getElem h1) hx0).1 0 _ rfl;have hsp:sp=none:=by simpa [Addr.add] using World.cell?_spot c0
   subst hsp;refine ⟨b,o,rfl,?_,fun i x hi j v hv=>?_⟩
   ·have:=cell_lt c0;simpa [Addr.add] using this
   ·
    have h1:i < elems.length:=by rw [← hls];exact (List.getElem?_eq_some_iff.1 hi).1
    have c:=(hP i _ x (List.getElem?_eq_getElem h1) hi).1 j v hv;rw [show Addr.add ⟨b,o,none⟩ (i * 6+j)=⟨b,o+i * 6+j,none⟩ from by unfold Addr.add;split <;> simp <;> omega] at c;exact c
  ·obtain ⟨i,e,h1,h2⟩:=at_ x hx;exact (hP i e x h2 h1).2.1
  ·obtain ⟨i,e,h1,h2⟩:=at_ x hx;exact (hP i e x h2 h1).2.2.1
  ·obtain ⟨i,e,h1,h2⟩:=at_ x hx;refine (hP i e x h2 h1).2.2.2 fun m hm=>hW m (weights_elem Tryz.underlying22 (d:=e.1) (List.mem_map_of_mem (List.mem_of_getElem? h2)) m hm)
end
end ZOpen
end
end Go.Proofs.YteikiojmcipkmaaGreatDoor
