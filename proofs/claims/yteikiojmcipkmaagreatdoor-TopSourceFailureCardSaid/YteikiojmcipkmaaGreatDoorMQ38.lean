/- Parts of the proof, gathered by a program: what calls of the functions answer, and what follows in plain lists. Conditions: those that each theorem states. -/
import Derived.Test.YteikiojmcipkmaaGreatDoorMQ09
import Derived.Lib.AppendZerosOnto
set_option linter.unusedVariables false
set_option linter.unusedSimpArgs false
namespace Go.Proofs.YteikiojmcipkmaaGreatDoor
set_option maxRecDepth 10000
namespace ZRu
open Go Go.RowKit YteikiojmcipkmaaGreatDoorW.PrintWords YteikiojmcipkmaaGreatDoorW.PrintLast YteikiojmcipkmaaGreatDoorW.PrintMore Oct ZBase
theorem zero_cells (k:Nat):Builtin.zeroCells #[.int .u8 0] k=(List.replicate k (Value.int .u8 0)).toArray:=by
 apply Array.ext
 ·simp [Builtin.zeroCells]
 ·intro i h1 h2;simp [Builtin.zeroCells,Nat.mod_one]
theorem zeros_run (W:World) (base:Nat) (ty:TypeId) (v:Value) (n k:Nat) (xs:List Value) (hown:W.ownsRow base 5 1 v n xs) (hk:0 < k) (hk2:k≤100000) (hn:n≤1000000000) (hbase:base≤W.heap.size): ∃ v' w',(Builtin.append_ #[30,3] ty #[v,.int .i64 k]).run Tryz.prog W=.ok v' w'∧w'.ownsRow base 5 1 v' (n+k) (xs++List.replicate k (.int .u8 0))∧W.grownBy w' v.ownBlock∧(v'.ownBlock=v.ownBlock∨v'.ownBlock=some W.heap.size):=by
 obtain ⟨i,hi,hz⟩:=Option.map_eq_some_iff.1 info5;simp only [Prod.mk.injEq] at hz;obtain ⟨hz0,hz1,hz2⟩:=hz;have h63:n+k≤maxLen:=by unfold maxLen;omega
 have hlen:(xs++List.replicate k (Value.int .u8 0)).length=(n+k) * 1:=by rw [List.length_append,hown.1,List.length_replicate];omega
 have grown:∀ (old:Nat),old < n+k→∀ (row:Option Nat),
   (W.drew.alloc (.cells (xs.toArray++(List.replicate k (Value.int .u8 0)).toArray++(List.replicate (grownCap W (n+k) old 5 - (n+k)) (Value.int .u8 0)).toArray) 5)).ownsRow base 5 1 (.slice (some ⟨W.heap.size,0,none⟩) (n+k) (grownCap W (n+k) old 5)) (n+k) (xs++List.replicate k (Value.int .u8 0)) ∧
   W.grownBy (W.drew.alloc (.cells (xs.toArray++(List.replicate k (Value.int .u8 0)).toArray++(List.replicate (grownCap W (n+k) old 5 - (n+k)) (Value.int .u8 0)).toArray) 5)) row:=by
  intro old ho row;have hge:=grownCap_ge W (n+k) old 5;have hcm:grownCap W (n+k) old 5≤maxLen:=grownCap_le_maxLen W (n+k) old 5 h63;refine ⟨⟨hlen,.inr ⟨W.heap.size,_,_,rfl,hbase,heap_alloc_new W.drew _,hge,hcm,?_,?_⟩⟩,⟨rfl,rfl,rfl,by simp,fun k hk _=>heap_alloc_old W.drew _ hk⟩⟩
  ·have:=hown.1;simp only [Array.size_append,List.size_toArray,List.length_replicate,this];omega
  ·simp only [Array.toList_append,List.append_assoc];rw [← List.append_assoc,← hlen];exact List.take_left
 rcases hown.2 with ⟨rfl,rfl⟩ | ⟨g,cap,cur,rfl,hbg,hg,hnc,hcm,hcs,htake⟩
 ·
  have hx:xs=[]:=List.eq_nil_of_length_eq_zero (by simpa using hown.1);subst hx;have hr:=Lib.run_append_nil_zeros (P:=Tryz.prog) W 30 3 ty 5 i _ .i64 .i64 Tryz.underlying30 Tryz.underlying3 hi hz0 k hk (by omega) (by omega) (by rw [hz2];omega);have hgr:=grown 0 (by omega) (Value.ownBlock (.slice none 0 0));simp only [Nat.zero_add,List.nil_append,Array.empty_append] at hgr ⊢;refine ⟨_,_,hr,?_,?_,Or.inr rfl⟩
  ·have:=hgr.1;simpa [Value.cells,zero_cells] using this
  ·have:=hgr.2;simpa [Value.cells,zero_cells] using this
 ·
  by_cases hroom:n+k≤cap
  ·
   have hfit:n+k≤cur.size:=by omega
   have hst:=run_storeCells_at Tryz.prog g n 5 (List.replicate k (Value.int .u8 0)) 0 cur W hg (by rw [List.length_replicate];omega) (fun u hu=>by rw [(List.mem_replicate.1 hu).2];rfl);simp only [Nat.add_zero] at hst;have hk0:¬ k=0:=by omega
   have hneg:¬ ((k:Int) < 0):=by omega
   have hw:IntKind.i64.wrap (k:Int)=k:=by rw [IntKind.wrap_i64];omega
   have h48:¬ (281474976710656 < (k:Int)):=by omega
   have hr:(Builtin.append_ #[30,3] ty #[.slice (some ⟨g,0,none⟩) n cap,.int .i64 k]).run Tryz.prog W=.ok (.slice (some ⟨g,0,none⟩) (n+k) cap) (W.setRow g (cur.toList.take n++List.replicate k (Value.int .u8 0)++cur.toList.drop (n+k)).toArray):=by simp [Builtin.append_,run_underlying Tryz.underlying30,run_underlying Tryz.underlying3,sizeOf,typeInfo,zeroValue,hi,hz0,hz1,hz2,asInt,asIntOf,hw,hneg,h48,hk0,hroom,zero_cells,Value.cells,Addr.add_lit,hst]
   refine ⟨_,_,hr,⟨hlen,.inr ⟨g,cap,_,rfl,hbg,setRow_heap W g cur _ 5 _ hg,hroom,hcm,?_,?_⟩⟩,⟨rfl,rfl,rfl,by simp,fun k _ hk=>setRow_other W g k _ (fun e=>hk (by simp [Value.ownBlock,e]))⟩,Or.inl rfl⟩
   ·simp only [List.size_toArray,List.length_append,List.length_take,List.length_drop,Array.length_toList,List.length_replicate];omega
   ·rw [Nat.mul_one] at htake;rw [htake,← hlen];exact List.take_left
  ·
   have holds:∀ j u,xs[j]?=some u→W.cell? ((⟨g,0,none⟩:Addr).add j)=some u:=hown.cells (g:=g) rfl;have hold:(Builtin.firstCells i.size n (.slice (some ⟨g,0,none⟩) n cap)).run Tryz.prog W.drew=.ok xs.toArray W.drew:=run_firstCells_some (P:=Tryz.prog) W.drew i.size n ⟨g,0,none⟩ n cap xs (by rw [hz1];exact hown.1) holds;have hfit:=growslice_fits (need:=n+k) (old:=cap) (bytes:=1) (by omega) (by omega);have hr:=Lib.run_append_grow_zeros (P:=Tryz.prog) W 30 3 ty 5 i _ .i64 .i64 Tryz.underlying30 Tryz.underlying3 hi hz0 (some ⟨g,0,none⟩) n cap xs hold k hk (by rw [hz1];decide) (by omega) (by omega) (by rw [hz2];omega) (by rw [hz2];exact hfit);have hgr:=grown cap (by omega) (Value.ownBlock (.slice (some ⟨g,0,none⟩) n cap));refine ⟨_,_,hr,?_,?_,Or.inr rfl⟩
   ·have:=hgr.1;simpa [Value.cells,zero_cells] using this
   ·have:=hgr.2;simpa [Value.cells,zero_cells] using this
theorem nums_zeros (k:Nat):nums .u8 (List.replicate k (0:Int))=List.replicate k (Value.int .u8 0):=by simp [nums]
section
variable {ops:Array Oper} {rest:List Oper} {o:Oper} {a:Act} {Q:Exit→Act→World→Prop}
theorem append_zeros {w0 W:World} (base:Nat) (hgd:o.guard=none) (s x:Operand) (ho:o.op=.call { callee:=.builtin .append,args:=#[s,x],argTypes:=#[30,3] }) (v:Value) (l:List Int) (k:Nat) (hs:a.eval s=v) (hx:a.eval x=.int .i64 k) (HO:W.ownsRow base 5 1 v l.length (nums .u8 l)) (HB:Below base w0 W) (hbase:base≤W.heap.size) (hk:0 < k) (hk2:k≤100000) (hn:l.length≤1000000000) (h:∀ g cap w1,Own w1 base g cap (l.length+k) (l++List.replicate k 0)→Below base w0 w1→wpList Tryz.prog ops Q rest (a.put o.dst (.slice (some ⟨g,0,none⟩) (l.length+k) cap)) w1) : wpList Tryz.prog ops Q (o :: rest) a W:=by
 obtain ⟨v1,w1,hr1,ho1,hg,_⟩:=zeros_run W base o.type v l.length k _ HO hk hk2 hn hbase;have e:nums .u8 l++List.replicate k (Value.int .u8 0)=nums .u8 (l++List.replicate k 0):=by rw [nums_append,nums_zeros]
 rw [e] at ho1;obtain ⟨g,cap,rfl,_,_⟩:=World.ownsRow.form ho1 (by omega);refine wpList_plain hgd fun K hK=>?_;unfold Oper.wp execOp;simp only [ho,resolve,invoke,builtin,Sem.run_bind,Sem.run_pure,Result.andThen_ok,List.map_toArray,List.map_cons,List.map_nil,hs,hx,hr1];refine hK _ _ (h g cap w1 ⟨?_⟩ (HB.grown hg hbase (own_base HO)));exact ho1
end
end ZRu
end Go.Proofs.YteikiojmcipkmaaGreatDoor
