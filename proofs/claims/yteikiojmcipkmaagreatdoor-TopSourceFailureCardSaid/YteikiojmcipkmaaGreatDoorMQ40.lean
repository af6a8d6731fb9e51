/- Parts of the proof, gathered by a program: what calls of the functions answer, and what follows in plain lists. Conditions: those that each theorem states. -/
import Derived.Test.YteikiojmcipkmaaGreatDoorMQ04
set_option linter.unusedVariables false
set_option linter.unusedSimpArgs false
namespace Go.Proofs.YteikiojmcipkmaaGreatDoor
namespace ZFlow
open Go Go.RowKit YteikiojmcipkmaaGreatDoorW.PrintWords YteikiojmcipkmaaGreatDoorW.PrintLast YteikiojmcipkmaaGreatDoorW.PrintMore
def uses (o:Oper):List Nat:=o.op.operands.toList.filterMap fun | .tmp t=>some t | _=>none
def shaped (ops:Array Oper) (n:Nat) (free:List Nat):Bool :=
 (List.range ops.size).all fun i=>match ops[i]? with
  | none=>false
  | some o=>o.guard == none && (match o.dst with | some d=>decide (d < n) && !(free.contains d) | none=>false) && o.after.all (fun e=>decide (e.on < i)) &&
   (uses o).all (fun t=>free.contains t || o.after.any (fun e=>Region.binds .any e && (match ops[e.on]? with | some p=>p.dst == some t | none=>false))) &&
   (List.range ops.size).all (fun j=>match ops[j]? with | some p=>i == j || p.dst != o.dst | none=>true)
structure Shape (ops:Array Oper) (n:Nat) (free:List Nat):Prop where
 guard:∀ (i:Nat) (o:Oper),ops[i]?=some o→o.guard=none
 dst:∀ (i:Nat) (o:Oper),ops[i]?=some o→∃ d,o.dst=some d∧d < n∧d∉free
 inj:∀ (i j:Nat) (o p:Oper),ops[i]?=some o→ops[j]?=some p→o.dst=p.dst→i=j
 low:∀ (i:Nat) (o:Oper),ops[i]?=some o→∀ e∈o.after.toList,e.on < i
 uses:∀ (i:Nat) (o:Oper),ops[i]?=some o→∀ t∈uses o,t∈free∨∃ e∈o.after.toList,Region.binds .any e=true∧∃ p,ops[e.on]?=some p∧p.dst=some t
theorem shape_of {ops:Array Oper} {n:Nat} {free:List Nat} (h:shaped ops n free=true):Shape ops n free:=by
 have hall:∀ (i:Nat) (o:Oper),ops[i]?=some o→o.guard=none∧(∃ d,o.dst=some d∧d < n∧d∉free)∧(∀ e∈o.after.toList,e.on < i)∧(∀ t∈ZFlow.uses o,t∈free∨∃ e∈o.after.toList,Region.binds .any e=true∧∃ p,ops[e.on]?=some p∧p.dst=some t)∧(∀ (j:Nat) (p:Oper),ops[j]?=some p→o.dst=p.dst→i=j):=by
  intro i o ho;have hi:i < ops.size:=(Array.getElem?_eq_some_iff.1 ho).1;have h1:=List.all_eq_true.1 h i (List.mem_range.2 hi);rw [ho] at h1;simp only [Bool.and_eq_true] at h1;obtain ⟨⟨⟨⟨a1,a2⟩,a3⟩,a4⟩,a5⟩:=h1;refine ⟨by simpa using a1,?_,?_,?_,?_⟩
  ·
   cases hd:o.dst with
   | none=>rw [hd] at a2;cases a2
   | some d =>rw [hd] at a2;simp at a2;exact ⟨d,rfl,a2.1,a2.2⟩
  ·intro e he;have:=(Array.all_eq_true'.1 a3) e (by simpa using he);simpa using this
  ·
   intro t ht;have h2:=List.all_eq_true.1 a4 t ht;rw [Bool.or_eq_true] at h2;rcases h2 with h2 | h2
   ·exact .inl (by simpa using h2)
   ·
    rw [← Array.any_toList,List.any_eq_true] at h2;obtain ⟨e,he,h3⟩:=h2;rw [Bool.and_eq_true] at h3;refine .inr ⟨e,he,h3.1,?_⟩;cases hp:ops[e.on]? with
    | none=>rw [hp] at h3;cases h3.2
    | some p =>rw [hp] at h3;exact ⟨p,rfl,by simpa using h3.2⟩
  ·
   intro j p hp he;have hj:j < ops.size:=(Array.getElem?_eq_some_iff.1 hp).1;have h2:=List.all_eq_true.1 a5 j (List.mem_range.2 hj);rw [hp] at h2;simp at h2;rcases h2 with h2 | h2
   ·exact h2
   ·exact absurd he.symm h2
 exact ⟨fun i o h=>(hall i o h).1,fun i o h=>(hall i o h).2.1,fun i j o p h h'=>(hall i o h).2.2.2.2 j p h',fun i o h=>(hall i o h).2.2.1,fun i o h=>(hall i o h).2.2.2.1⟩
structure Flow (ops:Array Oper) (free:List Nat) (V:Nat→Value→World→Prop) (S:World→Prop) (a0:Act) (listed:Array Bool) (a:Act) (w:World):Prop where
 len:listed.size=ops.size
 size:a.tmps.size=a0.tmps.size
 defers:a.defers=a0.defers
 free:∀ t∈free,a.tmps.getD t undef=a0.tmps.getD t undef
 val:∀ (j:Nat) (p:Oper) (d:Nat),ops[j]?=some p→p.dst=some d→listed.getD j false=true→V d (a.tmps.getD d undef) w
 ok:S w
def left (l:List Bool):Nat:=(l.filter (fun b=>!b)).length
theorem left_set:∀ (l:List Bool) (i:Nat),l[i]?=some false→left (l.set i true)+1=left l
 | [],i,h=>by cases h
 | b :: l,0,h=>by
  have hb:b=false:=by simpa using h
  subst hb;simp [left]
 | b :: l,i+1,h=>by have:=left_set l i (by simpa using h);unfold left at *;cases b <;> simp_all
theorem left_pos:∀ (l:List Bool) (i:Nat),l[i]?=some false→0 < left l:=fun l i h=>by have:=left_set l i h;omega
section
variable {P:Program} {ops:Array Oper} {Q:Exit→Act→World→Prop} {n:Nat} {fr:List Nat} {V:Nat→Value→World→Prop} {S:World→Prop} {a0:Act}
theorem all_listed (hsh:Shape ops n fr) {listed:Array Bool} (hl:listed.size=ops.size) (hr:Region.ready .any ops listed=[]) (i:Nat) (hi:i < ops.size):listed.getD i false=true:=by
 induction i using Nat.strongRecOn with
 | _ i ih =>
  cases e:listed.getD i false with
  | true=>rfl
  | false =>
   have hin:i∈Region.ready .any ops listed:=by
    unfold Region.ready;refine List.mem_filter.2 ⟨List.mem_range.2 hi,?_⟩;have h1:listed.getD i true=false:=by simp [Array.getD,hl,hi] at e ⊢;exact e
    rw [h1];obtain ⟨o,ho⟩:∃ o,ops[i]?=some o:=⟨_,Array.getElem?_eq_getElem hi⟩;rw [ho];simp only [Bool.not_false,Bool.true_and,Option.map_some,Option.getD_some];rw [← Array.all_toList,List.all_eq_true];intro d hd;have hlow:=hsh.low i o ho d hd;rw [ih d.on hlow (by omega)];simp
   rw [hr] at hin;cases hin
theorem flow_go (hsh:Shape ops a0.tmps.size fr) (hmono:∀ d v w w',V d v w→Below w.heap.size w w'→V d v w') (hfree:∀ t∈fr,∀ w,S w→V t (a0.tmps.getD t undef) w) (hstep:∀ (i:Nat) (o:Oper),ops[i]?=some o→∀ (a:Act) (w:World),(∀ t∈uses o,V t (a.tmps.getD t undef) w)→S w→∀ K:Act→World→Prop,(∀ v w',(∀ d,o.dst=some d→V d v w')→S w'→Below w.heap.size w w'→K (a.put o.dst v) w')→Oper.wp P o a w K Q) (hend:∀ (a:Act) (w:World),a.tmps.size=a0.tmps.size→a.defers=a0.defers→(∀ (i:Nat) (o:Oper) (d:Nat),ops[i]?=some o→o.dst=some d→V d (a.tmps.getD d undef) w)→S w→Q .normal a w): ∀ (fuel:Nat) (listed:Array Bool) (a:Act) (w:World),left listed.toList≤fuel→Flow ops fr V S a0 listed a w→wpAny P .any ops Q fuel listed a w:=by
 have hlast:∀ (listed:Array Bool) (a:Act) (w:World),Flow ops fr V S a0 listed a w→Region.ready .any ops listed=[]→Q .normal a w:=fun listed a w h hr =>hend a w h.size h.defers (fun i o d ho hd=>h.val i o d ho hd (all_listed hsh h.len hr i (Array.getElem?_eq_some_iff.1 ho).1)) h.ok
 intro fuel
 induction fuel with
 | zero =>
  intro listed a w hf h;have hr:Region.ready .any ops listed=[]:=by
   cases e:Region.ready .any ops listed with
   | nil=>rfl
   | cons i r =>
    have hi:i∈Region.ready .any ops listed:=by rw [e];exact List.mem_cons_self
    unfold Region.ready at hi;obtain ⟨h1,h2⟩:=List.mem_filter.1 hi;rw [Bool.and_eq_true] at h2;have h3:=List.mem_range.1 h1;have h4:listed.toList[i]?=some false:=by
     have hlt:i < listed.size:=by rw [h.len];exact h3
     have h5:=h2.1;simp [Array.getD,hlt] at h5;simp [hlt,h5]
    have:=left_pos _ _ h4;omega
  exact ⟨hr,hlast listed a w h hr⟩
 | succ fuel ih =>
  intro listed a w hf h;refine ⟨hlast listed a w h,fun i hi=>?_⟩;unfold Region.ready at hi;obtain ⟨h1,h2⟩:=List.mem_filter.1 hi;rw [Bool.and_eq_true] at h2;have h3:=List.mem_range.1 h1;obtain ⟨o,ho⟩:∃ o,ops[i]?=some o:=⟨_,Array.getElem?_eq_getElem h3⟩;have hlt:i < listed.size:=by rw [h.len];exact h3
  have h4:listed.toList[i]?=some false:=by have h5:=h2.1;simp [Array.getD,hlt] at h5;simp [hlt,h5]
  have hdeps:=h2.2;rw [ho] at hdeps;simp only [Option.map_some,Option.getD_some] at hdeps;rw [← Array.all_toList,List.all_eq_true] at hdeps;have huse:∀ t∈uses o,V t (a.tmps.getD t undef) w:=by
   intro t ht;rcases hsh.uses i o ho t ht with hfr | ⟨e,he,hb,p,hp,hd⟩
   ·rw [h.free t hfr];exact hfree t hfr w h.ok
   ·refine h.val e.on p t hp hd ?_;have:=hdeps e he;rw [hb] at this;simpa using this
  obtain ⟨d,hd,hdn,hdf⟩:=hsh.dst i o ho;unfold wpOp;rw [ho];dsimp only;have hw:Region.wanted o (yielded ops a.tmps)=true:=by simp [Region.wanted,hsh.guard i o ho]
  rw [if_pos hw];refine .inl (hstep i o ho a w huse h.ok _ fun v w' hv hS hB=>?_);refine ih _ _ _ ?_ ⟨?_,?_,?_,?_,?_,hS⟩
  ·have:=left_set _ _ h4;rw [Array.toList_setIfInBounds];omega
  ·simp [h.len]
  ·rw [hd];simp [Act.put,h.size]
  ·rw [hd];exact h.defers
  ·intro t ht;have hne:d≠t:=fun e=>hdf (e ▸ ht);rw [hd,← h.free t ht];simp [Act.put,Array.getD_eq_getD_getElem?,Array.getElem?_setIfInBounds_ne hne]
  ·
   intro j p d' hp hd' hlj;by_cases hji:j=i
   ·
    subst hji;rw [ho] at hp;cases hp;rw [hd] at hd';cases hd';rw [hd];have hsz:d < a.tmps.size:=by rw [h.size];exact hdn
    have e1:(a.put (some d) v).tmps.getD d undef=v:=by simp [Act.put,Array.getD_eq_getD_getElem?,hsz]
    rw [e1];exact hv d hd
   ·
    have hne:d≠d':=fun e=>hji (hsh.inj j i p o hp ho (by rw [hd',hd,e]));have e1:(a.put o.dst v).tmps.getD d' undef=a.tmps.getD d' undef:=by rw [hd];simp [Act.put,Array.getD_eq_getD_getElem?,Array.getElem?_setIfInBounds_ne hne]
    rw [e1];refine hmono _ _ _ _ (h.val j p d' hp hd' ?_) hB;simpa [Array.getD_eq_getD_getElem?,Array.getElem?_setIfInBounds_ne (Ne.symm hji)] using hlj
theorem region_flow {id:Nat} {w:World} (hm:P.follows .mixedOrders=true) (hsh:Shape ops a0.tmps.size fr) (hmono:∀ d v w w',V d v w→Below w.heap.size w w'→V d v w') (hfree:∀ t∈fr,∀ w,S w→V t (a0.tmps.getD t undef) w) (hS:S w.drew) (hstep:∀ (i:Nat) (o:Oper),ops[i]?=some o→∀ (a:Act) (w:World),(∀ t∈uses o,V t (a.tmps.getD t undef) w)→S w→∀ K:Act→World→Prop,(∀ v w',(∀ d,o.dst=some d→V d v w')→S w'→Below w.heap.size w w'→K (a.put o.dst v) w')→Oper.wp P o a w K Q) (hend:∀ (a:Act) (w:World),a.tmps.size=a0.tmps.size→a.defers=a0.defers→(∀ (i:Nat) (o:Oper) (d:Nat),ops[i]?=some o→o.dst=some d→V d (a.tmps.getD d undef) w)→S w→Q .normal a w): (Code.region id ops true).wp P Q a0 w:=by
 refine wp_region_any hm (flow_go hsh hmono hfree hstep hend ops.size _ a0 _ ?_ ⟨by simp,rfl,rfl,fun _ _=>rfl,fun j p d hp _ hl=>?_,hS⟩)
 ·unfold left;refine Nat.le_trans (List.length_filter_le _ _) ?_;simp
 ·have hj:j < ops.size:=(Array.getElem?_eq_some_iff.1 hp).1;simp [Array.getD,hj] at hl
theorem wp_of_run {o:Oper} {a:Act} {w w':World} {v:Value} {K:Act→World→Prop} (hrun:(execOp a.eval o).run P w=.ok (.value v) w') (h:K (a.put o.dst v) w'):Oper.wp P o a w K Q:=by unfold Oper.wp;rw [hrun];exact h
theorem wp_of_enter {o:Oper} {a:Act} {w w':World} {f:FuncId} {args:Array Value} {K:Act→World→Prop} {R:Ending→World→Prop} (hrun:(execOp a.eval o).run P w=.ok (.enter f args) w') (hc:Calls P f args w' R) (h:∀ e w'',R e w''→∃ v,e=.returned v∧K (a.put o.dst v) w''):Oper.wp P o a w K Q:=by unfold Oper.wp;rw [hrun];refine hc.mono fun e w'' hR=>?_;obtain ⟨v,rfl,hk⟩:=h e w'' hR;exact hk
end
theorem vput {tab:Nat→Option Value} {d0:Nat} {x0:Value} (g:tab d0=some x0) (hne:d0≠33) (R:Prop):∀ d,some d0=some d→(∀ x,tab d=some x→x0=x)∧(d=33→R):=fun d hd=>by cases hd;exact ⟨fun x hx=>by rw [g] at hx;cases hx;rfl,fun e=>absurd e hne⟩
theorem arr62 (t:Array Value) (h:t.size=62):t=#[t.getD 0 undef,t.getD 1 undef,t.getD 2 undef,t.getD 3 undef,t.getD 4 undef,t.getD 5 undef,t.getD 6 undef,t.getD 7 undef,t.getD 8 undef,t.getD 9 undef,t.getD 10 undef,t.getD 11 undef,t.getD 12 undef,t.getD 13 undef,t.getD 14 undef,t.getD 15 undef,t.getD 16 undef,t.getD 17 undef,t.getD 18 undef,t.getD 19 undef,t.getD 20 undef,t.getD 21 undef,t.getD 22 undef,t.getD 23 undef,t.getD 24 undef,t.getD 25 undef,t.getD 26 undef,t.getD 27 undef,t.getD 28 undef,t.getD 29 undef,t.getD 30 undef,t.getD 31 undef,t.getD 32 undef,t.getD 33 undef,t.getD 34 undef,t.getD 35 undef,t.getD 36 undef,t.getD 37 undef,t.getD 38 undef,t.getD 39 undef,t.getD 40 undef,t.getD 41 undef,t.getD 42 undef,t.getD 43 undef,t.getD 44 undef,t.getD 45 undef,t.getD 46 undef,t.getD 47 undef,t.getD 48 undef,t.getD 49 undef,t.getD 50 undef,t.getD 51 undef,t.getD 52 undef,t.getD 53 undef,t.getD 54 undef,t.getD 55 undef,t.getD 56 undef,t.getD 57 undef,t.getD 58 undef,t.getD 59 undef,t.getD 60 undef,t.getD 61 undef]:=by obtain ⟨l⟩:=t;have h:l.length=62:=h;obtain ⟨x0,l,rfl⟩:=List.exists_cons_of_length_eq_add_one h;replace h:=Nat.succ.inj h;obtain ⟨x1,l,rfl⟩:=List.exists_cons_of_length_eq_add_one h;replace h:=Nat.succ.inj h;obtain ⟨x2,l,rfl⟩:=List.exists_cons_of_length_eq_add_one h;replace h:=Nat.succ.inj h;obtain ⟨x3,l,rfl⟩:=List.exists_cons_of_length_eq_add_one h;replace h:=Nat.succ.inj h;obtain ⟨x4,l,rfl⟩:=List.exists_cons_of_length_eq_add_one h;replace h:=Nat.succ.inj h;obtain ⟨x5,l,rfl⟩:=List.exists_cons_of_length_eq_add_one h;replace h:=Nat.succ.inj h;obtain ⟨x6,l,rfl⟩:=List.exists_cons_of_length_eq_add_one h;replace h:=Nat.succ.inj h;obtain ⟨x7,l,rfl⟩:=List.exists_cons_of_length_eq_add_one h;replace h:=Nat.succ.inj h;obtain ⟨x8,l,rfl⟩:=List.exists_cons_of_length_eq_add_one h;replace h:=Nat.succ.inj h;obtain ⟨x9,l,rfl⟩:=List.exists_cons_of_length_eq_add_one h;replace h:=Nat.succ.inj h;obtain ⟨x10,l,rfl⟩:=List.exists_cons_of_length_eq_add_one h;replace h:=Nat.succ.inj h;obtain ⟨x11,l,rfl⟩:=List.exists_cons_of_length_eq_add_one h;replace h:=Nat.succ.inj h;obtain ⟨x12,l,rfl⟩:=List.exists_cons_of_length_eq_add_one h;replace h:=Nat.succ.inj h;obtain ⟨x13,l,rfl⟩:=List.exists_cons_of_length_eq_add_one h;replace h:=Nat.succ.inj h;obtain ⟨x14,l,rfl⟩:=List.exists_cons_of_length_eq_add_one h;replace h:=Nat.succ.inj h;obtain ⟨x15,l,rfl⟩:=List.exists_cons_of_length_eq_add_one h;replace h:=Nat.succ.inj h;obtain ⟨x16,l,rfl⟩:=List.exists_cons_of_length_eq_add_one h;replace h:=Nat.succ.inj h;obtain ⟨x17,l,rfl⟩:=List.exists_cons_of_length_eq_add_one h;replace h:=Nat.succ.inj h;obtain ⟨x18,l,rfl⟩:=List.exists_cons_of_length_eq_add_one h;replace h:=Nat.succ.inj h;obtain ⟨x19,l,rfl⟩:=List.exists_cons_of_length_eq_add_one h;replace h:=Nat.succ.inj h;obtain ⟨x20,l,rfl⟩:=List.exists_cons_of_length_eq_add_one h;replace h:=Nat.succ.inj h;obtain ⟨x21,l,rfl⟩:=List.exists_cons_of_length_eq_add_one h;replace h:=Nat.succ.inj h;obtain ⟨x22,l,rfl⟩:=List.exists_cons_of_length_eq_add_one h;replace h:=Nat.succ.inj h;obtain ⟨x23,l,rfl⟩:=List.exists_cons_of_length_eq_add_one h;replace h:=Nat.succ.inj h;obtain ⟨x24,l,rfl⟩:=List.exists_cons_of_length_eq_add_one h;replace h:=Nat.succ.inj h;obtain ⟨x25,l,rfl⟩:=List.exists_cons_of_length_eq_add_one h;replace h:=Nat.succ.inj h;obtain ⟨x26,l,rfl⟩:=List.exists_cons_of_length_eq_add_one h;replace h:=Nat.succ.inj h;obtain ⟨x27,l,rfl⟩:=List.exists_cons_of_length_eq_add_one h;replace h:=Nat.succ.inj h;obtain ⟨x28,l,rfl⟩:=List.exists_cons_of_length_eq_add_one h;replace h:=Nat.succ.inj h;obtain ⟨x29,l,rfl⟩:=List.exists_cons_of_length_eq_add_one h;replace h:=Nat.succ.inj h;obtain ⟨x30,l,rfl⟩:=List.exists_cons_of_length_eq_add_one h;replace h:=Nat.succ.inj h;obtain ⟨x31,l,rfl⟩:=List.exists_cons_of_length_eq_add_one h;replace h:=Nat.succ.inj h;obtain ⟨x32,l,rfl⟩:=List.exists_cons_of_length_eq_add_one h;replace h:=Nat.succ.inj h;obtain ⟨x33,l,rfl⟩:=List.exists_cons_of_length_eq_add_one h;replace h:=Nat.succ.inj h;obtain ⟨x34,l,rfl⟩:=List.exists_cons_of_length_eq_add_one h;replace h:=Nat.succ.inj h;obtain ⟨x35,l,rfl⟩:=List.exists_cons_of_length_eq_add_one h;replace h:=Nat.succ.inj h;obtain ⟨x36,l,rfl⟩:=List.exists_cons_of_length_eq_add_one h;replace h:=Nat.succ.inj h;obtain ⟨x37,l,rfl⟩:=List.exists_cons_of_length_eq_add_one h;replace h:=Nat.succ.inj h;obtain ⟨x38,l,rfl⟩:=List.exists_cons_of_length_eq_add_one h;replace h:=Nat.succ.inj h;obtain ⟨x39,l,rfl⟩:=List.exists_cons_of_length_eq_add_one h;replace h:=Nat.succ.inj h;obtain ⟨x40,l,rfl⟩:=List.exists_cons_of_length_eq_add_one h;replace h:=Nat.succ.inj h;obtain ⟨x41,l,rfl⟩:=List.exists_cons_of_length_eq_add_one h;replace h:=Nat.succ.inj h;obtain ⟨x42,l,rfl⟩:=List.exists_cons_of_length_eq_add_one h;replace h:=Nat.succ.inj h;obtain ⟨x43,l,rfl⟩:=List.exists_cons_of_length_eq_add_one h;replace h:=Nat.succ.inj h;obtain ⟨x44,l,rfl⟩:=List.exists_cons_of_length_eq_add_one h;replace h:=Nat.succ.inj h;obtain ⟨x45,l,rfl⟩:=List.exists_cons_of_length_eq_add_one h;replace h:=Nat.succ.inj h;obtain ⟨x46,l,rfl⟩:=List.exists_cons_of_length_eq_add_one h;replace h:=Nat.succ.inj h;obtain ⟨x47,l,rfl⟩:=List.exists_cons_of_length_eq_add_one h;replace h:=Nat.succ.inj h;obtain ⟨x48,l,rfl⟩:=List.exists_cons_of_length_eq_add_one h;replace h:=Nat.succ.inj h;obtain ⟨x49,l,rfl⟩:=List.exists_cons_of_length_eq_add_one h;replace h:=Nat.succ.inj h;obtain ⟨x50,l,rfl⟩:=List.exists_cons_of_length_eq_add_one h;replace h:=Nat.succ.inj h;obtain ⟨x51,l,rfl⟩:=List.exists_cons_of_length_eq_add_one h;replace h:=Nat.succ.inj h;obtain ⟨x52,l,rfl⟩:=List.exists_cons_of_length_eq_add_one h;replace h:=Nat.succ.inj h;obtain ⟨x53,l,rfl⟩:=List.exists_cons_of_length_eq_add_one h;replace h:=Nat.succ.inj h;obtain ⟨x54,l,rfl⟩:=List.exists_cons_of_length_eq_add_one h;replace h:=Nat.succ.inj h;obtain ⟨x55,l,rfl⟩:=List.exists_cons_of_length_eq_add_one h;replace h:=Nat.succ.inj h;obtain ⟨x56,l,rfl⟩:=List.exists_cons_of_length_eq_add_one h;replace h:=Nat.succ.inj h;obtain ⟨x57,l,rfl⟩:=List.exists_cons_of_length_eq_add_one h;replace h:=Nat.succ.inj h;obtain ⟨x58,l,rfl⟩:=List.exists_cons_of_length_eq_add_one h;replace h:=Nat.succ.inj h;obtain ⟨x59,l,rfl⟩:=List.exists_cons_of_length_eq_add_one h;replace h:=Nat.succ.inj h;obtain ⟨x60,l,rfl⟩:=List.exists_cons_of_length_eq_add_one h;replace h:=Nat.succ.inj h;obtain ⟨x61,l,rfl⟩:=List.exists_cons_of_length_eq_add_one h;replace h:=Nat.succ.inj h;obtain rfl:=List.eq_nil_of_length_eq_zero h;rfl
end ZFlow
end Go.Proofs.YteikiojmcipkmaaGreatDoor
