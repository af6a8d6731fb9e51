/- The row of TopMutation, and its card, tied to the text of the program: for every input that can be read the law returns true, the listed variables reading as the text lays them. -/
import Derived.Test.YteikiojmcipkmaaGreatDoorRows
import Derived.Test.YteikiojmcipkmaaGreatDoorTie
import Derived.Test.YteikiojmcipkmaaGreatDoorCards
import Derived.Test.YteikiojmcipkmaaGreatDoorMR14
import Derived.Test.YteikiojmcipkmaaGreatDoorMR15
import Derived.Test.YteikiojmcipkmaaGreatDoorMR38
set_option linter.unusedVariables false
set_option linter.unusedSimpArgs false
set_option maxRecDepth 100000
namespace Go.Proofs.YteikiojmcipkmaaGreatDoor.topMutationRow
open Go.ChangeShapes Go.WideShapes Go.ChangeAt Go.RowKit Go.Proofs.YteikiojmcipkmaaGreatDoorW.PrintWords Go.Proofs.YteikiojmcipkmaaGreatDoor ZGlob
theorem own:ownKnob Tryz.prog.godebug=none:=by kernel_rfl
theorem laidOut:laidOutB Tryz.prog=true:=by kernel_rfl
theorem door_met (os:Os) (args:Array Value):laidMetH Tryz.prog Rows.topMutationRow.laid ((World.doorLaid Tryz.prog 132 os).forCall (fun _ _=>0) ⟨#[],args,[]⟩).memory :=
 laidMetH_of_parts3 (fuel:=8) (laidMet_of_run' 8 (by kernel_rfl) (by kernel_rfl)) (by kernel_rfl) (by kernel_rfl)
theorem contract {H:Type} {enc:TypeId×Value→H} (W:World) (base:Nat) (args:Array Value) (ds gs:List (DataW H)) (before:List MemPlace)
  (hval0:∀ (j:Nat) t v,Tryz.f5.params[j]?=some t→args[j]?=some v→Value.okWide Tryz.prog W .any base t v)
  (hW:DataW.Whole enc Tryz.prog Tryz.f5.params.toList Rows.topMutationSpec.vars false W args.toList ds gs before)
  (hsz0:(DataW.weightsEach Tryz.prog (Tryz.f5.params.toList++Rows.topMutationSpec.plain.varTypes Tryz.prog) (ds++gs)).all (·≤reachBytes)=true)
  (hL:laidMetH Tryz.prog Rows.topMutationRow.laid W) (hsh:W.ShapedOpen Tryz.prog) :
  Calls Tryz.prog 5 args W fun e W'=>∃ v,e=.returned v∧Rows.topMutationSpec.post enc Tryz.prog Tryz.f5 false true false false W args v W':=by
 obtain ⟨hG,h20⟩:=ZLaid.gl_of hL hsh;have hval:∀ (j:Nat) t v,Tryz.f5.params[j]?=some t→args[j]?=some v→Value.okWide Tryz.prog W .any base t v:=hval0;have hW':=hW;obtain ⟨p,q,hA0,hV,rfl,hfz,hnd⟩:=hW;have hA:DataW.TrodAll enc Tryz.prog W 0 (fun _=>true) true Tryz.f5.params.toList args.toList ds p:=hA0;have hsz:(DataW.weightsEach Tryz.prog (Tryz.f5.params.toList++Rows.topMutationSpec.plain.varTypes Tryz.prog) (ds++gs)).all (·≤reachBytes)=true:=hsz0;rw [Tryz.params5] at hA hval hsz;obtain ⟨v0,vs0,d0,ds0,p0,q0,hargs,rfl,rfl,h0,r0⟩:=trodAll_cons hA;obtain ⟨v1,vs1,d1,ds1,p1,q1,rfl,rfl,rfl,h1,r1⟩:=trodAll_cons r0;obtain ⟨v2,vs2,d2,ds2,p2,q2,rfl,rfl,rfl,h2,r2⟩:=trodAll_cons r1;obtain ⟨rfl,rfl,rfl⟩:=trodAll_nil r2;obtain rfl:args=#[v0,v1,v2]:=by cases args;simp_all
 obtain ⟨rfl,rfl⟩:=trodVars_none hV;have k0:=h0;have lt0:∀ x∈p0,x.block < W.heap.size:=by obtain ⟨m,hm⟩:=k0;exact DataW.trod_lt m _ _ _ hm
 obtain ⟨a0,cap0,l0,rfl,hr0,hc0,hb0,hw0⟩:=ZOpen.open_nodes h0 (by obtain ⟨x,y,z,e⟩:=okWide_slice Tryz.underlying22 (hval 0 22 v0 rfl rfl);exact ⟨x,y,z,e⟩);have y0:=hw0 fun n hn=>of_decide_eq_true (List.all_eq_true.1 hsz n (DataW.weights_mem_each (j:=0) rfl rfl n hn));obtain ⟨z1,rfl,rfl,rfl,w1⟩:=open_int Tryz.underlying26 (hval 1 26 v1 rfl rfl) h1;have e1:0≤z1∧z1 < 65536:=by simp only [Lit.wf,Bool.and_eq_true,decide_eq_true_eq] at w1;simp [IntKind.min,IntKind.max,IntKind.signed,IntKind.bits] at w1;omega
 obtain ⟨n1,rfl⟩:∃ n:Nat,z1=n:=⟨z1.toNat,by omega⟩;obtain ⟨z2,rfl,rfl,rfl,w2⟩:=open_int Tryz.underlying5 (hval 2 5 v2 rfl rfl) h2;have e2:0≤z2∧z2 < 256:=by simp only [Lit.wf,Bool.and_eq_true,decide_eq_true_eq] at w2;simp [IntKind.min,IntKind.max,IntKind.signed,IntKind.bits] at w2;omega
 obtain ⟨n2,rfl⟩:∃ n:Nat,z2=n:=⟨z2.toNat,by omega⟩;clear hA0 hval0;refine (ZTop5.top_mut a0 cap0 l0 n1 n2 W hr0 hc0 y0 hb0 (by omega) (by omega) hG h20).mono fun e W' ⟨he,bel⟩=>?_;subst he;exact ⟨_,rfl,_,_,_,[],_,[],hW',trodAll_mk1 (shut_bool Tryz.underlying4 _),(trodAll_cons_mk (Below.trod laidOut (by kernel_rfl) (of_decide_eq_true (by kernel_rfl)) k0 bel lt0) (trodAll_cons_mk (shut_int Tryz.underlying26 w1) (trodAll_cons_mk (shut_int Tryz.underlying5 w2) trodAll_mk0))),rfl,bel.frame _,fun h=>by cases h⟩
theorem lifted (os:Os) (started:os.Started) (H:Type) (enc:TypeId×Value→H) :
  ReturnsInHanded {} Tryz.checked os 5 .any (fun w args=>(Rows.topMutationSpec.pre enc Tryz.prog Tryz.f5 Rows.topMutationRow.domain false w args∧laidMetH Tryz.prog Rows.topMutationRow.laid w)∧sizedMet enc Tryz.prog Tryz.f5 (OpenSpec.ofChange Rows.topMutationSpec) false w args)
   (Rows.topMutationSpec.post enc Tryz.prog Tryz.f5 false true false false):=by
 refine returnsInHanded_of_calls own started (by kernel_rfl)
  (ChangeSpec.witness_shaped (enc:=enc) (C:=Tryz.checked) (os:=os) (X:=fun w _=>laidMetH Tryz.prog Rows.topMutationRow.laid w) false (World.doorLaid Tryz.prog 132 os) #[.slice none 0 0,.int .u16 0,.int .u8 0] 8 rfl (World.shaped_of_RefB (by kernel_rfl) (by kernel_rfl)) (by kernel_rfl) (by kernel_rfl) (by kernel_rfl) (door_met os _)) ?_
 intro w tape i _ hsh _ hok hpre hholds;obtain ⟨_,_,_,fn',hfn',_,_,_,_,hval⟩:=hok;obtain rfl:Tryz.f5=fn':=Option.some.inj (Tryz.func5.symm.trans hfn');obtain ⟨⟨⟨ds,gs,before,hw,hc⟩,hx⟩,hz⟩:=hpre;have hw':=DataW.Whole.of_heap (w':=w.forCall tape i) (by rfl) hw;have hL:laidMetH Tryz.prog Rows.topMutationRow.laid (w.forCall tape i):=hx.of_heap (by rfl);refine (contract (w.forCall tape i) w.heap.size i.args ds gs before hval hw' (hz.weights hw) hL hsh).mono fun e W' ⟨v,he,hp⟩=>?_;subst he;exact ChangeSpec.post_blind hp
theorem over:Rows.topMutationRow.holds Tryz.pinned (OpenSpec.ofChange Rows.topMutationSpec) :=
 OpenClaim.holds_of_wide 5 Tryz.f5 rfl rfl rfl rfl rfl rfl rfl ⟨rfl,rfl,rfl,rfl,rfl⟩ rfl rfl rfl rfl rfl (by kernel_rfl) Tryz.func5 (by kernel_rfl)
  (of_decide_eq_true (by kernel_rfl)) (by unfold Func.isWrapper;first | (rw [if_pos (by decide +kernel)];kernel_rfl) | (rw [if_neg (by decide +kernel)];exact ⟨rfl,rfl⟩))
  (fun os started H enc _=>lifted os started H enc)
theorem card:Rows.TopMutationCardSaid :=
 Claim7.holds_tied_plain_at .later [] [.data,.data,.data,.sentinel,.sentinel,.widerDeep,.data,.wider,.data,.data,.wider,.data,.wider,.data,.data,.data,.data,.data,.widerDeep] true (true, "15ecc9c79e249a6444b90bbcf19abc3e3708cfe1e085c627308e9cb82db31089") true
  over (fun _ h=>by cases h) (by kernel_rfl) (fun _ h=>by cases h) topMutation_row_tie rfl ⟨rfl,rfl⟩ (by kernel_rfl) rfl
  (fun f fn hf hfn=>by
   obtain rfl:f=5:=Option.some.inj ((show Tryz.prog.funcNamed "paxtar/paxtartop.TopMutation" = some 5 by kernel_rfl).symm.trans hf) |>.symm;obtain rfl:fn=Tryz.f5:=(Option.some.inj (Tryz.func5.symm.trans hfn)).symm;exact ⟨by kernel_rfl,fun j t ht=>by
    rw [Tryz.params5] at ht;have hm:t∈([22,26,5]:List TypeId):=by simpa using Array.mem_of_getElem? ht
    have hall:(([22,26,5]:List TypeId).all fun u=>!Tryz.prog.wantsStandIn u)=true:=by kernel_rfl
    exact (show Tryz.prog.wantsStandIn t=false by simpa using List.all_eq_true.1 hall t hm)⟩)
  (by kernel_rfl)
end Go.Proofs.YteikiojmcipkmaaGreatDoor.topMutationRow
namespace Go.Proofs.YteikiojmcipkmaaGreatDoor
theorem topMutation_holds:Rows.TopMutationCardSaid:=topMutationRow.card
#print axioms topMutation_holds
end Go.Proofs.YteikiojmcipkmaaGreatDoor
