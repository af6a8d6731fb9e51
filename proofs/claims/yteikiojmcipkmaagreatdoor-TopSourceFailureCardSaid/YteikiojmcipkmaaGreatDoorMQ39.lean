/- Parts of the proof, gathered by a program: what calls of the functions answer, and what follows in plain lists. Conditions: those that each theorem states. -/
import Derived.Test.YteikiojmcipkmaaGreatDoorMQ36
import Derived.Test.YteikiojmcipkmaaGreatDoorMQ37
import Derived.Test.YteikiojmcipkmaaGreatDoorMQ38
set_option linter.unusedVariables false
set_option linter.unusedSimpArgs false
namespace Go.Proofs.YteikiojmcipkmaaGreatDoor
open Go.Lib (hid)
set_option maxRecDepth 100000
namespace ZRx
open Go.RowKit YteikiojmcipkmaaGreatDoorW.PrintWords YteikiojmcipkmaaGreatDoorW.PrintLast YteikiojmcipkmaaGreatDoorW.PrintMore Oct ZBase
open ZFit ZNod ZTree ZRv ZRt
open ZMem ZTreeP ZCut ZCreate
open ZEntry (encE)
open ZEncode (arc)
open ZSink (pad5)
open ZTCheck (cell_of)
open ZSumPlain (Bytes)
theorem mem_cell {w:World} {base:Nat} {g n c:Nat} {M:List MB} (h:w.ownsRow base 56 6 (.slice (some ⟨g,0,none⟩) n c) n (memCells M)) {j:Nat} {m:MB} (hj:M[j]?=some m) (i:Nat) (hi:i < 6) (u:Value) (hu:m.cells[i]?=some u):w.cell? ⟨g,j * 6+i,none⟩=some u:=by have h1:=h.cells (g:=g) rfl (j * 6+i) u (by rw [memCells_get M j i m hj hi];exact hu);rw [Go.WideShapes.add_plain,Nat.zero_add] at h1;exact h1
theorem pad_at (a n q:Nat) (ha:a % 512=n % 512) (hq:q≤pad5 n):(a+q) % 512=0↔q=pad5 n:=by unfold pad5 at *;omega
theorem memok_of {M:List MB} {K:List NV} (hK:Small K) (hM:M.map bareM=((memS K).2).map bareM):∀ m∈M,MemOk m:=by
 intro m hm;have h1:bareM m∈((memS K).2).map bareM:=by rw [← hM];exact List.mem_map.2 ⟨m,hm,rfl⟩
 obtain ⟨m',hm',e⟩:=List.mem_map.1 h1;have h2:=(memS_ok K (fun y hy=>nok (hK.ok.node y hy) (hK.data y hy))).1 m' hm';have e1:m'.ent=m.ent:=by show (bareM m').ent=(bareM m).ent;rw [e]
 have e2:m'.data=m.data:=by show (bareM m').data=(bareM m).data;rw [e]
 exact ⟨by rw [← e1];exact h2.ent,by rw [← e2];exact h2.data,by rw [← e1,← e2];exact h2.size⟩
theorem encE_pos {e:Ent} (he:e.Ok) (hs:e.size≤8589934591):0 < (encE e).length:=by
 have h3:=Go.Proofs.YteikiojmcipkmaaGreatDoor.ZEntry.blkB_len (Go.Proofs.YteikiojmcipkmaaGreatDoor.ZPlanOk.planH_ok he hs);unfold encE;split
 ·omega
 ·simp only [List.length_append,h3];omega
theorem take_next {M:List MB} {j:Nat} {m:MB} (h:M[j]?=some m):encAll (M.take (j+1))=encAll (M.take j)++encM m:=by rw [List.take_add_one,h];exact encAll_snoc _ _
set_option maxHeartbeats 8000000 in
theorem encode_calls (H43:ZRl.Enc43) (A:Option Addr) (cap:Nat) (l:List NV) (hc:l.length≤cap) (h40:l.length≤40) (hd:∀ x∈l,x.data.length≤100000) (hp:∀ x∈l,x.path.size≤1000000∧x.target.size≤1000000) (hby:∀ y∈l,Bytes y.data) (w:World) (hl:NodesAt w A l): Calls Tryz.prog 9 #[.slice A l.length cap] w fun r w'=>Below w.heap.size w w'∧((∃ e:Int,e≠0∧r=.returned (.tuple #[.slice none 0 0,.int .i64 e])) ∨ ∃ K g cap',Small K∧(∀ y∈K,Bytes y.data)∧r=.returned (.tuple #[.slice (some ⟨g,0,none⟩) (arc K).length cap',.int .i64 0])∧ZBase.Own w' w.heap.size g cap' (arc K).length (arc K)∧(arc K).length≤100000000):=by
 have MC:=hid (ZRt.members_calls A cap l hc h40 hd hp hby w hl);clear hd hp hby hl;go_enter Tryz.func9,Tryz.ntmps9
 go_wp2_with fail
 refine MC.out.mono ?_;rintro r w1 ⟨hb1,⟨i,e,he,rfl⟩ | ⟨v,K,M,n,rfl,hS,hBy,hown,hbare,hdat⟩⟩
 ·
  have be:(e != 0)=true:=by rw [bne_iff_ne];exact he
  have B1:=hid hb1;have HE:=hid he;clear hb1 he
  go_wp2_with fail
  go_ret2
  exact ⟨B1.out,.inl ⟨e,HE.out,rfl⟩⟩
 ·
  have B1:=hid hb1;have HM:=hid (memok_of hS hbare);have hML:M.length≤40:=by have h1:=congrArg List.length hbare;simp only [List.length_map] at h1;have h2:=(memS_ok K (fun y hy=>nok (hS.ok.node y hy) (hS.data y hy))).2;have:=hS.len;omega
  have HA:Hid (encAll M=encAll (memS K).2):=hid (encAll_bare hbare);have HLN:Hid (∀ j,(encAll (M.take j)).length≤12040000∧(encAll (M.take j)).length % 512=0):=hid fun j=>by
   obtain ⟨h1,h2⟩:=encAll_len (M.take j) (fun m hm=>HM.out m (List.mem_of_mem_take hm));have:(M.take j).length≤40:=by rw [List.length_take];omega
   have:(M.take j).length * 301000≤40 * 301000:=Nat.mul_le_mul_right _ this;exact ⟨by omega,h2⟩
  have HD:=hid (And.intro hS (And.intro hBy (And.intro hown hdat)));obtain ⟨A4,c4,rfl⟩:=ZMem.own_slice hown;clear hb1 hS hBy hown hbare hdat;have be:((0:Int) != 0)=false:=rfl
  go_wp2_with fail
  go_loopw [7,8] (fun v7 v8 wr=>∃ j:Nat,v8=.int .i64 j∧j≤M.length∧wr.ownsRow w1.heap.size 5 1 v7 (encAll (M.take j)).length (nums .u8 (encAll (M.take j)))∧Below w1.heap.size w1 wr) (fun _ v8 _=>M.length - (intOf v8).toNat)
  case atStart=>exact ⟨0,rfl,Nat.zero_le _,own_nil _ _ _ _,Below.refl _ _⟩
  case round =>
   obtain ⟨j,rfl,hj,ho,hb⟩:=hrel;have HO:=hid ho;have HB:=hid hb;obtain ⟨A7,c7,rfl⟩:=ZMem.own_slice ho;clear ho hb;by_cases hlt:j < M.length
   ·
    have hltz:(j:Int) < (M.length:Int):=by omega
    obtain ⟨m,hm⟩:∃ m,M[j]?=some m:=⟨_,List.getElem?_eq_getElem hlt⟩;have hmm:=List.mem_of_getElem? hm;obtain ⟨g4,c4',e4,_,_⟩:=World.ownsRow.form HD.out.2.2.1 (by omega);simp only [Value.slice.injEq] at e4;obtain ⟨rfl,_,rfl⟩:=e4;have MCELL:Hid (∀ W,Below w1.heap.size w1 W→∀ i,i < 6→∀ u,m.cells[i]?=some u→W.cell? ⟨g4,j * 6+i,none⟩=some u):=hid fun W hW i hi u hu=>mem_cell (pw_own_below HD.out.2.2.1 hW) hm i hi u hu;have HC:=hid (fun W (hW:Below w1.heap.size w1 W)=>Kd.C_below (HD.out.2.2.2 m hmm).reads hW);have EC:=hid (fun W=>ZRp.encode_calls H43 m.ent (HM.out m hmm).ent (HM.out m hmm).small W);have hEl:=encE_len (HM.out m hmm).ent (HM.out m hmm).small;have hE0:0 < (encE m.ent).length:=encE_pos (HM.out m hmm).ent (HM.out m hmm).small;have TN:=hid (take_next hm);unfold encM at TN;have hdl:=(HM.out m hmm).data;obtain ⟨hjl,hjm⟩:=HLN.out j;obtain ⟨P,hP⟩:∃ P,encAll (M.take j)=P:=⟨_,rfl⟩;rw [hP] at TN HO hjl hjm ⊢;obtain ⟨⟨kind,path,mode,target,size⟩,addr,mc,data⟩:=m;unfold MB.cells at MCELL;unfold Ent.val Ent.cells at EC;dsimp only at MCELL EC HC TN hEl hE0 hdl;obtain ⟨E,hE⟩:∃ E,encE ⟨kind,path,mode,target,size⟩=E:=⟨_,rfl⟩;rw [hE] at EC TN hEl hE0;have PA:=hid (fun q h=>pad_at (P.length+E.length+data.length) data.length q (by omega) h);have hp5:pad5 data.length < 512:=by unfold pad5;omega
    obtain ⟨p,hpp⟩:∃ p,pad5 data.length=p:=⟨_,rfl⟩;rw [hpp] at TN PA hp5;clear hP hE hpp hm hmm;have c0:=MCELL.out _ HB.out 0 (by decide) _ rfl;have c1:=MCELL.out _ HB.out 1 (by decide) _ rfl;have c2:=MCELL.out _ HB.out 2 (by decide) _ rfl;have c3:=MCELL.out _ HB.out 3 (by decide) _ rfl;have c4:=MCELL.out _ HB.out 4 (by decide) _ rfl;simp only [Nat.add_zero] at c0
    go_wp2_with fail
    refine (EC.out _).mono ?_;rintro r w2 ⟨g5,cap5,rfl,ho5,hb5⟩;have HO5:=hid ho5;have B5:=hid (below_step HB.out hb5);have HO2:=hid (pw_own_below HO.out hb5);clear ho5 hb5 c0 c1 c2 c3 c4
    go_wp2_with (first
     | (at_builtin;refine ZSum.append_bytes (w0:=w1) w1.heap.size rfl (.tmp 35) (.tmp 36) rfl (.slice A7 P.length c7) P (some ⟨g5,0,none⟩) E.length cap5 E rfl rfl HO2.out HO5.out.reads B5.out B5.out.size (by omega) ?_;intro v6 w6 ho6 hb6 _ _;obtain ⟨g6,cap6,rfl,_,_⟩:=World.ownsRow.form ho6 (by omega);have HO6:Hid (ZBase.Own w6 w1.heap.size g6 cap6 (P.length+E.length) (P++E)):=hid ⟨ho6⟩;have B6:=hid hb6;have c5:=MCELL.out _ hb6 5 (by decide) _ rfl;clear ho6 hb6)
     | (at_builtin;refine ZRb.append_own (w0:=w1) w1.heap.size rfl (.tmp 38) (.tmp 43) rfl g6 cap6 (P.length+E.length) (P++E) addr data.length mc data rfl rfl HO6.out (HC.out _ B6.out) B6.out B6.out.size (by omega) (by omega) ?_;intro g7 cap7 w7 ho7 hb7;have HO7:=hid ho7;have B7:=hid hb7;clear ho7 hb7))
    go_loopw [7] (fun v7 wq=>∃ (g cap q m:Nat),q≤p∧v7=.slice (some ⟨g,0,none⟩) m cap∧m=P.length+E.length+data.length+q∧ZBase.Own wq w1.heap.size g cap m (P++E++data++List.replicate q 0)∧Below w1.heap.size w1 wq) (fun v7 _=>P.length+E.length+data.length+p - (match v7 with | .slice _ l _=>l | _=>0))
    case atStart=>exact ⟨g7,cap7,0,_,Nat.zero_le _,rfl,rfl,by simpa using HO7.out,B7.out⟩
    case round =>
     obtain ⟨g8,cap8,q,mm,hq,rfl,hmq,ho8,hb8⟩:=hrel;have HO8:=hid ho8;have B8:=hid hb8;have HMQ:=hid hmq;have hmb:mm≤300000000:=by omega
     clear ho8 hb8 hmq;by_cases hlast:q=p
     ·
      have hz:(mm:Int) % 512=0:=by have:=(PA.out q hq).2 hlast;have:=HMQ.out;omega
      have hz2:((mm:Int) % 512 != 0)=false:=by rw [hz];rfl
      have hz3:(mm:Int).tmod 512=0:=by rw [Int.tmod_eq_emod_of_nonneg (by omega)];exact hz
      have HQ:=hid hlast;clear hlast
      go_wp2_with fail
      go_roundw
      case rel =>
       have e1:encAll (M.take (j+1))=P++E++data++List.replicate q 0:=by rw [TN.out,HQ.out];simp
       have e2:(P++E++data++List.replicate q (0:Int)).length=mm:=by simp [HMQ.out];omega
       refine ⟨j+1,by first | rfl | go_num,by omega,?_,B8.out⟩;rw [e1,e2];exact HO8.out.row
      case measure=>first | (simp [intOf];done) | (simp [intOf];omega)
     ·
      have hz:(mm:Int) % 512≠0:=fun h=>hlast ((PA.out q hq).1 (by have:=HMQ.out;omega));have hz2:((mm:Int) % 512 != 0)=true:=by rw [bne_iff_ne];exact hz
      have hz3:(mm:Int).tmod 512≠0:=by rw [Int.tmod_eq_emod_of_nonneg (by omega)];exact hz
      have hz4:((mm:Int).tmod 512 != 0)=true:=by rw [bne_iff_ne];exact hz3
      have hqp:q < p:=by omega
      clear hlast
      go_wp2_with (at_builtin;refine ZRb.append_own (w0:=w1) w1.heap.size rfl (.tmp 49) (.tmp 50) rfl g8 cap8 mm (P++E++data++List.replicate q 0) (some ⟨wr.heap.size,0,none⟩) 1 1 [0] rfl rfl (HO8.out.below (below_alloc (Below.refl _ _) _)) (ZRb.one_byte 0 wr) (B8.out.alloc B8.out.size _) (Nat.le_trans B8.out.size (by simp)) (by omega) (by omega) ?_;intro g9 cap9 w9 ho9 hb9;have HO9:=hid ho9;have B9:=hid hb9;clear ho9 hb9)
      go_roundw
      case rel=>exact ⟨g9,cap9,q+1,mm+1,by omega,rfl,by have:=HMQ.out;omega,by rw [List.replicate_succ',← List.append_assoc];exact HO9.out,B9.out⟩
      case measure=>have:=HMQ.out;simp;omega
   ·
    obtain rfl:j=M.length:=by omega
    have hl:=(HLN.out M.length).1;rw [List.take_length] at HO hl ⊢
    go_wp2_with (at_builtin;refine ZRu.append_zeros (w0:=w1) w1.heap.size rfl (.tmp 52) _ rfl (.slice A7 (encAll M).length c7) (encAll M) 1024 rfl rfl HO.out HB.out HB.out.size (by decide) (by decide) (by omega) ?_;intro g9 cap9 w9 ho9 hb9;have HO9:=hid ho9;have B9:=hid hb9;clear ho9 hb9)
    go_ret2
    have e1:arc K=encAll M++List.replicate 1024 0:=by rw [HA.out];rfl
    have e2:(arc K).length=(encAll M).length+1024:=by rw [e1,List.length_append,List.length_replicate]
    refine ⟨below_step B1.out B9.out,.inr ⟨K,g9,cap9,HD.out.1,HD.out.2.1,by rw [e2];rfl,?_,by omega⟩⟩;rw [e2,e1];exact HO9.out.lower B1.out.size
end ZRx
end Go.Proofs.YteikiojmcipkmaaGreatDoor
