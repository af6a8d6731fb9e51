/- Parts of the proof, gathered by a program: what calls of the functions answer, and what follows in plain lists. Conditions: those that each theorem states. -/
import Derived.Test.YteikiojmcipkmaaGreatDoorMR37
set_option linter.unusedVariables false
set_option linter.unusedSimpArgs false
namespace Go.Proofs.YteikiojmcipkmaaGreatDoor
open Go.Lib (hid)
set_option maxRecDepth 100000
namespace ZTop5
open Go.RowKit YteikiojmcipkmaaGreatDoorW.PrintWords YteikiojmcipkmaaGreatDoorW.PrintLast YteikiojmcipkmaaGreatDoorW.PrintMore Oct ZBase ZGlob ZMo ZBlock ZRec ZFit
open ZNod ZCanon ZCount ZRow ZTree ZMem ZMap
open ZTCheck (cell_of TreeOk)
open ZEncode (Canonical arc)
open ZCreate (encM encAll MemOk)
open ZRun ZTreeP ZChain ZCut ZDco ZMut ZBack ZDiff
open ZSumPlain (Bytes)
open ZTop4 (small_of)
open ZAliveB (alive_calls)
open ZTooL (tooL_calls)
theorem mem_bytes {C:List NV} (hd:∀ x∈C,Bytes x.data):∀ m∈(memS C).2,Bytes m.data:=fun m hm=>by
 rcases ZCreate.memS_data C m hm with ⟨_,_,e⟩ | ⟨y,hy,_,_,e⟩
 ·rw [e];exact fun x hx=>by cases hx
 ·rw [e];exact hd y hy
theorem enc_bytes {C:List NV} (h:Small C) (hd:∀ x∈C,Bytes x.data):Bytes (encAll (memS C).2):=fun x hx=>arc_bytes h hd x (by unfold arc;exact List.mem_append_left _ hx)
theorem xor_byte (o b:Int) (ho:0≤o∧o < 256) (hb:0≤b∧b < 256) (h0:b≠0):(0≤Go.bits .xor .u8 o b∧Go.bits .xor .u8 o b < 256)∧Go.bits .xor .u8 o b≠o:=by
 rw [u8_xor o b ho.1 ho.2 hb.1 hb.2];have h1:o.toNat ^^^ b.toNat < 2 ^ 8:=Nat.xor_lt_two_pow (by omega) (by omega);refine ⟨by omega,fun h=>?_⟩;have h2:o.toNat ^^^ b.toNat=o.toNat:=by omega
 have h3:b.toNat=0:=by have:=congrArg (fun x=>o.toNat ^^^ x) h2;simp only [← Nat.xor_assoc,Nat.xor_self,Nat.zero_xor] at this;exact this
 omega
theorem row_at {w:World} {g:Nat} {D:List NV} (h:NodesAt w (some ⟨g,0,none⟩) D) (i:Nat) (x:NV) (hi:D[i]?=some x):w.cell? ⟨g,i * 6,none⟩=some (.int .i64 x.kind)∧w.cell? ⟨g,i * 6+2,none⟩=some (.int .i64 x.mode):=by have h1:=h.cells i x hi;rw [Nat.zero_add] at h1;exact ⟨h1.1,h1.2.2.1⟩
set_option maxHeartbeats 16000000 in
theorem top_mut (A:Option Addr) (cap:Nat) (l:List NV) (at_ by_:Nat) (w:World) (hl:NodesAt w A l) (hc:l.length≤cap) (hz:∀ x∈l,x.path.size≤1000000000000000∧x.target.size≤1000000000000000∧x.data.length≤1000000000000000) (hby:∀ x∈l,Bytes x.data) (hat:at_ < 65536) (hbb:by_ < 256) (hG:Gl w) (h20:20≤w.heap.size): Calls Tryz.prog 5 #[.slice A l.length cap,.int .u16 at_,.int .u8 by_] w fun e w'=>e=.returned (.bool true)∧Below w.heap.size w w':=by
 have TL:=hid (tooL_calls A cap l w hl hc hz);have AL:=hid (fun (W:World) (hW:Below w.heap.size w W)=>alive_calls W (hG.below hW) (by have:=hW.size;omega));have HH:=hid (And.intro hl (And.intro hc (And.intro hby (And.intro hat (And.intro hbb (And.intro hG h20))))));clear hl hz hby hG h20 hbb;go_enter Tryz.func5,Tryz.ntmps5
 go_wp2_with fail
 refine TL.out.mono ?_;rintro e w1 ⟨v,rfl,hb1,hv⟩;have B1:=hid hb1;rcases hv with rfl | ⟨rfl,h40,hsum⟩
 ·
  have hg:(1:Int) > 0:=by decide
  clear hb1
  go_wp2_with fail
  refine (AL.out _ B1.out).mono ?_;rintro e w2 ⟨rfl,hb2⟩;have BE:=hid (below_step B1.out hb2);clear hb2
  go_wp2_with fail
  go_ret;exact ⟨rfl,BE.out⟩
 ·
  have hg:¬ (0:Int) > 0:=by decide
  have HS:=hid (And.intro h40 hsum);clear hb1 h40 hsum;by_cases hb0:by_=0
  ·
   have hd:((by_:Int) == 0)=true:=by rw [hb0];rfl
   clear hb0
   go_wp2_with fail
   refine (AL.out _ B1.out).mono ?_;rintro e w2 ⟨rfl,hb2⟩;have BE:=hid (below_step B1.out hb2);clear hb2
   go_wp2_with fail
   go_ret;exact ⟨rfl,BE.out⟩
  ·
   have hd:((by_:Int) == 0)=false:=beq_eq_false_iff_ne.2 (by omega);have HB0:=hid hb0;have EC:=hid (ZEncode.encode_calls A cap l HS.out.1 (fun x hx=>by have:=HS.out.2 x hx;omega) (fun x hx=>by have:=HS.out.2 x hx;omega) w1 (HH.out.2.2.2.2.2.1.below B1.out) (by have:=B1.out.size;have:=HH.out.2.2.2.2.2.2;omega) (HH.out.1.below B1.out) hc);clear hb0
   go_wp2_with fail
   refine EC.out.mono ?_;rintro e w3 ⟨hb3,⟨x,rfl,hx0,_⟩ | ⟨hT,C,hC,g,cap',rfl,ho⟩⟩
   ·
    have hx:(x != 0)=true:=by rw [bne_iff_ne];exact hx0
    have B3:=hid (below_step B1.out hb3);clear hb3 hx0
    go_wp2_with fail
    refine (AL.out _ B3.out).mono ?_;rintro e w4 ⟨rfl,hb4⟩;have BE:=hid (below_step B3.out hb4);clear hb4
    go_wp2_with fail
    go_ret;exact ⟨rfl,BE.out⟩
   ·
    obtain ⟨hL1,hL2⟩:=ZEncode.arc_len hC hT (fun x hx=>by have:=HS.out.2 x hx;omega) HS.out.1;obtain ⟨hSm,hSb⟩:=small_of hT hC HS.out.1 (fun x hx=>by have:=HS.out.2 x hx;omega) HH.out.2.2.1;obtain ⟨L,hL⟩:∃ L,(arc C).length=L:=⟨_,rfl⟩;rw [hL] at hL1 hL2 ho ⊢;have B3:=hid (below_step B1.out hb3);have bz:((L:Int) == 0)=false:=by rw [beq_eq_false_iff_ne];omega
    have bz2:(L:Int)≠0:=by omega
    have bz3:¬ L=0:=by omega
    have bx:((0:Int) != 0)=false:=rfl;obtain ⟨k,hk,hkL⟩:∃ k:Nat,(at_:Int).tmod (L:Int)=k∧k < L:=⟨at_ % L,by rw [Int.ofNat_tmod],Nat.mod_lt _ (by omega)⟩;obtain ⟨o,ho1⟩:∃ o,(arc C)[k]?=some o:=⟨_,List.getElem?_eq_getElem (by omega)⟩;have hob:0≤o∧o < 256:=arc_bytes hSm hSb o (List.mem_of_getElem? ho1);obtain ⟨v,hv⟩:∃ v,Go.bits .xor .u8 o (by_:Int)=v:=⟨_,rfl⟩;have hxv:=xor_byte o by_ hob (by have:=HH.out.2.2.2.2.1;omega) (by have:=HB0.out;omega);rw [hv] at hxv;have hgd:(arc C).getD k 0=o:=by rw [List.getD_eq_getElem?_getD,ho1];rfl
    have HC:=hid (And.intro hT (And.intro hC (And.intro ho (And.intro hSm (And.intro hSb hL)))));have HV:=hid (And.intro ho1 (And.intro hxv hgd));clear hT hC ho hSm hSb hL hb3 ho1 hxv hob hgd
    go_wp2_with (at_builtin;refine append_new w3 rfl (.tmp 42) (.tmp 43) rfl (some ⟨g,0,none⟩) L cap' (arc C) rfl rfl HC.out.2.2.1.reads (by omega) (by omega) ?_;intro g2 cap2 w4 ho4 hb4;have HO4:=hid ho4;have HB4:=hid hb4;obtain ⟨c0,f0⟩:=ho4.cell k hkL;rw [HV.out.2.2] at c0;clear ho4 hb4)
    have HO5:=hid (HO4.out.set k v);have B5:=hid (below_step B3.out (HB4.out.setCell (show w3.heap.size≤(⟨g2,k,none⟩:Addr).block from HO4.out.from_) (.int .u8 v)));obtain ⟨w5,hw5⟩:∃ X,w4.setCell ⟨g2,k,none⟩ (.int .u8 v)=X:=⟨_,rfl⟩;rw [hw5] at HO5 B5 ⊢;have HL:=hid HC.out.2.2.2.2.2;have hml:(memS C).2.length=l.length:=by rw [memS_len,HC.out.2.1.len]
    have harc:arc C=encAll (memS C).2++List.replicate 1024 0:=rfl;have hel:(encAll (memS C).2).length+1024=L:=by have h:=HL.out;rw [harc,List.length_append,List.length_replicate] at h;exact h
    have hC5:Kd.C (Kd.int .u8) w5 (some ⟨g2,0,none⟩) L ((encAll (memS C).2++List.replicate 1024 0).set k v):=by rw [← harc];exact HO5.out.reads
    have DC:=hid (decode_mut (mok_memS HC.out.2.2.2.1) (mem_bytes HC.out.2.2.2.2.1) (by have:=HS.out.1;omega) (by omega) (enc_bytes HC.out.2.2.2.1 HC.out.2.2.2.2.1) k v HV.out.2.1.1 (by rw [← harc,HV.out.1];exact fun h=>HV.out.2.1.2 (by injection h with h;exact h.symm)) (by omega) (some ⟨g2,0,none⟩) L cap2 w5 hC5 (HH.out.2.2.2.2.2.1.below B5.out) (by have:=B5.out.size;have:=HH.out.2.2.2.2.2.2;omega));have HM:=hid (And.intro hml harc);clear hw5 hml harc hel hC5 c0 f0;refine DC.out.mono ?_;rintro e w6 ⟨hb6,⟨o2,x,hx0,rfl⟩ | ⟨M',hal,hcs,hfit,g6,D,o2,rfl,hrow,hcl,hcan⟩⟩
    ·
     have hx:(x != 0)=true:=by rw [bne_iff_ne];exact hx0
     have B6:=hid (below_step B5.out hb6);clear hb6 hx0;unfold nilV
     go_wp2_with fail
     refine (AL.out _ B6.out).mono ?_;rintro e w7 ⟨rfl,hb7⟩;have BE:=hid (below_step B6.out hb7);clear hb7
     go_wp2_with fail
     go_ret;exact ⟨rfl,BE.out⟩
    ·
     have B6:=hid (below_step B5.out hb6);have hmk:=mok_memS HC.out.2.2.2.1;have hM40:M'.length≤40:=by rw [hal.len,HM.out.1];exact HS.out.1
     obtain ⟨hsD,hTD,hsim,harcs⟩:=back_arc hal.ok hfit hM40 hcan;have hDl:D.length=l.length:=by rw [hsim.len,runSt_len,hal.len,HM.out.1];simp [st0]
     have hMl:M'.length=l.length:=by rw [hal.len,HM.out.1]
     rw [hMl];have ND:=hid (ZEqual.nodes_of hrow hcl);have HD:=hid (And.intro hsD (And.intro hTD (And.intro hsim (And.intro harcs (And.intro hDl (And.intro hal (And.intro hcs hfit)))))));have HO6:=hid (HO5.out.below hb6);have hpD:∀ x∈D,x.path.size≤1000000:=fun x hx=>by have h1:=(hTD.node x hx).ent.path.1;have h2:(entOf x).path=x.path:=rfl;rw [h2] at h1;omega
     have EC2:=ZEncode.encode_calls (some ⟨g6,0,none⟩) l.length D (by rw [hDl];exact HS.out.1) hsD.data hpD w6 (HH.out.2.2.2.2.2.1.below B6.out) (by have:=B6.out.size;have:=HH.out.2.2.2.2.2.2;omega) ND.out (by rw [hDl];exact Nat.le_refl _);rw [hDl] at EC2;have EC3:=hid EC2;clear EC2 hsD hTD hsim harcs hDl hMl hal hcs hfit hrow hcl hcan hb6 hpD hmk hM40
     go_wp2_with fail
     refine EC3.out.mono ?_;rintro e w7 ⟨hb7,⟨x,rfl,hx0,hno⟩ | ⟨_,C2,hC2,g7,cap7,rfl,ho7⟩⟩
     ·exact absurd HD.out.2.1 hno
     ·
      have harc2:arc C2=(arc C).set k v:=by rw [HD.out.2.2.2.1 C2 hC2,HM.out.2];exact HD.out.2.2.2.2.2.2.1.symm
      have hl2:(arc C2).length=L:=by rw [harc2,List.length_set];exact HL.out
      rw [hl2] at ho7 ⊢;have cvA:(convert 30 9 (.slice (some ⟨g7,0,none⟩) L cap7)).run Tryz.prog w7=.ok (.string (strOfNums ((arc C).set k v))) w7:=by rw [← harc2];exact Kd.C_string Tryz.underlying30 Tryz.underlying5 Tryz.underlying9 ho7.reads
      have cvB:(convert 30 9 (.slice (some ⟨g2,0,none⟩) L cap2)).run Tryz.prog w7=.ok (.string (strOfNums ((arc C).set k v))) w7 :=
       Kd.C_string Tryz.underlying30 Tryz.underlying5 Tryz.underlying9 (HO6.out.below hb7).reads
      obtain ⟨S,hS⟩:∃ S,strOfNums ((arc C).set k v)=S:=⟨_,rfl⟩;rw [hS] at cvA cvB;have B7:=hid (below_step B6.out hb7);have ND7:=hid (ND.out.below hb7);have HC2:=hid (And.intro hC2 harc2);have EQ:=equal_any A (some ⟨g6,0,none⟩) cap l.length l D HS.out.1 (by rw [HD.out.2.2.2.2.1];exact HS.out.1) (fun x hx=>by have:=HS.out.2 x hx;omega) (fun x hx=>by have:=HD.out.1.data x hx;omega) w7 (HH.out.1.below B7.out) ND7.out hc (by rw [HD.out.2.2.2.2.1];exact Nat.le_refl _);rw [HD.out.2.2.2.2.1] at EQ;have EQ2:=hid EQ;have bx2:((0:Int) != 0)=false:=rfl;clear hS hb7 hC2 harc2 hl2 ho7 EQ
      go_wp2_with fail
      refine EQ2.out.mono ?_;rintro e w8 ⟨b,rfl,hbt,hb8⟩;have hbf:b=false:=by
       cases b with
       | false=>rfl
       | true =>
        exfalso;obtain ⟨C',C2',h1,h2,h3,h4⟩:=hbt rfl;have e1:=arc_strip (strip_all h3 h4);have e2:=arc_strip (canon_uniq HC.out.1 HC.out.2.1 h1);have e3:=arc_strip (canon_uniq HD.out.2.1 HC2.out.1 h2);have e4:(arc C).set k v=arc C:=by rw [← HC2.out.2,← e3,e1,e2]
        have e5:((arc C).set k v)[k]?=some v:=List.getElem?_set_self (by rw [HL.out];exact hkL);rw [e4,HV.out.1] at e5;injection e5 with e5
        exact HV.out.2.1.2 e5.symm
      subst hbf;have B8:=hid (below_step B7.out hb8);have ND8:=hid (ND7.out.below hb8);have CC:=hid (canon_calls A cap l HS.out.1 (fun x hx=>by have:=HS.out.2 x hx;omega) w8 (HH.out.1.below B8.out) hc);have bl:((l.length:Int) != (l.length:Int))=false:=by simp
      clear hbt hb8 cvA cvB
      go_wp2_with fail
      refine CC.out.mono ?_;rintro r w9 ⟨g8,K,S3,rfl,q1,q2,q3,q4,q5,q6,q7⟩;have hC3:Canonical l (renum (num (countsOf (l.map (·.cls)))) S3):=⟨K,S3,q1,q2,q3,rfl⟩;have NC:=hid (ZEqual.nodes_of q6 q7);obtain ⟨C3,hC3e⟩:∃ C3,renum (num (countsOf (l.map (·.cls)))) S3=C3:=⟨_,rfl⟩;rw [hC3e] at NC hC3;have B9:=hid (below_step B8.out q4);have ND9:=hid (ND8.out.below q4);have KM:Hid (∀ (i:Nat) (x y:NV),D[i]?=some x→C3[i]?=some y→y.kind=x.kind∧y.mode=x.mode):=hid (fun i x y hx hy=>by
       have hCok:=HC.out.2.2.2.1.ok;have hs3:=canon_uniq HC.out.1 HC.out.2.1 hC3;have hi:=(List.getElem?_eq_some_iff.1 hy).1;obtain ⟨z,hz⟩:∃ z,C[i]?=some z:=⟨_,List.getElem?_eq_getElem (by rw [HC.out.2.1.len,← hC3.len];exact hi)⟩;have h1:strip y=strip z:=by have:=congrArg (fun L=>L[i]?) hs3;simp only [List.getElem?_map,hy,hz,Option.map_some,Option.some.injEq] at this;exact this
       have hsC:=ch_last hCok;obtain ⟨z2,hz2⟩:=ZRen.at_len hsC.len hz;have hlk:=hsC.lk i z z2 hz hz2;have hinv:=inv_memS hCok;have hfit:=HD.out.2.2.2.2.2.2.2;have hinv':=inv_all _ hfit;have hsim:=HD.out.2.2.1;obtain ⟨x2,hx2⟩:=ZRen.at_len hsim.symm.len hx;have hlk2:=hsim.lk i x2 x hx2 hx;obtain ⟨k1,k2⟩:=same_kinds HD.out.2.2.2.2.2.1 hinv hinv' i z2 x2 hz2 hx2;exact ⟨by rw [s_kind h1,hlk2.kind,k1,hlk.kind],by rw [s_mode h1,hlk2.mode,k2,hlk.mode]⟩)
      have HLN:=hid (And.intro hC3.len HD.out.2.2.2.2.1);clear q1 q2 q3 q4 q5 q6 q7 hC3 hC3e
      go_wp2_with fail
      go_loopw [105] (fun i wr=>∃ j:Nat,j≤l.length∧i=.int .i64 j∧Hid (Below w9.heap.size w9 wr)) (fun i _=>l.length - (intOf i).toNat)
      case atStart=>exact ⟨0,Nat.zero_le _,rfl,hid (Below.refl _ _)⟩
      case round =>
       obtain ⟨j,hj,rfl,HB⟩:=hrel;by_cases hlt:j < l.length
       ·
        have hltz:(j:Int) < (l.length:Int):=by omega
        obtain ⟨x,hx⟩:∃ x,D[j]?=some x:=⟨_,List.getElem?_eq_getElem (by rw [HLN.out.2];exact hlt)⟩;obtain ⟨y,hy⟩:∃ y,C3[j]?=some y:=⟨_,List.getElem?_eq_getElem (by rw [HLN.out.1];exact hlt)⟩;obtain ⟨k1,k2⟩:=KM.out j x y hx hy;obtain ⟨c0,c2⟩:=row_at (ND9.out.below HB.out) j x hx;obtain ⟨d0,d2⟩:=row_at (NC.out.below HB.out) j y hy;rw [k1] at d0;rw [k2] at d2;have bk:(x.kind != x.kind)=false:=by simp
        have bm:(x.mode != x.mode)=false:=by simp
        clear hx hy k1 k2
        go_wp2_with fail
        repeat (go_quiet (fail);try go_wp2_with fail)
        have hl40:=HS.out.1;have hw:wrap64 ((j:Int)+1)=((j+1:Nat):Int):=by clear c0 c2 d0 d2 bk bm;unfold wrap64;omega
        rw [hw];refine ⟨⟨j+1,hlt,rfl,hid (pw_below_drewN HB.out _)⟩,?_⟩;clear c0 c2 d0 d2 bk bm hw;simp only [intOf];omega
       ·
        obtain rfl:j=l.length:=by omega
        go_wp2_with fail
        refine (AL.out _ (below_step B9.out HB.out)).mono ?_;rintro e w10 ⟨rfl,hb10⟩;have BE:=hid (below_step (below_step B9.out HB.out) hb10);clear hb10
        go_wp2_with fail
        go_ret;exact ⟨rfl,BE.out⟩
end ZTop5
end Go.Proofs.YteikiojmcipkmaaGreatDoor
