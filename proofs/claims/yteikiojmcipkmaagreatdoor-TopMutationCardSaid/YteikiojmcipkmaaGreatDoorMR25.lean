/- Parts of the proof, gathered by a program: what calls of the functions answer, and what follows in plain lists. Conditions: those that each theorem states. -/
import Derived.Test.YteikiojmcipkmaaGreatDoorMR23
import Derived.Test.YteikiojmcipkmaaGreatDoorMR24
set_option linter.unusedVariables false
set_option linter.unusedSimpArgs false
namespace Go.Proofs.YteikiojmcipkmaaGreatDoor
open Go.Lib (hid)
set_option maxRecDepth 100000
section
namespace ZEntry
open ZCstr (noNul)
open ZOctal (make_bytes own_zeros)
open Go.RowKit YteikiojmcipkmaaGreatDoorW.PrintWords YteikiojmcipkmaaGreatDoorW.PrintLast YteikiojmcipkmaaGreatDoorW.PrintMore Oct ZBase ZGlob ZMo ZRec ZFit ZPlan ZSize ZFmt ZCheck ZPlanOk ZConcat ZHead
def blkB (h:Hdr):List Int:=ZSumPlain.sealL (raw h)
theorem blkB_len {h:Hdr} (hk:h.Ok):(blkB h).length=512:=ZSumPlain.seal_len _ (raw_len hk)
def sPax:ByteArray:=⟨#[112,97,120]⟩
def extH (n:Int):Hdr:={ typ:=120,name:=sPax,pre:=⟨#[]⟩,link:=⟨#[]⟩,mode:=0,size:=n }
theorem extH_ok (n:Int) (h0:0≤n) (h1:n≤8589934591):(extH n).Ok:=by have a:noNul sPax:=(noNul_iff _).2 (by decide);have b:noNul ⟨#[]⟩:=(noNul_iff _).2 nul_empty;exact ⟨by simp [extH],⟨a,show 3≤100 by decide⟩,⟨b,Nat.zero_le 100⟩,⟨b,Nat.zero_le 155⟩,by simp [extH],⟨h0,h1⟩⟩
def blocks (n:Nat):Nat:=(n+511) / 512
def padN (n:Nat):Nat:=blocks n * 512 - n
theorem padN_eq (n:Nat):n+padN n=blocks n * 512:=by unfold padN blocks;omega
def encE (e:Ent):List Int:=if planR e=[] then blkB (planH e) else blkB (extH (fmtB (planR e)).length)++(fmtB (planR e)++(List.replicate (padN (fmtB (planR e)).length) 0++blkB (planH e)))
set_option maxHeartbeats 1000000 in
theorem blocks_calls (n:Nat) (hn:n≤4611686018427387904) (w:World):Calls Tryz.prog 83 #[.int .i64 n] w fun e w'=>e=.returned (.int .i64 (blocks n))∧w=w':=by
 by_cases h:n=0
 ·
  have hz:(n:Int)≤0:=by omega
  have hb:blocks n=0:=by unfold blocks;omega
  rw [hb];clear h hb;go_enter Tryz.func83,Tryz.ntmps83
  go_wp2_with fail
  go_ret;exact ⟨rfl,rfl⟩
 ·
  have hz:¬ (n:Int)≤0:=by omega
  obtain ⟨q,hq⟩:∃ q:Nat,((n:Int) - 1) / 512=(q:Int):=⟨(n - 1) / 512,by omega⟩;have hb:blocks n=q+1:=by unfold blocks;omega
  have hqb:q≤4611686018427387904:=by omega
  rw [hb];clear h hb;go_enter Tryz.func83,Tryz.ntmps83
  go_wp2_with fail
  go_ret;exact ⟨by first | rfl | (congr 1),rfl⟩
set_option maxHeartbeats 1000000 in
theorem extended_calls (n:Int) (w:World):Calls Tryz.prog 94 #[.int .i64 n] w fun e w'=>e=.returned (extH n).val∧Below w.heap.size w w':=by
 go_enter Tryz.func94,Tryz.ntmps94
 go_wp2_with fail
 refine bodyPost_ret (v:=(extH n).val) (by simp [results,Tryz.results94,go_sem,Hdr.val,Hdr.cells,extH,sPax]) rfl ⟨rfl,?_⟩;exact (Below.refl _ _).alloc (Nat.le_refl _) _
theorem parts4 {w:World} {base gx capx nx g3 cap3 n3 g cap nl m:Nat} {E F L:List Int} (OX:ZBase.Own w base gx capx nx E) (OF:ZBase.Own w base g3 cap3 n3 F) (OL:ZBase.Own w base g cap nl L) (hm:m≤1000): Parts ((w.alloc (.cells (madeCells #[.int .u8 0] m) 5)).alloc (.cells #[.slice (some ⟨gx,0,none⟩) nx capx,.slice (some ⟨g3,0,none⟩) n3 cap3,.slice (some ⟨w.heap.size,0,none⟩) m m,.slice (some ⟨g,0,none⟩) nl cap] 30)) (w.heap.size+1) [⟨some ⟨gx,0,none⟩,capx,E⟩,⟨some ⟨g3,0,none⟩,cap3,F⟩,⟨some ⟨w.heap.size,0,none⟩,m,List.replicate m 0⟩,⟨some ⟨g,0,none⟩,cap,L⟩]:=by
 have hz:=own_zeros w m (by omega);have b1:=below_alloc (Below.refl w.heap.size w) (.cells (madeCells #[.int .u8 0] m) 5);have b2:=below_alloc (Below.refl _ (w.alloc (.cells (madeCells #[.int .u8 0] m) 5))) (.cells #[.slice (some ⟨gx,0,none⟩) nx capx,.slice (some ⟨g3,0,none⟩) n3 cap3,.slice (some ⟨w.heap.size,0,none⟩) m m,.slice (some ⟨g,0,none⟩) nl cap] 30);have hrow:=heap_alloc2_new w (.cells (madeCells #[.int .u8 0] m) 5) (.cells #[.slice (some ⟨gx,0,none⟩) nx capx,.slice (some ⟨g3,0,none⟩) n3 cap3,.slice (some ⟨w.heap.size,0,none⟩) m m,.slice (some ⟨g,0,none⟩) nl cap] 30);have r1:=((OX.below b1).below b2).reads;have r2:=((OF.below b1).below b2).reads;have r3:=(hz.below b2).reads;have r4:=((OL.below b1).below b2).reads;have l1:=OX.len;have l2:=OF.len;have l4:=OL.len;intro j p hp;obtain rfl | rfl | rfl | rfl | h:j=0∨j=1∨j=2∨j=3∨4≤j:=by omega
 ·simp at hp;subst hp;dsimp only;rw [l1];exact ⟨row_cell hrow 0 _ rfl,r1⟩
 ·simp at hp;subst hp;dsimp only;rw [l2];exact ⟨row_cell hrow 1 _ rfl,r2⟩
 ·simp at hp;subst hp;dsimp only;rw [List.length_replicate];exact ⟨row_cell hrow 2 _ rfl,r3⟩
 ·simp at hp;subst hp;dsimp only;rw [l4];exact ⟨row_cell hrow 3 _ rfl,r4⟩
 ·rw [List.getElem?_eq_none (by simpa using h)] at hp;cases hp
theorem sum4 (a b c d:Part):sumLen [a,b,c,d]=a.data.length+(b.data.length+(c.data.length+d.data.length)):=by simp [sumLen]
theorem all4 (a b c d:Part):allData [a,b,c,d]=a.data++(b.data++(c.data++d.data)):=by simp [allData]
set_option maxHeartbeats 4000000 in
theorem encode_calls (e:Ent) (he:e.Ok) (hs:e.size≤8589934591) (w:World) (hG:Gl w):Calls Tryz.prog 54 #[e.val] w fun r w'=>∃ g cap,r=.returned (.tuple #[.slice (some ⟨g,0,none⟩) (encE e).length cap,.int .i64 0])∧ZBase.Own w' w.heap.size g cap (encE e).length (encE e)∧Below w.heap.size w w':=by
 have HH:=planH_ok he hs;have HR:=hid (planR_ok he hs);have PC:=hid (fun W hW=>plan_calls e hs he W hW);have EC:=hid (ZHead.encode_calls (planH e) HH);obtain ⟨R,hR⟩:∃ R,planR e=R:=⟨_,rfl⟩;have hE:encE e=if R=[] then blkB (planH e) else blkB (extH (fmtB R).length)++(fmtB R++(List.replicate (padN (fmtB R).length) 0++blkB (planH e))):=by rw [encE,hR]
 have HE:=hid hE;have hL:=blkB_len HH;obtain ⟨L,hL0⟩:∃ L,blkB (planH e)=L:=⟨_,rfl⟩;rw [hR] at HR PC;rw [hL0] at HE hL;have e0:ZSumPlain.sealL (raw (planH e))=L:=hL0;rw [e0] at EC;obtain ⟨kind,path,mode,target,size⟩:=e;obtain ⟨H,hH⟩:∃ H,planH ⟨kind,path,mode,target,size⟩=H:=⟨_,rfl⟩;rw [hH] at PC EC;obtain ⟨typ,name,pre,link,hmode,hsize⟩:=H;unfold Hdr.val Hdr.cells Ent.val Ent.cells at *;dsimp only at PC EC ⊢;have HL:=hid hL;clear hE hR hL hL0 e0 hH HH;have q0:=hid (below_alloc (Below.refl w.heap.size w) (.cells #[.int .i64 kind,.string path,.int .i64 mode,.string target,.int .i64 size] 54));have HG:=hid hG;have C1:=hid (PC.out _ (HG.out.below q0.out));clear hG he hs PC;go_enter Tryz.func54,Tryz.ntmps54
 go_wp2_with fail
 refine C1.out.mono ?_;rintro r w1 ⟨v,rfl,hrow,hb1⟩;have B1:=hid (after1 hb1);have HROW:=hid hrow;obtain ⟨A,cc,rfl⟩:=Kd.R_slice hrow;clear hrow hb1;have q1:=hid (below_step B1.out (below_alloc (Below.refl w1.heap.size w1) (.cells #[.int .u8 typ,.string name,.string pre,.string link,.int .i64 hmode,.int .i64 hsize] 138)));have C2:=hid (EC.out _ (HG.out.below q1.out));have bx:((0:Int) != 0)=false:=rfl
 go_wp2_with fail
 refine C2.out.mono ?_;rintro r w2 ⟨g,cap,rfl,ho2,hb2⟩;have B2:=hid (below_step q1.out hb2);have O2:=hid (ho2.lower q1.out.size);have HROW2:=hid (Kd.R_below (Kd.R_below HROW.out (below_alloc (Below.refl _ w1) _)) hb2);clear ho2 hb2;by_cases hR0:R=[]
 ·
  have HE0:=hid (HE.out.trans (if_pos hR0));clear HE;subst hR0
  go_wp2_with fail
  go_ret2
  rw [HE0.out,HL.out];exact ⟨g,cap,rfl,O2.out,B2.out⟩
 ·
  have hn0:0 < R.length:=List.length_pos_iff.2 hR0;have hnz:((R.length:Int) == 0)=false:=by rw [beq_eq_false_iff_ne];omega
  obtain ⟨gr,capr,hv,hg1,hg2,hat⟩:=RecRow.at_ HROW2.out hn0;cases hv;have HE2:Hid (encE ⟨kind,path,mode,target,size⟩=blkB (extH (fmtB R).length)++(fmtB R++(List.replicate (padN (fmtB R).length) 0++L))):=hid (by rw [HE.out,if_neg hR0]);have FC:=hid (format_calls gr cc R HR.out.1 (by have:=HR.out.2;omega) hg2 w2 (HG.out.below B2.out) hat);have hFl:=fmtB_le R fun r hr=>HR.out.1.rest hr;have hF0:0 < (fmtB R).length:=by
   cases R with
   | nil=>exact absurd rfl hR0
   | cons r R =>
    have:(fmtB (r :: R)).length=(recB r).length+(fmtB R).length:=by simp [fmtB]
    have h2:0 < (recB r).length:=by unfold recB;simp;omega
    omega
  have hR2:=HR.out.2;obtain ⟨F,hF⟩:∃ F,fmtB R=F:=⟨_,rfl⟩;rw [hF] at HE2 FC hFl hF0;obtain ⟨n,hn⟩:∃ n,F.length=n:=⟨_,rfl⟩;rw [hn] at HE2 hFl hF0;have hnb:n≤200000:=by omega
  have hbl:blocks n≤1000:=by unfold blocks;omega
  have hpad:((blocks n:Nat):Int) * 512 - (n:Int)=((padN n:Nat):Int):=by have:=padN_eq n;omega
  have hpb:padN n < 512:=by unfold padN blocks;omega
  have XOK:=extH_ok (n:Int) (by omega) (by omega);have XC:=hid (extended_calls (n:Int));have XE:=hid (ZHead.encode_calls (extH (n:Int)) XOK);have BC:=hid (blocks_calls n (by omega));have MK:=make_bytes (padN n) (by omega);have HX:=hid (blkB_len XOK);obtain ⟨E,hE⟩:∃ E,blkB (extH (n:Int))=E:=⟨_,rfl⟩;have e1:ZSumPlain.sealL (raw (extH (n:Int)))=E:=hE;rw [e1] at XE;rw [hE] at HE2 HX;unfold extH Hdr.val Hdr.cells sPax at XC XE;dsimp only at XC XE;have HFN:=hid hn;clear hF hE e1 hR0 hg1 hg2 hat HE hn0 hFl hR2 XOK hn
  go_wp2_with fail
  refine FC.out.mono ?_;rintro r w3 ⟨v3,rfl,ho3,hb3⟩;obtain ⟨g3,cap3,hv3,ho3'⟩:=OwnB.own ho3 (by rw [HFN.out];exact hF0);subst hv3;rw [HFN.out] at ho3' ⊢;have B3:=hid (below_step B2.out hb3);have O3:=hid (ho3'.lower B2.out.size);have O2':=hid (O2.out.below hb3);clear ho3 hb3 ho3'
  go_wp2_with fail
  refine (XC.out _).mono ?_;rintro r w4 ⟨rfl,hb4⟩;have B4:=hid (below_step B3.out hb4);have O3a:=hid (O3.out.below hb4);have O2a:=hid (O2'.out.below hb4);clear hb4
  go_wp2_with fail
  refine (XE.out _ (HG.out.below B4.out)).mono ?_;rintro r w5 ⟨gx,capx,rfl,hox,hb5⟩;have B5:=hid (below_step B4.out hb5);have O3b:=hid (O3a.out.below hb5);have O2b:=hid (O2a.out.below hb5);have OX:=hid (hox.lower B4.out.size);clear hox hb5
  go_wp2_with fail
  refine (BC.out _).mono ?_;rintro r w6 ⟨rfl,rfl⟩
  go_wp2_with fail
  have PT:=parts4 (w:=w5) (OX:=OX.out) (OF:=O3b.out) (OL:=O2b.out) (m:=padN n) (by omega);have lX:=HX.out;have lL:=HL.out;have lF:=HFN.out;have e3:sumLen [⟨some ⟨gx,0,none⟩,capx,E⟩,⟨some ⟨g3,0,none⟩,cap3,F⟩,⟨some ⟨w5.heap.size,0,none⟩,padN n,List.replicate (padN n) 0⟩,⟨some ⟨g,0,none⟩,cap,L⟩]=(encE ⟨kind,path,mode,target,size⟩).length:=by rw [sum4,HE2.out];simp
  have e4:allData [⟨some ⟨gx,0,none⟩,capx,E⟩,⟨some ⟨g3,0,none⟩,cap3,F⟩,⟨some ⟨w5.heap.size,0,none⟩,padN n,List.replicate (padN n) 0⟩,⟨some ⟨g,0,none⟩,cap,L⟩]=encE ⟨kind,path,mode,target,size⟩:=by rw [all4,HE2.out]
  have hlen:(encE ⟨kind,path,mode,target,size⟩).length=512+(n+(padN n+512)):=by rw [HE2.out];simp [lX,lL,lF]
  have CC:=concat_calls (w5.heap.size+1) 4 [⟨some ⟨gx,0,none⟩,capx,E⟩,⟨some ⟨g3,0,none⟩,cap3,F⟩,⟨some ⟨w5.heap.size,0,none⟩,padN n,List.replicate (padN n) 0⟩,⟨some ⟨g,0,none⟩,cap,L⟩] _ (by simp) PT (by rw [e3,hlen];omega) (by rw [e3,hlen];omega) (by simp);rw [e3,e4] at CC;have CC2:=hid (show Calls Tryz.prog 95 #[.slice (some ⟨w5.heap.size+1,0,none⟩) 4 4] _ _ from CC);clear CC lX lL lF PT e3 e4 hlen;refine CC2.out.mono ?_;rintro r w7 ⟨g7,c7,rfl,ho7,hb7⟩;have bm:Below w5.heap.size w5 ((w5.alloc (.cells (madeCells #[.int .u8 0] (padN n)) 5)).alloc (.cells #[.slice (some ⟨gx,0,none⟩) 512 capx,.slice (some ⟨g3,0,none⟩) n cap3,.slice (some ⟨w5.heap.size,0,none⟩) (padN n) (padN n),.slice (some ⟨g,0,none⟩) 512 cap] 30)):=((Below.refl _ _).alloc (Nat.le_refl _) _).alloc (by simp) _;have B7:=hid (below_step (below_step B5.out bm) hb7);have O7:=hid (ho7.lower (Nat.le_trans B5.out.size bm.size));clear ho7 hb7 bm
  go_wp2_with fail
  go_ret2
  exact ⟨g7,c7,rfl,O7.out,B7.out⟩
end ZEntry
end
end Go.Proofs.YteikiojmcipkmaaGreatDoor
