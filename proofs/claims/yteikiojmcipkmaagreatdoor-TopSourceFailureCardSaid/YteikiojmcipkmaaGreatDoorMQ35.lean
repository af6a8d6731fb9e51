/- Parts of the proof, gathered by a program: what calls of the functions answer, and what follows in plain lists. Conditions: those that each theorem states. -/
import Derived.Test.YteikiojmcipkmaaGreatDoorMQ19
import Derived.Test.YteikiojmcipkmaaGreatDoorMQ13
set_option linter.unusedVariables false
set_option linter.unusedSimpArgs false
namespace Go.Proofs.YteikiojmcipkmaaGreatDoor
open Go.Lib (hid)
open Go.RowKit YteikiojmcipkmaaGreatDoorW.PrintWords YteikiojmcipkmaaGreatDoorW.PrintLast YteikiojmcipkmaaGreatDoorW.PrintMore Oct ZBase
set_option maxRecDepth 100000
namespace ZRf
open ZPath ZPlanOk ZRec ZFit ZRe
open ZTCheck (cell_of)
set_option maxHeartbeats 2000000 in
theorem target_calls (e:Ent) (hs:e.target.size≤9223372036854775000) (w:World):Calls Tryz.prog 102 #[e.val] w fun r w'=>∃ x:Int,r=.returned (.int .i64 x)∧(x=0↔targetOk e.kind e.target)∧Below w.heap.size w w':=by
 obtain ⟨kind,path,mode,target,size⟩:=e;dsimp only at hs;have PC:=hid (fun W=>ZRe.check_calls target hs W);have BL:=hid (below_alloc (Below.refl w.heap.size w) (.cells #[.int .i64 kind,.string path,.int .i64 mode,.string target,.int .i64 size] 54));unfold Ent.val Ent.cells;dsimp only;by_cases h2:kind=2
 ·
  have b2:(kind == 2)=true:=beq_iff_eq.2 h2;have T:Hid (targetOk kind target↔valOk target):=hid (by unfold targetOk;rw [if_neg (by omega),if_pos h2]);have V:Hid (valOk target↔target.size≤65536∧(0:UInt8)∉target.data.toList∧target≠⟨#[]⟩):=hid (by unfold valOk;rw [index_lt];exact ⟨fun h=>⟨h.1,h.2.2,h.2.1⟩,fun h=>⟨h.1,h.2.2,h.2.1⟩⟩);clear h2;by_cases hbig:65536 < target.size
  ·
   have R:Hid (¬ targetOk kind target):=hid fun h=>by have:=(V.out.1 (T.out.1 h)).1;omega
   go_enter Tryz.func102,Tryz.ntmps102;go_wp2;go_ret;exact ⟨7,rfl,⟨fun h=>absurd h (by decide),fun h=>absurd h R.out⟩,BL.out⟩
  by_cases h0:target=⟨#[]⟩
  ·have R:Hid (¬ targetOk kind target):=hid fun h=>(V.out.1 (T.out.1 h)).2.2 h0;subst h0;go_enter Tryz.func102,Tryz.ntmps102;go_wp2;go_ret;exact ⟨6,rfl,⟨fun h=>absurd h (by decide),fun h=>absurd h R.out⟩,BL.out⟩
  have e0:target.toList.isEmpty=false:=by
   have:=str_ne h0;rw [ByteArray.toList_eq ⟨#[]⟩] at this;cases h:target.toList with
   | nil=>rw [h] at this;cases this
   | cons x r=>rfl
  have H:=hid (And.intro h0 hbig);clear h0;go_enter Tryz.func102,Tryz.ntmps102;go_wp2
  go_loop [3] (fun i=>∃ k:Nat,k≤target.size∧i=.int .i64 k∧∀ j (hj:j < target.size),j < k→¬ (target[j]'hj=0)) (fun i=>target.size - (intOf i).toNat)
  case atStart=>exact ⟨0,Nat.zero_le _,rfl,fun j _ h=>absurd h (Nat.not_lt_zero j)⟩
  case round =>
   obtain ⟨k,hk,rfl,hA⟩:=hrel;have HA:=hid hA;clear hA;by_cases hlt:k < target.size
   ·
    by_cases hz:target[k]'hlt=0
    ·
     have e3:(((target[k]'hlt).toNat:Nat):Int)=0:=by rw [hz];rfl
     have R:Hid (¬ targetOk kind target):=hid fun h=>(V.out.1 (T.out.1 h)).2.1 (List.mem_of_getElem? (i:=k) (by rw [byte_eq k hlt,hz]));clear hz;go_wp2;go_ret;exact ⟨6,rfl,⟨fun h=>absurd h (by decide),fun h=>absurd h R.out⟩,BL.out⟩
    ·
     have e3:¬ (((target[k]'hlt).toNat:Nat):Int)=0:=fun e=>hz ((byte_num 0).1 e);have N1:Hid (∀ j (hj:j < target.size),j < k+1→¬ (target[j]'hj=0)):=hid fun j hj hlt'=>by
      by_cases hjk:j=k
      ·subst hjk;exact hz
      ·exact HA.out j hj (by omega)
     clear hz;go_wp2
     go_round
     case rel=>exact ⟨k+1,by omega,by first | rfl | go_num,N1.out⟩
     case measure=>first | (simp [intOf];done) | (simp [intOf];omega)
   ·
    obtain rfl:k=target.size:=by omega
    have R:Hid (targetOk kind target):=hid (T.out.2 (V.out.2 ⟨by have:=H.out.2;omega,fun hm=>by
     obtain ⟨j,hj⟩:=List.mem_iff_getElem?.1 hm;have hl:j < target.size:=by have:=(List.getElem?_eq_some_iff.1 hj).1;simpa using this
     rw [byte_eq j hl] at hj;exact HA.out j hl hl (Option.some.inj hj),H.out.1⟩))
    go_wp2;go_ret;exact ⟨0,rfl,⟨fun _=>R.out,fun _=>rfl⟩,BL.out⟩
 ·
  have b2:(kind == 2)=false:=beq_eq_false_iff_ne.2 h2;by_cases h3:kind=3
  ·
   have b3:(kind == 3)=true:=beq_iff_eq.2 h3;have T:Hid (targetOk kind target↔okPath target):=hid (by unfold targetOk;rw [if_pos h3]);clear h2 h3;go_enter Tryz.func102,Tryz.ntmps102
   go_wp2_with fail
   refine (PC.out _).mono ?_;rintro r w1 ⟨x,rfl,hx,rfl⟩;have X:=hid (hx.trans T.out.symm);clear hx;go_wp2;go_ret;exact ⟨x,rfl,X.out,BL.out⟩
  ·
   have b3:(kind == 3)=false:=beq_eq_false_iff_ne.2 h3;have T:Hid (targetOk kind target↔target=⟨#[]⟩):=hid (by unfold targetOk;rw [if_neg h3,if_neg h2]);clear h2 h3;by_cases h0:target=⟨#[]⟩
   ·have R:=hid (T.out.2 h0);subst h0;go_enter Tryz.func102,Tryz.ntmps102;go_wp2;go_ret;exact ⟨0,rfl,⟨fun _=>R.out,fun _=>rfl⟩,BL.out⟩
   ·
    have R:Hid (¬ targetOk kind target):=hid fun h=>h0 (T.out.1 h);have e0:target.toList.isEmpty=false:=by
     have:=str_ne h0;rw [ByteArray.toList_eq ⟨#[]⟩] at this;cases h:target.toList with
     | nil=>rw [h] at this;cases this
     | cons x r=>rfl
    clear h0;go_enter Tryz.func102,Tryz.ntmps102;go_wp2;go_ret;exact ⟨2,rfl,⟨fun h=>absurd h (by decide),fun h=>absurd h R.out⟩,BL.out⟩
set_option maxHeartbeats 4000000 in
theorem check_calls (e:Ent) (hp:e.path.size≤9223372036854775000) (hs:e.target.size≤9223372036854775000) (w:World):Calls Tryz.prog 67 #[e.val] w fun r w'=>∃ x:Int,r=.returned (.int .i64 x)∧(x=0↔e.Ok)∧Below w.heap.size w w':=by
 have TC:=hid (fun W=>target_calls e hs W);obtain ⟨kind,path,mode,target,size⟩:=e;dsimp only at hp hs TC;have PC:=hid (fun W=>ZRe.check_calls path hp W);have BL:=hid (below_alloc (Below.refl w.heap.size w) (.cells #[.int .i64 kind,.string path,.int .i64 mode,.string target,.int .i64 size] 54));have X0:=hid (heap_alloc_new w (.cells #[.int .i64 kind,.string path,.int .i64 mode,.string target,.int .i64 size] 54));unfold Ent.val Ent.cells at *;dsimp only at *;have no:∀ x:Int,x≠0→¬ (⟨kind,path,mode,target,size⟩:Ent).Ok→(x=0↔(⟨kind,path,mode,target,size⟩:Ent).Ok):=fun x h h'=>⟨fun e=>absurd e h,fun e=>absurd e h'⟩;have NO:=hid no;clear no;by_cases c1:kind < 0
 ·
  have R:Hid (¬ (⟨kind,path,mode,target,size⟩:Ent).Ok):=hid fun h=>by have:=h.kind.1;dsimp only at this;omega
  go_enter Tryz.func67,Tryz.ntmps67;go_wp2;go_ret;exact ⟨8,rfl,NO.out 8 (by decide) R.out,BL.out⟩
 by_cases c2:3 < kind
 ·
  have R:Hid (¬ (⟨kind,path,mode,target,size⟩:Ent).Ok):=hid fun h=>by have:=h.kind.2;dsimp only at this;omega
  go_enter Tryz.func67,Tryz.ntmps67;go_wp2;go_ret;exact ⟨8,rfl,NO.out 8 (by decide) R.out,BL.out⟩
 have hk:0≤kind∧kind≤3:=by omega
 have HK:=hid hk;clear hk;go_enter Tryz.func67,Tryz.ntmps67
 go_wp2_with fail
 refine (PC.out _).mono ?_;rintro e w1 ⟨x,rfl,hx,rfl⟩;by_cases hx0:x=0;rotate_left
 ·
  have R:Hid (¬ (⟨kind,path,mode,target,size⟩:Ent).Ok):=hid fun h=>hx0 (hx.2 h.path);have N:=hid hx0;have b:(x != 0)=true:=by rw [bne_iff_ne];exact hx0
  clear hx hx0
  go_wp2_with fail
  go_ret;exact ⟨x,rfl,NO.out x N.out R.out,BL.out⟩
 have HP:=hid (hx.1 hx0);subst hx0;clear hx;by_cases m1:mode < 0
 ·
  have R:Hid (¬ (⟨kind,path,mode,target,size⟩:Ent).Ok):=hid fun h=>by have:=h.mode.1;dsimp only at this;omega
  go_wp2_with fail
  go_ret;exact ⟨16,rfl,NO.out 16 (by decide) R.out,BL.out⟩
 by_cases m2:4095 < mode
 ·
  have R:Hid (¬ (⟨kind,path,mode,target,size⟩:Ent).Ok):=hid fun h=>by have:=h.mode.2;dsimp only at this;omega
  go_wp2_with fail
  go_ret;exact ⟨16,rfl,NO.out 16 (by decide) R.out,BL.out⟩
 have hm:0≤mode∧mode≤4095:=by omega
 have HM:=hid hm;clear hm;by_cases hbad:kind=2∧mode≠0
 ·
  have R:Hid (¬ (⟨kind,path,mode,target,size⟩:Ent).Ok):=hid fun h=>hbad.2 (h.link hbad.1);have b1:(kind == 2)=true:=beq_iff_eq.2 hbad.1;have b2:(mode != 0)=true:=by rw [bne_iff_ne];exact hbad.2
  clear hbad
  go_wp2_with fail
  go_ret;exact ⟨16,rfl,NO.out 16 (by decide) R.out,BL.out⟩
 have HLk:Hid (kind=2→mode=0):=hid fun h=>by
  by_cases h':mode=0
  ·exact h'
  ·exact absurd ⟨h,h'⟩ hbad
 have IFF:Hid (targetOk kind target→(sizeOk kind size↔(⟨kind,path,mode,target,size⟩:Ent).Ok)):=hid fun ht=>Ent.Ok.iff kind mode size path target HK.out HP.out HM.out HLk.out ht;have go2:Code.wp Tryz.prog=Code.wp Tryz.prog:=rfl;by_cases b2:kind=2
 ·
  obtain rfl:mode=0:=HLk.out b2;have hb1:(kind == 2)=true:=beq_iff_eq.2 b2;have hb3:(kind == 1)=false:=beq_eq_false_iff_ne.2 (by omega);have SZ:Hid (sizeOk kind size↔size=0):=hid (by unfold sizeOk;rw [if_neg (by omega)]);clear b2 hbad go2
  go_wp2_with fail
  refine (TC.out _).mono ?_;rintro e w1 ⟨y,rfl,hy,hb⟩;have B1:=hid (below_step BL.out hb);have X1:=hid ((hb.block _ (by simp)).trans X0.out);have a0:=cell_of X1.out 0 _ rfl;have a4:=cell_of X1.out 4 _ rfl;by_cases hy0:y=0;rotate_left
  ·
   have R:Hid (¬ (⟨kind,path,0,target,size⟩:Ent).Ok):=hid fun h=>hy0 (hy.2 h.target);have N:=hid hy0;have b:(y != 0)=true:=by rw [bne_iff_ne];exact hy0
   clear hy hy0 hb
   go_wp2_with fail
   go_ret;exact ⟨y,rfl,NO.out y N.out R.out,B1.out⟩
  have I2:=hid (IFF.out (hy.1 hy0));subst hy0;clear hy hb;by_cases z:size=0
  ·
   have R:=hid (I2.out.1 (SZ.out.2 z));subst z
   go_wp2_with fail
   go_ret;exact ⟨0,rfl,⟨fun _=>R.out,fun _=>rfl⟩,B1.out⟩
  ·
   have R:Hid (¬ (⟨kind,path,0,target,size⟩:Ent).Ok):=hid fun h=>z (SZ.out.1 (I2.out.2 h));have b:(size != 0)=true:=by rw [bne_iff_ne];exact z
   clear z
   go_wp2_with fail
   go_ret;exact ⟨2,rfl,NO.out 2 (by decide) R.out,B1.out⟩
 have hb1:(kind == 2)=false:=beq_eq_false_iff_ne.2 b2;clear b2 hbad go2
 go_wp2_with fail
 refine (TC.out _).mono ?_;rintro e w1 ⟨y,rfl,hy,hb⟩;have B1:=hid (below_step BL.out hb);have X1:=hid ((hb.block _ (by simp)).trans X0.out);have a0:=cell_of X1.out 0 _ rfl;have a4:=cell_of X1.out 4 _ rfl;by_cases hy0:y=0;rotate_left
 ·
  have R:Hid (¬ (⟨kind,path,mode,target,size⟩:Ent).Ok):=hid fun h=>hy0 (hy.2 h.target);have N:=hid hy0;have b:(y != 0)=true:=by rw [bne_iff_ne];exact hy0
  clear hy hy0 hb
  go_wp2_with fail
  go_ret;exact ⟨y,rfl,NO.out y N.out R.out,B1.out⟩
 have I2:=hid (IFF.out (hy.1 hy0));subst hy0;clear hy hb;by_cases k1:kind=1
 ·
  have hb3:(kind == 1)=true:=beq_iff_eq.2 k1;have SZ:Hid (sizeOk kind size↔0≤size∧size≤1099511627776):=hid (by unfold sizeOk;rw [if_pos k1]);clear k1;by_cases s1:size < 0
  ·
   have R:Hid (¬ (⟨kind,path,mode,target,size⟩:Ent).Ok):=hid fun h=>by have:=SZ.out.1 (I2.out.2 h);omega
   go_wp2_with fail
   go_ret;exact ⟨3,rfl,NO.out 3 (by decide) R.out,B1.out⟩
  by_cases s2:1099511627776 < size
  ·
   have R:Hid (¬ (⟨kind,path,mode,target,size⟩:Ent).Ok):=hid fun h=>by have:=SZ.out.1 (I2.out.2 h);omega
   go_wp2_with fail
   go_ret;exact ⟨3,rfl,NO.out 3 (by decide) R.out,B1.out⟩
  have R:=hid (I2.out.1 (SZ.out.2 ⟨by omega,by omega⟩))
  go_wp2_with fail
  go_ret;exact ⟨0,rfl,⟨fun _=>R.out,fun _=>rfl⟩,B1.out⟩
 ·
  have hb3:(kind == 1)=false:=beq_eq_false_iff_ne.2 k1;have SZ:Hid (sizeOk kind size↔size=0):=hid (by unfold sizeOk;rw [if_neg k1]);clear k1;by_cases z:size=0
  ·
   have R:=hid (I2.out.1 (SZ.out.2 z));subst z
   go_wp2_with fail
   go_ret;exact ⟨0,rfl,⟨fun _=>R.out,fun _=>rfl⟩,B1.out⟩
  ·
   have R:Hid (¬ (⟨kind,path,mode,target,size⟩:Ent).Ok):=hid fun h=>z (SZ.out.1 (I2.out.2 h));have b:(size != 0)=true:=by rw [bne_iff_ne];exact z
   clear z
   go_wp2_with fail
   go_ret;exact ⟨2,rfl,NO.out 2 (by decide) R.out,B1.out⟩
end ZRf
namespace ZRm
open ZFit ZNod ZTree
open ZTCheck (cell_of)
set_option maxHeartbeats 2000000 in
theorem entry_calls (x:NV) (hd:x.data.length≤1000000) (w:World):Calls Tryz.prog 39 #[.agg x.cells.toArray] w fun r w'=>r=.returned (entOf x).val∧Below w.heap.size w w':=by
 obtain ⟨kind,path,mode,target,addr,cap,data,cls⟩:=x;dsimp only at hd;have B0:=hid (fun o1 o2 o3=>below_alloc (below_alloc (below_alloc (Below.refl w.heap.size w) o1) o2) o3);unfold NV.cells entOf Ent.val Ent.cells;dsimp only;by_cases hk:kind=1
 ·
  have b1:(kind == 1)=true:=beq_iff_eq.2 hk;rw [if_pos hk];clear hk;go_enter Tryz.func39,Tryz.ntmps39;go_wp2;refine bodyPost_ret (v:=.agg #[.int .i64 kind,.string path,.int .i64 mode,.string target,.int .i64 (data.length:Int)]) (by simp [results,Tryz.results39,go_sem]) rfl ⟨rfl,?_⟩
  repeat (refine Below.setCell ?_ (by first | (show w.heap.size≤w.heap.size+1;omega) | (show w.heap.size≤w.heap.size+1+1;omega) | simp) _)
  exact B0.out _ _ _
 ·
  have b1:(kind == 1)=false:=beq_eq_false_iff_ne.2 hk;rw [if_neg hk];clear hk;go_enter Tryz.func39,Tryz.ntmps39;go_wp2;refine bodyPost_ret (v:=.agg #[.int .i64 kind,.string path,.int .i64 mode,.string target,.int .i64 0]) (by simp [results,Tryz.results39,go_sem]) rfl ⟨rfl,?_⟩
  repeat (refine Below.setCell ?_ (by first | (show w.heap.size≤w.heap.size+1;omega) | (show w.heap.size≤w.heap.size+1+1;omega) | simp) _)
  exact B0.out _ _ _
set_option maxHeartbeats 4000000 in
theorem one_calls (x:NV) (hd:x.data.length≤1000000) (hp:x.path.size≤1000000) (ht:x.target.size≤1000000) (w:World): Calls Tryz.prog 64 #[.agg x.cells.toArray] w fun r w'=>∃ e:Int,r=.returned (.int .i64 e)∧(e=0→NodeOk x)∧Below w.heap.size w w':=by
 have EC:=hid (fun W=>entry_calls x hd W);have CC:=hid (fun W=>ZRf.check_calls (entOf x) (by show x.path.size≤_;omega) (by show x.target.size≤_;omega) W);have NK:Hid ((x.kind=0∨x.kind=1∨x.kind=2)→(entOf x).Ok→(x.kind≠1→x.data=[])→(0≤x.cls∧(x.kind≠1→x.cls=0))→NodeOk x):=hid fun a b c d=>⟨a,b,c,d⟩;obtain ⟨EV,hEV⟩:∃ v,(entOf x).val=v:=⟨_,rfl⟩;rw [hEV] at EC CC;obtain ⟨EO,hEO⟩:∃ p:Prop,(entOf x).Ok=p:=⟨_,rfl⟩;rw [hEO] at CC NK;obtain ⟨OKP,hOK⟩:∃ p:Prop,NodeOk x=p:=⟨_,rfl⟩;rw [hOK] at NK ⊢;clear hEV hEO hOK;obtain ⟨kind,path,mode,target,addr,cap,data,cls⟩:=x;dsimp only at hd hp ht NK;unfold NV.cells at *;dsimp only at *;have X0:=hid (heap_alloc_new w (.cells #[.int .i64 kind,.string path,.int .i64 mode,.string target,.slice addr data.length cap,.int .i64 cls] 46));have B0:=hid (below_alloc (Below.refl w.heap.size w) (.cells #[.int .i64 kind,.string path,.int .i64 mode,.string target,.slice addr data.length cap,.int .i64 cls] 46));by_cases c1:kind < 0
 ·go_enter Tryz.func64,Tryz.ntmps64;go_wp2;go_ret;exact ⟨8,rfl,fun h=>absurd h (by decide),B0.out⟩
 by_cases c2:2 < kind
 ·go_enter Tryz.func64,Tryz.ntmps64;go_wp2;go_ret;exact ⟨8,rfl,fun h=>absurd h (by decide),B0.out⟩
 have HK:Hid (kind=0∨kind=1∨kind=2):=hid (by omega);go_enter Tryz.func64,Tryz.ntmps64
 go_wp2_with fail
 refine (EC.out _).mono ?_;rintro r w1 ⟨rfl,hb1⟩;have B1:=hid (below_step B0.out hb1);have X1:=hid ((hb1.block _ (by simp)).trans X0.out);clear hb1
 go_wp2_with fail
 refine (CC.out _).mono ?_;rintro r w2 ⟨y,rfl,hy,hb2⟩;have B2:=hid (below_step B1.out hb2);have X2:=hid ((hb2.block _ (blk_lt X1.out)).trans X1.out);have a0:=cell_of X2.out 0 _ rfl;have a4:=cell_of X2.out 4 _ rfl;have a5:=cell_of X2.out 5 _ rfl;clear hb2;by_cases hy0:y=0;rotate_left
 ·
  have b:(y != 0)=true:=by rw [bne_iff_ne];exact hy0
  have N:=hid hy0;clear hy hy0
  go_wp2_with fail
  go_ret;exact ⟨y,rfl,fun h=>absurd h N.out,B2.out⟩
 have HE:=hid (hy.1 hy0);subst hy0;clear hy;by_cases k1:kind=1
 ·
  have b1:(kind != 1)=false:=by rw [k1];rfl
  have HK1:=hid k1;clear k1;by_cases n1:cls < 0
  ·
   go_wp2_with fail
   go_ret;exact ⟨15,rfl,fun h=>absurd h (by decide),B2.out⟩
  ·
   have R:=hid (NK.out HK.out HE.out (fun h=>absurd HK1.out h) ⟨by omega,fun h=>absurd HK1.out h⟩)
   go_wp2_with fail
   go_ret;exact ⟨0,rfl,fun _=>R.out,B2.out⟩
 ·
  have b1:(kind != 1)=true:=by rw [bne_iff_ne];exact k1
  have HK1:=hid k1;clear k1;by_cases hl:0 < data.length
  ·
   have hlz:(0:Int) < (data.length:Int):=by omega
   go_wp2_with fail
   go_ret;exact ⟨2,rfl,fun h=>absurd h (by decide),B2.out⟩
  ·
   have hlz:¬ (0:Int) < (data.length:Int):=by omega
   have HD:Hid (data=[]):=hid (List.eq_nil_of_length_eq_zero (by omega));by_cases n1:cls < 0
   ·
    go_wp2_with fail
    go_ret;exact ⟨15,rfl,fun h=>absurd h (by decide),B2.out⟩
   by_cases n2:cls=0
   ·
    have b2:(cls != 0)=false:=by rw [n2];rfl
    have R:=hid (NK.out HK.out HE.out (fun _=>HD.out) ⟨by omega,fun _=>n2⟩);clear n2
    go_wp2_with fail
    go_ret;exact ⟨0,rfl,fun _=>R.out,B2.out⟩
   ·
    have b2:(cls != 0)=true:=by rw [bne_iff_ne];exact n2
    clear n2
    go_wp2_with fail
    go_ret;exact ⟨15,rfl,fun h=>absurd h (by decide),B2.out⟩
end ZRm
namespace ZRd
open ZSumPlain ZCstr ZCheck ZRc
open ZTCheck (cell_of)
theorem str {W:World} {A:Option Addr} {n c:Nat} {xs:List Int} (h:Kd.C (Kd.int .u8) W A n xs):(convert 30 9 (.slice A n c)).run Tryz.prog W=.ok (.string (strOfNums xs)) W :=
 Kd.C_string (P:=Tryz.prog) Tryz.underlying30 Tryz.underlying5 Tryz.underlying9 h
set_option maxHeartbeats 1000000 in
theorem text_calls (s:ByteArray) (n:Nat) (h:noNul s) (hs:s.size≤n) (h0:1≤n) (h1:n≤256) (w:World): Calls Tryz.prog 73 #[.string s,.int .i64 n] w fun e w'=>e=.returned (.string (strOfNums (txt s n)))∧Below w.heap.size w w':=by
 have FC:=hid (ZRc.format_calls s n h hs h0 h1);clear h hs h0 h1;go_enter Tryz.func73,Tryz.ntmps73
 go_wp2_with fail
 refine (FC.out _).mono ?_;rintro e w1 ⟨g,cap,rfl,hr,hb⟩;have k:=str (c:=cap) hr;have HB:=hid hb;clear hr hb;go_wp2;go_ret;exact ⟨rfl,HB.out⟩
set_option maxHeartbeats 1000000 in
theorem octal_calls (d:Nat) (n:Int) (h0:1≤d) (h1:d≤21) (hn:0≤n) (hN:n < 8 ^ d) (w:World): Calls Tryz.prog 74 #[.int .i64 n,.int .i64 ((d:Int)+1)] w fun e w'=>e=.returned (.string (strOfNums (fld d n)))∧Below w.heap.size w w':=by
 have FC:=hid (ZRa.format_loop d n h0 h1 hn hN);clear h0 h1 hn hN;go_enter Tryz.func74,Tryz.ntmps74
 go_wp2_with fail
 refine (FC.out _).mono ?_;rintro e w1 ⟨A,cap,rfl,hr,hb⟩;have k:=str (c:=cap) hr.out;have HB:=hid hb;clear hr hb;go_wp2;go_ret;exact ⟨rfl,HB.out⟩
set_option maxHeartbeats 1000000 in
theorem known_calls (t:Int) (h:t=48∨t=49∨t=50∨t=53∨t=120) (w:World):Calls Tryz.prog 105 #[.int .u8 t] w fun e w'=>e=.returned (.bool true)∧w=w':=by
 rcases h with rfl | rfl | rfl | rfl | rfl
 all_goals
  go_enter Tryz.func105,Tryz.ntmps105;go_wp2;go_ret;exact ⟨rfl,rfl⟩
set_option maxHeartbeats 4000000 in
theorem check_calls (h:Hdr) (hk:h.Ok) (w:World):Calls Tryz.prog 72 #[.agg h.cells] w fun e w'=>e=.returned (.int .i64 0)∧Below w.heap.size w w':=by
 obtain ⟨typ,name,pre,link,mode,size⟩:=h;obtain ⟨k1,k2,k3,k4,k5,k6⟩:=hk;dsimp only at k1 k2 k3 k4 k5 k6;have KC:=hid (fun W=>known_calls typ k1 W);have F1:=hid (fun W=>ZRc.format_calls name 100 k2.1 k2.2 (by decide) (by decide) W);have F2:=hid (fun W=>ZRc.format_calls link 100 k3.1 k3.2 (by decide) (by decide) W);have F3:=hid (fun W=>ZRc.format_calls pre 155 k4.1 k4.2 (by decide) (by decide) W);obtain ⟨m0,m1⟩:=k5;obtain ⟨s0,s1⟩:=k6;have d1:decide (mode < 0)=false:=by simp;omega
 have d2:decide (4095 < mode)=false:=by simp;omega
 have d3:decide (size < 0)=false:=by simp;omega
 have d4:decide (8589934591 < size)=false:=by simp;omega
 unfold Hdr.cells;dsimp only;have B0:=hid (below_alloc (Below.refl w.heap.size w) (.cells #[.int .u8 typ,.string name,.string pre,.string link,.int .i64 mode,.int .i64 size] 85));have X0:=hid (heap_alloc_new w (.cells #[.int .u8 typ,.string name,.string pre,.string link,.int .i64 mode,.int .i64 size] 85));clear k1 k2 k3 k4 m0 m1 s0 s1;go_enter Tryz.func72,Tryz.ntmps72
 go_wp2_with fail
 refine (KC.out _).mono ?_;rintro e w1 ⟨rfl,rfl⟩
 go_wp2_with fail
 refine (F1.out _).mono ?_;rintro e w1 ⟨g1,c1,rfl,_,hb1⟩;have X1:=hid ((hb1.block _ (by simp)).trans X0.out);have B1:=hid (below_step B0.out hb1);have a3:=cell_of X1.out 3 _ rfl;clear hb1
 go_wp2_with fail
 refine (F2.out _).mono ?_;rintro e w2 ⟨g2,c2,rfl,_,hb2⟩;have X2:=hid ((hb2.block _ (blk_lt X1.out)).trans X1.out);have B2:=hid (below_step B1.out hb2);have b2:=cell_of X2.out 2 _ rfl;clear hb2 a3
 go_wp2_with fail
 refine (F3.out _).mono ?_;rintro e w3 ⟨g3,c3,rfl,_,hb3⟩;have X3:=hid ((hb3.block _ (blk_lt X2.out)).trans X2.out);have B3:=hid (below_step B2.out hb3);have c4:=cell_of X3.out 4 _ rfl;have c5:=cell_of X3.out 5 _ rfl;clear hb3 b2
 go_wp2_with fail
 go_ret;exact ⟨rfl,B3.out⟩
end ZRd
namespace ZRn
open ZFit ZNod ZTree ZPath
open ZSumPlain (Bytes)
theorem str_eq (l m:List Int) (hl:Bytes l) (hm:Bytes m):((strOfNums l).toList == (strOfNums m).toList)=decide (l=m):=by rw [str_list,str_list,Bool.eq_iff_iff];simp only [beq_iff_eq,decide_eq_true_eq];exact ⟨fun h=>bts_inj l m hl hm h,fun h=>by rw [h]⟩
theorem name_eq (a b:ByteArray):(a.toList == b.toList)=true↔a=b:=by
 rw [beq_iff_eq,ByteArray.toList_eq,ByteArray.toList_eq];constructor
 ·intro h;cases a;cases b;simpa using h
 ·rintro rfl;rfl
theorem name_ne {a b:ByteArray} (h:a≠b):(a.toList == b.toList)=false:=by
 cases e:a.toList == b.toList with
 | true=>exact absurd ((name_eq a b).1 e) h
 | false=>rfl
structure RefOk (l:List NV) (i:Nat) (x:NV):Prop where
 fresh:∀ k y,k < i→l[k]?=some y→y.path≠x.path
 dir:parentP x.path=⟨#[]⟩∨∃ y∈l,y.kind=0∧y.path=parentP x.path
 same:x.cls=0∨∃ k y,k≤i∧l[k]?=some y∧y.cls=x.cls∧(∀ m z,m < k→l[m]?=some z→z.cls≠x.cls)∧y.mode=x.mode∧y.data=x.data
set_option maxHeartbeats 8000000 in
theorem together_calls (A:Option Addr) (cap:Nat) (l:List NV) (i:Nat) (x:NV) (hi:l[i]?=some x) (hc:l.length≤cap) (h40:l.length≤1000) (hp:x.path.size≤1000000) (hby:∀ y∈l,Bytes y.data) (w:World) (hl:NodesAt w A l): Calls Tryz.prog 65 #[.slice A l.length cap,.int .i64 i] w fun r w'=>∃ e:Int,r=.returned (.int .i64 e)∧(e=0→RefOk l i x)∧Below w.heap.size w w':=by
 have hil:i < l.length:=(List.getElem?_eq_some_iff.1 hi).1;have hilz:(i:Int) < (l.length:Int):=by omega
 have PC:=hid (fun W=>ZRh.parent_calls x.path (by omega) W);have HD:=hid (And.intro hi (And.intro hby hl));obtain ⟨b,o,rfl,hlt,_⟩:=hl.row (fun e=>by rw [e] at hil;exact absurd hil (Nat.not_lt_zero _));have CL:Hid (∀ W,Below w.heap.size w W→∀ (k:Nat) (y:NV),l[k]?=some y→W.cell? ⟨b,o+k * 6,none⟩=some (.int .i64 y.kind)∧W.cell? ⟨b,o+k * 6+1,none⟩=some (.string y.path)∧W.cell? ⟨b,o+k * 6+2,none⟩=some (.int .i64 y.mode)∧W.cell? ⟨b,o+k * 6+4,none⟩=some (.slice y.addr y.data.length y.cap)∧W.cell? ⟨b,o+k * 6+5,none⟩=some (.int .i64 y.cls)):=hid fun W hW k y hk=>by obtain ⟨a0,a1,a2,_,a4,a5⟩:=(HD.out.2.2.below hW).cells k y hk;exact ⟨a0,a1,a2,a4,a5⟩
 have CV:Hid (∀ W,Below w.heap.size w W→∀ y∈l,(convert 30 9 (.slice y.addr y.data.length y.cap)).run Tryz.prog W=.ok (.string (strOfNums y.data)) W):=hid fun W hW y hy=>ZRd.str ((HD.out.2.2.below hW).data y hy).1;have hm:x∈l:=List.mem_of_getElem? hi;have HM:=hid hm;clear hl hby hi hm;go_enter Tryz.func65,Tryz.ntmps65
 go_wp2_with fail
 go_loopw [4,5] (fun v4 v5 wr=>∃ k:Nat,v4=.int .i64 0∧v5=.int .i64 k∧k≤i∧(∀ m y,m < k→l[m]?=some y→y.path≠x.path)∧Below w.heap.size w wr) (fun _ v5 _=>i - (intOf v5).toNat)
 case atStart=>exact ⟨0,rfl,rfl,Nat.zero_le _,fun m y h=>absurd h (Nat.not_lt_zero m),Below.refl _ _⟩
 case round =>
  obtain ⟨k,rfl,rfl,hk,hA,hb⟩:=hrel;have HA:=hid hA;have HB:=hid hb;clear hA hb;by_cases hlt1:k < i
  ·
   have hkz:(k:Int) < (l.length:Int):=by omega
   have hkiz:(k:Int) < (i:Int):=by omega
   obtain ⟨y,hy⟩:∃ y,l[k]?=some y:=⟨_,List.getElem?_eq_getElem (by omega)⟩;have cy:=(CL.out _ HB.out k y hy).2.1;have cx:=(CL.out _ HB.out i x HD.out.1).2.1;have HY:=hid hy;clear hy;by_cases he:y.path=x.path
   ·
    have e1:=(name_eq y.path x.path).2 he;clear he
    go_wp2_with fail
    go_quiet (fail)
    go_wp2_with fail
    go_ret;exact ⟨14,rfl,fun h=>absurd h (by decide),by repeat (first | exact HB.out | refine pw_below_drewN ?_ _)⟩
   ·
    have e1:=name_ne he;have N:Hid (∀ m z,m < k+1→l[m]?=some z→z.path≠x.path):=hid fun m z h1 h2=>by
     by_cases hmk:m=k
     ·subst hmk;rw [HY.out] at h2;cases h2;exact he
     ·exact HA.out m z (by omega) h2
    clear he
    go_wp2_with fail
    go_quiet (fail)
    go_wp2_with fail
    go_roundw
    case rel=>exact ⟨k+1,rfl,by first | rfl | go_num,by omega,N.out,by repeat (first | exact HB.out | refine pw_below_drewN ?_ _)⟩
    case measure=>first | (simp [intOf];done) | (simp [intOf];omega)
  ·
   obtain rfl:k=i:=by omega
   have cx:=(CL.out _ HB.out k x HD.out.1).2.1;have FR:=hid HA.out;clear HA
   go_wp2_with fail
   refine (PC.out _).mono ?_;rintro r w1 ⟨rfl,rfl⟩;obtain ⟨P,hP⟩:∃ P,parentP x.path=P:=⟨_,rfl⟩;rw [hP];have HPP:=hid hP;obtain ⟨f0,hf0⟩:∃ f:Bool,f=P.toList.isEmpty:=⟨_,rfl⟩;have F0:Hid (f0=true→P=⟨#[]⟩):=hid fun h=>by
    rw [hf0] at h;refine (name_eq P ⟨#[]⟩).1 ?_;rw [ByteArray.toList_eq ⟨#[]⟩];cases e:P.toList with
    | nil=>rfl
    | cons a r=>rw [e] at h;cases h
   have hf1:=hf0.symm;clear hf0 hP
   go_wp2_with fail
   go_loopw [7,8] (fun v7 v8 wr2=>∃ (j:Nat) (f:Bool),v7=.bool f∧v8=.int .i64 j∧j≤l.length∧(f=true→P=⟨#[]⟩∨∃ y∈l,y.kind=0∧y.path=P)∧Below w.heap.size w wr2) (fun _ v8 _=>l.length - (intOf v8).toNat)
   case atStart=>exact ⟨0,f0,by first | rfl | (simp [hf1]),rfl,Nat.zero_le _,fun h=>.inl (F0.out h),HB.out⟩
   case round =>
    obtain ⟨j,f,rfl,rfl,hj,hF,hb2⟩:=hrel;have HF:=hid hF;have HB2:=hid hb2;clear hF hb2;by_cases hlt2:j < l.length
    ·
     have hjz:(j:Int) < (l.length:Int):=by omega
     obtain ⟨y,hy⟩:∃ y,l[j]?=some y:=⟨_,List.getElem?_eq_getElem hlt2⟩;have cy0:=(CL.out _ HB2.out j y hy).1;have cy1:=(CL.out _ HB2.out j y hy).2.1;have HY:=hid (List.mem_of_getElem? hy);clear hy;by_cases hk0:y.kind=0
     ·
      have bk:(y.kind == 0)=true:=beq_iff_eq.2 hk0;have HK:=hid hk0;clear hk0;by_cases he:y.path=P
      ·
       have e1:=(name_eq y.path P).2 he;have N:Hid (true=true→P=⟨#[]⟩∨∃ y∈l,y.kind=0∧y.path=P):=hid fun _=>.inr ⟨y,HY.out,HK.out,he⟩;clear he
       go_wp2_with fail
       go_roundw
       case rel=>exact ⟨j+1,true,rfl,by first | rfl | go_num,by omega,N.out,HB2.out⟩
       case measure=>first | (simp [intOf];done) | (simp [intOf];omega)
      ·
       have e1:=name_ne he;clear he
       go_wp2_with fail
       go_roundw
       case rel=>exact ⟨j+1,f,rfl,by first | rfl | go_num,by omega,HF.out,HB2.out⟩
       case measure=>first | (simp [intOf];done) | (simp [intOf];omega)
     ·
      have bk:(y.kind == 0)=false:=beq_eq_false_iff_ne.2 hk0;clear hk0
      go_wp2_with fail
      go_roundw
      case rel=>exact ⟨j+1,f,rfl,by first | rfl | go_num,by omega,HF.out,HB2.out⟩
      case measure=>first | (simp [intOf];done) | (simp [intOf];omega)
    ·
     obtain rfl:j=l.length:=by omega
     have cx5:=(CL.out _ HB2.out k x HD.out.1).2.2.2.2;cases f with
     | false =>
      go_wp2_with fail
      go_ret;exact ⟨13,rfl,fun h=>absurd h (by decide),HB2.out⟩
     | true =>
      have DR:=hid (HF.out rfl);by_cases h0:x.cls=0
      ·
       have bc:(x.cls == 0)=true:=beq_iff_eq.2 h0;have R:Hid (RefOk l k x):=hid ⟨FR.out,by rw [HPP.out];exact DR.out,.inl h0⟩;clear h0
       go_wp2_with fail
       go_ret;exact ⟨0,rfl,fun _=>R.out,HB2.out⟩
      ·
       have bc:(x.cls == 0)=false:=beq_eq_false_iff_ne.2 h0;clear h0
       go_wp2_with fail
       go_loopw [9] (fun v9 wr3=>∃ m:Nat,v9=.int .i64 m∧m≤k∧(∀ q z,q < m→l[q]?=some z→z.cls≠x.cls)∧Below w.heap.size w wr3) (fun v9 _=>k - (intOf v9).toNat)
       case atStart=>exact ⟨0,rfl,Nat.zero_le _,fun q z h=>absurd h (Nat.not_lt_zero q),HB2.out⟩
       case round =>
        obtain ⟨m,rfl,hm,hM,hb3⟩:=hrel;have HMM:=hid hM;have HB3:=hid hb3;clear hM hb3;have hmz:(m:Int) < (l.length:Int):=by omega
        obtain ⟨y,hy⟩:∃ y,l[m]?=some y:=⟨_,List.getElem?_eq_getElem (by omega)⟩;obtain ⟨_,_,cy2,cy4,cy5⟩:=CL.out _ HB3.out m y hy;obtain ⟨_,_,cx2,cx4,cx5⟩:=CL.out _ HB3.out k x HD.out.1;have HY:=hid hy;by_cases hne:y.cls=x.cls
        ·
         have b1:(y.cls != x.cls)=false:=by rw [hne];simp
         have HE:=hid hne;have vy:=fun n=>CV.out _ (pw_below_drewN HB3.out n) y (List.mem_of_getElem? HY.out);have vx:=fun n=>CV.out _ (pw_below_drewN HB3.out n) x HM.out;have SE:=hid (str_eq y.data x.data (HD.out.2.1 y (List.mem_of_getElem? HY.out)) (HD.out.2.1 x HM.out));clear hy hne;by_cases hmd:y.mode=x.mode
         ·
          have b2:(y.mode != x.mode)=false:=by rw [hmd];simp
          have HMD:=hid hmd;clear hmd;by_cases hdt:y.data=x.data
          ·
           have e5:((strOfNums y.data).toList == (strOfNums x.data).toList)=true:=by rw [SE.out];simpa using hdt
           have R:Hid (RefOk l k x):=hid ⟨FR.out,by rw [HPP.out];exact DR.out,.inr ⟨m,y,hm,HY.out,HE.out,HMM.out,HMD.out,hdt⟩⟩;clear hdt
           go_wp2_with fail
           repeat (go_quiet (fail);try go_wp2_with fail)
           go_ret;exact ⟨0,rfl,fun _=>R.out,by repeat (first | exact HB3.out | refine pw_below_drewN ?_ _)⟩
          ·
           have e5:((strOfNums y.data).toList == (strOfNums x.data).toList)=false:=by rw [SE.out];simpa using hdt
           clear hdt
           go_wp2_with fail
           repeat (go_quiet (fail);try go_wp2_with fail)
           go_ret;exact ⟨15,rfl,fun h=>absurd h (by decide),by repeat (first | exact HB3.out | refine pw_below_drewN ?_ _)⟩
         ·
          have b2:(y.mode != x.mode)=true:=by rw [bne_iff_ne];exact hmd
          clear hmd
          go_wp2_with fail
          repeat (go_quiet (fail);try go_wp2_with fail)
          go_ret;exact ⟨15,rfl,fun h=>absurd h (by decide),by repeat (first | exact HB3.out | refine pw_below_drewN ?_ _)⟩
        ·
         have b1:(y.cls != x.cls)=true:=by rw [bne_iff_ne];exact hne
         have hmk:m < k:=by
          rcases Nat.lt_or_ge m k with h | h
          ·exact h
          ·
           obtain rfl:m=k:=by omega
           rw [HD.out.1] at hy;cases hy;exact absurd rfl hne
         have N:Hid (∀ q z,q < m+1→l[q]?=some z→z.cls≠x.cls):=hid fun q z h1 h2=>by
          by_cases hq:q=m
          ·subst hq;rw [HY.out] at h2;cases h2;exact hne
          ·exact HMM.out q z (by omega) h2
         clear hy hne
         go_wp2_with fail
         repeat (go_quiet (fail);try go_wp2_with fail)
         go_roundw
         case rel=>exact ⟨m+1,by first | rfl | go_num,by omega,N.out,by repeat (first | exact HB3.out | refine pw_below_drewN ?_ _)⟩
         case measure=>first | (simp [intOf];done) | (simp [intOf];omega)
structure RefTree (l:List NV):Prop where
 node:∀ x∈l,NodeOk x
 step:∀ (j:Nat) (x:NV),l[j]?=some x→RefOk l j x
set_option maxHeartbeats 4000000 in
theorem check_calls (A:Option Addr) (cap:Nat) (l:List NV) (hc:l.length≤cap) (h40:l.length≤40) (hd:∀ x∈l,x.data.length≤1000000) (hp:∀ x∈l,x.path.size≤1000000∧x.target.size≤1000000) (hby:∀ y∈l,Bytes y.data) (w:World) (hl:NodesAt w A l): Calls Tryz.prog 37 #[.slice A l.length cap] w fun r w'=>∃ i e:Int,r=.returned (.tuple #[.int .i64 i,.int .i64 e])∧(e=0→RefTree l)∧Below w.heap.size w w':=by
 have OC:=hid (fun x hx W=>ZRm.one_calls x (hd x hx) (hp x hx).1 (hp x hx).2 W);have TC:=hid (fun i x (hi:l[i]?=some x) W hW=>together_calls A cap l i x hi hc (by omega) (hp x (List.mem_of_getElem? hi)).1 hby W hW);have HL:=hid hl;clear hd hp hby hl;go_enter Tryz.func37,Tryz.ntmps37
 go_wp2_with fail
 go_loopw [2,3,4,5] (fun v2 v3 v4 _ wr=>∃ k:Nat,v2=.int .i64 0∧v3=.int .i64 0∧v4=.int .i64 k∧k≤l.length∧(∀ m y,m < k→l[m]?=some y→NodeOk y)∧Below w.heap.size w wr) (fun _ _ v4 _ _=>l.length - (intOf v4).toNat)
 case atStart=>exact ⟨0,rfl,rfl,rfl,Nat.zero_le _,fun m y h=>absurd h (Nat.not_lt_zero m),Below.refl _ _⟩
 case round =>
  obtain ⟨k,rfl,rfl,rfl,hk,hA,hb⟩:=hrel;have HA:=hid hA;have HB:=hid hb;clear hA hb;by_cases hlt:k < l.length
  ·
   have hkz:(k:Int) < (l.length:Int):=by omega
   obtain ⟨y,hy⟩:∃ y,l[k]?=some y:=⟨_,List.getElem?_eq_getElem hlt⟩;obtain ⟨b,o,rfl,_,_⟩:=HL.out.row (fun e=>by rw [e] at hlt;exact absurd hlt (Nat.not_lt_zero _));obtain ⟨c0,c1,c2,c3,c4,c5⟩:=(HL.out.below HB.out).cells k y hy;have OY:=hid (fun W=>OC.out y (List.mem_of_getElem? hy) W);have HY:=hid hy;unfold NV.cells at OY;clear hy
   go_wp2_with fail
   refine (OY.out _).mono ?_;rintro r w1 ⟨e,rfl,he,hb1⟩;have B1:=hid (below_step HB.out hb1);clear hb1;by_cases he0:e=0
   ·
    have HN:=hid (he he0);subst he0;have N:Hid (∀ m z,m < k+1→l[m]?=some z→NodeOk z):=hid fun m z h1 h2=>by
     by_cases hmk:m=k
     ·subst hmk;rw [HY.out] at h2;cases h2;exact HN.out
     ·exact HA.out m z (by omega) h2
    clear he
    go_wp2_with fail
    go_roundw
    case rel=>exact ⟨k+1,rfl,rfl,by first | rfl | go_num,by omega,N.out,B1.out⟩
    case measure=>first | (simp [intOf];done) | (simp [intOf];omega)
   ·
    have b:(e != 0)=true:=by rw [bne_iff_ne];exact he0
    have N:=hid he0;clear he he0
    go_wp2_with fail
    go_ret2
    exact ⟨_,e,rfl,fun h=>absurd h N.out,B1.out⟩
  ·
   obtain rfl:k=l.length:=by omega
   have ND:Hid (∀ y∈l,NodeOk y):=hid fun y hy=>by obtain ⟨m,hm⟩:=List.mem_iff_getElem?.1 hy;exact HA.out m y (List.getElem?_eq_some_iff.1 hm).1 hm
   clear HA
   go_wp2_with fail
   go_loopw [2,3,6,7] (fun v2 v3 v6 _ wr=>∃ k:Nat,v2=.int .i64 0∧v3=.int .i64 0∧v6=.int .i64 k∧k≤l.length∧(∀ m y,m < k→l[m]?=some y→RefOk l m y)∧Below w.heap.size w wr) (fun _ _ v6 _ _=>l.length - (intOf v6).toNat)
   case atStart=>exact ⟨0,rfl,rfl,rfl,Nat.zero_le _,fun m y h=>absurd h (Nat.not_lt_zero m),HB.out⟩
   case round =>
    obtain ⟨k,rfl,rfl,rfl,hk,hA,hb⟩:=hrel;have HA:=hid hA;have HB2:=hid hb;clear hA hb;by_cases hlt:k < l.length
    ·
     have hkz:(k:Int) < (l.length:Int):=by omega
     obtain ⟨y,hy⟩:∃ y,l[k]?=some y:=⟨_,List.getElem?_eq_getElem hlt⟩;have TY:=hid (fun W hW=>TC.out k y hy W hW);have HY:=hid hy;clear hy
     go_wp2_with fail
     refine (TY.out _ (HL.out.below HB2.out)).mono ?_;rintro r w1 ⟨e,rfl,he,hb1⟩;have B1:=hid (below_step HB2.out hb1);clear hb1;by_cases he0:e=0
     ·
      have HN:=hid (he he0);subst he0;have N:Hid (∀ m z,m < k+1→l[m]?=some z→RefOk l m z):=hid fun m z h1 h2=>by
       by_cases hmk:m=k
       ·subst hmk;rw [HY.out] at h2;cases h2;exact HN.out
       ·exact HA.out m z (by omega) h2
      clear he
      go_wp2_with fail
      go_roundw
      case rel=>exact ⟨k+1,rfl,rfl,by first | rfl | go_num,by omega,N.out,B1.out⟩
      case measure=>first | (simp [intOf];done) | (simp [intOf];omega)
     ·
      have b:(e != 0)=true:=by rw [bne_iff_ne];exact he0
      have N:=hid he0;clear he he0
      go_wp2_with fail
      go_ret2
      exact ⟨_,e,rfl,fun h=>absurd h N.out,B1.out⟩
    ·
     obtain rfl:k=l.length:=by omega
     have R:Hid (RefTree l):=hid ⟨ND.out,fun j x hj=>HA.out j x (List.getElem?_eq_some_iff.1 hj).1 hj⟩
     go_wp2_with fail
     go_ret2
     exact ⟨_,0,rfl,fun _=>R.out,HB2.out⟩
end ZRn
namespace ZRi
open ZRec ZSize ZFmt ZRe
open ZTCheck (cell_of)
open Go.Lib (nDigits)
theorem decB_small {n:Nat} (h:n < 10):decB n=[48+(n:Int)]:=by unfold decB;rw [Lib.decDigits,dif_pos h];simp;omega
theorem decB_big {n:Nat} (h:¬ n < 10):decB n=decB (n / 10)++[48+((n % 10:Nat):Int)]:=by unfold decB;rw [Lib.decDigits,dif_neg h];simp;omega
theorem decB_bytes (n:Nat):∀ x∈decB n,0≤x∧x < 256:=by intro x hx;unfold decB at hx;obtain ⟨b,_,rfl⟩:=List.mem_map.1 hx;have:=b.toNat_lt;omega
theorem nDigits_le (n:Nat) (h:n < 1000000000000000000):nDigits n≤18:=by
 rcases Nat.lt_or_ge (nDigits n) 19 with h' | h'
 ·omega
 ·have:=Go.Lib.lt_pow_nDigits n;have h2:=nDigits_mono (a:=n) (b:=999999999999999999) (by omega);have h3:nDigits 999999999999999999=18:=Go.Lib.nDigits_unique 17 _ (by decide) (by decide);omega
structure DecAt (n:Nat) (m:Nat) (s:ByteArray):Prop where mk :: (out:∃ tl:List Int,decB n=decB m++tl∧s=strOfNums tl)
theorem DecAt.start (n:Nat):DecAt n n ⟨#[]⟩:=⟨[],by simp,rfl⟩
theorem DecAt.next {n m:Nat} {s:ByteArray} (h:DecAt n m s) (hm:¬ m < 10):DecAt n (m / 10) (strOfNums [48+((m % 10:Nat):Int)]++s):=by
 obtain ⟨tl,h1,rfl⟩:=h.out;refine ⟨(48+((m % 10:Nat):Int)) :: tl,?_,?_⟩
 ·rw [h1,decB_big hm];simp
 ·simp only [strOfNums];rw [ByteArray.mk_append_mk];rfl
theorem DecAt.last {n m:Nat} {s:ByteArray} (h:DecAt n m s) (hm:m < 10):strOfNums [48+(m:Int)]++s=strOfNums (decB n):=by obtain ⟨tl,h1,rfl⟩:=h.out;rw [h1,decB_small hm];simp only [strOfNums];rw [ByteArray.mk_append_mk];rfl
theorem DecAt.size {n m:Nat} {s:ByteArray} (h:DecAt n m s) (hn:n < 1000000000000000000):s.size≤18:=by obtain ⟨tl,h1,rfl⟩:=h.out;have e:=congrArg List.length h1;rw [List.length_append,decB_len] at e;have:=nDigits_le n hn;rw [strOfNums_size];omega
theorem conv1 (x:Int) (W:World):(convert 30 9 (.slice (some ⟨W.heap.size,0,none⟩) 1 1)).run Tryz.prog (W.alloc (.cells #[.int .u8 x] 5))=.ok (.string (strOfNums [x])) (W.alloc (.cells #[.int .u8 x] 5)) :=
 own_string (P:=Tryz.prog) Tryz.underlying30 Tryz.underlying5 Tryz.underlying9 (own_lit W W.heap.size 5 .u8 [x] (Nat.le_refl _) (by simp))
set_option maxHeartbeats 2000000 in
theorem decimal_calls (n:Nat) (hn:n < 1000000000000000000) (w:World):Calls Tryz.prog 69 #[.int .i64 n] w fun e w'=>e=.returned (.string (strOfNums (decB n)))∧Below w.heap.size w w':=by
 have D0:=hid (DecAt.start n);have HN:=hid hn;clear hn;go_enter Tryz.func69,Tryz.ntmps69;go_wp2
 go_loopw [0,3] (fun v s wr=>∃ (z:Int) (sb:ByteArray),0≤z∧z < 1000000000000000000∧v=.int .i64 z∧s=.string sb∧DecAt n z.toNat sb∧Below w.heap.size w wr) (fun v _ _=>(intOf v).toNat)
 case atStart=>exact ⟨n,_,by omega,by have:=HN.out;omega,rfl,rfl,by simpa using D0.out,Below.refl _ _⟩
 case round =>
  obtain ⟨z,sb,hz0,hz1,rfl,rfl,hA,hb⟩:=hrel;have HA:=hid hA;have HB:=hid hb;have hsz:=HA.out.size HN.out;clear hA hb;by_cases hlt:z < 10
  ·
   have hi:¬ (10:Int)≤z:=by omega
   have L:=hid (HA.out.last (by omega));rw [show ((z.toNat:Nat):Int)=z by omega] at L;have hcv:=conv1 (48+z);have hsz2:¬ 9223372036854775807 < (strOfNums [48+z]).size+sb.size:=by rw [strOfNums_size];simp;omega
   clear hsz;go_wp2;go_ret;exact ⟨by rw [← L.out];rfl,below_alloc HB.out _⟩
  ·
   have hi:(10:Int)≤z:=by omega
   have N:=hid (HA.out.next (by omega));rw [show ((z.toNat % 10:Nat):Int)=z % 10 by omega,show z.toNat / 10=(z / 10).toNat by omega] at N;have hcv:=conv1 (48+z % 10);have hsz2:¬ 9223372036854775807 < (strOfNums [48+z % 10]).size+sb.size:=by rw [strOfNums_size];simp;omega
   clear hsz;go_wp2
   go_roundw
   case rel=>exact ⟨z / 10,_,by omega,by omega,by first | rfl | go_num,rfl,N.out,below_alloc HB.out _⟩
   case measure=>first | (simp [intOf];done) | (simp [intOf];omega)
end ZRi
namespace ZRj
open ZRec ZSize ZFmt ZRe ZRi ZPlanOk
open ZTCheck (cell_of)
open ZGlob (sLink sPath)
open Go.Lib (nDigits)
theorem digN_first (rest:Nat) (hr:rest < 1000000):∀ d,1≤d→d < digN rest→nDigits (rest+d)≠d:=by
 intro d h1 h2 h3;have hs:=digN_spec rest hr;unfold digN at h2;cases hf:(List.range 20).find? fun d=>decide (nDigits (rest+(d+1))≤d+1) with
 | none =>rw [hf] at h2;simp at h2;omega
 | some k =>rw [hf] at h2;simp at h2;rw [List.find?_range_eq_some] at hf;have:=hf.2.2 (d - 1) (by omega);simp at this;rw [show d - 1+1=d by omega] at this;omega
set_option maxHeartbeats 2000000 in
theorem size_calls (r:Rec) (hr:Rec.rest r < 1000000) (w:World):Calls Tryz.prog 104 #[.agg r.cells] w fun e w'=>e=.returned (.int .i64 (recSz r))∧Below w.heap.size w w':=by
 obtain ⟨key,val⟩:=r;have hs:=digN_spec _ hr;have FI:=hid (digN_first _ hr);unfold recSz;generalize hD:digN (Rec.rest ⟨key,val⟩)=D at *;have hks:key.size+val.size+3=Rec.rest ⟨key,val⟩:=rfl;generalize Rec.rest ⟨key,val⟩=T at *;have HD:=hid hs;obtain ⟨h1,h7,_⟩:=hs;have DC:=hid (fun (d:Nat) (hd:d≤7) W=>decimal_calls (T+d) (by omega) W);have NS:=hid (fun d:Nat=>(show (strOfNums (decB (T+d))).size=nDigits (T+d) by rw [strOfNums_size,decB_len]));have B0:=hid (below_alloc (Below.refl w.heap.size w) (.cells #[.string key,.string val] 125));have hk2:(key.size:Int)+(val.size:Int)+3=(T:Int):=by omega
 have e1:key.size < 1000000:=by omega
 have e2:val.size < 1000000:=by omega
 clear hD hks;unfold Rec.cells;dsimp only;go_enter Tryz.func104,Tryz.ntmps104;go_wp2
 go_loopw [4] (fun v wr=>∃ d:Nat,1≤d∧d≤D∧v=.int .i64 ((T:Int)+(d:Int))∧Below w.heap.size w wr) (fun v _=>D+T - (intOf v).toNat)
 case atStart=>exact ⟨1,Nat.le_refl _,by omega,by first | rfl | go_num,B0.out⟩
 case round =>
  obtain ⟨d,hd1,hd2,rfl,hb⟩:=hrel;have HB:=hid hb;clear hb;have DCd:=hid (fun W=>DC.out d (by omega) W);have ec:((T+d:Nat):Int)=(T:Int)+(d:Int):=by omega
  rw [ec] at DCd;have NSd:=NS.out d;obtain ⟨nd,hnd⟩:∃ nd,nDigits (T+d)=nd:=⟨_,rfl⟩;rw [hnd] at NSd;have hnd7:nd≤18:=by rw [← hnd];exact nDigits_le _ (by omega)
  by_cases hlast:d=D
  ·
   subst hlast;have hq:nd=d:=by rw [← hnd];exact HD.out.2.2
   subst hq;clear ec hnd
   go_wp2_with fail
   refine (DCd.out _).mono ?_;rintro e w1 ⟨rfl,hb⟩;have H1:=hid (below_step HB.out hb);clear hb;have ez:(nd:Int)+(T:Int)=(T:Int)+(nd:Int):=by omega
   go_wp2_with fail
   go_ret;exact ⟨rfl,H1.out⟩
  ·
   have hq:nd≠d:=by rw [← hnd];exact FI.out d hd1 (by omega)
   clear ec hnd;have hne:(nd:Int)+(T:Int)≠(T:Int)+(d:Int):=by omega
   have hne2:(((nd:Int)+(T:Int)) != ((T:Int)+(d:Int)))=true:=by rw [bne_iff_ne];exact hne
   go_wp2_with fail
   refine (DCd.out _).mono ?_;rintro e w1 ⟨rfl,hb⟩;have H1:=hid (below_step HB.out hb);clear hb
   go_wp2_with fail
   go_roundw
   case rel=>exact ⟨d+1,by omega,by omega,by first | rfl | go_num,H1.out⟩
   case measure=>first | (simp [intOf];done) | (simp [intOf];omega)
def recS (r:Rec):ByteArray:=((((strOfNums (decB (recSz r))++⟨#[32]⟩)++r.key)++⟨#[61]⟩)++r.val)++⟨#[10]⟩
theorem bytesOf_append (a b:ByteArray):bytesOf (a++b)=bytesOf a++bytesOf b:=by simp [bytesOf]
theorem bytesOf_str (l:List Int) (hb:∀ x∈l,0≤x∧x < 256):bytesOf (strOfNums l)=l:=ZRa.bytesOf_str l hb
theorem recS_bytes (r:Rec):bytesOf (recS r)=recB r:=by unfold recS recB;simp only [bytesOf_append,bytesOf_str _ (decB_bytes _)];simp [bytesOf]
set_option maxHeartbeats 4000000 in
theorem one_calls (r:Rec) (hr:Rec.rest r < 1000000) (w:World):Calls Tryz.prog 71 #[.agg r.cells] w fun e w'=>e=.returned (.string (recS r))∧Below w.heap.size w w':=by
 have SC:=hid (fun W=>size_calls r hr W);have h7:=(digN_spec _ hr).2.1;have hsz:recSz r < 1000000000000000000:=by unfold recSz;omega
 have DC:=hid (fun W=>decimal_calls (recSz r) hsz W);have DS:(strOfNums (decB (recSz r))).size≤18:=by rw [strOfNums_size,decB_len];exact nDigits_le _ hsz
 unfold recS;obtain ⟨key,val⟩:=r;have hks:key.size+val.size+3=Rec.rest ⟨key,val⟩:=rfl;have e1:key.size < 1000000:=by omega
 have e2:val.size < 1000000:=by omega
 clear hks hr h7 hsz;generalize recSz ⟨key,val⟩=Z at *;obtain ⟨D,hD⟩:∃ D,strOfNums (decB Z)=D:=⟨_,rfl⟩;rw [hD] at DC DS ⊢;unfold Rec.cells at *;dsimp only at *;clear hD;have X0:=heap_alloc_new w (.cells #[.string key,.string val] 125);have B0:=hid (below_alloc (Below.refl w.heap.size w) (.cells #[.string key,.string val] 125));have KP:Hid (∀ W,Below (w.alloc (.cells #[.string key,.string val] 125)).heap.size (w.alloc (.cells #[.string key,.string val] 125)) W→W.cell? ⟨w.heap.size,0,none⟩=some (.string key)∧W.cell? ⟨w.heap.size,1,none⟩=some (.string val)):=hid fun W hW=>by have h:=(hW.block _ (blk_lt X0)).trans X0;exact ⟨cell_of h 0 _ rfl,cell_of h 1 _ rfl⟩
 clear X0;have z1:(D++⟨#[32]⟩:ByteArray).size=D.size+1:=by simp;rfl
 have z2:((D++⟨#[32]⟩)++key:ByteArray).size=D.size+1+key.size:=by rw [ByteArray.size_append,z1]
 have z3:(((D++⟨#[32]⟩)++key)++⟨#[61]⟩:ByteArray).size=D.size+1+key.size+1:=by rw [ByteArray.size_append,z2];rfl
 have z4:((((D++⟨#[32]⟩)++key)++⟨#[61]⟩)++val:ByteArray).size=D.size+1+key.size+1+val.size:=by rw [ByteArray.size_append,z3]
 have q1:=fun W=>run_string_add_sum (P:=Tryz.prog) W D ⟨#[32]⟩ (by have:(⟨#[32]⟩:ByteArray).size=1:=rfl;omega);have q2:=fun W=>run_string_add_sum (P:=Tryz.prog) W (D++⟨#[32]⟩) key (by rw [z1];omega);have q3:=fun W=>run_string_add_sum (P:=Tryz.prog) W ((D++⟨#[32]⟩)++key) ⟨#[61]⟩ (by rw [z2];have:(⟨#[61]⟩:ByteArray).size=1:=rfl;omega);have q4:=fun W=>run_string_add_sum (P:=Tryz.prog) W (((D++⟨#[32]⟩)++key)++⟨#[61]⟩) val (by rw [z3];omega);have q5:=fun W=>run_string_add_sum (P:=Tryz.prog) W ((((D++⟨#[32]⟩)++key)++⟨#[61]⟩)++val) ⟨#[10]⟩ (by rw [z4];have:(⟨#[10]⟩:ByteArray).size=1:=rfl;omega);have n1:¬ 9223372036854775807 < D.size+1:=by omega
 have n2:¬ 9223372036854775807 < D.size+1+key.size:=by omega
 have n3:¬ 9223372036854775807 < D.size+1+key.size+1:=by omega
 have n4:¬ 9223372036854775807 < D.size+1+key.size+1+val.size:=by omega
 have n5:¬ 9223372036854775807 < D.size+1+key.size+1+val.size+1:=by omega
 clear z1 z2 z3 z4;go_enter Tryz.func71,Tryz.ntmps71
 go_wp2_with fail
 go_region_held3 (fun w'=>w'.cell? ⟨w.heap.size,0,none⟩=some (.string key)∧w'.cell? ⟨w.heap.size,1,none⟩=some (.string val)) (go_keep) ((first
  | (go_at_call 104;refine (SC.out _).mono ?_;rintro e w2 ⟨rfl,hb2⟩;have hB2:Hid (Below (w.alloc (.cells #[.string key,.string val] 125)).heap.size (w.alloc (.cells #[.string key,.string val] 125)) w2):=hid (below_step (by first | exact Below.refl _ _ | exact below_drew (Below.refl _ _)) hb2);obtain ⟨f0,f1⟩:=KP.out _ hB2.out;clear hb2)
  | (go_at_call 69;refine (DC.out _).mono ?_;rintro e w3 ⟨rfl,hb3⟩;have hB3:Hid (Below (w.alloc (.cells #[.string key,.string val] 125)).heap.size (w.alloc (.cells #[.string key,.string val] 125)) w3):=hid (below_step (by first | exact hB2.out | exact below_drew hB2.out) hb3);obtain ⟨f0,f1⟩:=KP.out _ hB3.out;clear hb3)))
 all_goals
  go_wp2_with fail
  go_ret;exact ⟨rfl,below_step B0.out hB3.out⟩
set_option maxHeartbeats 2000000 in
theorem check_calls (r:Rec) (hk:r.key=sLink∨r.key=sPath) (hv:valOk r.val) (w:World):Calls Tryz.prog 70 #[.agg r.cells] w fun e w'=>e=.returned (.int .i64 0)∧Below w.heap.size w w':=by
 obtain ⟨key,val⟩:=r;dsimp only at hk hv;have hn:∀ j (hj:j < val.size),¬ ((((val[j]'hj).toNat:Nat):Int)=0):=fun j hj e=>by have h0:(0:UInt8)∉val.data.toList:=(index_lt _ _).1 hv.2.2;exact h0 (List.mem_of_getElem? (i:=j) (by rw [byte_eq j hj,(byte_num 0).1 e]))
 have NZ:=hid hn;have hbig:=hv.1;have e0:val.toList.isEmpty=false:=by
  have:=str_ne hv.2.1;rw [ByteArray.toList_eq ⟨#[]⟩] at this;cases h:val.toList with
  | nil=>rw [h] at this;cases this
  | cons x r=>rfl
 have B0:=hid (below_alloc (Below.refl w.heap.size w) (.cells #[.string key,.string val] 125));unfold Rec.cells;dsimp only;clear hn hv;rcases hk with rfl | rfl
 all_goals
  first | unfold sLink | unfold sPath
 all_goals
  go_enter Tryz.func70,Tryz.ntmps70;go_wp2
  go_loop [3] (fun vi=>∃ k:Nat,k≤val.size∧vi=.int .i64 k) (fun vi=>val.size - (intOf vi).toNat)
  case atStart=>exact ⟨0,Nat.zero_le _,rfl⟩
  case round =>
   obtain ⟨k,hk,rfl⟩:=hrel;by_cases hlt:k < val.size
   ·
    have hne:=NZ.out k hlt;go_wp2
    go_round
    case rel=>exact ⟨k+1,by omega,by first | rfl | go_num⟩
    case measure=>first | (simp [intOf];done) | (simp [intOf];omega)
   ·
    obtain rfl:k=val.size:=by omega
    go_wp2;go_ret;exact ⟨rfl,B0.out⟩
theorem recS_size (r:Rec) (hr:Rec.rest r≤65547):(recS r).size≤70000:=by have h1:=congrArg List.length (recS_bytes r);rw [bytesOf_length,recB_len r (by omega)] at h1;have h2:=digN_spec (Rec.rest r) (by omega);rw [h1];unfold recSz;omega
theorem bytesOf_nil:bytesOf ⟨#[]⟩=[]:=rfl
set_option maxHeartbeats 4000000 in
theorem format_calls (g cap:Nat) (l:List Rec) (hl:RecsOk l) (hn:l.length≤3) (hcap:l.length≤cap) (w:World) (hR:RecAt w g l): Calls Tryz.prog 42 #[.slice (some ⟨g,0,none⟩) l.length cap] w fun e w'=>∃ A c,e=.returned (.tuple #[.slice A (fmtB l).length c,.int .i64 0])∧Kd.C (Kd.int .u8) w' A (fmtB l).length (fmtB l)∧Below w.heap.size w w':=by
 have HL:=hid hl;have HN:=hid hn;have HR:=hid hR;clear hl hR;go_enter Tryz.func42,Tryz.ntmps42
 go_wp2_with fail
 go_loopw [4,5,6] (fun v i _ wr=>∃ (j:Nat) (s:ByteArray),j≤l.length∧i=.int .i64 j∧v=.string s∧Hid (bytesOf s=fmtB (l.take j)∧Below w.heap.size w wr)) (fun _ i _ _=>l.length - (intOf i).toNat)
 case atStart=>exact ⟨0,_,Nat.zero_le _,rfl,rfl,by simp [fmtB,bytesOf_nil],Below.refl _ _⟩
 case round =>
  obtain ⟨j,s,hj,rfl,rfl,HS⟩:=hrel;have hss:s.size≤200000:=by have:=congrArg List.length HS.out.1;rw [bytesOf_length] at this;rw [this];exact fmt_len HL.out HN.out j
  by_cases hlt:j < l.length
  ·
   have hltz:(j:Int) < (l.length:Int):=by omega
   obtain ⟨r,hr⟩:∃ r,l[j]?=some r:=⟨_,List.getElem?_eq_getElem hlt⟩;have hm:r∈l:=List.mem_of_getElem? hr;have R1:=HR.out.of (HS.out.2.block _ HR.out.lt);obtain ⟨c0,c1⟩:=R1.cell j r hr;have HRR:=hid (And.intro hr hm);clear hr hm R1;have hkey:=HL.out.key _ HRR.out.2;have hval:=HL.out.val _ HRR.out.2;have hrest:=HL.out.rest HRR.out.2;have CC:=hid (fun W=>check_calls r hkey hval W);have OC:=hid (fun W=>one_calls r (by omega) W);have hrs:=recS_size r hrest;have RB:=hid (recS_bytes r);obtain ⟨R,hRS⟩:∃ R,recS r=R:=⟨_,rfl⟩;rw [hRS] at OC hrs RB;obtain ⟨key,val⟩:=r;dsimp only at c0 c1;unfold Rec.cells at CC OC;dsimp only at CC OC;clear hkey hval hrest hRS
   go_wp2_with fail
   refine (CC.out _).mono ?_;rintro e w1 ⟨rfl,hb1⟩;have bx:((0:Int) != 0)=false:=rfl;have B1:=hid hb1;have R1:=HR.out.of ((B1.out.block _ (Nat.lt_of_lt_of_le HR.out.lt HS.out.2.size)).trans (HS.out.2.block _ HR.out.lt));obtain ⟨c0,c1⟩:=R1.cell j _ HRR.out.1;dsimp only at c0 c1;have qa:=fun W=>run_string_add_sum (P:=Tryz.prog) W s R (by omega);have na:¬ 9223372036854775807 < s.size+R.size:=by omega
   have NX:Hid (bytesOf (s++R)=fmtB (l.take (j+1))):=hid (by
    rw [bytesOf_append,HS.out.1,RB.out,fmt_take HRR.out.1];simp [recB])
   clear hb1;by_cases hj0:0 < j
   ·
    have hj0z:(0:Int) < (j:Int):=by omega
    obtain ⟨i,hi⟩:∃ i:Nat,(j:Int) - 1=(i:Int):=⟨j - 1,by omega⟩;have hij:j=i+1:=by omega
    obtain ⟨q,hq⟩:∃ q,l[i]?=some q:=⟨_,List.getElem?_eq_getElem (by omega)⟩;have hasc:=HL.out.asc i q _ hq (hij ▸ HRR.out.1);obtain ⟨e0,e1⟩:=R1.cell i q hq;dsimp only at hasc;obtain ⟨qk,qv⟩:=q;have w2:IntKind.i64.wrap ((i:Int))=(i:Int):=by rw [IntKind.wrap_i64];omega
    have b3:(i:Int) < (l.length:Int):=by omega
    clear hq R1 hij
    go_wp2_with fail
    repeat (go_quiet (fail);try go_wp2_with fail)
    refine (OC.out _).mono ?_;rintro e w2 ⟨rfl,hb2⟩;have B2:=hid (show Below w1.heap.size w1 w2 from (pw_below_drewN (Below.refl _ _) _).trans hb2);clear hb2
    go_wp2_with fail
    go_roundw
    case rel=>exact ⟨j+1,_,by omega,by first | rfl | go_num,rfl,NX.out,below_step (below_step HS.out.2 B1.out) B2.out⟩
    case measure=>first | (simp [intOf];done) | (simp [intOf];omega)
   ·
    obtain rfl:j=0:=by omega
    clear R1
    go_wp2_with fail
    repeat (go_quiet (fail);try go_wp2_with fail)
    refine (OC.out _).mono ?_;rintro e w2 ⟨rfl,hb2⟩;have B2:=hid (show Below w1.heap.size w1 w2 from (pw_below_drewN (Below.refl _ _) _).trans hb2);clear hb2
    go_wp2_with fail
    go_roundw
    case rel=>exact ⟨1,_,by omega,by first | rfl | go_num,rfl,NX.out,below_step (below_step HS.out.2 B1.out) B2.out⟩
    case measure=>first | (simp [intOf];done) | (simp [intOf];omega)
  ·
   obtain rfl:j=l.length:=by omega
   have kb:=fun W:World=>print_bytes (P:=Tryz.prog) 9 30 5 Tryz.underlying9 Tryz.underlying30 Tryz.underlying5 s W;have HB:Hid (bytesOf s=fmtB l):=hid (by rw [HS.out.1,List.take_length])
   go_wp2_with fail
   go_ret2
   have e1:s.size=(fmtB l).length:=by rw [← HB.out,bytesOf_length]
   refine ⟨_,_,by rw [← e1];rfl,?_,bytes_below HS.out.2 HS.out.2.size _ _⟩;rw [← e1,← HB.out];exact Kd.C_of_reads (d:=(0:Int)) (h1:=fun _=>rfl) (bytes_reads wr 5 s (by omega))
end ZRj
namespace ZRk
open ZPath ZRec ZFit ZFmt ZPlan ZCheck
open ZTCheck (cell_of)
open ZGlob (sLink sPath)
theorem join2 {P:Program} {c:Code} {K:Act→World→Prop} {Q:Exit→Act→World→Prop} {a:Act} {w:World} (A:Nat→Nat→Act) (S:Nat→Nat→World→Prop) (h:c.wp P (Exit.then (fun a' w'=>∃ x y,a'=A x y∧S x y w') Q) a w) (k:∀ x y w',S x y w'→K (A x y) w'):c.wp P (Exit.then K Q) a w :=
 Code.wp_mono (fun e a' w' h=>by
  cases e with
  | normal =>obtain ⟨x,y,rfl,hS⟩:=h;exact k x y w' hS
  | _=>exact h) h
theorem target_small {kind:Int} {t:ByteArray} (h:targetOk kind t):t.size≤65536:=by
 unfold targetOk at h;split at h
 ·exact h.1
 ·
  split at h
  ·exact h.1
  ·rw [h];exact Nat.zero_le _
def hcells (typ:Int) (name pre link:ByteArray) (mode size:Int):Array Value:=#[.int .u8 typ,.string name,.string pre,.string link,.int .i64 mode,.int .i64 size]
structure Pq (w W:World) (e:Ent) (hb:Nat) (h:Hdr):Prop where
 bel:Below w.heap.size w W
 box:W.heap[w.heap.size]?=some (.cells #[.int .i64 e.kind,.string e.path,.int .i64 e.mode,.string e.target,.int .i64 e.size] 54 (0,0))
 res:W.heap[w.heap.size+1]?=some (.cells #[.int .u8 0,.string ⟨#[]⟩,.string ⟨#[]⟩,.string ⟨#[]⟩,.int .i64 0,.int .i64 0] 85 (0,0))
 hdr:W.heap[hb]?=some (.cells #[.int .u8 h.typ,.string h.name,.string h.pre,.string h.link,.int .i64 h.mode,.int .i64 h.size] 85 (0,0))
 lt:w.heap.size+1 < hb
section
variable {w W W1:World} {e:Ent} {hb:Nat} {h:Hdr}
theorem Pq.step (p:Pq w W e hb h) (hbl:Below W.heap.size W W1):Pq w W1 e hb h :=
 ⟨below_step p.bel hbl,(hbl.block _ (blk_lt p.box)).trans p.box,(hbl.block _ (blk_lt p.res)).trans p.res,(hbl.block _ (blk_lt p.hdr)).trans p.hdr,p.lt⟩
theorem Pq.set (p:Pq w W e hb h) (i:Nat) (v:Value) (h':Hdr) (hv:(#[.int .u8 h.typ,.string h.name,.string h.pre,.string h.link,.int .i64 h.mode,.int .i64 h.size]:Array Value).setIfInBounds i v=#[.int .u8 h'.typ,.string h'.name,.string h'.pre,.string h'.link,.int .i64 h'.mode,.int .i64 h'.size]):Pq w (W.setCell ⟨hb,i,none⟩ v) e hb h':=by
 have l1:=p.lt;refine ⟨p.bel.setCell (p:=⟨hb,i,none⟩) (by show w.heap.size≤hb;omega) v,?_,?_,?_,p.lt⟩
 ·rw [Below.heap_setCell _ _ _ _ (by show w.heap.size≠hb;omega)];exact p.box
 ·rw [Below.heap_setCell _ _ _ _ (by show w.heap.size+1≠hb;omega)];exact p.res
 ·rw [heap_setCell_same W hb i _ _ v p.hdr,hv]
theorem Pq.keepB {B:Nat} (p:Pq w W e hb h) (hbB:hb < B) (hw:w.heap.size≤B) (hbl:Below B W W1):Pq w W1 e hb h:=by have l1:=p.lt;exact ⟨p.bel.trans (hbl.mono hw),(hbl.block _ (by omega)).trans p.box,(hbl.block _ (by omega)).trans p.res,(hbl.block _ hbB).trans p.hdr,p.lt⟩
theorem Pq.cells (p:Pq w W e hb h):W.cell? ⟨w.heap.size,1,none⟩=some (.string e.path)∧W.cell? ⟨w.heap.size,3,none⟩=some (.string e.target)∧W.cell? ⟨w.heap.size,4,none⟩=some (.int .i64 e.size):=by simp [World.cell?,p.box]
theorem Pq.hcells (p:Pq w W e hb h):W.cell? ⟨hb,0,none⟩=some (.int .u8 h.typ)∧W.cell? ⟨hb,1,none⟩=some (.string h.name)∧W.cell? ⟨hb,2,none⟩=some (.string h.pre)∧W.cell? ⟨hb,3,none⟩=some (.string h.link)∧W.cell? ⟨hb,4,none⟩=some (.int .i64 h.mode)∧W.cell? ⟨hb,5,none⟩=some (.int .i64 h.size):=by simp [World.cell?,p.hdr]
theorem Pq.free (p:Pq w W e hb h):W.frozen? ⟨hb,0,none⟩=false∧W.frozen? ⟨hb,1,none⟩=false∧W.frozen? ⟨hb,2,none⟩=false∧W.frozen? ⟨hb,3,none⟩=false∧W.frozen? ⟨hb,4,none⟩=false∧W.frozen? ⟨hb,5,none⟩=false:=by simp [World.frozen?,p.hdr]
theorem Pq.rcells (p:Pq w W e hb h):W.cell? ⟨w.heap.size+1,0,none⟩=some (.int .u8 0)∧W.cell? ⟨w.heap.size+1,1,none⟩=some (.string ⟨#[]⟩)∧W.cell? ⟨w.heap.size+1,2,none⟩=some (.string ⟨#[]⟩)∧W.cell? ⟨w.heap.size+1,3,none⟩=some (.string ⟨#[]⟩)∧W.cell? ⟨w.heap.size+1,4,none⟩=some (.int .i64 0)∧W.cell? ⟨w.heap.size+1,5,none⟩=some (.int .i64 0):=by simp [World.cell?,p.res]
theorem Pq.rfree (p:Pq w W e hb h):W.frozen? ⟨w.heap.size+1,0,none⟩=false∧W.frozen? ⟨w.heap.size+1,1,none⟩=false∧W.frozen? ⟨w.heap.size+1,2,none⟩=false∧W.frozen? ⟨w.heap.size+1,3,none⟩=false∧W.frozen? ⟨w.heap.size+1,4,none⟩=false∧W.frozen? ⟨w.heap.size+1,5,none⟩=false:=by simp [World.frozen?,p.res]
end
theorem split_empty {p pre name:ByteArray} (h:splitP p=(pre,name,false)):name=⟨#[]⟩∧pre=⟨#[]⟩:=by
 unfold splitP at h;split at h
 ·cases h
 ·
  split at h
  ·simp only [Prod.mk.injEq] at h;exact ⟨h.2.1.symm,h.1.symm⟩
  ·have h2:=congrArg (fun t:ByteArray×ByteArray×Bool=>t.2.2) h;dsimp only at h2;exact absurd h2 (by decide)
theorem two_allocs (w1:World) (o o2:Obj):((w1.alloc o).alloc o2).heap[w1.heap.size]?=some o∧((w1.alloc o).alloc o2).heap[w1.heap.size+1]?=some o2∧Below w1.heap.size w1 ((w1.alloc o).alloc o2):=by
 have h1:=heap_alloc_new w1 o;have h2:=heap_alloc_new (w1.alloc o) o2;have hs:(w1.alloc o).heap.size=w1.heap.size+1:=by simp
 refine ⟨((below_alloc (Below.refl _ _) o2).block _ (blk_lt h1)).trans h1,by rwa [hs] at h2,below_alloc (below_alloc (Below.refl _ _) o) o2⟩
set_option maxHeartbeats 8000000 in
theorem plan_calls (e:Ent) (hk:e.Ok) (hs:e.size≤8589934591) (w:World): Calls Tryz.prog 41 #[e.val] w fun r w'=>∃ v,r=.returned (.tuple #[(planH e).val,v,.int .i64 0])∧RecRow w' w.heap.size v (planR e)∧Below w.heap.size w w':=by
 have hp:=hk.path.1;have ht:=target_small hk.target;have CC:=hid (fun W=>ZRf.check_calls e (by omega) (by omega) W);have SP:=hid (fun W=>ZRg.split_calls e.path (by omega) W);have KO:=hid hk;obtain ⟨kind,path,mode,target,size⟩:=e;dsimp only at hp ht hs SP;have hkind:kind=0∨kind=1∨kind=2∨kind=3:=by have:=hk.kind;dsimp only at this;omega
 obtain ⟨kn,rfl,hkn⟩:∃ kn:Nat,kind=(kn:Int)∧kn < 4:=⟨kind.toNat,by omega,by omega⟩;obtain ⟨typ,htyp⟩:∃ t,typOf (kn:Int)=t:=⟨_,rfl⟩;have TY:(#[.int .u8 53,.int .u8 48,.int .u8 50,.int .u8 49]:Array Value)[kn]?=some (.int .u8 typ):=by
  have:kn=0∨kn=1∨kn=2∨kn=3:=by omega
  rcases this with rfl | rfl | rfl | rfl <;> rw [← htyp] <;> rfl
 have kl:(kn:Int) < 4:=by omega
 clear hkind;have X0:=heap_alloc_new w (.cells #[.int .i64 (kn:Int),.string path,.int .i64 mode,.string target,.int .i64 size] 54);have XZ:=heap_alloc_new (w.alloc (.cells #[.int .i64 (kn:Int),.string path,.int .i64 mode,.string target,.int .i64 size] 54)) (.cells (hcells 0 ⟨#[]⟩ ⟨#[]⟩ ⟨#[]⟩ 0 0) 85);have hVs:(w.alloc (.cells #[.int .i64 (kn:Int),.string path,.int .i64 mode,.string target,.int .i64 size] 54)).heap.size=w.heap.size+1:=by simp
 rw [hVs] at XZ;unfold Ent.val Ent.cells at *;dsimp only at *;clear hk hVs;go_enter Tryz.func41,Tryz.ntmps41
 go_wp2_with fail
 refine (CC.out _).mono ?_;rintro r w1 ⟨x,rfl,hx,hb1⟩;obtain rfl:=hx.2 KO.out;clear hx;have XE:Hid (w1.heap[w.heap.size]?=some (.cells #[.int .i64 (kn:Int),.string path,.int .i64 mode,.string target,.int .i64 size] 54 (0,0))):=hid ((hb1.block _ (by simp;omega)).trans ((below_alloc (Below.refl _ _) _).block _ (blk_lt X0) |>.trans X0));have XR:Hid (w1.heap[w.heap.size+1]?=some (.cells (hcells 0 ⟨#[]⟩ ⟨#[]⟩ ⟨#[]⟩ 0 0) 85 (0,0))):=hid ((hb1.block _ (by simp)).trans XZ);have B1:Hid (Below w.heap.size w w1):=hid (below_step (below_alloc (below_alloc (Below.refl w.heap.size w) _) _) hb1);have HL:w.heap.size+1 < w1.heap.size:=by have:=hb1.size;simp at this;omega
 have a0:=cell_of XE.out 0 _ rfl;have a2:=cell_of XE.out 2 _ rfl;clear hb1 X0 XZ;obtain ⟨nb,hnb⟩:∃ n,w1.heap.size=n:=⟨_,rfl⟩;have NB:=hid hnb;have al:∀ (o:Obj),(w1.alloc o).cell? ⟨w.heap.size,0,none⟩=some (.int .i64 (kn:Int))∧(w1.alloc o).cell? ⟨w.heap.size,2,none⟩=some (.int .i64 mode):=fun o=>⟨pw_cell_below (below_alloc (Below.refl _ _) o) a0,pw_cell_below (below_alloc (Below.refl _ _) o) a2⟩;have al2:∀ (o o2:Obj),((w1.alloc o).alloc o2).cell? ⟨w.heap.size,0,none⟩=some (.int .i64 (kn:Int))∧((w1.alloc o).alloc o2).cell? ⟨w.heap.size,2,none⟩=some (.int .i64 mode):=fun o o2=>⟨pw_cell_below (below_alloc (Below.refl _ _) o2) (al o).1,pw_cell_below (below_alloc (Below.refl _ _) o2) (al o).2⟩;have al0:=fun o=>(al o).1;have al00:=fun o=>(al o).2;have al22:=fun o o2=>(al2 o o2).1;have al222:=fun o o2=>(al2 o o2).2;clear al al2;have sl0:∀ (o:Obj),((w1.alloc (.cells #[.int .u8 53,.int .u8 48,.int .u8 50,.int .u8 49] 5)).alloc o).cell? ⟨nb,kn,none⟩=some (.int .u8 typ):=fun o=>pw_cell_below (below_alloc (Below.refl _ _) o) (cell_of (by rw [← hnb];exact heap_alloc_new w1 _) kn _ TY);have sl1:(w1.alloc (.cells #[.int .u8 53,.int .u8 48,.int .u8 50,.int .u8 49] 5)).cell? ⟨nb,kn,none⟩=some (.int .u8 typ):=cell_of (by rw [← hnb];exact heap_alloc_new w1 _) kn _ TY;have sl2:∀ (o:Obj),((w1.alloc o).alloc (.cells #[.int .u8 53,.int .u8 48,.int .u8 50,.int .u8 49] 5)).cell? ⟨nb+1,kn,none⟩=some (.int .u8 typ):=fun o=>cell_of (by have h:=heap_alloc_new (w1.alloc o) (.cells #[.int .u8 53,.int .u8 48,.int .u8 50,.int .u8 49] 5);rwa [show (w1.alloc o).heap.size=nb+1 by simp [hnb]] at h) kn _ TY
 go_wp2_with fail
 apply join2 (S:=fun _ n W=>Pq w W ⟨(kn:Int),path,mode,target,size⟩ n ⟨typ,⟨#[]⟩,⟨#[]⟩,⟨#[]⟩,mode,0⟩)
 ·
  have TA:=hid (fun (o o2:Obj)=>(show ((w1.alloc o).alloc o2).heap[nb]?=some o∧((w1.alloc o).alloc o2).heap[nb+1]?=some o2∧Below w1.heap.size w1 ((w1.alloc o).alloc o2) from by rw [← hnb];exact two_allocs w1 o o2))
  go_region
  ·obtain ⟨m,hm⟩:∃ m,nb+1=m:=⟨_,rfl⟩;rw [hm];obtain ⟨q,hq⟩:∃ q,nb=q:=⟨_,rfl⟩;rw [hq];refine ⟨q,m,rfl,?_⟩;subst hq;obtain ⟨t1,t2,t3⟩:=TA.out (.cells #[.int .u8 53,.int .u8 48,.int .u8 50,.int .u8 49] 5) (.cells (hcells typ ⟨#[]⟩ ⟨#[]⟩ ⟨#[]⟩ mode 0) 85);rw [hm] at t2;have hB:=pw_below_drewN (below_step B1.out t3) 1;exact ⟨hB,(t3.block _ (blk_lt XE.out)).trans XE.out,(t3.block _ (blk_lt XR.out)).trans XR.out,t2,by omega⟩
  ·obtain ⟨m,hm⟩:∃ m,nb+1=m:=⟨_,rfl⟩;rw [hm];obtain ⟨q,hq⟩:∃ q,nb=q:=⟨_,rfl⟩;rw [hq];refine ⟨m,q,rfl,?_⟩;subst hq;obtain ⟨t1,t2,t3⟩:=TA.out (.cells (hcells typ ⟨#[]⟩ ⟨#[]⟩ ⟨#[]⟩ mode 0) 85) (.cells #[.int .u8 53,.int .u8 48,.int .u8 50,.int .u8 49] 5);have hB:=pw_below_drewN (below_step B1.out t3) 1;exact ⟨hB,(t3.block _ (blk_lt XE.out)).trans XE.out,(t3.block _ (blk_lt XR.out)).trans XR.out,t1,by omega⟩
 intro xs hb w2 hP;have P2:=hid hP;have HT:=hid htyp;clear hP al0 al00 al22 al222 sl0 sl1 sl2 a0 a2 TY kl htyp hkn hnb HL;have hlt:=blk_lt P2.out.hdr;have hLT:=hid (And.intro P2.out.lt hlt);have hne1:¬ w.heap.size=hb:=by have:=P2.out.lt;omega
 have hne2:¬ hb=w.heap.size:=by have:=P2.out.lt;omega
 have hne3:¬ w.heap.size+1=hb:=by have:=P2.out.lt;omega
 have hne4:¬ hb=w.heap.size+1:=by have:=P2.out.lt;omega
 obtain ⟨pre,name,ok,hsp⟩:∃ pre name ok,splitP path=(pre,name,ok):=⟨_,_,_,rfl⟩;have HSP:=hid hsp;rw [hsp] at SP;dsimp only at SP;have HS:=hid hs;have EH:Hid (∀ lk,(lk=if target.size≤100 then target else ⟨#[]⟩)→planH ⟨(kn:Int),path,mode,target,size⟩=⟨typ,name,pre,lk,mode,size⟩):=hid fun lk h=>by rw [plan_h HSP.out h HS.out,HT.out]
 have ER:Hid (planR ⟨(kn:Int),path,mode,target,size⟩=(if target.size≤100 then [] else [⟨sLink,target⟩])++(if ok=true then [] else [⟨sPath,path⟩])):=hid (by unfold planR;dsimp only;rw [HSP.out,if_pos HS.out];simp);clear hsp hlt;obtain ⟨c1,c3,c4⟩:=P2.out.cells;obtain ⟨f0,f1,f2,f3,f4,f5⟩:=P2.out.free;obtain ⟨h0,h1,h2,h3,h4,h5⟩:=P2.out.hcells;have hs1:size≤8589934591:=hs;by_cases hl:target.size≤100
 ·
  have hlz:(target.size:Int)≤100:=by omega
  have P3:=hid (P2.out.set 3 (.string target) ⟨typ,⟨#[]⟩,⟨#[]⟩,target,mode,0⟩ rfl);have EH2:=hid (EH.out target (by rw [if_pos hl]));have ER2:=hid ER.out;rw [if_pos hl,List.nil_append] at ER2;clear hl
  go_wp2_with fail
  refine (SP.out _).mono ?_;rintro r w4 ⟨rfl,hb4⟩;have P4:=hid (P3.out.step hb4);have HR:Hid (RecRow w4 w2.heap.size (.slice none 0 0) []):=hid (Kd.R_nil _ _ _ _ _);have HZ:Hid (w2.heap.size≤w4.heap.size):=hid (by have:=hb4.size;simp at this;omega);clear hb4 c1 c3 c4 f0 f1 f2 f3 f4 f5 h0 h1 h2 h3 h4 h5;obtain ⟨c1,c3,c4⟩:=P4.out.cells;obtain ⟨f0,f1,f2,f3,f4,f5⟩:=P4.out.free;obtain ⟨h0,h1,h2,h3,h4,h5⟩:=P4.out.hcells;obtain ⟨y0,y1,y2,y3,y4,y5⟩:=P4.out.rcells;obtain ⟨z0,z1,z2,z3,z4,z5⟩:=P4.out.rfree;cases ok with
  | true =>
   have P7:=hid (((P4.out.set 2 (.string pre) ⟨typ,⟨#[]⟩,pre,target,mode,0⟩ rfl).set 1 (.string name) ⟨typ,name,pre,target,mode,0⟩ rfl).set 5 (.int .i64 size) ⟨typ,name,pre,target,mode,size⟩ rfl);have E2:Hid (planR ⟨(kn:Int),path,mode,target,size⟩=[]):=hid (by rw [ER2.out,if_pos rfl])
   go_wp2_with fail
   rw [EH2.out,E2.out];refine bodyPost_ret (v:=.tuple #[(⟨typ,name,pre,target,mode,size⟩:Hdr).val,(.slice none 0 0),.int .i64 0]) (by simp [results,Tryz.results41,go_sem,Hdr.val,Hdr.cells,y0,y1,y2,y3,y4,y5,z0,z1,z2,z3,z4,z5]) rfl ⟨(.slice none 0 0),rfl,?_,?_⟩
   ·
    refine (RecRow.upto HR.out fun k hk _=>?_).lower (by have:=hLT.out;omega);have hq1:k≠w.heap.size+1:=by have:=hLT.out;omega
    have hq2:k≠hb:=by have:=hLT.out;omega
    repeat rw [Below.heap_setCell _ _ _ _ (by first | exact hq1 | exact hq2)]
   ·
    iterate 6 (refine Below.setCell ?_ (by show w.heap.size≤w.heap.size+1;omega) _)
    exact P7.out.bel
  | false =>
   have E2:Hid (planR ⟨(kn:Int),path,mode,target,size⟩=[]++[⟨sPath,path⟩]):=hid (by rw [ER2.out,if_neg (by decide)];rfl);have SN:Hid (name=⟨#[]⟩∧pre=⟨#[]⟩):=hid (split_empty HSP.out);obtain ⟨rfl,rfl⟩:=SN.out
   go_wp2_with (at_builtin;refine Kd.R_append recKd (w0:=w4) w2.heap.size rfl (.tmp 50) (.tmp 54) 86 125 (.agg #[.string ⟨#[]⟩,.string ⟨#[]⟩]) 32 rfl Tryz.underlying86 info125 rfl (by decide) (by decide) (.slice none 0 0) [] ⟨sPath,path⟩ [.string sPath,.string path] (fun _=>True) (fun _=>False) rfl rfl ⟨[.string sPath],[.string path],rfl,rfl,rfl⟩ (fun _ h=>h.elim) (fun _ _=>trivial) HR.out (Below.refl _ _) HZ.out (by decide) ?_;intro v2 w5 hr5 hb5 _ _;replace hr5:=hid hr5;replace hb5:=hid hb5;have P5:=hid (P4.out.keepB hLT.out.2 (by have:=hLT.out;omega) hb5.out);replace c4:=P5.out.cells.2.2;obtain ⟨f0,f1,f2,f3,f4,f5⟩:=P5.out.free;obtain ⟨h0,h1,h2,h3,h4,h5⟩:=P5.out.hcells;obtain ⟨y0,y1,y2,y3,y4,y5⟩:=P5.out.rcells;obtain ⟨z0,z1,z2,z3,z4,z5⟩:=P5.out.rfree)
   have P7:=hid (P5.out.set 5 (.int .i64 size) ⟨typ,⟨#[]⟩,⟨#[]⟩,target,mode,size⟩ rfl);rw [EH2.out,E2.out];refine bodyPost_ret (v:=.tuple #[(⟨typ,⟨#[]⟩,⟨#[]⟩,target,mode,size⟩:Hdr).val,v2,.int .i64 0]) (by simp [results,Tryz.results41,go_sem,Hdr.val,Hdr.cells,y0,y1,y2,y3,y4,y5,z0,z1,z2,z3,z4,z5]) rfl ⟨v2,rfl,?_,?_⟩
   ·
    refine (RecRow.upto hr5.out fun k hk _=>?_).lower (by have:=hLT.out;omega);have hq1:k≠w.heap.size+1:=by have:=hLT.out;omega
    have hq2:k≠hb:=by have:=hLT.out;omega
    repeat rw [Below.heap_setCell _ _ _ _ (by first | exact hq1 | exact hq2)]
   ·
    iterate 6 (refine Below.setCell ?_ (by show w.heap.size≤w.heap.size+1;omega) _)
    exact P7.out.bel
 ·
  have hlz:¬ (target.size:Int)≤100:=by omega
  have EH2:=hid (EH.out ⟨#[]⟩ (by rw [if_neg hl]));have ER2:=hid ER.out;rw [if_neg hl] at ER2;clear hl;have HR0:Hid (RecRow w2 w2.heap.size (.slice none 0 0) []):=hid (Kd.R_nil _ _ _ _ _)
  go_wp2_with (at_builtin;refine Kd.R_append recKd (w0:=w2) w2.heap.size rfl (.tmp 32) (.tmp 36) 86 125 (.agg #[.string ⟨#[]⟩,.string ⟨#[]⟩]) 32 rfl Tryz.underlying86 info125 rfl (by decide) (by decide) (.slice none 0 0) [] ⟨sLink,target⟩ [.string sLink,.string target] (fun _=>True) (fun _=>False) rfl rfl ⟨[.string sLink],[.string target],rfl,rfl,rfl⟩ (fun _ h=>h.elim) (fun _ _=>trivial) HR0.out (Below.refl _ _) (Nat.le_refl _) (by decide) ?_;intro v1 w9 hr9 hb9 _ _;replace hr9:=hid hr9;replace hb9:=hid hb9;have P9:=hid (P2.out.step hb9.out);replace c1:=P9.out.cells.1)
  refine (SP.out _).mono ?_;rintro r w4 ⟨rfl,hb4⟩;have P4:=hid (P9.out.step hb4);have HR:Hid (RecRow w4 w2.heap.size v1 [⟨sLink,target⟩]):=hid (Kd.R_below hr9.out hb4);have HZ:Hid (w2.heap.size≤w4.heap.size):=hid (by have:=hb4.size;have:=hb9.out.size;omega);clear hb4 c1 c3 c4 f0 f1 f2 f3 f4 f5 h0 h1 h2 h3 h4 h5;obtain ⟨c1,c3,c4⟩:=P4.out.cells;obtain ⟨f0,f1,f2,f3,f4,f5⟩:=P4.out.free;obtain ⟨h0,h1,h2,h3,h4,h5⟩:=P4.out.hcells;obtain ⟨y0,y1,y2,y3,y4,y5⟩:=P4.out.rcells;obtain ⟨z0,z1,z2,z3,z4,z5⟩:=P4.out.rfree;cases ok with
  | true =>
   have P7:=hid (((P4.out.set 2 (.string pre) ⟨typ,⟨#[]⟩,pre,⟨#[]⟩,mode,0⟩ rfl).set 1 (.string name) ⟨typ,name,pre,⟨#[]⟩,mode,0⟩ rfl).set 5 (.int .i64 size) ⟨typ,name,pre,⟨#[]⟩,mode,size⟩ rfl);have E2:Hid (planR ⟨(kn:Int),path,mode,target,size⟩=[⟨sLink,target⟩]):=hid (by rw [ER2.out,if_pos rfl];rfl)
   go_wp2_with fail
   rw [EH2.out,E2.out];refine bodyPost_ret (v:=.tuple #[(⟨typ,name,pre,⟨#[]⟩,mode,size⟩:Hdr).val,v1,.int .i64 0]) (by simp [results,Tryz.results41,go_sem,Hdr.val,Hdr.cells,y0,y1,y2,y3,y4,y5,z0,z1,z2,z3,z4,z5]) rfl ⟨v1,rfl,?_,?_⟩
   ·
    refine (RecRow.upto HR.out fun k hk _=>?_).lower (by have:=hLT.out;omega);have hq1:k≠w.heap.size+1:=by have:=hLT.out;omega
    have hq2:k≠hb:=by have:=hLT.out;omega
    repeat rw [Below.heap_setCell _ _ _ _ (by first | exact hq1 | exact hq2)]
   ·
    iterate 6 (refine Below.setCell ?_ (by show w.heap.size≤w.heap.size+1;omega) _)
    exact P7.out.bel
  | false =>
   have E2:Hid (planR ⟨(kn:Int),path,mode,target,size⟩=[⟨sLink,target⟩]++[⟨sPath,path⟩]):=hid (by rw [ER2.out,if_neg (by decide)]);have SN:Hid (name=⟨#[]⟩∧pre=⟨#[]⟩):=hid (split_empty HSP.out);obtain ⟨rfl,rfl⟩:=SN.out
   go_wp2_with (at_builtin;refine Kd.R_append recKd (w0:=w4) w2.heap.size rfl (.tmp 50) (.tmp 54) 86 125 (.agg #[.string ⟨#[]⟩,.string ⟨#[]⟩]) 32 rfl Tryz.underlying86 info125 rfl (by decide) (by decide) v1 [⟨sLink,target⟩] ⟨sPath,path⟩ [.string sPath,.string path] (fun _=>True) (fun _=>False) rfl rfl ⟨[.string sPath],[.string path],rfl,rfl,rfl⟩ (fun _ h=>h.elim) (fun _ _=>trivial) HR.out (Below.refl _ _) HZ.out (by simp) ?_;intro v2 w5 hr5 hb5 _ _;replace hr5:=hid hr5;replace hb5:=hid hb5;have P5:=hid (P4.out.keepB hLT.out.2 (by have:=hLT.out;omega) hb5.out);replace c4:=P5.out.cells.2.2;obtain ⟨f0,f1,f2,f3,f4,f5⟩:=P5.out.free;obtain ⟨h0,h1,h2,h3,h4,h5⟩:=P5.out.hcells;obtain ⟨y0,y1,y2,y3,y4,y5⟩:=P5.out.rcells;obtain ⟨z0,z1,z2,z3,z4,z5⟩:=P5.out.rfree)
   have P7:=hid (P5.out.set 5 (.int .i64 size) ⟨typ,⟨#[]⟩,⟨#[]⟩,⟨#[]⟩,mode,size⟩ rfl);rw [EH2.out,E2.out];refine bodyPost_ret (v:=.tuple #[(⟨typ,⟨#[]⟩,⟨#[]⟩,⟨#[]⟩,mode,size⟩:Hdr).val,v2,.int .i64 0]) (by simp [results,Tryz.results41,go_sem,Hdr.val,Hdr.cells,y0,y1,y2,y3,y4,y5,z0,z1,z2,z3,z4,z5]) rfl ⟨v2,rfl,?_,?_⟩
   ·
    refine (RecRow.upto hr5.out fun k hk _=>?_).lower (by have:=hLT.out;omega);have hq1:k≠w.heap.size+1:=by have:=hLT.out;omega
    have hq2:k≠hb:=by have:=hLT.out;omega
    repeat rw [Below.heap_setCell _ _ _ _ (by first | exact hq1 | exact hq2)]
   ·
    iterate 6 (refine Below.setCell ?_ (by show w.heap.size≤w.heap.size+1;omega) _)
    exact P7.out.bel
end ZRk
end Go.Proofs.YteikiojmcipkmaaGreatDoor
