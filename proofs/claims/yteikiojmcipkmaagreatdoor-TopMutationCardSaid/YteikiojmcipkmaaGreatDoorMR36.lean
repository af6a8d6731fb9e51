/- Parts of the proof, gathered by a program: what calls of the functions answer, and what follows in plain lists. Conditions: those that each theorem states. -/
import Derived.Test.YteikiojmcipkmaaGreatDoorMR33
import Derived.Test.YteikiojmcipkmaaGreatDoorMR26
import Derived.Test.YteikiojmcipkmaaGreatDoorMR21
set_option linter.unusedVariables false
set_option linter.unusedSimpArgs false
namespace Go.Proofs.YteikiojmcipkmaaGreatDoor
namespace ZOne
open Oct ZBase ZCheck ZRec ZFmt ZFit ZPlan ZHead ZHdr ZSumPlain ZPlanOk
open ZEntry (blkB blkB_len extH extH_ok sPax blocks encE padN padN_eq)
open ZMergeA (typ_inj)
theorem tot_set (l:List Int) (i:Nat) (x:Int) (h:i < l.length):tot (l.set i x)=tot l - l.getD i 0+x:=by
 induction l generalizing i with
 | nil=>simp at h
 | cons y l ih =>
  cases i with
  | zero=>simp [tot];omega
  | succ i =>have:=ih i (by simpa using h);simp only [List.set_cons_succ,tot,this,List.getD_cons_succ];omega
theorem getD_take2 (l:List Int) (i n:Nat) (h:i < n):(l.take n).getD i 0=l.getD i 0:=by simp [List.getD_eq_getElem?_getD,h]
theorem getD_drop (l:List Int) (i n:Nat):(l.drop n).getD i 0=l.getD (n+i) 0:=by simp [List.getD_eq_getElem?_getD]
theorem sum_set (l:List Int) (hl:l.length=512) (i:Nat) (x:Int) (hi:i < 512) (ho:i < 148∨156≤i):sumL (l.set i x)=sumL l - l.getD i 0+x:=by
 rw [sum_eq,sum_eq];rcases ho with h | h
 ·rw [List.take_set,List.drop_set,if_pos (by omega),tot_set _ i x (by simp [hl];omega),getD_take2 l i 148 h];omega
 ·rw [List.take_set,List.set_eq_of_length_le (by simp;omega),List.drop_set,if_neg (by omega),tot_set _ (i - 156) x (by simp [hl];omega),getD_drop l (i - 156) 156,show 156+(i - 156)=i by omega];omega
theorem sum_set_in (l:List Int) (i:Nat) (x:Int) (h0:148≤i) (h1:i < 156):sumL (l.set i x)=sumL l:=by rw [sum_eq,sum_eq,List.take_set,List.set_eq_of_length_le (by simp;omega),List.drop_set,if_pos (by omega)]
theorem seal_getD (l:List Int) (hl:l.length=512) (i:Nat) (h:i < 8):(sealL l).getD (148+i) 0=(field l).getD i 0:=by
 unfold sealL;have e:(l.take 148).length=148:=by simp [hl]
 simp [List.getD_eq_getElem?_getD,List.getElem?_append_right,e,List.getElem?_append_left,field_len,h]
theorem field_inj (a b:List Int) (ha:0≤sumL a∧sumL a < 8 ^ 6) (hb:0≤sumL b∧sumL b < 8 ^ 6) (h:field a=field b):sumL a=sumL b:=by unfold field fld at h;have h1:=List.append_inj_left' h rfl;have h2:=List.append_inj_left' h1 rfl;have p:=prs_digs 6 (sumL a) ha.1 ha.2;rw [h2,prs_digs 6 (sumL b) hb.1 hb.2] at p;simpa using p.symm
theorem changed (l:List Int) (hl:l.length=512) (hb:Bytes l) (i:Nat) (hi:i < 512) (x:Int) (hx0:0≤x) (hx1:x < 256) (hne:x≠(sealL l).getD i 0):vfy ((sealL l).set i x)=9:=by
 unfold vfy;rw [if_neg];intro h;have hsl:=seal_len l hl;have hcl:((sealL l).set i x).length=512:=by rw [List.length_set];exact hsl
 have hsb:=seal_bytes l hb;have hcb:Bytes ((sealL l).set i x):=fun y hy=>by
  rcases List.mem_or_eq_of_mem_set hy with h | h
  ·exact hsb y h
  ·omega
 by_cases hin:148≤i∧i < 156
 ·
  have e1:sumL ((sealL l).set i x)=sumL l:=by rw [sum_set_in _ i x hin.1 hin.2,sum_seal l hl]
  have e2:field ((sealL l).set i x)=field l:=by unfold field;rw [e1]
  have g:=seal_getD ((sealL l).set i x) hcl (i - 148) (by omega);have g2:=seal_getD l hl (i - 148) (by omega);rw [h,show 148+(i - 148)=i by omega,e2] at g;rw [show 148+(i - 148)=i by omega] at g2;rw [← g2] at g;have:((sealL l).set i x).getD i 0=x:=by simp [List.getD_eq_getElem?_getD,hsl,hi]
  omega
 ·
  have e1:=sum_set (sealL l) hsl i x hi (by omega);have hne2:sumL ((sealL l).set i x)≠sumL l:=by rw [e1,sum_seal l hl];omega
  apply hne2;refine field_inj _ _ (sum_small _ hcl hcb) (sum_small _ hl hb) ?_;apply List.ext_getElem
  ·rw [field_len,field_len]
  ·
   intro j h1 h2;rw [field_len] at h1;have g:=seal_getD ((sealL l).set i x) hcl j h1;have g2:=seal_getD l hl j h1;rw [h] at g;have g3:((sealL l).set i x).getD (148+j) 0=(sealL l).getD (148+j) 0:=by
    have hji:i≠148+j:=by omega
    simp [List.getD_eq_getElem?_getD,List.getElem?_set_ne hji]
   rw [g3,g2] at g;rw [List.getD_eq_getElem?_getD,List.getD_eq_getElem?_getD,List.getElem?_eq_getElem h2,List.getElem?_eq_getElem (by rw [field_len];exact h1)] at g;simpa using g.symm
theorem blk_one {h k:Hdr} (hh:h.Ok) (hk:k.Ok) (i:Nat) (v:Int) (hv:0≤v∧v < 256) (e:blkB h=(blkB k).set i v):h=k:=by
 refine blkB_inj hh hk ?_;have hl:=blkB_len hk;rcases Nat.lt_or_ge i 512 with hi | hi
 ·
  by_cases hne:v=(blkB k).getD i 0
  ·
   rw [e,hne];apply List.ext_getElem?;intro j;by_cases hj:i=j
   ·subst hj;rw [List.getElem?_set_self (by omega),List.getD_eq_getElem?_getD,List.getElem?_eq_getElem (by omega)];rfl
   ·rw [List.getElem?_set_ne hj]
  ·have h1:=changed (raw k) (raw_len hk) (raw_bytes hk) i hi v hv.1 hv.2 hne;have h2:=vfy_seal (raw h) (raw_len hh);have e2:sealL (raw h)=(sealL (raw k)).set i v:=e;rw [e2,h1] at h2;cases h2
 ·rw [e,List.set_eq_of_length_le (by omega)]
theorem set_drop (l:List Int) (i n:Nat) (v:Int):∃ i',(l.set i v).drop n=(l.drop n).set i' v:=by
 rw [List.drop_set];split
 ·refine ⟨(l.drop n).length,?_⟩;rw [List.set_eq_of_length_le (Nat.le_refl _)]
 ·exact ⟨_,rfl⟩
theorem enc_plain {e:Ent} (h:planR e=[]):encE e=blkB (planH e):=by unfold encE;rw [if_pos h]
theorem enc_ext {e:Ent} (h:planR e≠[]):encE e=blkB (extH (fmtB (planR e)).length)++(fmtB (planR e)++(List.replicate (padN (fmtB (planR e)).length) 0++blkB (planH e))):=by unfold encE;rw [if_neg h]
theorem fmt_small {e:Ent} (he:e.Ok) (hs:e.size≤8589934591):(fmtB (planR e)).length≤131108:=by obtain ⟨h1,h2⟩:=planR_ok he hs;have h3:=fmtB_le (planR e) (fun r hr=>h1.rest hr);omega
theorem typ_of (e:Ent):(planH e).typ≠120:=by
 show typOf e.kind≠120;unfold typOf
 repeat' split
 all_goals decide
theorem enc_one {e e':Ent} (he:e.Ok) (hs:e.size≤8589934591) (he':e'.Ok) (hs':e'.size≤8589934591) (k:Nat) (v:Int) (hv:0≤v∧v < 256) (rest rest':List Int) (h:(encE e).set k v++rest=encE e'++rest'): planH e'=planH e∧(encE e').length=(encE e).length:=by
 have hk:=planH_ok he hs;have hk':=planH_ok he' hs';have hl:=blkB_len hk;have hl':=blkB_len hk';have t1:=congrArg (List.take 512) h;by_cases hp:planR e=[]
 ·
  have e1:=enc_plain hp;by_cases hp':planR e'=[]
  ·have e2:=enc_plain hp';rw [e1,e2] at t1 ⊢;rw [List.take_append_of_le_length (by rw [List.length_set];omega),List.take_append_of_le_length (by omega),List.take_of_length_le (by rw [List.length_set];omega),List.take_of_length_le (by omega)] at t1;have h3:=blk_one hk' hk k v hv t1.symm;exact ⟨h3,by rw [hl,hl']⟩
  ·exfalso;have e2:=enc_ext hp';have hx:=extH_ok ((fmtB (planR e')).length:Int) (by omega) (by have:=fmt_small he' hs';omega);have hxl:=blkB_len hx;rw [e1,e2] at t1;rw [List.take_append_of_le_length (by rw [List.length_set];omega),List.take_append_of_le_length (by simp only [List.length_append];omega),List.take_append_of_le_length (by omega),List.take_of_length_le (by rw [List.length_set];omega),List.take_of_length_le (by omega)] at t1;have h3:=blk_one hx hk k v hv t1.symm;have h4:=congrArg Hdr.typ h3;exact typ_of e h4.symm
 ·
  have e1:=enc_ext hp;have hx:=extH_ok ((fmtB (planR e)).length:Int) (by omega) (by have:=fmt_small he hs;omega);have hxl:=blkB_len hx;by_cases hp':planR e'=[]
  ·exfalso;have e2:=enc_plain hp';rw [e1,e2] at t1;rw [List.take_append_of_le_length (by rw [List.length_set];simp only [List.length_append];omega),List.take_append_of_le_length (by omega),List.take_set,List.take_append_of_le_length (by omega),List.take_of_length_le (by omega),List.take_of_length_le (by omega)] at t1;have h3:=blk_one hk' hx k v hv t1.symm;have h4:=congrArg Hdr.typ h3;exact typ_of e' h4
  ·
   have e2:=enc_ext hp';have hx':=extH_ok ((fmtB (planR e')).length:Int) (by omega) (by have:=fmt_small he' hs';omega);have hxl':=blkB_len hx';have t1':=t1;rw [e1,e2] at t1;rw [List.take_append_of_le_length (by rw [List.length_set];simp only [List.length_append];omega),List.take_append_of_le_length (by simp only [List.length_append];omega),List.take_set,List.take_append_of_le_length (by omega),List.take_of_length_le (by omega),List.take_append_of_le_length (by omega),List.take_of_length_le (by omega)] at t1;have h3:=blk_one hx' hx k v hv t1.symm;have h4:((fmtB (planR e')).length:Int)=(fmtB (planR e)).length:=congrArg Hdr.size h3;have h5:(fmtB (planR e')).length=(fmtB (planR e)).length:=by omega
   obtain ⟨n,hn⟩:∃ n,(fmtB (planR e)).length=n:=⟨_,rfl⟩;have hn':(fmtB (planR e')).length=n:=h5.trans hn;rw [hn] at e1 hxl;rw [hn'] at e2;have q:∀ (e:Ent) (f:List Int) (x:Hdr),f.length=n→(blkB (extH (n:Int))++(f++(List.replicate (padN n) 0++blkB x)))=(blkB (extH (n:Int))++(f++List.replicate (padN n) 0))++blkB x∧(blkB (extH (n:Int))++(f++List.replicate (padN n) 0)).length=512+(n+padN n):=fun e f x hf=>by refine ⟨by simp,?_⟩;simp only [List.length_append,List.length_replicate,hf];omega
   obtain ⟨q1,q2⟩:=q e _ (planH e) hn;obtain ⟨q3,q4⟩:=q e' _ (planH e') hn';rw [q1] at e1;rw [q3] at e2;have le1:(encE e).length=512+(n+padN n)+512:=by rw [e1,List.length_append,q2,hl]
   have le2:(encE e').length=512+(n+padN n)+512:=by rw [e2,List.length_append,q4,hl']
   refine ⟨?_,by rw [le1,le2]⟩;have t2:=congrArg (fun l=>(List.drop (512+(n+padN n)) l).take 512) h;rw [List.drop_append_of_le_length (by rw [List.length_set];omega),List.drop_append_of_le_length (by omega)] at t2;have d2:(encE e').drop (512+(n+padN n))=blkB (planH e'):=by rw [e2,List.drop_left' q4]
   have d1:(encE e).drop (512+(n+padN n))=blkB (planH e):=by rw [e1,List.drop_left' q2]
   obtain ⟨i',hi'⟩:=set_drop (encE e) k (512+(n+padN n)) v;rw [hi',d1,d2,List.take_append_of_le_length (by rw [List.length_set];omega),List.take_append_of_le_length (by omega),List.take_of_length_le (by rw [List.length_set];omega),List.take_of_length_le (by omega)] at t2;exact blk_one hk' hk i' v hv t2.symm
theorem plan_same {e e':Ent} (he:e.Ok) (hs:e.size≤8589934591) (he':e'.Ok) (hs':e'.size≤8589934591) (h:planH e'=planH e):e'.kind=e.kind∧e'.mode=e.mode∧e'.size=e.size:=by have h1:typOf e'.kind=typOf e.kind:=congrArg Hdr.typ h;have h2:e'.mode=e.mode:=congrArg Hdr.mode h;have h3:(if e'.size≤8589934591 then e'.size else 0)=(if e.size≤8589934591 then e.size else 0):=congrArg Hdr.size h;rw [if_pos hs,if_pos hs'] at h3;exact ⟨(typ_inj e.kind e'.kind he.kind he'.kind h1).symm,h2,h3⟩
end ZOne
end Go.Proofs.YteikiojmcipkmaaGreatDoor
