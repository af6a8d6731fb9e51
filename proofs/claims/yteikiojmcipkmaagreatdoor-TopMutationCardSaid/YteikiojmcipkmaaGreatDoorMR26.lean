/- Parts of the proof, gathered by a program: what calls of the functions answer, and what follows in plain lists. Conditions: those that each theorem states. -/
import Derived.Test.YteikiojmcipkmaaGreatDoorMR22
import Derived.Test.YteikiojmcipkmaaGreatDoorMR25
set_option linter.unusedVariables false
set_option linter.unusedSimpArgs false
namespace Go.Proofs.YteikiojmcipkmaaGreatDoor
section
namespace ZHdr
open Go.RowKit YteikiojmcipkmaaGreatDoorW.PrintWords YteikiojmcipkmaaGreatDoorW.PrintLast YteikiojmcipkmaaGreatDoorW.PrintMore Oct ZBase ZGlob ZCstr ZCPar ZCAny ZCheck ZHead
open ZSumPlain (Bytes sealL seal_take seal_drop)
open ZEntry (blkB blkB_len)
def sl (l:List Int) (o n:Nat):List Int:=(l.drop o).take n
theorem sl_len (l:List Int) (o n:Nat) (h:o+n≤l.length):(sl l o n).length=n:=by unfold sl;rw [List.length_take,List.length_drop];omega
theorem sl_get (l:List Int) (o n i:Nat):(sl l o n)[i]?=if i < n then l[o+i]? else none:=by
 unfold sl;rw [List.getElem?_take];split
 ·rw [List.getElem?_drop]
 ·rfl
theorem put_get (L:List Int) (o:Nat) (x:List Int) (h:o+x.length≤L.length) (i:Nat):(put L o x)[i]?=if i < o then L[i]? else if i < o+x.length then x[i - o]? else L[i]?:=by
 unfold put;have h1:(L.take o).length=o:=by rw [List.length_take];omega
 by_cases a:i < o
 ·rw [if_pos a,List.getElem?_append_left (by omega),List.getElem?_take,if_pos a]
 ·
  rw [if_neg a,List.getElem?_append_right (by omega),h1];by_cases b:i < o+x.length
  ·rw [if_pos b,List.getElem?_append_left (by omega)]
  ·rw [if_neg b,List.getElem?_append_right (by omega),List.getElem?_drop];congr 1;omega
theorem sl_other (L:List Int) (o:Nat) (x:List Int) (p n:Nat) (h:o+x.length≤L.length) (hd:p+n≤o∨o+x.length≤p):sl (put L o x) p n=sl L p n:=by
 apply List.ext_getElem?;intro i;rw [sl_get,sl_get];split
 ·
  rw [put_get _ _ _ h];split
  ·rfl
  ·rw [if_neg (by omega)]
 ·rfl
theorem sl_same (L:List Int) (o:Nat) (x:List Int) (n:Nat) (h:o+x.length≤L.length) (hn:x.length≤n):sl (put L o x) o n=x++sl L (o+x.length) (n - x.length):=by
 apply List.ext_getElem?;intro i;rw [sl_get];by_cases a:i < x.length
 ·rw [if_pos (by omega),put_get _ _ _ h,if_neg (by omega),if_pos (by omega),List.getElem?_append_left a];congr 1;omega
 ·
  rw [List.getElem?_append_right (by omega),sl_get];by_cases b:i < n
  ·rw [if_pos b,if_pos (by omega),put_get _ _ _ h,if_neg (by omega),if_neg (by omega)];congr 1;omega
  ·rw [if_neg b,if_neg (by omega)]
theorem sl_zeros (o n:Nat) (h:o+n≤512):sl ZSealed.zeros o n=List.replicate n 0:=by
 apply List.ext_getElem?;intro i;rw [sl_get,List.getElem?_replicate];split
 ·show (List.replicate 512 (0:Int))[o+i]?=some 0;rw [List.getElem?_replicate,if_pos (by omega)]
 ·rfl
theorem sl_seal (l:List Int) (hl:l.length=512) (o n:Nat) (h:o+n≤148∨156≤o):sl (sealL l) o n=sl l o n:=by
 apply List.ext_getElem?;intro i;rw [sl_get,sl_get];split
 ·
  rename_i hi;rcases h with h | h
  ·have:=congrArg (fun m=>m[o+i]?) (seal_take l hl);simp only [List.getElem?_take] at this;rw [if_pos (by omega),if_pos (by omega)] at this;exact this
  ·have:=congrArg (fun m=>m[o+i - 156]?) (seal_drop l hl);simp only [List.getElem?_drop] at this;rw [show 156+(o+i - 156)=o+i by omega] at this;exact this
 ·rfl
section
variable {h:Hdr} (hk:h.Ok)
include hk
theorem blk_name:sl (blkB h) 0 100=padded h.name (100 - h.name.size):=by have e1:=hk.name.2;have e2:=hk.link.2;have e3:=hk.pre.2;unfold blkB;rw [sl_seal _ (raw_len hk) _ _ (by omega)];unfold raw;rw [sl_other _ _ _ _ _ (by rw [l11 hk,fld_len];decide) (by omega)];unfold r11;rw [sl_other _ _ _ _ _ (by rw [l10 hk,fld_len];decide) (by omega)];unfold r10;rw [sl_other _ _ _ _ _ (by rw [l9 hk,fld_len];decide) (by omega)];unfold r9;rw [sl_other _ _ _ _ _ (by rw [l8 hk,fld_len];decide) (by omega)];unfold r8;rw [sl_other _ _ _ _ _ (by rw [l7 hk,fld_len];decide) (by omega)];unfold r7;rw [sl_other _ _ _ _ _ (by rw [l6 hk,fld_len];decide) (by omega)];unfold r6;rw [sl_other _ _ _ _ _ (by rw [l5 hk,fld_len];decide) (by omega)];unfold r5;rw [sl_other _ _ _ _ _ (by rw [l4 hk];simp) (by omega)];unfold r4;rw [sl_other _ _ _ _ _ (by rw [l3 hk,bytesOf_length];decide) (by omega)];unfold r3;rw [sl_other _ _ _ _ _ (by rw [l2 hk,bytesOf_length];omega) (by omega)];unfold r2;rw [sl_other _ _ _ _ _ (by rw [l1 hk,bytesOf_length];omega) (by omega)];unfold r1;rw [sl_same _ _ _ _ (by rw [zeros512,bytesOf_length];omega) (by rw [bytesOf_length];omega),bytesOf_length,sl_zeros _ _ (by omega)];rfl
theorem blk_link:sl (blkB h) 157 100=padded h.link (100 - h.link.size):=by have e1:=hk.name.2;have e2:=hk.link.2;have e3:=hk.pre.2;unfold blkB;rw [sl_seal _ (raw_len hk) _ _ (by omega)];unfold raw;rw [sl_other _ _ _ _ _ (by rw [l11 hk,fld_len];decide) (by omega)];unfold r11;rw [sl_other _ _ _ _ _ (by rw [l10 hk,fld_len];decide) (by omega)];unfold r10;rw [sl_other _ _ _ _ _ (by rw [l9 hk,fld_len];decide) (by rw [fld_len];omega)];unfold r9;rw [sl_other _ _ _ _ _ (by rw [l8 hk,fld_len];decide) (by rw [fld_len];omega)];unfold r8;rw [sl_other _ _ _ _ _ (by rw [l7 hk,fld_len];decide) (by rw [fld_len];omega)];unfold r7;rw [sl_other _ _ _ _ _ (by rw [l6 hk,fld_len];decide) (by rw [fld_len];omega)];unfold r6;rw [sl_other _ _ _ _ _ (by rw [l5 hk,fld_len];decide) (by rw [fld_len];omega)];unfold r5;rw [sl_other _ _ _ _ _ (by rw [l4 hk];simp) (by simp)];unfold r4;rw [sl_other _ _ _ _ _ (by rw [l3 hk,bytesOf_length];decide) (by omega)];unfold r3;rw [sl_other _ _ _ _ _ (by rw [l2 hk,bytesOf_length];omega) (by omega)];unfold r2;rw [sl_same _ _ _ _ (by rw [l1 hk,bytesOf_length];omega) (by rw [bytesOf_length];omega),bytesOf_length];unfold r1;rw [sl_other _ _ _ _ _ (by rw [zeros512,bytesOf_length];omega) (by rw [bytesOf_length];omega),sl_zeros _ _ (by omega)];rfl
theorem blk_pre:sl (blkB h) 345 155=padded h.pre (155 - h.pre.size):=by have e1:=hk.name.2;have e2:=hk.link.2;have e3:=hk.pre.2;unfold blkB;rw [sl_seal _ (raw_len hk) _ _ (by omega)];unfold raw;rw [sl_other _ _ _ _ _ (by rw [l11 hk,fld_len];decide) (by rw [fld_len];omega)];unfold r11;rw [sl_other _ _ _ _ _ (by rw [l10 hk,fld_len];decide) (by rw [fld_len];omega)];unfold r10;rw [sl_other _ _ _ _ _ (by rw [l9 hk,fld_len];decide) (by rw [fld_len];omega)];unfold r9;rw [sl_other _ _ _ _ _ (by rw [l8 hk,fld_len];decide) (by rw [fld_len];omega)];unfold r8;rw [sl_other _ _ _ _ _ (by rw [l7 hk,fld_len];decide) (by rw [fld_len];omega)];unfold r7;rw [sl_other _ _ _ _ _ (by rw [l6 hk,fld_len];decide) (by rw [fld_len];omega)];unfold r6;rw [sl_other _ _ _ _ _ (by rw [l5 hk,fld_len];decide) (by rw [fld_len];omega)];unfold r5;rw [sl_other _ _ _ _ _ (by rw [l4 hk];simp) (by simp)];unfold r4;rw [sl_other _ _ _ _ _ (by rw [l3 hk,bytesOf_length];decide) (by rw [bytesOf_length];decide)];unfold r3;rw [sl_same _ _ _ _ (by rw [l2 hk,bytesOf_length];omega) (by rw [bytesOf_length];omega),bytesOf_length];unfold r2;rw [sl_other _ _ _ _ _ (by rw [l1 hk,bytesOf_length];omega) (by rw [bytesOf_length];omega)];unfold r1;rw [sl_other _ _ _ _ _ (by rw [zeros512,bytesOf_length];omega) (by rw [bytesOf_length];omega),sl_zeros _ _ (by omega)];rfl
theorem blk_mode:sl (blkB h) 100 8=fld 7 h.mode:=by unfold blkB;rw [sl_seal _ (raw_len hk) _ _ (by omega)];unfold raw;rw [sl_other _ _ _ _ _ (by rw [l11 hk,fld_len];decide) (by omega)];unfold r11;rw [sl_other _ _ _ _ _ (by rw [l10 hk,fld_len];decide) (by omega)];unfold r10;rw [sl_other _ _ _ _ _ (by rw [l9 hk,fld_len];decide) (by omega)];unfold r9;rw [sl_other _ _ _ _ _ (by rw [l8 hk,fld_len];decide) (by omega)];unfold r8;rw [sl_other _ _ _ _ _ (by rw [l7 hk,fld_len];decide) (by omega)];unfold r7;rw [sl_other _ _ _ _ _ (by rw [l6 hk,fld_len];decide) (by omega)];unfold r6;rw [sl_same _ _ _ _ (by rw [l5 hk,fld_len];decide) (by rw [fld_len];decide),fld_len];simp [sl]
theorem blk_size:sl (blkB h) 124 12=fld 11 h.size:=by unfold blkB;rw [sl_seal _ (raw_len hk) _ _ (by omega)];unfold raw;rw [sl_other _ _ _ _ _ (by rw [l11 hk,fld_len];decide) (by omega)];unfold r11;rw [sl_other _ _ _ _ _ (by rw [l10 hk,fld_len];decide) (by omega)];unfold r10;rw [sl_other _ _ _ _ _ (by rw [l9 hk,fld_len];decide) (by omega)];unfold r9;rw [sl_other _ _ _ _ _ (by rw [l8 hk,fld_len];decide) (by rw [fld_len];omega)];unfold r8;rw [sl_other _ _ _ _ _ (by rw [l7 hk,fld_len];decide) (by rw [fld_len];omega)];unfold r7;rw [sl_same _ _ _ _ (by rw [l6 hk,fld_len];decide) (by rw [fld_len];decide),fld_len];simp [sl]
theorem blk_typ:sl (blkB h) 156 1=[h.typ]:=by unfold blkB;rw [sl_seal _ (raw_len hk) _ _ (by omega)];unfold raw;rw [sl_other _ _ _ _ _ (by rw [l11 hk,fld_len];decide) (by omega)];unfold r11;rw [sl_other _ _ _ _ _ (by rw [l10 hk,fld_len];decide) (by omega)];unfold r10;rw [sl_other _ _ _ _ _ (by rw [l9 hk,fld_len];decide) (by rw [fld_len];omega)];unfold r9;rw [sl_other _ _ _ _ _ (by rw [l8 hk,fld_len];decide) (by rw [fld_len];omega)];unfold r8;rw [sl_other _ _ _ _ _ (by rw [l7 hk,fld_len];decide) (by rw [fld_len];omega)];unfold r7;rw [sl_other _ _ _ _ _ (by rw [l6 hk,fld_len];decide) (by rw [fld_len];omega)];unfold r6;rw [sl_other _ _ _ _ _ (by rw [l5 hk,fld_len];decide) (by rw [fld_len];omega)];unfold r5;rw [sl_same _ _ _ _ (by rw [l4 hk];simp) (by simp)];simp [sl]
end
theorem fld_inj (d:Nat) (m n:Int) (h0:0≤m∧m < 8 ^ d) (h1:0≤n∧n < 8 ^ d) (h:fld d m=fld d n):m=n:=by have e:=(List.append_inj h (by rw [digs_len,digs_len])).1;have a:=prs_digs d m h0.1 h0.2;rw [e,prs_digs d n h1.1 h1.2] at a;exact (Option.some.inj a).symm
theorem answer_fld (d:Nat) (h1:1≤d) (h2:d≤21) (l:List Int) (hl:l.length=d+1): (∃ m,0≤m∧m < 8 ^ d∧l=fld d m∧ZParse.answer l=(m,0))∨((∀ m,0≤m→m < 8 ^ d→l≠fld d m)∧ZParse.answer l=(0,6)):=by
 obtain ⟨t,c,rfl⟩:∃ t c,l=t++[c]:=⟨l.dropLast,l.getLast (by intro e;rw [e] at hl;cases hl),(List.dropLast_concat_getLast _).symm⟩;have ht:t.length=d:=by simpa using hl
 have ea:ZParse.answer (t++[c])=ZParse.pars t c:=by unfold ZParse.answer;rw [if_neg (by omega)];simp
 rw [ea];unfold ZParse.pars;have hbad:c≠0∨prs 0 t=none→∀ m,0≤m→m < 8 ^ d→t++[c]≠fld d m:=by
  intro h m h3 h4 e;obtain ⟨e1,e2⟩:=List.append_inj e (by rw [ht,digs_len]);rcases h with h | h
  ·exact h (by simpa using e2)
  ·rw [e1,prs_digs d m h3 h4] at h;cases h
 by_cases hc:c=0
 ·
  rw [if_pos hc];cases hp:prs 0 t with
  | none=>exact .inr ⟨hbad (.inr hp),rfl⟩
  | some m =>have hb:=prs_bound t 0 m (by omega) hp;refine .inl ⟨m,hb.1,by rw [ht] at hb;omega,?_,rfl⟩;unfold fld;rw [hc,← ht,digs_of_prs t m hp]
 ·rw [if_neg hc];exact .inr ⟨hbad (.inl hc),rfl⟩
theorem blk_tell {h:Hdr} (hk:h.Ok) {b:List Int} (hb:b=blkB h):sl b 156 1=[h.typ]∧sl b 0 100=padded h.name (100 - h.name.size)∧sl b 157 100=padded h.link (100 - h.link.size)∧sl b 345 155=padded h.pre (155 - h.pre.size)∧sl b 100 8=fld 7 h.mode∧sl b 124 12=fld 11 h.size:=by rw [hb];have a1:=blk_typ hk;have a2:=blk_name hk;have a3:=blk_link hk;have a4:=blk_pre hk;have a5:=blk_mode hk;have a6:=blk_size hk;exact ⟨a1,a2,a3,a4,a5,a6⟩
theorem pow7:(8:Int) ^ 7=2097152:=by decide
theorem pow11:(8:Int) ^ 11=8589934592:=by decide
theorem blkB_inj {h k:Hdr} (hh:h.Ok) (hk:k.Ok) (e:blkB h=blkB k):h=k:=by
 obtain ⟨a1,a2,a3,a4,a5,a6⟩:=blk_tell hh rfl;obtain ⟨b1,b2,b3,b4,b5,b6⟩:=blk_tell hk e;have m1:=hh.mode;have m2:=hk.mode;have s1:=hh.size;have s2:=hk.size;have c1:h.typ=k.typ:=by simpa using a1.symm.trans b1
 have c2:=padded_inj hh.name.1 hk.name.1 (a2.symm.trans b2);have c3:=padded_inj hh.link.1 hk.link.1 (a3.symm.trans b3);have c4:=padded_inj hh.pre.1 hk.pre.1 (a4.symm.trans b4);have c5:=fld_inj 7 _ _ (by rw [pow7];omega) (by rw [pow7];omega) (a5.symm.trans b5);have c6:=fld_inj 11 _ _ (by rw [pow11];omega) (by rw [pow11];omega) (a6.symm.trans b6);cases h;cases k;simp only at c1 c2 c3 c4 c5 c6;simp [c1,c2,c3,c4,c5,c6]
end ZHdr
end
end Go.Proofs.YteikiojmcipkmaaGreatDoor
