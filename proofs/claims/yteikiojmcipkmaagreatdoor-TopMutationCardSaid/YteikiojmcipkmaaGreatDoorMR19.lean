/- Parts of the proof, gathered by a program: what calls of the functions answer, and what follows in plain lists. Conditions: those that each theorem states. -/
import Derived.Test.YteikiojmcipkmaaGreatDoorMR18
set_option linter.unusedVariables false
set_option linter.unusedSimpArgs false
namespace Go.Proofs.YteikiojmcipkmaaGreatDoor
open Go.Lib (hid)
open Go.RowKit YteikiojmcipkmaaGreatDoorW.PrintWords YteikiojmcipkmaaGreatDoorW.PrintLast YteikiojmcipkmaaGreatDoorW.PrintMore Oct ZBase ZGlob ZMo
set_option maxRecDepth 100000
section
namespace ZNum
open Go.Lib (decDigits parseUintM parseUintB parseIntB)
def digit (c:UInt8):Prop:=48≤c.toNat∧c.toNat≤57
theorem parseUintM_append (M:Nat) (m:List UInt8):∀ (l:List UInt8) (acc x:Nat),parseUintM M acc l=.ok x→parseUintM M acc (l++m)=parseUintM M x m:=by
 intro l
 induction l with
 | nil =>intro acc x h;simp only [parseUintM] at h;cases h;rfl
 | cons c l ih =>
  intro acc x h;simp only [List.cons_append,parseUintM] at h ⊢;split at h
  ·
   rename_i hd;rw [if_pos hd];split at h
   ·cases h
   ·
    rename_i h1;rw [if_neg h1];split at h
    ·cases h
    ·rename_i h2;rw [if_neg h2];exact ih _ _ h
  ·cases h
theorem dec_digit:∀ (u:Nat),(∀ c∈decDigits u,digit c)∧(u < 10000000000→parseUintM (2 ^ 64 - 1) 0 (decDigits u)=.ok u)∧(1≤u→∃ c r,decDigits u=c :: r∧c.toNat≠48):=by
 intro u
 induction u using Nat.strongRecOn with
 | _ u ih =>
  have hd:∀ i,i < 10→(UInt8.ofNat (48+i)).toNat=48+i:=fun i hi=>by rw [UInt8.toNat_ofNat'];omega
  by_cases h:u < 10
  ·
   have e:decDigits u=[UInt8.ofNat (48+u)]:=Go.Lib.decDigits_one h;rw [e];refine ⟨fun c hc=>?_,fun _=>?_,fun h1=>⟨_,_,rfl,by rw [hd u h];omega⟩⟩
   ·obtain rfl:=List.mem_singleton.1 hc;unfold digit;rw [hd u h];omega
   ·simp only [parseUintM,hd u h];rw [if_pos (by omega),if_neg (by omega),if_neg (by omega)];congr 1;omega
  ·
   have e:decDigits u=decDigits (u / 10)++[UInt8.ofNat (48+u % 10)]:=by rw [decDigits,dif_neg h]
   obtain ⟨h1,h2,h3⟩:=ih (u / 10) (by omega);have hm:u % 10 < 10:=Nat.mod_lt _ (by decide);rw [e];refine ⟨fun c hc=>?_,fun hu=>?_,fun _=>?_⟩
   ·
    rcases List.mem_append.1 hc with hc | hc
    ·exact h1 c hc
    ·obtain rfl:=List.mem_singleton.1 hc;unfold digit;rw [hd _ hm];omega
   ·rw [parseUintM_append _ _ _ _ _ (h2 (by omega))];simp only [parseUintM,hd _ hm];rw [if_pos (by omega),if_neg (by omega),if_neg (by omega)];congr 1;omega
   ·obtain ⟨c,r,e2,hc⟩:=h3 (by omega);exact ⟨c,r++[UInt8.ofNat (48+u % 10)],by rw [e2];rfl,hc⟩
theorem dec_parse (u:Nat) (h:u < 1000000):parseIntB 64 (decDigits u)=.ok (u:Int):=by
 obtain ⟨h1,h2,h3⟩:=dec_digit u;have h2:=h2 (by omega);have hne:decDigits u≠[]:=by intro e;have:=Go.Lib.decDigits_length u;rw [e] at this;have:=Go.Lib.nDigits_pos u;simp at *;omega
 obtain ⟨c,r,e⟩:=List.exists_cons_of_ne_nil hne;have hc:=h1 c (by rw [e];simp);unfold digit at hc;rw [e] at h2 ⊢;unfold parseIntB;have c1:¬ (c.toNat=43∨c.toNat=45):=by omega
 have c2:¬ c.toNat=45:=by omega
 simp only [if_neg c1,parseUintB];rw [if_neg (by simp),h2];simp only;rw [if_neg (by intro h;have:=h.2;omega),if_neg (by intro h;exact c2 h.1),if_neg c2]
set_option maxHeartbeats 2000000 in
theorem number_calls (s:ByteArray) (u:Nat) (L:Int) (hs:s.data.toList=decDigits u) (h1:1≤u) (hu:u < 1000000) (hL:(u:Int)≤L) (hsz:s.size≤100) (w:World):Calls Tryz.prog 159 #[.string s,.int .i64 L] w fun e w'=>e=.returned (.tuple #[.int .i64 u,.int .i64 0])∧Below w.heap.size w w':=by
 have hdig:∀ (p:Nat) (h:p < s.size),48≤(s[p]'h).toNat∧(s[p]'h).toNat≤57:=fun p h=>(dec_digit u).1 _ (by rw [← hs];exact List.getElem_mem (by simpa using h));have HP:=dec_parse u hu;rw [← hs] at HP;have h0:0 < s.size:=by
  have:=Go.Lib.decDigits_length u;have:=Go.Lib.nDigits_pos u;have h2:s.size=(decDigits u).length:=by rw [← hs];simp
  omega
 have hc0:(s[0]'h0).toNat≠48:=by
  obtain ⟨c,r,e,hc⟩:=(dec_digit u).2.2 h1;have:s.data.toList[0]'(by simpa using h0)=c:=by
   have e2:s.data.toList=c :: r:=by rw [hs,e]
   simp [e2]
  have e3:s[0]'h0=s.data.toList[0]'(by simpa using h0):=rfl;rw [e3,this];exact hc
 have PI:=hid (fun W=>Tryz.strconv_ParseInt_10_at64_ok s (by omega) u HP W);have HD:=hid hdig;have n0:¬ s.toList=[]:=by intro e;rw [ByteArray.toList_eq] at e;have:s.data.toList.length=s.size:=Array.length_toList;rw [e] at this;simp at this;omega
 have n1:s.toList.isEmpty=false:=by simp [n0]
 have n2:¬ (((s[0]'h0).toNat:Int)=48):=by omega
 have n3:(((s[0]'h0).toNat:Int) == 48)=false:=beq_eq_false_iff_ne.2 n2;have n4:¬ (u:Int) > L:=by omega
 clear hs HP hdig hc0;go_enter Tryz.func159,Tryz.ntmps159
 go_wp2_with fail
 go_loopw [7] (fun _ wr=>∃ pos:Nat,pos≤s.size∧wr=w.iter s pos) (fun _ w'=>s.size - w'.iterPos w.heap.size)
 case atStart=>exact ⟨0,Nat.zero_le _,rfl⟩
 case round =>
  obtain ⟨pos,hpos,rfl⟩:=hrel;by_cases hp:pos < s.size
  ·
   obtain ⟨d1,d2⟩:=HD.out pos hp;have hnx:∀ ty,(Instr.next (.pointer (some ⟨w.heap.size,0,none⟩)) true ty).run Tryz.prog (w.iter s pos)=_:=fun ty=>run_next_ascii w s pos ty hp (by omega);obtain ⟨c,hc⟩:∃ c,(s[pos]'hp).toNat=c:=⟨_,rfl⟩;rw [hc] at hnx d1 d2;have k1:¬ (c:Int) < 48:=by omega
   have k2:¬ (c:Int) > 57:=by omega
   go_wp2_with fail
   go_roundw
   case rel=>exact ⟨pos+1,by omega,rfl⟩
   case measure=>simp;omega
  ·
   have hnx:∀ ty,(Instr.next (.pointer (some ⟨w.heap.size,0,none⟩)) true ty).run Tryz.prog (w.iter s pos)=_:=fun ty=>run_next_end w s pos ty hp
   go_wp2_with fail
   refine (PI.out _).mono ?_;rintro r w2 ⟨rfl,hw⟩;have HB:Hid (Below w.heap.size w w2):=hid (by
    have hi:Below w.heap.size w (w.iter s pos):=below_alloc (Below.refl _ _) _;rcases hw with rfl | ⟨t,rfl⟩
    ·exact hi
    ·exact bytes_below hi hi.size 5 t)
   clear hw
   go_wp2_with fail
   go_ret2
   exact ⟨rfl,HB.out⟩
end ZNum
end
section
section
open Go Go.Shelf
open Go.RowKit in
theorem _root_.Go.Proofs.Tryz.strconv_ParseInt_10_at64_range (s:ByteArray) (hlim:s.size≤281474976710656) (h:Lib.parseIntB 64 s.data.toList=.range) (ev:Value) (w:World) (hv:w.cell? ⟨17,0,none⟩=some ev) (hev:ev=.nilIface∨∃ te pe,ev=.iface te pe): Calls Tryz.prog 147 #[.string s,.int .i64 10,.int .i64 64] w fun e w'=>∃ N,e=.returned (.tuple #[.int .i64 (Lib.intSat 64 s.data.toList),.iface 260 (.pointer (some ⟨N,0,none⟩))])∧w.heap.size≤N∧w'.heap[N]?=some (.cells #[.string ⟨#[80,97,114,115,101,73,110,116]⟩,.string s,ev] 270 (0,0))∧Below w.heap.size w w':=Any.strconv_ParseInt_10_at64_range Tryz.laysC174 s hlim h ev w hv hev
end
namespace ZNumA
open ZNum
open Go.Lib (decDigits parseUintM parseUintB parseIntB)
theorem dec_one (c:UInt8) (hc:digit c):decDigits (c.toNat - 48)=[c]:=by unfold digit at hc;rw [Go.Lib.decDigits_one (by omega)];congr 1;apply UInt8.toNat_inj.1;rw [UInt8.toNat_ofNat'];omega
theorem dec_push (a:Nat) (h:1≤a) (c:UInt8) (hc:digit c):decDigits (a * 10+(c.toNat - 48))=decDigits a++[c]:=by
 have hc':=hc;unfold digit at hc';rw [decDigits,dif_neg (by omega)];have e1:(a * 10+(c.toNat - 48)) / 10=a:=by omega
 have e2:(a * 10+(c.toNat - 48)) % 10=c.toNat - 48:=by omega
 rw [e1,e2];congr 2;apply UInt8.toNat_inj.1;rw [UInt8.toNat_ofNat'];omega
theorem uint_digits (M:Nat):∀ (l:List UInt8) (a x:Nat),(∀ c∈l,digit c)→1≤a→parseUintM M a l=.ok x→decDigits x=decDigits a++l:=by
 intro l
 induction l with
 | nil =>intro a x _ _ h;simp only [parseUintM] at h;cases h;simp
 | cons c l ih =>
  intro a x hd h1 h;have hc:48≤c.toNat∧c.toNat≤57:=hd c (by simp);simp only [parseUintM] at h;rw [if_pos hc] at h;split at h
  ·cases h
  ·
   split at h
   ·cases h
   ·rw [ih _ _ (fun d hd2=>hd d (List.mem_cons_of_mem _ hd2)) (by omega) h,dec_push a h1 c hc];simp
theorem uint_ends (M:Nat):∀ (l:List UInt8) (a:Nat),(∀ c∈l,digit c)→(∃ x,parseUintM M a l=.ok x)∨parseUintM M a l=.range:=by
 intro l
 induction l with
 | nil=>exact fun a _=>.inl ⟨a,rfl⟩
 | cons c l ih =>
  intro a hd;have hc:48≤c.toNat∧c.toNat≤57:=hd c (by simp);simp only [parseUintM];rw [if_pos hc];split
  ·exact .inr rfl
  ·
   split
   ·exact .inr rfl
   ·exact ih _ fun d hd2=>hd d (List.mem_cons_of_mem _ hd2)
theorem numeral (l:List UInt8) (hd:∀ c∈l,digit c) (hne:l≠[]) (hz:∀ r,l=48 :: r→r=[]):(∃ u:Nat,l=decDigits u∧u < 9223372036854775808∧parseIntB 64 l=.ok (u:Int))∨parseIntB 64 l=.range:=by
 obtain ⟨c,r,rfl⟩:=List.exists_cons_of_ne_nil hne;have hc:48≤c.toNat∧c.toNat≤57:=hd c (by simp);have hc':=hc;have c1:¬ (c.toNat=43∨c.toNat=45):=by omega
 have c2:¬ c.toNat=45:=by omega
 unfold parseIntB;simp only [if_neg c1,parseUintB];rw [if_neg (by simp)];rcases uint_ends (2 ^ 64 - 1) (c :: r) 0 hd with ⟨x,hx⟩ | hx
 ·
  rw [hx];have hdec:c :: r=decDigits x:=by
   by_cases h48:c=48
   ·subst h48;obtain rfl:=hz r rfl;simp only [parseUintM] at hx;rw [if_pos (by decide)] at hx;simp at hx;subst hx;rw [Go.Lib.decDigits_one (by decide)];rfl
   ·
    have h49:1≤c.toNat - 48:=by have:c.toNat≠48:=fun e=>h48 (UInt8.toNat_inj.1 e);omega
    simp only [parseUintM] at hx;rw [if_pos hc] at hx;split at hx
    ·cases hx
    ·
     split at hx
     ·cases hx
     ·rw [show 0 * 10+(c.toNat - 48)=c.toNat - 48 by omega] at hx;rw [uint_digits _ r _ _ (fun d hd2=>hd d (List.mem_cons_of_mem _ hd2)) h49 hx,dec_one c hc];rfl
  simp only;by_cases hb:2 ^ (64 - 1)≤x
  ·right;rw [if_pos ⟨c2,hb⟩]
  ·left;refine ⟨x,hdec,by omega,?_⟩;rw [if_neg (by intro h;exact hb h.2),if_neg (by intro h;exact c2 h.1),if_neg c2]
 ·right;rw [hx]
theorem uint_dec:∀ (u:Nat),u < 9223372036854775808→parseUintM (2 ^ 64 - 1) 0 (decDigits u)=.ok u:=by
 intro u
 induction u using Nat.strongRecOn with
 | _ u ih =>
  intro hu;have hd:∀ i,i < 10→(UInt8.ofNat (48+i)).toNat=48+i:=fun i hi=>by rw [UInt8.toNat_ofNat'];omega
  by_cases h:u < 10
  ·have e:decDigits u=[UInt8.ofNat (48+u)]:=Go.Lib.decDigits_one h;rw [e];simp only [parseUintM,hd u h];rw [if_pos (by omega),if_neg (by omega),if_neg (by omega)];congr 1;omega
  ·
   have e:decDigits u=decDigits (u / 10)++[UInt8.ofNat (48+u % 10)]:=by rw [decDigits,dif_neg h]
   have hm:u % 10 < 10:=Nat.mod_lt _ (by decide);rw [e,parseUintM_append _ _ _ _ _ (ih (u / 10) (by omega) (by omega))];simp only [parseUintM,hd _ hm];rw [if_pos (by omega),if_neg (by omega),if_neg (by omega)];congr 1;omega
theorem dec_ne (u:Nat):decDigits u≠[]:=by intro e;have:=Go.Lib.decDigits_length u;rw [e] at this;have:=Go.Lib.nDigits_pos u;simp at *;omega
theorem dec_int (u:Nat) (h:u < 9223372036854775808):parseIntB 64 (decDigits u)=.ok (u:Int):=by
 have h2:=uint_dec u h;obtain ⟨c,r,e⟩:=List.exists_cons_of_ne_nil (dec_ne u);have hc:=(dec_digit u).1 c (by rw [e];simp);unfold digit at hc;rw [e] at h2 ⊢;unfold parseIntB;have c1:¬ (c.toNat=43∨c.toNat=45):=by omega
 have c2:¬ c.toNat=45:=by omega
 simp only [if_neg c1,parseUintB];rw [if_neg (by simp),h2];simp only;rw [if_neg (by intro h;have:=h.2;omega),if_neg (by intro h;exact c2 h.1),if_neg c2]
theorem dec_inj {u v:Nat} (hu:u < 9223372036854775808) (hv:v < 9223372036854775808) (h:decDigits u=decDigits v):u=v:=by
 have h1:=dec_int u hu;rw [h,dec_int v hv] at h1;injection h1 with h2
 omega
def NoNum (s:ByteArray) (L:Int):Prop:=∀ u:Nat,(u:Int)≤L→s.data.toList≠decDigits u
theorem no_char {s:ByteArray} {L:Int} (p:Nat) (h:p < s.size) (hd:¬ digit (s[p]'h)):NoNum s L:=fun u _ e=>by refine hd ((dec_digit u).1 _ ?_);rw [← e];exact List.getElem_mem (l:=s.data.toList) (n:=p) (by simpa using h)
theorem no_zero {s:ByteArray} {L:Int} (h:0 < s.size) (hd:(s[0]'h).toNat=48) (hne:s≠⟨#[48]⟩):NoNum s L:=fun u _ e=>by
 rcases Nat.eq_zero_or_pos u with rfl | hu
 ·refine hne ?_;have e2:s.data.toList=[48]:=e.trans (by rw [Go.Lib.decDigits_one (by decide)];rfl);obtain ⟨⟨l⟩⟩:=s;dsimp only at e2;rw [e2]
 ·obtain ⟨c,r,e2,hc⟩:=(dec_digit u).2.2 hu;rw [e2] at e;have e3:s[0]'h=s.data.toList[0]'(by simpa using h):=rfl;rw [e3] at hd;simp only [e,List.getElem_cons_zero] at hd;exact hc hd
theorem no_empty {L:Int}:NoNum ⟨#[]⟩ L:=fun u _ e=>dec_ne u e.symm
theorem no_range {s:ByteArray} {L:Int} (hL:L < 9223372036854775808) (h:parseIntB 64 s.data.toList=.range):NoNum s L:=fun u hu e=>by rw [e,dec_int u (by omega)] at h;cases h
theorem no_more {s:ByteArray} {L:Int} (hL:L < 9223372036854775808) (v:Nat) (hv:v < 9223372036854775808) (hs:s.data.toList=decDigits v) (h:¬ (v:Int)≤L):NoNum s L:=fun u hu e=>by have:=dec_inj hv (by omega) (hs.symm.trans e);subst this;exact h hu
def NumPost (s:ByteArray) (L:Int) (w:World) (e:Ending) (w':World):Prop:=Below w.heap.size w w'∧((∃ u:Nat,s.data.toList=decDigits u∧(u:Int)≤L∧e=.returned (.tuple #[.int .i64 u,.int .i64 0]))∨(NoNum s L∧∃ c:Int,(c=3∨c=6)∧e=.returned (.tuple #[.int .i64 0,.int .i64 c])))
theorem toList_ne {s:ByteArray} (h:0 < s.size):¬ s.toList=[]:=by intro e;rw [ByteArray.toList_eq] at e;have:s.data.toList.length=s.size:=Array.length_toList;rw [e] at this;simp at this;omega
set_option maxHeartbeats 4000000 in
theorem number_any (s:ByteArray) (L:Int) (hL:L < 9223372036854775808) (hsz:s.size≤1000000) (w:World) (hG:Gl w):Calls Tryz.prog 159 #[.string s,.int .i64 L] w (NumPost s L w):=by
 have HG:=hid hG;have HL:=hid (And.intro hL hsz);clear hG hL hsz;rcases Nat.eq_zero_or_pos s.size with h0 | h0
 ·
  obtain rfl:s=⟨#[]⟩:=ByteArray.ext (Array.eq_empty_of_size_eq_zero h0);clear h0;go_enter Tryz.func159,Tryz.ntmps159
  go_wp2_with fail
  go_ret2
  exact ⟨Below.refl _ _,.inr ⟨no_empty,6,.inr rfl,rfl⟩⟩
 ·
  have n0:=toList_ne h0;have n1:s.toList.isEmpty=false:=by simp [n0]
  obtain ⟨c0,hc0⟩:∃ c,(s[0]'h0).toNat=c:=⟨_,rfl⟩;have way:(c0=48∧s≠⟨#[48]⟩)∨(c0=48∧s=⟨#[48]⟩)∨c0≠48:=by
   by_cases h:c0=48
   ·
    by_cases h2:s=⟨#[48]⟩
    ·exact .inr (.inl ⟨h,h2⟩)
    ·exact .inl ⟨h,h2⟩
   ·exact .inr (.inr h)
  have H0:=hid hc0;rcases way with ⟨hc,hne⟩ | way
  ·
   have hs2:(s.toList == [48])=false:=ZPath.str_no [48] hne;have HN:=hid (no_zero (L:=L) h0 (hc0.trans hc) hne);have n3:((c0:Int) == 48)=true:=by rw [hc];rfl
   clear hne hc;go_enter Tryz.func159,Tryz.ntmps159
   go_wp2_with fail
   go_ret2
   exact ⟨Below.refl _ _,.inr ⟨HN.out,6,.inr rfl,rfl⟩⟩
  have hz:∀ r,s.data.toList=48 :: r→r=[]:=fun r e=>by
   have e3:s[0]'h0=s.data.toList[0]'(by simpa using h0):=rfl;rw [e3] at hc0;simp only [e,List.getElem_cons_zero] at hc0;rcases way with ⟨_,h2⟩ | h2
   ·rw [h2] at e;cases e;rfl
   ·exact absurd hc0.symm h2
  have HZ:=hid hz;clear hz;rcases way with ⟨hc,h2⟩ | h2
  ·
   have hs2:(s.toList == [48])=true:=ZPath.str_yes [48] h2;have n3:((c0:Int) == 48)=true:=by rw [hc];rfl
   clear hc h2;go_enter Tryz.func159,Tryz.ntmps159
   go_wp2_with fail
   go_loopw [7] (fun _ wr=>∃ pos:Nat,pos≤s.size∧wr=w.iter s pos∧Hid (∀ p (h:p < s.size),p < pos→digit (s[p]'h))) (fun _ w'=>s.size - w'.iterPos w.heap.size)
   case atStart=>exact ⟨0,Nat.zero_le _,rfl,hid fun p _ hp=>absurd hp (Nat.not_lt_zero _)⟩
   case round =>
    obtain ⟨pos,hpos,rfl,HI⟩:=hrel;have BI:∀ q,Below w.heap.size w (w.iter s q):=fun q=>below_alloc (Below.refl _ _) _;by_cases hp:pos < s.size
    ·
     obtain ⟨c,hc⟩:∃ c,(s[pos]'hp).toNat=c:=⟨_,rfl⟩;by_cases h128:c < 128
     ·
      have hnx:∀ ty,(Instr.next (.pointer (some ⟨w.heap.size,0,none⟩)) true ty).run Tryz.prog (w.iter s pos)=_:=fun ty=>run_next_ascii w s pos ty hp (by omega);rw [hc] at hnx;by_cases h48:c < 48
      ·
       have k1:(c:Int) < 48:=by omega
       go_wp2_with fail
       go_ret2
       exact ⟨BI _,.inr ⟨no_char pos hp (fun h=>by unfold digit at h;omega),6,.inr rfl,rfl⟩⟩
      ·
       have k1:¬ (c:Int) < 48:=by omega
       by_cases h57:57 < c
       ·
        have k2:(57:Int) < (c:Int):=by omega
        go_wp2_with fail
        go_ret2
        exact ⟨BI _,.inr ⟨no_char pos hp (fun h=>by unfold digit at h;omega),6,.inr rfl,rfl⟩⟩
       ·
        have k2:¬ (57:Int) < (c:Int):=by omega
        go_wp2_with fail
        go_roundw
        case rel=>exact ⟨pos+1,by omega,rfl,hid fun p h hp2=>by
         rcases Nat.lt_or_ge p pos with h3 | h3
         ·exact HI.out p h h3
         ·
          obtain rfl:p=pos:=by omega
          unfold digit;omega⟩
        case measure=>simp;omega
     ·
      have hnx:∀ ty,(Instr.next (.pointer (some ⟨w.heap.size,0,none⟩)) true ty).run Tryz.prog (w.iter s pos)=_:=fun ty=>run_next_any w s pos ty hp;have hd:=decode_high s pos hp (by omega);obtain ⟨r,hr⟩:∃ r,(Utf8.decode s pos).1=r:=⟨_,rfl⟩;rw [hr] at hnx hd;have k1:¬ (r:Int) < 48:=by omega
      have k2:(57:Int) < (r:Int):=by omega
      go_wp2_with fail
      go_ret2
      exact ⟨BI _,.inr ⟨no_char pos hp (fun h=>by unfold digit at h;omega),6,.inr rfl,rfl⟩⟩
    ·
     have hnx:∀ ty,(Instr.next (.pointer (some ⟨w.heap.size,0,none⟩)) true ty).run Tryz.prog (w.iter s pos)=_:=fun ty=>run_next_end w s pos ty hp;have hdig:∀ c∈s.data.toList,digit c:=fun c hc=>by obtain ⟨p,h1,rfl⟩:=List.getElem_of_mem hc;exact HI.out p (by simpa using h1) (by have h9:p < s.size:=(by simpa using h1);omega)
     have hne:s.data.toList≠[]:=fun e=>by have:s.data.toList.length=s.size:=Array.length_toList;rw [e] at this;simp at this;omega
     rcases numeral _ hdig hne HZ.out with ⟨u,hu,hu2,hp1⟩ | hp1
     ·
      have PI:=hid (fun W=>Tryz.strconv_ParseInt_10_at64_ok s (by have:=HL.out.2;omega) u hp1 W);have HU:=hid (And.intro hu hu2);clear hu hu2 hp1 hdig hne;by_cases hgt:L < (u:Int)
      ·
       go_wp2_with fail
       refine (PI.out _).mono ?_;rintro r w2 ⟨rfl,hw⟩;have HB:Hid (Below w.heap.size w w2):=hid (by
        rcases hw with rfl | ⟨t,rfl⟩
        ·exact BI _
        ·exact bytes_below (BI _) (BI _).size 5 t)
       clear hw
       go_wp2_with fail
       go_ret2
       exact ⟨HB.out,.inr ⟨no_more HL.out.1 u HU.out.2 HU.out.1 (by omega),3,.inl rfl,rfl⟩⟩
      ·
       go_wp2_with fail
       refine (PI.out _).mono ?_;rintro r w2 ⟨rfl,hw⟩;have HB:Hid (Below w.heap.size w w2):=hid (by
        rcases hw with rfl | ⟨t,rfl⟩
        ·exact BI _
        ·exact bytes_below (BI _) (BI _).size 5 t)
       clear hw
       go_wp2_with fail
       go_ret2
       exact ⟨HB.out,.inl ⟨u,HU.out.1,by omega,rfl⟩⟩
     ·
      obtain ⟨t1,p1,her⟩:=HG.out.errRange;have PR:=hid (Tryz.strconv_ParseInt_10_at64_range s (by have:=HL.out.2;omega) hp1 (.iface t1 p1) (w.iter s pos) ((her.below (BI pos)).cell 0 _ rfl) (.inr ⟨_,_,rfl⟩));have HR:=hid (no_range HL.out.1 hp1);clear hp1 hdig hne her
      go_wp2_with fail
      refine PR.out.mono ?_;rintro r w2 ⟨N,rfl,_,_,hb⟩;have HB:=hid (below_step (BI pos) hb);clear hb
      go_wp2_with fail
      go_ret2
      exact ⟨HB.out,.inr ⟨HR.out,3,.inl rfl,rfl⟩⟩
  ·
   have n3:((c0:Int) == 48)=false:=beq_eq_false_iff_ne.2 (by omega);clear h2;go_enter Tryz.func159,Tryz.ntmps159
   go_wp2_with fail
   go_loopw [7] (fun _ wr=>∃ pos:Nat,pos≤s.size∧wr=w.iter s pos∧Hid (∀ p (h:p < s.size),p < pos→digit (s[p]'h))) (fun _ w'=>s.size - w'.iterPos w.heap.size)
   case atStart=>exact ⟨0,Nat.zero_le _,rfl,hid fun p _ hp=>absurd hp (Nat.not_lt_zero _)⟩
   case round =>
    obtain ⟨pos,hpos,rfl,HI⟩:=hrel;have BI:∀ q,Below w.heap.size w (w.iter s q):=fun q=>below_alloc (Below.refl _ _) _;by_cases hp:pos < s.size
    ·
     obtain ⟨c,hc⟩:∃ c,(s[pos]'hp).toNat=c:=⟨_,rfl⟩;by_cases h128:c < 128
     ·
      have hnx:∀ ty,(Instr.next (.pointer (some ⟨w.heap.size,0,none⟩)) true ty).run Tryz.prog (w.iter s pos)=_:=fun ty=>run_next_ascii w s pos ty hp (by omega);rw [hc] at hnx;by_cases h48:c < 48
      ·
       have k1:(c:Int) < 48:=by omega
       go_wp2_with fail
       go_ret2
       exact ⟨BI _,.inr ⟨no_char pos hp (fun h=>by unfold digit at h;omega),6,.inr rfl,rfl⟩⟩
      ·
       have k1:¬ (c:Int) < 48:=by omega
       by_cases h57:57 < c
       ·
        have k2:(57:Int) < (c:Int):=by omega
        go_wp2_with fail
        go_ret2
        exact ⟨BI _,.inr ⟨no_char pos hp (fun h=>by unfold digit at h;omega),6,.inr rfl,rfl⟩⟩
       ·
        have k2:¬ (57:Int) < (c:Int):=by omega
        go_wp2_with fail
        go_roundw
        case rel=>exact ⟨pos+1,by omega,rfl,hid fun p h hp2=>by
         rcases Nat.lt_or_ge p pos with h3 | h3
         ·exact HI.out p h h3
         ·
          obtain rfl:p=pos:=by omega
          unfold digit;omega⟩
        case measure=>simp;omega
     ·
      have hnx:∀ ty,(Instr.next (.pointer (some ⟨w.heap.size,0,none⟩)) true ty).run Tryz.prog (w.iter s pos)=_:=fun ty=>run_next_any w s pos ty hp;have hd:=decode_high s pos hp (by omega);obtain ⟨r,hr⟩:∃ r,(Utf8.decode s pos).1=r:=⟨_,rfl⟩;rw [hr] at hnx hd;have k1:¬ (r:Int) < 48:=by omega
      have k2:(57:Int) < (r:Int):=by omega
      go_wp2_with fail
      go_ret2
      exact ⟨BI _,.inr ⟨no_char pos hp (fun h=>by unfold digit at h;omega),6,.inr rfl,rfl⟩⟩
    ·
     have hnx:∀ ty,(Instr.next (.pointer (some ⟨w.heap.size,0,none⟩)) true ty).run Tryz.prog (w.iter s pos)=_:=fun ty=>run_next_end w s pos ty hp;have hdig:∀ c∈s.data.toList,digit c:=fun c hc=>by obtain ⟨p,h1,rfl⟩:=List.getElem_of_mem hc;exact HI.out p (by simpa using h1) (by have h9:p < s.size:=(by simpa using h1);omega)
     have hne:s.data.toList≠[]:=fun e=>by have:s.data.toList.length=s.size:=Array.length_toList;rw [e] at this;simp at this;omega
     rcases numeral _ hdig hne HZ.out with ⟨u,hu,hu2,hp1⟩ | hp1
     ·
      have PI:=hid (fun W=>Tryz.strconv_ParseInt_10_at64_ok s (by have:=HL.out.2;omega) u hp1 W);have HU:=hid (And.intro hu hu2);clear hu hu2 hp1 hdig hne;by_cases hgt:L < (u:Int)
      ·
       go_wp2_with fail
       refine (PI.out _).mono ?_;rintro r w2 ⟨rfl,hw⟩;have HB:Hid (Below w.heap.size w w2):=hid (by
        rcases hw with rfl | ⟨t,rfl⟩
        ·exact BI _
        ·exact bytes_below (BI _) (BI _).size 5 t)
       clear hw
       go_wp2_with fail
       go_ret2
       exact ⟨HB.out,.inr ⟨no_more HL.out.1 u HU.out.2 HU.out.1 (by omega),3,.inl rfl,rfl⟩⟩
      ·
       go_wp2_with fail
       refine (PI.out _).mono ?_;rintro r w2 ⟨rfl,hw⟩;have HB:Hid (Below w.heap.size w w2):=hid (by
        rcases hw with rfl | ⟨t,rfl⟩
        ·exact BI _
        ·exact bytes_below (BI _) (BI _).size 5 t)
       clear hw
       go_wp2_with fail
       go_ret2
       exact ⟨HB.out,.inl ⟨u,HU.out.1,by omega,rfl⟩⟩
     ·
      obtain ⟨t1,p1,her⟩:=HG.out.errRange;have PR:=hid (Tryz.strconv_ParseInt_10_at64_range s (by have:=HL.out.2;omega) hp1 (.iface t1 p1) (w.iter s pos) ((her.below (BI pos)).cell 0 _ rfl) (.inr ⟨_,_,rfl⟩));have HR:=hid (no_range HL.out.1 hp1);clear hp1 hdig hne her
      go_wp2_with fail
      refine PR.out.mono ?_;rintro r w2 ⟨N,rfl,_,_,hb⟩;have HB:=hid (below_step (BI pos) hb);clear hb
      go_wp2_with fail
      go_ret2
      exact ⟨HB.out,.inr ⟨HR.out,3,.inl rfl,rfl⟩⟩
end ZNumA
end
end Go.Proofs.YteikiojmcipkmaaGreatDoor
