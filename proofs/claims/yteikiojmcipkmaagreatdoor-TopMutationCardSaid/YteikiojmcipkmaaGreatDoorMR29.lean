/- Parts of the proof, gathered by a program: what calls of the functions answer, and what follows in plain lists. Conditions: those that each theorem states. -/
import Derived.Test.YteikiojmcipkmaaGreatDoorMR09
import Derived.Test.YteikiojmcipkmaaGreatDoorMR25
import Derived.Test.YteikiojmcipkmaaGreatDoorMR28
set_option linter.unusedVariables false
set_option linter.unusedSimpArgs false
namespace Go.Proofs.YteikiojmcipkmaaGreatDoor
open Go.Lib (hid)
set_option maxRecDepth 100000
section
namespace ZPay
open Go.RowKit YteikiojmcipkmaaGreatDoorW.PrintWords YteikiojmcipkmaaGreatDoorW.PrintLast YteikiojmcipkmaaGreatDoorW.PrintMore Oct ZBase ZGlob ZMo ZApp ZBlock ZZero
open ZEntry (blocks blocks_calls)
open ZSink (ob)
theorem own_mo {S:List Nat} {w w1:World} {base n:Nat} {v:Value} {xs:List Value} (h:w.ownsRow base 5 1 v n xs) (hm:Mo S w w1) (hS:∀ s∈S,s < base):w1.ownsRow base 5 1 v n xs :=
 own_move h fun k hk=>hm.keep k (own_lt h k hk) fun hs=>by have:=hS k hs;have:=own_base h k hk;omega
section
variable {ops:Array Oper} {rest:List Oper} {o:Oper} {a:Act} {Q:Exit→Act→World→Prop}
theorem append_any (W:World) (base:Nat) (hgd:o.guard=none) (s x:Operand) (ho:o.op=.call { callee:=.builtin .append,args:=#[s,x],argTypes:=#[30,30] }) (v:Value) (n:Nat) (xs:List Int) (A:Option Addr) (m c:Nat) (ys:List Int) (hs:a.eval s=v) (hx:a.eval x=.slice A m c) (HO:W.ownsRow base 5 1 v n (nums .u8 xs)) (HR:Kd.C (Kd.int .u8) W A m ys) (hbase:base≤W.heap.size) (hl:n+m≤140737488355328) (h:∀ v1 w1,w1.ownsRow base 5 1 v1 (n+m) (nums .u8 (xs++ys))→Mo (ob v) W w1→wpList Tryz.prog ops Q rest (a.put o.dst v1) w1) : wpList Tryz.prog ops Q (o :: rest) a W:=by
 have hn:xs.length=n:=by simpa [nums] using HO.1
 have hm:=Kd.C_len HR;subst hn;refine print_append_row (w0:=W) base hgd s x 30 5 .u8 1 ho Tryz.underlying30 info5 (by decide) v xs ys A m c hs hx HO (Kd.reads_of_C (enc:=Value.int .u8) (d:=(0:Int)) (h1:=fun _=>rfl) HR) (Below.refl _ _) hbase (by omega) ?_;intro v1 w1 hown _ hg _;rw [List.length_append,hm] at hown;refine h v1 w1 hown ⟨hg.os,hg.tape,hg.output,hg.size,fun k hk hS=>hg.block k hk ?_⟩;intro e;exact hS (by simp [ob,e])
end
theorem _root_.Go.Proofs.YteikiojmcipkmaaGreatDoor.ZBlock.Str.eps {w:World} {sb:Nat} {off:Int} {av:List Int} {ε:Int} (h:Str w sb off av ε):ε=4∨ε=11:=by
 obtain ⟨_,_,_,_,_,_,⟨h,_⟩ | ⟨h,_⟩⟩:=h
 ·exact .inl h
 ·exact .inr h
def cutE (ε:Int):Int:=if ε=4 then 5 else ε
structure Py (w wr:World) (rb sb:Nat) (off:Int) (av:List Int) (ε:Int) (v:Value) (p:Nat):Prop where
 row:wr.ownsRow w.heap.size 5 1 v p (nums .u8 (av.take p))
 rd:Rd wr rb sb (off+p) (av.drop p) ε
 mo:Mo [sb,rb] w wr
 le:p≤av.length
 lt:rb < w.heap.size
theorem Py.start {w:World} {rb sb:Nat} {off:Int} {av:List Int} {ε:Int} (h:Rd w rb sb off av ε):Py w w rb sb off av ε (.slice none 0 0) 0 :=
 ⟨by simpa [nums] using own_nil _ _ _ _,by simpa using h,Mo.refl _ _,by omega,blk_lt h.rdr.blk⟩
theorem Py.step {w wr w2 w3:World} {rb sb:Nat} {off:Int} {av:List Int} {ε:Int} {v v1:Value} {p:Nat} (h:Py w wr rb sb off av ε v p) (hl:512≤(av.drop p).length) (hr:Rd w2 rb sb (off+p+512) ((av.drop p).drop 512) ε) (hm:Mo [sb,rb] wr w2) (ho:w3.ownsRow w.heap.size 5 1 v1 (p+512) (nums .u8 (av.take p++(av.drop p).take 512))) (hm3:Mo (ob v) w2 w3):Py w w3 rb sb off av ε v1 (p+512):=by
 have hlt:=h.lt;have hord:=h.rd.ord;have hob:∀ s∈ob v,w.heap.size≤s:=fun s hs=>own_base h.row s (by simpa [ob] using hs);have hsz:=hm.size;have hws:=h.mo.size;refine ⟨?_,?_,(h.mo.then_ hm (by simp)).then_ hm3 fun t ht=>.inr (hob t ht),?_,hlt⟩
 ·rw [List.take_add];exact ho
 ·rw [Int.natCast_add,← Int.add_assoc,← List.drop_drop];refine hr.step fun k hk=>hm3.keep k (by omega) fun hs=>?_;have:=hob k hs;omega
 ·rw [List.length_drop] at hl;omega
def PayPost (w:World) (rb sb:Nat) (off:Int) (av:List Int) (ε:Int) (size:Nat) (e:Ending) (w':World):Prop :=
 Mo [sb,rb] w w' ∧
  ((∃ A cap,blocks size * 512≤av.length∧(∀ x∈(av.take (blocks size * 512)).drop size,x=0)∧e=.returned (.tuple #[.slice A size cap,.int .i64 (off+(blocks size * 512:Nat)),.int .i64 0])∧size≤cap∧Kd.C (Kd.int .u8) w' A size (av.take size) ∧
    (0 < size→∃ g,A=some ⟨g,0,none⟩∧w.heap.size≤g∧g < w'.heap.size)∧Rd w' rb sb (off+(blocks size * 512:Nat)) (av.drop (blocks size * 512)) ε)
  ∨ (av.length < blocks size * 512∧e=.returned (.tuple #[.slice none 0 0,.int .i64 (off+av.length),.int .i64 (cutE ε)])∧∃ err,Rdr w' rb sb (off+av.length) err)
  ∨ (blocks size * 512≤av.length∧(∃ x∈(av.take (blocks size * 512)).drop size,x≠0)∧(∃ at_:Int,e=.returned (.tuple #[.slice none 0 0,.int .i64 at_,.int .i64 10]))∧∃ o err,Rdr w' rb sb o err))
set_option maxHeartbeats 8000000 in
theorem read_calls (w:World) (rb sb:Nat) (off:Int) (av:List Int) (ε:Int) (h:Rd w rb sb off av ε) (size:Nat) (hs:size≤1099511627776) (hav:av.length≤1000000000): Calls Tryz.prog 46 #[.pointer (some ⟨rb,0,none⟩),.int .i64 size] w (PayPost w rb sb off av ε size):=by
 have OC:=hid (offset_calls w rb sb off 0 h.rdr);have BC:=hid (blocks_calls size (by omega));have S0:=hid (Py.start h);have HAV:=hid hav;have g1:¬ (size:Int) < 0:=by omega
 have g2:¬ (size:Int) > 1099511627776:=by omega
 have HS:=hid hs;obtain ⟨K,hK⟩:∃ K,blocks size=K:=⟨_,rfl⟩;have HK:=hid hK;rw [hK] at BC;clear h hav hs hK;go_enter Tryz.func46,Tryz.ntmps46
 go_wp2_with fail
 refine OC.out.mono ?_;rintro e w' ⟨rfl,rfl⟩
 go_wp2_with fail
 refine (BC.out _).mono ?_;rintro e w' ⟨rfl,rfl⟩
 go_wp2_with fail
 go_loopw [8,9] (fun v n wr=>∃ V,V=v∧∃ p k:Nat,n=.int .i64 k∧Hid (p+k * 512=K * 512)∧Hid (Py w wr rb sb off av ε V p)) (fun _ n _=>(intOf n).toNat)
 case atStart=>exact ⟨_,rfl,0,K,rfl,hid (by omega),S0⟩
 case round =>
  clear S0;obtain ⟨v,rfl,p,k,rfl,HJK,HP⟩:=hrel;by_cases hk0:0 < k
  ·
   have hkz:(0:Int) < (k:Int):=by omega
   obtain ⟨k1,rfl⟩:∃ q,k=q+1:=⟨k - 1,by omega⟩;have hwk:wrap64 (k1:Int)=k1:=by have h1:=HJK.out;have h2:=HK.out;have h3:=HS.out;unfold blocks at h2;exact w64s (by omega) (by omega)
   clear hk0;by_cases hl:512≤(av.drop p).length
   ·
    as_aux_lemma =>
    have NC:=hid (next_ok wr rb sb _ _ ε HP.out.rd hl);have HL:=hid hl;clear hl
    go_wp2_with fail
    refine NC.out.mono ?_;rintro e w2 ⟨g,cap,rfl,ho,hr,hm⟩;have row2:=hid (own_mo HP.out.row hm (by
     have h1:=HP.out.lt;have h2:=HP.out.rd.ord;intro s hs;simp only [List.mem_cons,List.not_mem_nil,or_false] at hs;omega))
    have rd2:=hid ho.reads;have T:=hid (And.intro hr hm);have hb2:=hid (Nat.le_trans HP.out.mo.size hm.size);have hlen:p+512≤140737488355328:=by have h1:=HL.out;have h2:=HAV.out;rw [List.length_drop] at h1;omega
    have HLEN:=hid hlen;clear hr hm ho hlen NC
    go_wp2_with (at_builtin;refine append_any w2 w.heap.size rfl (.tmp 44) (.tmp 45) rfl v p (av.take p) (some ⟨g,0,none⟩) 512 cap ((av.drop p).take 512) rfl rfl row2.out rd2.out hb2.out HLEN.out ?_;intro v1 w3 ho3 hm3;replace ho3:=hid ho3;replace hm3:=hid hm3)
    go_roundw
    case rel=>exact ⟨v1,rfl,p+512,k1,by go_num,hid (by have:=HJK.out;omega),hid (HP.out.step HL.out T.out.1 T.out.2 ho3.out hm3.out)⟩
    case measure =>rw [hwk];simp only [intOf];omega
   ·
    as_aux_lemma =>
    have NC:=hid (next_end wr rb sb _ _ ε HP.out.rd (by omega));have HL:=hid hl;clear hl;obtain ⟨len,hlen⟩:∃ q,(av.drop p).length=q:=⟨_,rfl⟩;have FIN:Hid (av.length < K * 512∧off+(p:Int)+(len:Int)=off+av.length):=hid (by
     have h1:=HL.out;have h2:=HP.out.le;have h3:=HJK.out;rw [List.length_drop] at h1 hlen;omega)
    rw [hlen] at NC;have HE:=hid (Str.eps HP.out.rd.str);have HM:=hid HP.out.mo;clear HL;have key:∀ x:Int,endE len ε=x→(x=4∨x≠0∧x≠4)∧cutE ε=(if x=4 then 5 else x):=by
     intro x hx;rcases HE.out with rfl | rfl
     ·
      by_cases hz:0 < len
      ·rw [endE,if_pos ⟨rfl,hz⟩] at hx;subst hx;exact ⟨.inr ⟨by decide,by decide⟩,rfl⟩
      ·rw [endE,if_neg (fun h=>hz h.2)] at hx;subst hx;exact ⟨.inl rfl,rfl⟩
     ·rw [endE,if_neg (fun h=>absurd h.1 (by decide))] at hx;subst hx;exact ⟨.inr ⟨by decide,by decide⟩,rfl⟩
    obtain ⟨x,hx⟩:∃ x,endE len ε=x:=⟨_,rfl⟩;have HX:=hid (key x hx);rw [hx] at NC;clear key hx hlen
    go_wp2_with fail
    refine NC.out.mono ?_;rintro e w2 ⟨rfl,hr,hm⟩;have OC2:=hid (offset_calls w2 rb sb _ _ hr);have T:=hid (And.intro hr (HM.out.trans hm));clear hr hm NC;rcases HX.out.1 with rfl | ⟨hx0,hx4⟩
    ·
     as_aux_lemma =>
     have hcut:cutE ε=5:=HX.out.2
     go_wp2_with fail
     refine OC2.out.mono ?_;rintro e w3 ⟨rfl,rfl⟩
     go_wp2_with fail
     go_ret3
     refine ⟨T.out.2,.inr (.inl ⟨by rw [HK.out];exact FIN.out.1,?_,?_⟩)⟩
     ·rw [hcut,← FIN.out.2];rfl
     ·have h:=T.out.1;rw [FIN.out.2] at h;exact ⟨_,h⟩
    ·
     as_aux_lemma =>
     have hcut:cutE ε=x:=by rw [HX.out.2,if_neg hx4]
     have b0:(x == 0)=false:=beq_eq_false_iff_ne.2 hx0;have b4:(x == 4)=false:=beq_eq_false_iff_ne.2 hx4;clear hx0 hx4
     go_wp2_with fail
     refine OC2.out.mono ?_;rintro e w3 ⟨rfl,rfl⟩
     go_wp2_with fail
     go_ret3
     refine ⟨T.out.2,.inr (.inl ⟨by rw [HK.out];exact FIN.out.1,?_,?_⟩)⟩
     ·rw [hcut,← FIN.out.2];rfl
     ·have h:=T.out.1;rw [FIN.out.2] at h;exact ⟨_,h⟩
  ·
   obtain rfl:k=0:=by omega
   have hpK:p=K * 512:=by have:=HJK.out;omega
   clear hk0 HJK;have OC3:=hid (fun (W:World) (hW:W.heap=wr.heap)=>offset_calls W rb sb (off+p) 0 ⟨by rw [hW];exact HP.out.rd.rdr.blk⟩);have hle:=HP.out.le;have hszp:size≤p:=by have h1:=HK.out;unfold blocks at h1;omega
   have HPK:Hid (blocks size * 512=p):=hid (by rw [HK.out,hpK]);clear hpK;obtain ⟨A,c,rfl,hrd⟩:=own_reads HP.out.row;have hpc:p≤c:=own_le HP.out.row;have hC:Kd.C (Kd.int .u8) wr A p (av.take p):=Kd.C_of_reads (d:=(0:Int)) (h1:=fun _=>rfl) hrd;obtain ⟨A1,c1,hs2,eA,ec⟩:=ZSource.from_run A p c size hszp;have hC2:=ZSource.C_from hC size hszp hpc;rw [← eA] at hC2;have IX:=hid (index85 A1 (p - size) c1 ((av.take p).drop size) wr hC2 (by have:=HAV.out;omega));have HC:=hid (ZSource.C_to hC size hszp);have hsc:size≤c:=by omega
   have HLE:=hid (And.intro hle (And.intro hszp hpc));clear hrd hC hC2 eA ec hle hpc
   go_wp2_with fail
   refine IX.out.mono ?_;rintro e w2 ⟨r,rfl,hr,rfl⟩;have HR:=hid hr;clear hr IX;by_cases hr0:0≤r
   ·
    as_aux_lemma =>
    go_wp2_with fail
    go_ret3
    refine ⟨HP.out.mo,.inr (.inr ⟨by rw [HPK.out];exact HLE.out.1,?_,⟨_,rfl⟩,_,_,HP.out.rd.rdr⟩)⟩;rw [HPK.out];exact HR.out.1 hr0
   ·
    as_aux_lemma =>
    have HR0:=hid hr0;have hrz:¬ (0:Int)≤r:=hr0;clear hr0
    go_wp2_with fail
    go_region_with (go_at_call 48;refine (OC3.out _ ?_).mono ?_;exact rfl;rintro e w' ⟨rfl,rfl⟩)
    all_goals
     go_wp2
     go_ret3
     refine ⟨HP.out.mo.step (Below.refl _ _).drew,.inl ⟨A,c,by rw [HPK.out];exact HLE.out.1,?_,by rw [HPK.out];rfl,by omega,?_,fun h0=>?_,?_⟩⟩
     ·
      rw [HPK.out];intro x hx;rcases Decidable.em (x=0) with h1 | h1
      ·exact h1
      ·exact absurd (HR.out.2 ⟨x,hx,h1⟩) (by have:=HR0.out;omega)
     ·have h1:=HC.out;rw [List.take_take,Nat.min_eq_left hszp] at h1;exact Kd.C_drewN h1 1
     ·obtain ⟨g,cap',e1,_,_⟩:=World.ownsRow.form HP.out.row (by omega);simp only [Value.slice.injEq] at e1;exact ⟨g,e1.1,own_base HP.out.row g (by rw [e1.1];rfl),own_lt HP.out.row g (by rw [e1.1];rfl)⟩
     ·rw [HPK.out];exact HP.out.rd.step fun _ _=>rfl
end ZPay
end
end Go.Proofs.YteikiojmcipkmaaGreatDoor
