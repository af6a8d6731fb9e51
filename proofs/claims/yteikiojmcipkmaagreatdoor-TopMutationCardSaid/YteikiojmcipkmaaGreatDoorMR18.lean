/- Parts of the proof, gathered by a program: what calls of the functions answer, and what follows in plain lists. Conditions: those that each theorem states. -/
import Derived.Test.YteikiojmcipkmaaGreatDoorMR17
set_option linter.unusedVariables false
set_option linter.unusedSimpArgs false
namespace Go.Proofs.YteikiojmcipkmaaGreatDoor
open Go.Lib (hid)
set_option maxRecDepth 100000
section
namespace ZSize
open Go.RowKit YteikiojmcipkmaaGreatDoorW.PrintWords YteikiojmcipkmaaGreatDoorW.PrintLast YteikiojmcipkmaaGreatDoorW.PrintMore Oct ZBase ZGlob ZMo ZPath ZRec ZFit ZPlan
open Go.Lib (nDigits)
def digN (rest:Nat):Nat:=((List.range 20).find? fun d=>decide (nDigits (rest+(d+1))≤d+1)).getD 0+1
def Rec.rest (r:Rec):Nat:=r.key.size+r.val.size+3
def recSz (r:Rec):Nat:=Rec.rest r+digN (Rec.rest r)
theorem nDigits_mono {a b:Nat} (h:a≤b):nDigits a≤nDigits b:=by
 induction b using Nat.strongRecOn generalizing a with
 | _ b ih =>
  by_cases hb:b < 10
  ·rw [Go.Lib.nDigits_small hb,Go.Lib.nDigits_small (by omega)];exact Nat.le_refl _
  ·
   rw [Go.Lib.nDigits_big hb];by_cases ha:a < 10
   ·rw [Go.Lib.nDigits_small ha];omega
   ·rw [Go.Lib.nDigits_big ha];have:=ih (b / 10) (by omega) (a:=a / 10) (by omega);omega
theorem digN_of (rest d:Nat) (h1:1≤d) (h20:d≤20) (h2:nDigits (rest+d)≤d) (h3:∀ d',1≤d'→d' < d→d' < nDigits (rest+d')):digN rest=d:=by
 have:(List.range 20).find? (fun d=>decide (nDigits (rest+(d+1))≤d+1))=some (d - 1):=by
  rw [List.find?_range_eq_some];refine ⟨?_,?_,fun j hj=>?_⟩
  ·rw [show d - 1+1=d by omega];simpa using h2
  ·simp;omega
  ·have:=h3 (j+1) (by omega) (by omega);simp;omega
 rw [digN,this];simp;omega
theorem digN_spec (rest:Nat) (hr:rest < 1000000):1≤digN rest∧digN rest≤7∧nDigits (rest+digN rest)=digN rest:=by
 obtain ⟨d,h1,h2,h3,h4⟩:∃ d,1≤d∧d≤7∧nDigits (rest+d)≤d∧∀ d',1≤d'→d' < d→d' < nDigits (rest+d'):=by
  have hex:∃ d,1≤d∧d≤7∧nDigits (rest+d)≤d:=by refine ⟨7,by decide,by decide,?_⟩;have h:=nDigits_mono (show rest+7≤9999999 by omega);have h2:nDigits 9999999=7:=Go.Lib.nDigits_unique 6 _ (by decide) (by decide);omega
  clear hr;have key:∀ n,(∃ d,1≤d∧d≤7∧nDigits (rest+d)≤d∧d≤n)→∃ d,1≤d∧d≤7∧nDigits (rest+d)≤d∧∀ d',1≤d'→d' < d→d' < nDigits (rest+d'):=by
   intro n
   induction n with
   | zero=>rintro ⟨d,h1,_,_,h4⟩;omega
   | succ n ih =>
    rintro ⟨d,h1,h2,h3,h4⟩;by_cases hc:∃ d',1≤d'∧d' < d∧¬ d' < nDigits (rest+d')
    ·obtain ⟨d',g1,g2,g3⟩:=hc;exact ih ⟨d',g1,by omega,by omega,by omega⟩
    ·refine ⟨d,h1,h2,h3,fun d' g1 g2=>?_⟩;exact Classical.byContradiction fun hn=>hc ⟨d',g1,g2,hn⟩
  obtain ⟨d,h1,h2,h3⟩:=hex;exact key d ⟨d,h1,h2,h3,Nat.le_refl _⟩
 rw [digN_of rest d h1 (by omega) h3 h4];refine ⟨h1,h2,Nat.le_antisymm h3 ?_⟩;by_cases hd:d=1
 ·subst hd;exact Go.Lib.nDigits_pos _
 ·have g:=h4 (d - 1) (by omega) (by omega);have g2:=nDigits_mono (show rest+(d - 1)≤rest+d by omega);omega
theorem itoa_calls (n:Nat) (hn:n≤9223372036854775807) (w:World) (hG:Gl w):Calls Tryz.prog 161 #[.int .i64 n] w fun e w'=>∃ s:ByteArray,e=.returned (.string s)∧s.size=nDigits n∧Below w.heap.size w w':=by
 refine (Tryz.strconv_Itoa n (by omega) (by omega) w hG.pow10).mono ?_;rintro e w' ⟨rfl,k,os,rfl⟩;refine ⟨_,rfl,?_,?_⟩
 ·show (Lib.itoa (n:Int)).toArray.size=_;rw [Lib.itoa_nonneg,List.size_toArray,Lib.decDigits_length]
 ·refine ⟨rfl,rfl,rfl,by simp [Sort.grow],fun j hj=>?_⟩;simp only [Sort.grow];rw [Array.getElem?_append_left (by simpa using hj)];rfl
set_option maxHeartbeats 2000000 in
theorem size_calls (r:Rec) (hr:Rec.rest r < 1000000) (w:World) (hG:Gl w):Calls Tryz.prog 135 #[.agg r.cells] w fun e w'=>e=.returned (.int .i64 (recSz r))∧Below w.heap.size w w':=by
 have HR:=hid hr;obtain ⟨key,val⟩:=r;unfold Rec.rest at hr HR;have hds:=digN_spec (key.size+val.size+3) hr;have IC:=hid itoa_calls;obtain ⟨rest,hrest⟩:∃ n:Nat,(key.size:Int)+(val.size:Int)+3=(n:Int):=⟨key.size+val.size+3,by omega⟩;have HE:Hid (recSz ⟨key,val⟩=rest+digN rest∧rest < 1000000∧digN rest≤7):=hid (by
  have e:key.size+val.size+3=rest:=by omega
  have h2:=hds.2.1;rw [e] at h2;unfold recSz Rec.rest;dsimp only at hr ⊢;rw [e];exact ⟨rfl,by omega,h2⟩)
 have hk:(key.size:Int)≤1000000:=by dsimp only at hr;omega
 have hv:(val.size:Int)≤1000000:=by dsimp only at hr;omega
 have hrb:rest < 1000000:=HE.out.2.1;unfold Rec.cells;have BL:=hid (below_alloc (Below.refl w.heap.size w) (.cells #[.string key,.string val] 125));have HG:=hid hG;clear hr hds hG HR;go_enter Tryz.func135,Tryz.ntmps135
 go_wp2_with fail
 clear hrest
 go_loopw [4,5] (fun n d wr=>∃ k:Nat,1≤k∧k≤digN rest∧n=.int .i64 (rest+k:Nat)∧d=.int .i64 k∧Below w.heap.size w wr) (fun _ d _=>10 - (intOf d).toNat)
 case atStart=>exact ⟨1,by decide,by unfold digN;omega,by go_num,rfl,BL.out⟩
 case round =>
  obtain ⟨k,hk1,hk2,rfl,rfl,hb⟩:=hrel;have h7:=HE.out.2.2;have C:=hid (IC.out (rest+k) (by omega) wr (HG.out.below hb));have HB:=hid hb;have HK:=hid (And.intro hk1 hk2);clear hb hk2 h7
  go_wp2_with fail
  refine C.out.mono ?_;rintro e w1 ⟨s,rfl,hs,hb1⟩;have B1:=hid (below_step HB.out hb1);have HS:=hid hs;clear hs hb1;by_cases hlt:k < s.size
  ·
   have hlz:(k:Int) < (s.size:Int):=by omega
   have h7:=HE.out.2.2;have hk2:=HK.out.2;have hk10:k≤7:=by omega
   clear h7 hk2
   go_wp2_with fail
   go_roundw
   case rel =>
    have hsp:=digN_spec rest HE.out.2.1;refine ⟨k+1,by omega,?_,by go_num,by go_num,B1.out⟩;have hk2:=HK.out.2;rcases Nat.lt_or_ge k (digN rest) with h | h
    ·omega
    ·
     have e:k=digN rest:=by omega
     have h2:=hsp.2.2;rw [← e] at h2;have:=HS.out;omega
   case measure=>simp [intOf];omega
  ·
   have hlz:¬ (k:Int) < (s.size:Int):=by omega
   go_wp2_with fail
   go_ret;refine ⟨?_,B1.out⟩;have h2:digN rest=k:=by
    have hsp:=digN_spec rest HE.out.2.1;have hk:=HK.out;have hS:=HS.out;rcases Nat.lt_or_ge k (digN rest) with h | h
    ·
     exfalso;have hk1:=hk.1;have:digN rest≤k:=by
      unfold digN;cases hf:(List.range 20).find? (fun d=>decide (nDigits (rest+(d+1))≤d+1)) with
      | none =>have:=List.find?_eq_none.1 hf (k - 1) (by simp;omega);rw [show k - 1+1=k by omega] at this;simp at this;omega
      | some d =>
       obtain ⟨_,_,hmin⟩:=List.find?_range_eq_some.1 hf;simp only [Option.getD_some];rcases Nat.lt_or_ge (k - 1) d with h5 | h5
       ·have:=hmin (k - 1) h5;rw [show k - 1+1=k by omega] at this;simp at this;omega
       ·omega
     omega
    ·omega
   rw [HE.out.1,h2];rfl
end ZSize
namespace ZFmt
open Go.RowKit YteikiojmcipkmaaGreatDoorW.PrintWords YteikiojmcipkmaaGreatDoorW.PrintLast YteikiojmcipkmaaGreatDoorW.PrintMore Oct ZBase ZGlob ZMo ZPath ZRec ZFit ZPlan ZSize
def decB (n:Nat):List Int:=(Lib.decDigits n).map fun b=>(b.toNat:Int)
def recB (r:Rec):List Int:=decB (recSz r)++(32 :: (bytesOf r.key++(61 :: (bytesOf r.val++[10]))))
def fmtB (l:List Rec):List Int:=l.flatMap recB
structure RecAt (w:World) (g:Nat) (l:List Rec):Prop where
 lt:g < w.heap.size
 cell:∀ (i:Nat) (r:Rec),l[i]?=some r→w.cell? ⟨g,i * 2,none⟩=some (.string r.key)∧w.cell? ⟨g,i * 2+1,none⟩=some (.string r.val)
theorem RecAt.of {w w1:World} {g:Nat} {l:List Rec} (h:RecAt w g l) (hb:w1.heap[g]?=w.heap[g]?):RecAt w1 g l:=by
 refine ⟨?_,fun i r hi=>?_⟩
 ·have e:w.heap[g]?=some (w.heap[g]'h.lt):=Array.getElem?_eq_getElem h.lt;rw [e] at hb;exact (Array.getElem?_eq_some_iff.1 hb).1
 ·have h1:=h.cell i r hi;exact ⟨(cell_of_heap (p:=⟨g,i * 2,none⟩) hb).trans h1.1,(cell_of_heap (p:=⟨g,i * 2+1,none⟩) hb).trans h1.2⟩
theorem RecRow.at_ {w:World} {base:Nat} {v:Value} {l:List Rec} (h:RecRow w base v l) (hl:0 < l.length):∃ g cap,v=.slice (some ⟨g,0,none⟩) l.length cap∧base≤g∧l.length≤cap∧RecAt w g l:=by
 obtain ⟨A,c,rfl,hc,hr⟩:=Kd.R_reads h;obtain ⟨inner,ho⟩:=Kd.R_own h;obtain ⟨g,cap,e,h1,h2⟩:=World.ownsRow.form ho hl;cases e;refine ⟨g,c,rfl,h1,hc,h2,fun i r hi=>?_⟩;obtain ⟨hil,hir⟩:=List.getElem?_eq_some_iff.1 hi;obtain ⟨ad,cs,e,hcl,hK,hcell⟩:=Kd.C_get hr (default:Rec) (i:Int) (by omega) (by omega);cases e;obtain ⟨c0,c1,rfl,h3,h4⟩:=hK;have h3:c0=[.string ((l.getD i default).key)]:=h3;have h4:c1=[.string ((l.getD i default).val)]:=h4;subst h3 h4;rw [List.getD_eq_getElem?_getD,hi] at hcell;have e2:recKd.sz=2:=rfl;rw [e2,Int.toNat_natCast] at hcell;have a0:=hcell 0 _ rfl;have a1:=hcell 1 _ rfl;have p:∀ n,(⟨g,0,none⟩:Addr).add n=⟨g,n,none⟩:=fun n=>by rw [Go.WideShapes.add_plain,Nat.zero_add]
 rw [p] at a0 a1;exact ⟨a0,a1⟩
def OwnB (w:World) (base:Nat) (v:Value) (l:List Int):Prop:=w.ownsRow base 5 1 v l.length (nums .u8 l)
theorem OwnB.own {w:World} {base:Nat} {v:Value} {l:List Int} (h:OwnB w base v l) (hl:0 < l.length):∃ g cap,v=.slice (some ⟨g,0,none⟩) l.length cap∧ZBase.Own w base g cap l.length l:=by obtain ⟨g,cap,rfl,h1,h2⟩:=World.ownsRow.form h hl;exact ⟨g,cap,rfl,⟨h⟩⟩
theorem decB_len (n:Nat):(decB n).length=Go.Lib.nDigits n:=by simp [decB,Lib.decDigits_length]
theorem cells_dec (n:Nat):Lib.byteCells (Lib.itoa (n:Int))=nums .u8 (decB n):=by rw [Lib.itoa_nonneg];simp [Lib.byteCells,nums,decB]
theorem append_calls (n:Nat) (hn:n≤9223372036854775807) (B:Nat) (v:Value) (l:List Int) (w:World) (ho:OwnB w B v l) (hB:B≤w.heap.size) (hl:l.length≤1000000) (ht:∀ w1,Below B w w1→Gl w1): Calls Tryz.prog 134 #[v,.int .i64 n,.int .i64 10] w fun e w'=>∃ v',e=.returned v'∧OwnB w' B v' (l++decB n)∧Below B w w'∧Lib.OthersKept 5 none w w':=by
 refine (Tryz.strconv_AppendInt_10 B l.length n (by omega) (by omega) v (nums .u8 l) w ho hB (by omega) (fun w1 h=>(ht w1 h).pow10)).mono ?_;rintro e w' ⟨v',rfl,h1,h2,h3⟩;refine ⟨v',rfl,?_,h2,h3⟩;unfold OwnB;rw [cells_dec] at h1;rw [List.length_append,decB_len,nums_append];rw [Lib.itoa_nonneg,Lib.decDigits_length] at h1;exact h1
structure RecsOk (l:List Rec):Prop where
 key:∀ r∈l,r.key=sLink∨r.key=sPath
 val:∀ r∈l,valOk r.val
 asc:∀ (i:Nat) (r q:Rec),l[i]?=some r→l[i+1]?=some q→(Op.bytesLess q.key.toList r.key.toList || q.key.toList == r.key.toList)=false
theorem RecsOk.rest {l:List Rec} (h:RecsOk l) {r:Rec} (hr:r∈l):Rec.rest r≤65547:=by
 have h1:=(h.val r hr).1;unfold Rec.rest;rcases h.key r hr with e | e
 ·rw [e];have:sLink.size=8:=rfl;omega
 ·rw [e];have:sPath.size=4:=rfl;omega
theorem recB_len (r:Rec) (hr:Rec.rest r < 1000000):(recB r).length=recSz r:=by have:=digN_spec _ hr;unfold recB;simp only [List.length_append,List.length_cons,List.length_nil,bytesOf_length,decB_len];unfold recSz at *;rw [this.2.2];unfold Rec.rest;omega
theorem line_bytes (key val:ByteArray):bytesOf (⟨#[32]⟩++key++⟨#[61]⟩++val++⟨#[10]⟩:ByteArray)=32 :: (bytesOf key++(61 :: (bytesOf val++[10]))):=by simp [bytesOf]
theorem line_size (key val:ByteArray):(⟨#[32]⟩++key++⟨#[61]⟩++val++⟨#[10]⟩:ByteArray).size=key.size+val.size+3:=by have:=congrArg List.length (line_bytes key val);rw [bytesOf_length] at this;simp [bytesOf_length] at this;simp;omega
theorem fmt_take {l:List Rec} {j:Nat} {r:Rec} (h:l[j]?=some r):fmtB (l.take (j+1))=(fmtB (l.take j)++decB (recSz r))++(32 :: (bytesOf r.key++(61 :: (bytesOf r.val++[10])))):=by rw [List.take_add_one,h];unfold fmtB;rw [List.flatMap_append];simp [recB]
theorem fmtB_le (l:List Rec) (h:∀ r∈l,Rec.rest r≤65547):(fmtB l).length≤l.length * 65554:=by
 induction l with
 | nil=>simp [fmtB]
 | cons r l ih =>
  have h1:=h r (by simp);have h2:=digN_spec (Rec.rest r) (by omega);have h3:=ih fun q hq=>h q (by simp [hq]);have e:(fmtB (r :: l)).length=(recB r).length+(fmtB l).length:=by simp [fmtB]
  rw [e,recB_len r (by omega),List.length_cons];unfold recSz;omega
theorem fmt_len {l:List Rec} (h:RecsOk l) (hn:l.length≤3) (j:Nat):(fmtB (l.take j)).length≤200000:=by have h1:=fmtB_le (l.take j) fun r hr=>h.rest (List.mem_of_mem_take hr);rw [List.length_take] at h1;omega
set_option maxHeartbeats 4000000 in
theorem format_calls (g cap:Nat) (l:List Rec) (hl:RecsOk l) (hn:l.length≤3) (hcap:l.length≤cap) (w:World) (hG:Gl w) (hR:RecAt w g l):Calls Tryz.prog 93 #[.slice (some ⟨g,0,none⟩) l.length cap] w fun e w'=>∃ v,e=.returned (.tuple #[v,.int .i64 0])∧OwnB w' w.heap.size v (fmtB l)∧Below w.heap.size w w':=by
 have HL:=hid hl;have HN:=hid hn;have HG:=hid hG;have HR:=hid hR;have CC:=hid (fun k v hk W hW=>ZRec.check_calls k v hk W hW);have SC:=hid ZSize.size_calls;have AC:=hid append_calls;clear hl hG hR;go_enter Tryz.func93,Tryz.ntmps93
 go_wp2_with fail
 go_loopw [4,10] (fun v i wr=>∃ j:Nat,j≤l.length∧i=.int .i64 j∧Hid (OwnB wr w.heap.size v (fmtB (l.take j))∧Below w.heap.size w wr)) (fun _ i _=>l.length - (intOf i).toNat)
 case atStart=>exact ⟨0,Nat.zero_le _,rfl,by simp [fmtB];exact own_nil _ _ _ _,Below.refl _ _⟩
 case round =>
  obtain ⟨j,hj,rfl,HS⟩:=hrel;by_cases hlt:j < l.length
  ·
   have hltz:(j:Int) < (l.length:Int):=by omega
   obtain ⟨r,hr⟩:∃ r,l[j]?=some r:=⟨_,List.getElem?_eq_getElem hlt⟩;have hm:r∈l:=List.mem_of_getElem? hr;have R1:=HR.out.of (HS.out.2.block _ HR.out.lt);obtain ⟨c0,c1⟩:=R1.cell j r hr;have HRR:=hid (And.intro hr hm);clear hr hm R1;obtain ⟨key,val⟩:=r;dsimp only at c0 c1;have G1:=hid (gl1 (HG.out.below HS.out.2) (.cells #[.string key,.string val] 125));have hkey:=HL.out.key _ HRR.out.2;have hval:=HL.out.val _ HRR.out.2;have hrest:=HL.out.rest HRR.out.2;dsimp only at hkey hval;have C1:=hid (CC.out key val hkey _ G1.out);have HV:=hid (And.intro hkey (And.intro hval hrest));clear hkey hval hrest
   go_wp2_with fail
   refine C1.out.mono ?_;rintro e w1 ⟨x,rfl,hx,hb1⟩;have hx0:=hx.2 HV.out.2.1;subst hx0;have bx:((0:Int) != 0)=false:=rfl;have B1:=hid (show Below wr.heap.size wr w1 from after1 hb1);have H1:=hid ((hb1.block _ (by simp)).trans (heap_alloc_new wr (.cells #[.string key,.string val] 125)));obtain ⟨d0,d1⟩:w1.cell? ⟨wr.heap.size,0,none⟩=some (.string key)∧w1.cell? ⟨wr.heap.size,1,none⟩=some (.string val):=by simp [World.cell?,H1.out]
   have R1:=HR.out.of ((B1.out.block _ (Nat.lt_of_lt_of_le HR.out.lt HS.out.2.size)).trans (HS.out.2.block _ HR.out.lt));clear hx hb1 c0 c1;by_cases hj0:0 < j
   ·
    have hj0z:(0:Int) < (j:Int):=by omega
    obtain ⟨i,hi⟩:∃ i:Nat,(j:Int) - 1=(i:Int):=⟨j - 1,by omega⟩;have hij:j=i+1:=by omega
    obtain ⟨q,hq⟩:∃ q,l[i]?=some q:=⟨_,List.getElem?_eq_getElem (by omega)⟩;have hasc:=HL.out.asc i q _ hq (hij ▸ HRR.out.1);obtain ⟨e0,e1⟩:=R1.cell i q hq;dsimp only at hasc;obtain ⟨qk,qv⟩:=q;have w2:IntKind.i64.wrap ((i:Int))=(i:Int):=by rw [IntKind.wrap_i64];omega
    have b3:(i:Int) < (l.length:Int):=by omega
    clear hq R1 hij
    go_wp2_with fail
    repeat (go_quiet (fail);try go_wp2_with fail)
    have HS1:=hid (And.intro (pw_own_below HS.out.1 B1.out) (below_step HS.out.2 B1.out));have C2:=hid (fun q=>SC.out ⟨key,val⟩ (by have:=HV.out.2.2;omega) (w1.drewN q) (HG.out.below (pw_below_drewN HS1.out.2 q)));unfold Rec.cells at C2;refine (C2.out _).mono ?_;rintro e w2 ⟨rfl,hb2⟩;have HSZ:=hid (show recSz ⟨key,val⟩≤70000 by have h1:=HV.out.2.2;have h2:=digN_spec (Rec.rest ⟨key,val⟩) (by omega);unfold recSz;omega)
    have B2:=hid (show Below w1.heap.size w1 w2 from (pw_below_drewN (Below.refl _ _) _).trans hb2);clear hb2;have HS2:=hid (And.intro (pw_own_below HS1.out.1 B2.out) (below_step HS1.out.2 B2.out));have H2:=hid ((B2.out.block _ (blk_lt H1.out)).trans H1.out);have C3:=hid (AC.out (recSz ⟨key,val⟩) (by have:=HSZ.out;omega) w.heap.size _ _ w2 HS2.out.1 HS2.out.2.size (by
     have h1:=fmt_len HL.out HN.out j;omega) (fun w1 h=>HG.out.below (HS2.out.2.trans h)))
    clear d0 d1
    go_wp2_with fail
    refine C3.out.mono ?_;rintro e w3 ⟨v3,rfl,ho3,hb3,hk3⟩;have H3:=hid (hk3 _ _ H2.out (by simp) (fun c fz h=>by cases h));obtain ⟨d0,d1⟩:w3.cell? ⟨wr.heap.size,0,none⟩=some (.string key)∧w3.cell? ⟨wr.heap.size,1,none⟩=some (.string val):=by simp [World.cell?,H3.out]
    have HS3:=hid (And.intro ho3 (HS2.out.2.trans hb3));clear ho3 hb3 hk3;have hlen3:Hid ((fmtB (l.take j)++decB (recSz ⟨key,val⟩)).length+200000≤140737488355328):=hid (by
     have h1:=fmt_len HL.out HN.out j;have h2:=decB_len (recSz ⟨key,val⟩);have h3:Lib.nDigits (recSz ⟨key,val⟩)≤7:=by have h4:=HV.out.2.2;have h5:=digN_spec (Rec.rest ⟨key,val⟩) (by omega);unfold recSz;omega
     rw [List.length_append];omega)
    have hkv:key.size+val.size≤100000:=by have h4:=HV.out.2.2;unfold Rec.rest at h4;dsimp only at h4;omega
    have hlen:Hid ((fmtB (l.take j)++decB (recSz ⟨key,val⟩)).length+(⟨#[32]⟩++key++⟨#[61]⟩++val++⟨#[10]⟩:ByteArray).size≤140737488355328):=hid (by
     have h1:=hlen3.out;have h2:(⟨#[32]⟩++key++⟨#[61]⟩++val++⟨#[10]⟩:ByteArray).size=key.size+val.size+3:=line_size key val;rw [h2];omega)
    go_wp2_with (at_builtin;refine print_append_str (w0:=w) w.heap.size rfl (.tmp 37) (.tmp 45) 30 9 5 rfl Tryz.underlying30 Tryz.underlying9 info5 _ _ _ rfl rfl HS3.out.1 HS3.out.2 HS3.out.2.size hlen.out ?_;intro v4 w4 ho4 hb4 _;replace ho4:=hid ho4;replace hb4:=hid hb4)
    go_roundw
    case rel=>exact ⟨j+1,by omega,by go_num,by
     rw [line_bytes] at ho4;rw [fmt_take HRR.out.1];exact ho4.out,hb4.out⟩
    case measure=>simp [intOf];omega
   ·
    have hj0z:¬ (0:Int) < (j:Int):=by omega
    have hdec:decide ((0:Int) < (j:Int))=false:=decide_eq_false hj0z
    go_wp2_with fail
    repeat (go_quiet (fail);try go_wp2_with fail)
    have HS1:=hid (And.intro (pw_own_below HS.out.1 B1.out) (below_step HS.out.2 B1.out));have C2:=hid (fun q=>SC.out ⟨key,val⟩ (by have:=HV.out.2.2;omega) (w1.drewN q) (HG.out.below (pw_below_drewN HS1.out.2 q)));unfold Rec.cells at C2;refine (C2.out _).mono ?_;rintro e w2 ⟨rfl,hb2⟩;have HSZ:=hid (show recSz ⟨key,val⟩≤70000 by have h1:=HV.out.2.2;have h2:=digN_spec (Rec.rest ⟨key,val⟩) (by omega);unfold recSz;omega)
    have B2:=hid (show Below w1.heap.size w1 w2 from (pw_below_drewN (Below.refl _ _) _).trans hb2);clear hb2;have HS2:=hid (And.intro (pw_own_below HS1.out.1 B2.out) (below_step HS1.out.2 B2.out));have H2:=hid ((B2.out.block _ (blk_lt H1.out)).trans H1.out);have C3:=hid (AC.out (recSz ⟨key,val⟩) (by have:=HSZ.out;omega) w.heap.size _ _ w2 HS2.out.1 HS2.out.2.size (by
     have h1:=fmt_len HL.out HN.out j;omega) (fun w1 h=>HG.out.below (HS2.out.2.trans h)))
    clear d0 d1
    go_wp2_with fail
    refine C3.out.mono ?_;rintro e w3 ⟨v3,rfl,ho3,hb3,hk3⟩;have H3:=hid (hk3 _ _ H2.out (by simp) (fun c fz h=>by cases h));obtain ⟨d0,d1⟩:w3.cell? ⟨wr.heap.size,0,none⟩=some (.string key)∧w3.cell? ⟨wr.heap.size,1,none⟩=some (.string val):=by simp [World.cell?,H3.out]
    have HS3:=hid (And.intro ho3 (HS2.out.2.trans hb3));clear ho3 hb3 hk3;have hlen3:Hid ((fmtB (l.take j)++decB (recSz ⟨key,val⟩)).length+200000≤140737488355328):=hid (by
     have h1:=fmt_len HL.out HN.out j;have h2:=decB_len (recSz ⟨key,val⟩);have h3:Lib.nDigits (recSz ⟨key,val⟩)≤7:=by have h4:=HV.out.2.2;have h5:=digN_spec (Rec.rest ⟨key,val⟩) (by omega);unfold recSz;omega
     rw [List.length_append];omega)
    have hkv:key.size+val.size≤100000:=by have h4:=HV.out.2.2;unfold Rec.rest at h4;dsimp only at h4;omega
    have hlen:Hid ((fmtB (l.take j)++decB (recSz ⟨key,val⟩)).length+(⟨#[32]⟩++key++⟨#[61]⟩++val++⟨#[10]⟩:ByteArray).size≤140737488355328):=hid (by
     have h1:=hlen3.out;have h2:(⟨#[32]⟩++key++⟨#[61]⟩++val++⟨#[10]⟩:ByteArray).size=key.size+val.size+3:=line_size key val;rw [h2];omega)
    go_wp2_with (at_builtin;refine print_append_str (w0:=w) w.heap.size rfl (.tmp 37) (.tmp 45) 30 9 5 rfl Tryz.underlying30 Tryz.underlying9 info5 _ _ _ rfl rfl HS3.out.1 HS3.out.2 HS3.out.2.size hlen.out ?_;intro v4 w4 ho4 hb4 _;replace ho4:=hid ho4;replace hb4:=hid hb4)
    go_roundw
    case rel=>exact ⟨j+1,by omega,by go_num,by
     rw [line_bytes] at ho4;rw [fmt_take HRR.out.1];exact ho4.out,hb4.out⟩
    case measure=>simp [intOf];omega
  ·
   obtain rfl:j=l.length:=by omega
   go_wp2_with fail
   go_ret2
   have h:=HS.out;rw [List.take_length] at h;exact ⟨_,rfl,h.1,h.2⟩
end ZFmt
namespace ZPlanOk
open Go.RowKit YteikiojmcipkmaaGreatDoorW.PrintWords YteikiojmcipkmaaGreatDoorW.PrintLast YteikiojmcipkmaaGreatDoorW.PrintMore Oct ZBase ZGlob ZMo ZPath ZRec ZFit ZPlan ZSize ZFmt ZCheck ZCstr
theorem index_neg (l:List UInt8) (c:UInt8):Lib.indexByte l c=-1↔c∉l:=by
 induction l with
 | nil=>simp [Lib.indexByte]
 | cons x l ih =>
  have hg:=Lib.indexByte_ge l c;rw [indexByte_cons];by_cases hx:x=c
  ·subst hx;simp
  ·
   rw [if_neg hx];by_cases hl:Lib.indexByte l c=-1
   ·rw [if_pos hl];have:=ih.1 hl;simp [this];exact fun e=>hx e.symm
   ·
    rw [if_neg hl];have h2:c∈l:=Classical.byContradiction fun hn=>hl (ih.2 hn);constructor
    ·intro h;omega
    ·intro h;exact absurd (List.mem_cons_of_mem _ h2) h
theorem index_lt (l:List UInt8) (c:UInt8):Lib.indexByte l c < 0↔c∉l:=by rw [← index_neg];have hg:=Lib.indexByte_ge l c;omega
theorem noNul_iff (s:ByteArray):noNul s↔(0:UInt8)∉s.data.toList:=index_neg _ _
theorem mem_comps (l:List UInt8) (x:UInt8) (h:x∈l):x=47∨∃ c∈comps l,x∈c:=by
 induction l with
 | nil=>cases h
 | cons y l ih =>
  have hne:=comps_ne l;by_cases hy:y=47
  ·
   rcases List.mem_cons.1 h with h | h
   ·exact .inl (h.trans hy)
   ·
    rcases ih h with h2 | ⟨c,h2,h3⟩
    ·exact .inl h2
    ·refine .inr ⟨c,?_,h3⟩;rw [comps,if_pos hy];exact List.mem_cons_of_mem _ h2
  ·
   rw [comps,if_neg hy];cases hc:comps l with
   | nil=>exact absurd hc hne
   | cons c cs =>
    rcases List.mem_cons.1 h with h | h
    ·exact .inr ⟨y :: c,by simp,by simp [h]⟩
    ·
     rcases ih h with h2 | ⟨d,h2,h3⟩
     ·exact .inl h2
     ·
      rw [hc] at h2;rcases List.mem_cons.1 h2 with h4 | h4
      ·exact .inr ⟨y :: c,by simp,by simp [← h4,h3]⟩
      ·exact .inr ⟨d,by simp [h4],h3⟩
theorem okPath_nul {p:ByteArray} (h:okPath p):(0:UInt8)∉p.data.toList:=by
 intro hm;rcases mem_comps _ _ hm with h1 | ⟨c,h1,h2⟩
 ·cases h1
 ·have:=(h.2 ⟨c.toArray⟩ (List.mem_map.2 ⟨c,h1,rfl⟩)).2.2.2;rw [index_lt] at this;exact this h2
theorem extract_nul {p:ByteArray} (h:(0:UInt8)∉p.data.toList) (a b:Nat):(0:UInt8)∉(p.extract a b).data.toList:=by intro hm;apply h;rw [ByteArray.data_extract,Array.toList_extract] at hm;exact List.mem_of_mem_drop (List.mem_of_mem_take hm)
theorem nul_empty:(0:UInt8)∉(⟨#[]⟩:ByteArray).data.toList:=by simp
theorem split_ok {p:ByteArray} (h:okPath p):noNul (splitP p).1∧(splitP p).1.size≤155∧noNul (splitP p).2.1∧(splitP p).2.1.size≤100∧((splitP p).2.2=false→100 < p.size):=by
 have hn:=okPath_nul h;rw [noNul_iff,noNul_iff];by_cases h1:p.size≤100
 ·
  have e:splitP p=(⟨#[]⟩,p,true):=by rw [splitP,if_pos h1]
  rw [e];exact ⟨nul_empty,Nat.zero_le 155,hn,h1,fun h=>by cases h⟩
 ·
  obtain ⟨i,hi⟩:∃ i,Lib.indexByte (p.extract (max 1 (p.size - 101)) p.size).data.toList 47=i:=⟨_,rfl⟩;have e:splitP p=if i < 0∨((max 1 (p.size - 101):Nat):Int)+i > 155∨((max 1 (p.size - 101):Nat):Int)+i=(p.size:Int) - 1 then (⟨#[]⟩,⟨#[]⟩,false) else (p.extract 0 (((max 1 (p.size - 101):Nat):Int)+i).toNat,p.extract (((max 1 (p.size - 101):Nat):Int)+i+1).toNat p.size,true):=by rw [splitP,if_neg h1,hi]
  rw [e];split
  ·exact ⟨nul_empty,by decide,nul_empty,by decide,fun _=>by omega⟩
  ·
   rename_i hc;refine ⟨extract_nul hn _ _,?_,extract_nul hn _ _,?_,fun h=>by cases h⟩
   ·rw [ByteArray.size_extract];omega
   ·rw [ByteArray.size_extract];omega
theorem planH_ok {e:Ent} (h:e.Ok) (hs:e.size≤8589934591):(planH e).Ok:=by
 obtain ⟨s1,s2,s3,s4,_⟩:=split_ok h.path;have hz:0≤e.size:=by have:=h.size;unfold sizeOk at this;split at this <;> omega
 refine ⟨?_,⟨s3,s4⟩,?_,⟨s1,s2⟩,h.mode,?_⟩
 ·
  simp only [planH,typOf]
  repeat' split
  all_goals omega
 ·
  simp only [planH];by_cases ht:e.target.size≤100
  ·
   rw [if_pos ht];refine ⟨?_,ht⟩;rw [noNul_iff];have:=h.target;unfold targetOk at this;split at this
   ·exact okPath_nul this
   ·
    split at this
    ·exact (index_lt _ _).1 this.2.2
    ·rw [this];exact nul_empty
  ·rw [if_neg ht];exact ⟨by rw [noNul_iff];exact nul_empty,by decide⟩
 ·simp only [planH];rw [if_pos hs];exact ⟨hz,hs⟩
theorem okPath_val {p:ByteArray} (h:okPath p) (h1:0 < p.size):valOk p :=
 ⟨h.1,(fun e=>by rw [e] at h1;cases h1),(index_lt _ _).2 (okPath_nul h)⟩
theorem planR_ok {e:Ent} (h:e.Ok) (hs:e.size≤8589934591):RecsOk (planR e)∧(planR e).length≤2:=by
 have hl:100 < e.target.size→valOk e.target:=fun hgt=>by
  have:=h.target;unfold targetOk at this;split at this
  ·exact okPath_val this (by omega)
  ·
   split at this
   ·exact this
   ·rw [this] at hgt;cases hgt
 have hp:(splitP e.path).2.2=false→valOk e.path:=fun hf=>okPath_val h.path (by have:=(split_ok h.path).2.2.2.2 hf;omega);have hasc:(Op.bytesLess sPath.toList sLink.toList || sPath.toList == sLink.toList)=false:=by rw [ByteArray.toList_eq,ByteArray.toList_eq];decide
 have none_asc:∀ (r0:Rec) (i:Nat) (r q:Rec),[r0][i]?=some r→[r0][i+1]?=some q→(Op.bytesLess q.key.toList r.key.toList || q.key.toList == r.key.toList)=false:=fun r0 i r q h1 h2=>by simp at h2
 unfold planR;rw [if_pos hs,List.append_nil];by_cases ht:e.target.size≤100
 ·
  rw [if_pos ht,List.nil_append];cases hk:(splitP e.path).2.2 with
  | true =>rw [if_pos rfl];exact ⟨⟨by simp,by simp,by simp⟩,by simp⟩
  | false =>rw [if_neg (by decide)];exact ⟨⟨by simp,by simpa using hp hk,none_asc _⟩,by simp⟩
 ·
  rw [if_neg ht];cases hk:(splitP e.path).2.2 with
  | true =>rw [if_pos rfl,List.append_nil];exact ⟨⟨by simp,by simpa using hl (by omega),none_asc _⟩,by simp⟩
  | false =>
   rw [if_neg (by decide)];refine ⟨⟨by simp,?_,?_⟩,by simp⟩
   ·
    simp only [List.cons_append,List.nil_append,List.mem_cons,List.not_mem_nil,or_false];rintro r (rfl | rfl)
    ·exact hl (by omega)
    ·exact hp hk
   ·
    intro i r q h1 h2;cases i with
    | zero =>simp at h1 h2;subst h1 h2;exact hasc
    | succ i=>simp at h2
end ZPlanOk
namespace ZJoin
open Go ZPath ZFit ZPlan ZRec ZGlob
theorem index_at (c:UInt8):∀ l:List UInt8,0≤Lib.indexByte l c→l[(Lib.indexByte l c).toNat]?=some c:=by
 intro l
 induction l with
 | nil=>intro h;simp [Lib.indexByte] at h
 | cons x l ih =>
  intro h;unfold Lib.indexByte at h ⊢;split
  ·
   rename_i hx;have:x=c:=by simpa using hx
   simp [this]
  ·
   rename_i hx;rw [if_neg hx] at h;have hg:=Lib.indexByte_ge l c;by_cases hb:(Lib.indexByte l c == -1)=true
   ·rw [if_pos hb] at h;omega
   ·
    rw [if_neg hb] at h ⊢;have hb2:Lib.indexByte l c≠-1:=by simpa using hb
    have h0:0≤Lib.indexByte l c:=by omega
    have:=ih h0;have e:(Lib.indexByte l c+1).toNat=(Lib.indexByte l c).toNat+1:=by omega
    first
     | (rw [e,List.getElem?_cons_succ];exact this)
     | (rw [show (1+Lib.indexByte l c).toNat=(Lib.indexByte l c).toNat+1 by omega,List.getElem?_cons_succ];exact this)
theorem extract_list (p:ByteArray) (a b:Nat):(p.extract a b).data.toList=(p.data.toList.drop a).take (b - a):=by simp [ByteArray.data_extract]
theorem join_at (p:ByteArray) (n:Nat) (h0:1≤n) (h:p.data.toList[n]?=some 47):joinP (p.extract 0 n) (p.extract (n+1) p.size)=p:=by
 have hn:n < p.data.toList.length:=(List.getElem?_eq_some_iff.1 h).1;have hs:p.data.toList.length=p.size:=Array.length_toList;have hne:p.extract 0 n≠⟨#[]⟩:=by intro e;have:=congrArg ByteArray.size e;rw [ByteArray.size_extract] at this;have e0:(⟨#[]⟩:ByteArray).size=0:=rfl;rw [e0] at this;omega
 unfold joinP;rw [if_neg hne];apply ByteArray.ext;apply Array.ext';simp only [ByteArray.data_append,Array.toList_append,extract_list,List.drop_zero,Nat.sub_zero];rw [List.take_of_length_le (l:=p.data.toList.drop (n+1)) (by simp)]
 conv=>rhs;rw [← List.take_append_drop n p.data.toList,List.drop_eq_getElem_cons hn,(List.getElem?_eq_some_iff.1 h).2]
 simp
theorem join_split (p:ByteArray) (h:(splitP p).2.2=true):joinP (splitP p).1 (splitP p).2.1=p:=by
 by_cases h1:p.size≤100
 ·
  have e:splitP p=(⟨#[]⟩,p,true):=by rw [splitP,if_pos h1]
  rw [e];rfl
 ·
  obtain ⟨i,hi⟩:∃ i,Lib.indexByte (p.extract (max 1 (p.size - 101)) p.size).data.toList 47=i:=⟨_,rfl⟩;have hat:=index_at 47 (p.extract (max 1 (p.size - 101)) p.size).data.toList;rw [hi] at hat;unfold splitP at h ⊢;rw [if_neg h1,hi] at h ⊢;split
  ·rename_i hc;rw [if_pos hc] at h;cases h
  ·
   rename_i hc;have hat:=hat (by omega);obtain ⟨a,ha⟩:∃ a,max 1 (p.size - 101)=a:=⟨_,rfl⟩;rw [ha] at hat ⊢;have e1:(((a:Nat):Int)+i).toNat=a+i.toNat:=by omega
   have e2:(((a:Nat):Int)+i+1).toNat=a+i.toNat+1:=by omega
   dsimp only;rw [e1,e2];refine join_at p _ (by omega) ?_;rw [extract_list,List.getElem?_take] at hat;split at hat
   ·rw [List.getElem?_drop] at hat;exact hat
   ·cases hat
theorem back (e:Ent) (hs:e.size≤8589934591):(planR e).foldl (fun (e:Ent) (r:Rec)=>if r.key=sLink then { e with target:=r.val } else { e with path:=r.val }) ⟨e.kind,joinP (splitP e.path).1 (splitP e.path).2.1,e.mode,(planH e).link,(planH e).size⟩=e:=by
 have hj:=join_split e.path;have hne:¬ sPath=sLink:=by decide
 obtain ⟨kind,path,mode,target,size⟩:=e;dsimp only at hs hj;unfold planR planH;dsimp only;by_cases h1:target.size≤100 <;> by_cases h2:(splitP path).2.2=true <;> simp [h1,h2,hs,hne,hj]
end ZJoin
namespace ZRe
open Go.RowKit YteikiojmcipkmaaGreatDoorW.PrintWords YteikiojmcipkmaaGreatDoorW.PrintLast YteikiojmcipkmaaGreatDoorW.PrintMore Oct ZBase
open ZPath ZPlanOk
def Free (L:List UInt8) (f k:Nat):Prop:=∀ j,f≤j→j < k→L[j]?≠some 47
theorem not_mem_take {L:List UInt8} {f k:Nat} (h:Free L f k):(47:UInt8)∉(L.drop f).take (k - f):=by
 intro hm;obtain ⟨i,hi⟩:=List.mem_iff_getElem?.1 hm;have h1:i < k - f:=by have:=(List.getElem?_eq_some_iff.1 hi).1;rw [List.length_take] at this;omega
 rw [List.getElem?_take_of_lt h1,List.getElem?_drop] at hi;exact h (f+i) (by omega) (by omega) hi
theorem indexByte_split (a:List UInt8) (r:List UInt8) (h:(47:UInt8)∉a):Lib.indexByte (a++47 :: r) 47=a.length:=by
 induction a with
 | nil=>simp [Lib.indexByte]
 | cons x a ih =>simp only [List.mem_cons,not_or] at h;have:=ih h.2;rw [List.cons_append,indexByte_cons,if_neg (fun e=>h.1 e.symm),this,if_neg (by omega)];simp
theorem comps_here {L:List UInt8} {f k:Nat} (h:Free L f k) (hf:f≤k) (hk:L[k]?=some 47):comps (L.drop f)=(L.drop f).take (k - f) :: comps (L.drop (k+1)):=by
 have hlt:k < L.length:=(List.getElem?_eq_some_iff.1 hk).1;have e:L.drop f=(L.drop f).take (k - f)++47 :: L.drop (k+1):=by
  conv=>lhs;rw [← List.take_append_drop (k - f) (L.drop f)]
  congr 1;rw [List.drop_drop,show f+(k - f)=k by omega,List.drop_eq_getElem_cons hlt];congr 1;exact (List.getElem?_eq_some_iff.1 hk).2
 have hi:=indexByte_split _ (L.drop (k+1)) (not_mem_take h);rw [← e] at hi;have hl:((L.drop f).take (k - f)).length=k - f:=by simp;omega
 rw [hl] at hi;have:=(comps_hit _ _ hi).2;rw [List.drop_drop,show f+(k - f+1)=k+1 by omega] at this;exact this
theorem comps_end {L:List UInt8} {f:Nat} (h:Free L f L.length):comps (L.drop f)=[L.drop f]:=by
 refine comps_miss _ ((index_neg _ _).2 ?_);have:=not_mem_take h
 rwa [List.take_of_length_le (by simp)] at this
def goodL (l:List UInt8):Prop:=good ⟨l.toArray⟩
structure At (L:List UInt8) (f k:Nat):Prop where
 fk:f≤k
 free:Free L f k
 done:∃ d,comps L=d++(if k≤L.length then comps (L.drop f) else [])∧∀ c∈d,goodL c
theorem At.start (L:List UInt8):At L 0 0:=⟨Nat.le_refl _,fun j _ h=>absurd h (Nat.not_lt_zero j),[],by simp,fun c hc=>by cases hc⟩
theorem At.next {L:List UInt8} {f k:Nat} (h:At L f k) (hk:k≤L.length) (hs:k=L.length∨L[k]?=some 47) (hg:goodL ((L.drop f).take (k - f))):At L (k+1) (k+1):=by
 refine ⟨Nat.le_refl _,fun j h1 h2=>by omega,?_⟩;obtain ⟨d,e,hd⟩:=h.done;rw [if_pos hk] at e;rcases hs with rfl | hs
 ·
  refine ⟨comps L,by rw [if_neg (by omega)];simp,fun c hc=>?_⟩;rw [e,comps_end h.free] at hc;rcases List.mem_append.1 hc with hc | hc
  ·exact hd c hc
  ·
   obtain rfl:c=L.drop f:=by simpa using hc
   rwa [List.take_of_length_le (by simp)] at hg
 ·
  have hlt:k < L.length:=(List.getElem?_eq_some_iff.1 hs).1;refine ⟨d++[(L.drop f).take (k - f)],by rw [if_pos (by omega),e,comps_here h.free h.fk hs];simp,fun c hc=>?_⟩;rcases List.mem_append.1 hc with hc | hc
  ·exact hd c hc
  ·
   obtain rfl:c=(L.drop f).take (k - f):=by simpa using hc
   exact hg
theorem At.all {L:List UInt8} {f k:Nat} (h:At L f k) (hk:L.length < k):∀ c∈comps L,goodL c:=by obtain ⟨d,e,hd⟩:=h.done;rw [if_neg (by omega)] at e;rw [e];simpa using hd
end ZRe
namespace ZRg
open Go.RowKit YteikiojmcipkmaaGreatDoorW.PrintWords YteikiojmcipkmaaGreatDoorW.PrintLast YteikiojmcipkmaaGreatDoorW.PrintMore Oct ZBase
open ZPath ZPlanOk ZRe
end ZRg
namespace ZRh
open Go.RowKit YteikiojmcipkmaaGreatDoorW.PrintWords YteikiojmcipkmaaGreatDoorW.PrintLast YteikiojmcipkmaaGreatDoorW.PrintMore Oct ZBase
open ZPath ZPlanOk ZRe ZStr
theorem less_same (x:UInt8) (l m:List UInt8):Op.bytesLess (x :: l) (x :: m)=Op.bytesLess l m:=by simp [Op.bytesLess]
theorem less_lt {x y:UInt8} (l m:List UInt8) (h:x < y):Op.bytesLess (x :: l) (y :: m)=true:=by simp [Op.bytesLess,h]
theorem less_gt {x y:UInt8} (l m:List UInt8) (h:x < y):Op.bytesLess (y :: m) (x :: l)=false:=by
 have h1:¬ y < x:=by intro h';have:=UInt8.lt_iff_toNat_lt.1 h;have:=UInt8.lt_iff_toNat_lt.1 h';omega
 have h2:y≠x:=by rintro rfl;exact h1 h
 simp [Op.bytesLess,h1,h2]
theorem drop_at {p:ByteArray} (k:Nat) (hk:k < p.size):p.data.toList.drop k=p[k]'hk :: p.data.toList.drop (k+1):=by
 have h':k < p.data.toList.length:=by simpa using hk
 rw [List.drop_eq_getElem_cons h'];congr 1
structure Alike (a b:ByteArray) (k:Nat):Prop where
 ab:lt a b=Op.bytesLess (a.data.toList.drop k) (b.data.toList.drop k)
 ba:lt b a=Op.bytesLess (b.data.toList.drop k) (a.data.toList.drop k)
theorem Alike.start (a b:ByteArray):Alike a b 0:=⟨by unfold lt;rw [ByteArray.toList_eq,ByteArray.toList_eq];rfl,by unfold lt;rw [ByteArray.toList_eq,ByteArray.toList_eq];rfl⟩
theorem Alike.next {a b:ByteArray} {k:Nat} (h:Alike a b k) (ha:k < a.size) (hb:k < b.size) (e:a[k]'ha=b[k]'hb):Alike a b (k+1):=by obtain ⟨h1,h2⟩:=h;rw [drop_at k ha,drop_at k hb,e,less_same] at h1 h2;exact ⟨h1,h2⟩
theorem Alike.more {a b:ByteArray} {k:Nat} (h:Alike a b k) (ha:k < a.size) (hb:k < b.size) (e:b[k]'hb < a[k]'ha):cmpV a b=1:=by obtain ⟨h1,h2⟩:=h;rw [drop_at k ha,drop_at k hb,less_gt _ _ e] at h1;rw [drop_at k ha,drop_at k hb,less_lt _ _ e] at h2;unfold cmpV;rw [if_neg (by rw [h1];decide),if_pos h2]
theorem drop_all {p:ByteArray} {k:Nat} (h:p.size≤k):p.data.toList.drop k=[]:=List.drop_eq_nil_of_le (by simpa using h)
theorem Alike.same {a b:ByteArray} {k:Nat} (h:Alike a b k) (ha:a.size≤k) (hb:b.size≤k):cmpV a b=0:=by obtain ⟨h1,h2⟩:=h;rw [drop_all hb,drop_all ha] at h1 h2;unfold cmpV;rw [if_neg (by rw [h1];simp [Op.bytesLess]),if_neg (by rw [h2];simp [Op.bytesLess])]
end ZRh
namespace ZRc
open Go.RowKit YteikiojmcipkmaaGreatDoorW.PrintWords YteikiojmcipkmaaGreatDoorW.PrintLast YteikiojmcipkmaaGreatDoorW.PrintMore Oct ZBase ZSumPlain ZCstr
open ZPlanOk (noNul_iff)
structure Lies (w:World) (base g cap:Nat) (l:List Int):Prop where
 lt:g < w.heap.size
 from_:base≤g
 le:l.length≤cap
 max:cap≤maxLen
 cell:∀ j,j < l.length→w.cell? ⟨g,j,none⟩=some (.int .u8 (l.getD j 0))
 spare:∀ j,j < cap→(w.cell? ⟨g,j,none⟩).isSome=true∧w.frozen? ⟨g,j,none⟩=false
theorem Lies.reads {w:World} {base g cap:Nat} {l:List Int} (h:Lies w base g cap l):Kd.C (Kd.int .u8) w (some ⟨g,0,none⟩) l.length l :=
 Kd.C_of_reads (d:=(0:Int)) (h1:=fun _=>rfl) ⟨rfl,by have:=h.le;have:=h.max;unfold maxLen at this;omega,fun _=>⟨_,rfl,fun j hj=>by rw [add_plain];exact h.cell j hj⟩⟩
theorem Lies.alloc {w:World} {base g cap:Nat} {l:List Int} (h:Lies w base g cap l) (o:Obj):Lies (w.alloc o) base g cap l:=by
 have hb:=below_alloc (Below.refl w.heap.size w) o;refine ⟨by have:=h.lt;simp;omega,h.from_,h.le,h.max,fun j hj=>(hb.cell (p:=⟨g,j,none⟩) h.lt).trans (h.cell j hj),fun j hj=>?_⟩;have e:(w.alloc o).frozen? ⟨g,j,none⟩=w.frozen? ⟨g,j,none⟩:=by simp only [World.frozen?,hb.block g h.lt]
 rw [hb.cell (p:=⟨g,j,none⟩) h.lt,e];exact h.spare j hj
end ZRc
end
end Go.Proofs.YteikiojmcipkmaaGreatDoor
