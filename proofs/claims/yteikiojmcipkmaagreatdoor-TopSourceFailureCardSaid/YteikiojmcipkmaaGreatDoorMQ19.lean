/- Parts of the proof, gathered by a program: what calls of the functions answer, and what follows in plain lists. Conditions: those that each theorem states. -/
import Derived.Test.YteikiojmcipkmaaGreatDoorMQ18
set_option linter.unusedVariables false
set_option linter.unusedSimpArgs false
namespace Go.Proofs.YteikiojmcipkmaaGreatDoor
open Go.Lib (hid)
set_option maxRecDepth 100000
namespace ZSize
open Go.RowKit YteikiojmcipkmaaGreatDoorW.PrintWords YteikiojmcipkmaaGreatDoorW.PrintLast YteikiojmcipkmaaGreatDoorW.PrintMore Oct ZBase ZGlob ZMo ZPath ZRec ZFit ZPlan
open Go.Lib (nDigits)
def digN (rest:Nat):Nat:=((List.range 20).find? fun d=>decide (nDigits (rest+(d+1))≤d+1)).getD 0+1
def Rec.rest (r:Rec):Nat:=r.key.size+r.val.size+3
def recSz (r:Rec):Nat:=Rec.rest r+digN (Rec.rest r)
theorem nDigits_mono {a b:Nat} (h:a≤b):nDigits a≤nDigits b:=by
 induction b using Nat.strongRecOn generalizing a with
 | _ b ih =>
  by_cases hb:b < 10
  ·rw [Go.Lib.nDigits_small hb,Go.Lib.nDigits_small (by omega)];exact Nat.le_refl _
  ·
   rw [Go.Lib.nDigits_big hb];by_cases ha:a < 10
   ·rw [Go.Lib.nDigits_small ha];omega
   ·rw [Go.Lib.nDigits_big ha];have:=ih (b / 10) (by omega) (a:=a / 10) (by omega);omega
theorem digN_of (rest d:Nat) (h1:1≤d) (h20:d≤20) (h2:nDigits (rest+d)≤d) (h3:∀ d',1≤d'→d' < d→d' < nDigits (rest+d')):digN rest=d:=by
 have:(List.range 20).find? (fun d=>decide (nDigits (rest+(d+1))≤d+1))=some (d - 1):=by
  rw [List.find?_range_eq_some];refine ⟨?_,?_,fun j hj=>?_⟩
  ·rw [show d - 1+1=d by omega];simpa using h2
  ·simp;omega
  ·have:=h3 (j+1) (by omega) (by omega);simp;omega
 rw [digN,this];simp;omega
theorem digN_spec (rest:Nat) (hr:rest < 1000000):1≤digN rest∧digN rest≤7∧nDigits (rest+digN rest)=digN rest:=by
 obtain ⟨d,h1,h2,h3,h4⟩:∃ d,1≤d∧d≤7∧nDigits (rest+d)≤d∧∀ d',1≤d'→d' < d→d' < nDigits (rest+d'):=by
  have hex:∃ d,1≤d∧d≤7∧nDigits (rest+d)≤d:=by refine ⟨7,by decide,by decide,?_⟩;have h:=nDigits_mono (show rest+7≤9999999 by omega);have h2:nDigits 9999999=7:=Go.Lib.nDigits_unique 6 _ (by decide) (by decide);omega
  clear hr;have key:∀ n,(∃ d,1≤d∧d≤7∧nDigits (rest+d)≤d∧d≤n)→∃ d,1≤d∧d≤7∧nDigits (rest+d)≤d∧∀ d',1≤d'→d' < d→d' < nDigits (rest+d'):=by
   intro n
   induction n with
   | zero=>rintro ⟨d,h1,_,_,h4⟩;omega
   | succ n ih =>
    rintro ⟨d,h1,h2,h3,h4⟩;by_cases hc:∃ d',1≤d'∧d' < d∧¬ d' < nDigits (rest+d')
    ·obtain ⟨d',g1,g2,g3⟩:=hc;exact ih ⟨d',g1,by omega,by omega,by omega⟩
    ·refine ⟨d,h1,h2,h3,fun d' g1 g2=>?_⟩;exact Classical.byContradiction fun hn=>hc ⟨d',g1,g2,hn⟩
  obtain ⟨d,h1,h2,h3⟩:=hex;exact key d ⟨d,h1,h2,h3,Nat.le_refl _⟩
 rw [digN_of rest d h1 (by omega) h3 h4];refine ⟨h1,h2,Nat.le_antisymm h3 ?_⟩;by_cases hd:d=1
 ·subst hd;exact Go.Lib.nDigits_pos _
 ·have g:=h4 (d - 1) (by omega) (by omega);have g2:=nDigits_mono (show rest+(d - 1)≤rest+d by omega);omega
theorem itoa_calls (n:Nat) (hn:n≤9223372036854775807) (w:World) (hG:Gl w):Calls Tryz.prog 161 #[.int .i64 n] w fun e w'=>∃ s:ByteArray,e=.returned (.string s)∧s.size=nDigits n∧Below w.heap.size w w':=by
 refine (Tryz.strconv_Itoa n (by omega) (by omega) w hG.pow10).mono ?_;rintro e w' ⟨rfl,k,os,rfl⟩;refine ⟨_,rfl,?_,?_⟩
 ·show (Lib.itoa (n:Int)).toArray.size=_;rw [Lib.itoa_nonneg,List.size_toArray,Lib.decDigits_length]
 ·refine ⟨rfl,rfl,rfl,by simp [Sort.grow],fun j hj=>?_⟩;simp only [Sort.grow];rw [Array.getElem?_append_left (by simpa using hj)];rfl
set_option maxHeartbeats 2000000 in
theorem size_calls (r:Rec) (hr:Rec.rest r < 1000000) (w:World) (hG:Gl w):Calls Tryz.prog 135 #[.agg r.cells] w fun e w'=>e=.returned (.int .i64 (recSz r))∧Below w.heap.size w w':=by
 have HR:=hid hr;obtain ⟨key,val⟩:=r;unfold Rec.rest at hr HR;have hds:=digN_spec (key.size+val.size+3) hr;have IC:=hid itoa_calls;obtain ⟨rest,hrest⟩:∃ n:Nat,(key.size:Int)+(val.size:Int)+3=(n:Int):=⟨key.size+val.size+3,by omega⟩;have HE:Hid (recSz ⟨key,val⟩=rest+digN rest∧rest < 1000000∧digN rest≤7):=hid (by
  have e:key.size+val.size+3=rest:=by omega
  have h2:=hds.2.1;rw [e] at h2;unfold recSz Rec.rest;dsimp only at hr ⊢;rw [e];exact ⟨rfl,by omega,h2⟩)
 have hk:(key.size:Int)≤1000000:=by dsimp only at hr;omega
 have hv:(val.size:Int)≤1000000:=by dsimp only at hr;omega
 have hrb:rest < 1000000:=HE.out.2.1;unfold Rec.cells;have BL:=hid (below_alloc (Below.refl w.heap.size w) (.cells #[.string key,.string val] 125));have HG:=hid hG;clear hr hds hG HR;go_enter Tryz.func135,Tryz.ntmps135
 go_wp2_with fail
 clear hrest
 go_loopw [4,5] (fun n d wr=>∃ k:Nat,1≤k∧k≤digN rest∧n=.int .i64 (rest+k:Nat)∧d=.int .i64 k∧Below w.heap.size w wr) (fun _ d _=>10 - (intOf d).toNat)
 case atStart=>exact ⟨1,by decide,by unfold digN;omega,by go_num,rfl,BL.out⟩
 case round =>
  obtain ⟨k,hk1,hk2,rfl,rfl,hb⟩:=hrel;have h7:=HE.out.2.2;have C:=hid (IC.out (rest+k) (by omega) wr (HG.out.below hb));have HB:=hid hb;have HK:=hid (And.intro hk1 hk2);clear hb hk2 h7
  go_wp2_with fail
  refine C.out.mono ?_;rintro e w1 ⟨s,rfl,hs,hb1⟩;have B1:=hid (below_step HB.out hb1);have HS:=hid hs;clear hs hb1;by_cases hlt:k < s.size
  ·
   have hlz:(k:Int) < (s.size:Int):=by omega
   have h7:=HE.out.2.2;have hk2:=HK.out.2;have hk10:k≤7:=by omega
   clear h7 hk2
   go_wp2_with fail
   go_roundw
   case rel =>
    have hsp:=digN_spec rest HE.out.2.1;refine ⟨k+1,by omega,?_,by go_num,by go_num,B1.out⟩;have hk2:=HK.out.2;rcases Nat.lt_or_ge k (digN rest) with h | h
    ·omega
    ·
     have e:k=digN rest:=by omega
     have h2:=hsp.2.2;rw [← e] at h2;have:=HS.out;omega
   case measure=>simp [intOf];omega
  ·
   have hlz:¬ (k:Int) < (s.size:Int):=by omega
   go_wp2_with fail
   go_ret;refine ⟨?_,B1.out⟩;have h2:digN rest=k:=by
    have hsp:=digN_spec rest HE.out.2.1;have hk:=HK.out;have hS:=HS.out;rcases Nat.lt_or_ge k (digN rest) with h | h
    ·
     exfalso;have hk1:=hk.1;have:digN rest≤k:=by
      unfold digN;cases hf:(List.range 20).find? (fun d=>decide (nDigits (rest+(d+1))≤d+1)) with
      | none =>have:=List.find?_eq_none.1 hf (k - 1) (by simp;omega);rw [show k - 1+1=k by omega] at this;simp at this;omega
      | some d =>
       obtain ⟨_,_,hmin⟩:=List.find?_range_eq_some.1 hf;simp only [Option.getD_some];rcases Nat.lt_or_ge (k - 1) d with h5 | h5
       ·have:=hmin (k - 1) h5;rw [show k - 1+1=k by omega] at this;simp at this;omega
       ·omega
     omega
    ·omega
   rw [HE.out.1,h2];rfl
end ZSize
namespace ZFmt
open Go.RowKit YteikiojmcipkmaaGreatDoorW.PrintWords YteikiojmcipkmaaGreatDoorW.PrintLast YteikiojmcipkmaaGreatDoorW.PrintMore Oct ZBase ZGlob ZMo ZPath ZRec ZFit ZPlan ZSize
def decB (n:Nat):List Int:=(Lib.decDigits n).map fun b=>(b.toNat:Int)
def recB (r:Rec):List Int:=decB (recSz r)++(32 :: (bytesOf r.key++(61 :: (bytesOf r.val++[10]))))
def fmtB (l:List Rec):List Int:=l.flatMap recB
structure RecAt (w:World) (g:Nat) (l:List Rec):Prop where
 lt:g < w.heap.size
 cell:∀ (i:Nat) (r:Rec),l[i]?=some r→w.cell? ⟨g,i * 2,none⟩=some (.string r.key)∧w.cell? ⟨g,i * 2+1,none⟩=some (.string r.val)
theorem RecAt.of {w w1:World} {g:Nat} {l:List Rec} (h:RecAt w g l) (hb:w1.heap[g]?=w.heap[g]?):RecAt w1 g l:=by
 refine ⟨?_,fun i r hi=>?_⟩
 ·have e:w.heap[g]?=some (w.heap[g]'h.lt):=Array.getElem?_eq_getElem h.lt;rw [e] at hb;exact (Array.getElem?_eq_some_iff.1 hb).1
 ·have h1:=h.cell i r hi;exact ⟨(cell_of_heap (p:=⟨g,i * 2,none⟩) hb).trans h1.1,(cell_of_heap (p:=⟨g,i * 2+1,none⟩) hb).trans h1.2⟩
theorem RecRow.at_ {w:World} {base:Nat} {v:Value} {l:List Rec} (h:RecRow w base v l) (hl:0 < l.length):∃ g cap,v=.slice (some ⟨g,0,none⟩) l.length cap∧base≤g∧l.length≤cap∧RecAt w g l:=by
 obtain ⟨A,c,rfl,hc,hr⟩:=Kd.R_reads h;obtain ⟨inner,ho⟩:=Kd.R_own h;obtain ⟨g,cap,e,h1,h2⟩:=World.ownsRow.form ho hl;cases e;refine ⟨g,c,rfl,h1,hc,h2,fun i r hi=>?_⟩;obtain ⟨hil,hir⟩:=List.getElem?_eq_some_iff.1 hi;obtain ⟨ad,cs,e,hcl,hK,hcell⟩:=Kd.C_get hr (default:Rec) (i:Int) (by omega) (by omega);cases e;obtain ⟨c0,c1,rfl,h3,h4⟩:=hK;have h3:c0=[.string ((l.getD i default).key)]:=h3;have h4:c1=[.string ((l.getD i default).val)]:=h4;subst h3 h4;rw [List.getD_eq_getElem?_getD,hi] at hcell;have e2:recKd.sz=2:=rfl;rw [e2,Int.toNat_natCast] at hcell;have a0:=hcell 0 _ rfl;have a1:=hcell 1 _ rfl;have p:∀ n,(⟨g,0,none⟩:Addr).add n=⟨g,n,none⟩:=fun n=>by rw [Go.WideShapes.add_plain,Nat.zero_add]
 rw [p] at a0 a1;exact ⟨a0,a1⟩
def OwnB (w:World) (base:Nat) (v:Value) (l:List Int):Prop:=w.ownsRow base 5 1 v l.length (nums .u8 l)
theorem OwnB.own {w:World} {base:Nat} {v:Value} {l:List Int} (h:OwnB w base v l) (hl:0 < l.length):∃ g cap,v=.slice (some ⟨g,0,none⟩) l.length cap∧ZBase.Own w base g cap l.length l:=by obtain ⟨g,cap,rfl,h1,h2⟩:=World.ownsRow.form h hl;exact ⟨g,cap,rfl,⟨h⟩⟩
theorem decB_len (n:Nat):(decB n).length=Go.Lib.nDigits n:=by simp [decB,Lib.decDigits_length]
theorem cells_dec (n:Nat):Lib.byteCells (Lib.itoa (n:Int))=nums .u8 (decB n):=by rw [Lib.itoa_nonneg];simp [Lib.byteCells,nums,decB]
theorem append_calls (n:Nat) (hn:n≤9223372036854775807) (B:Nat) (v:Value) (l:List Int) (w:World) (ho:OwnB w B v l) (hB:B≤w.heap.size) (hl:l.length≤1000000) (ht:∀ w1,Below B w w1→Gl w1): Calls Tryz.prog 134 #[v,.int .i64 n,.int .i64 10] w fun e w'=>∃ v',e=.returned v'∧OwnB w' B v' (l++decB n)∧Below B w w'∧Lib.OthersKept 5 none w w':=by
 refine (Tryz.strconv_AppendInt_10 B l.length n (by omega) (by omega) v (nums .u8 l) w ho hB (by omega) (fun w1 h=>(ht w1 h).pow10)).mono ?_;rintro e w' ⟨v',rfl,h1,h2,h3⟩;refine ⟨v',rfl,?_,h2,h3⟩;unfold OwnB;rw [cells_dec] at h1;rw [List.length_append,decB_len,nums_append];rw [Lib.itoa_nonneg,Lib.decDigits_length] at h1;exact h1
structure RecsOk (l:List Rec):Prop where
 key:∀ r∈l,r.key=sLink∨r.key=sPath
 val:∀ r∈l,valOk r.val
 asc:∀ (i:Nat) (r q:Rec),l[i]?=some r→l[i+1]?=some q→(Op.bytesLess q.key.toList r.key.toList || q.key.toList == r.key.toList)=false
theorem RecsOk.rest {l:List Rec} (h:RecsOk l) {r:Rec} (hr:r∈l):Rec.rest r≤65547:=by
 have h1:=(h.val r hr).1;unfold Rec.rest;rcases h.key r hr with e | e
 ·rw [e];have:sLink.size=8:=rfl;omega
 ·rw [e];have:sPath.size=4:=rfl;omega
theorem recB_len (r:Rec) (hr:Rec.rest r < 1000000):(recB r).length=recSz r:=by have:=digN_spec _ hr;unfold recB;simp only [List.length_append,List.length_cons,List.length_nil,bytesOf_length,decB_len];unfold recSz at *;rw [this.2.2];unfold Rec.rest;omega
theorem line_bytes (key val:ByteArray):bytesOf (⟨#[32]⟩++key++⟨#[61]⟩++val++⟨#[10]⟩:ByteArray)=32 :: (bytesOf key++(61 :: (bytesOf val++[10]))):=by simp [bytesOf]
theorem line_size (key val:ByteArray):(⟨#[32]⟩++key++⟨#[61]⟩++val++⟨#[10]⟩:ByteArray).size=key.size+val.size+3:=by have:=congrArg List.length (line_bytes key val);rw [bytesOf_length] at this;simp [bytesOf_length] at this;simp;omega
theorem fmt_take {l:List Rec} {j:Nat} {r:Rec} (h:l[j]?=some r):fmtB (l.take (j+1))=(fmtB (l.take j)++decB (recSz r))++(32 :: (bytesOf r.key++(61 :: (bytesOf r.val++[10])))):=by rw [List.take_add_one,h];unfold fmtB;rw [List.flatMap_append];simp [recB]
theorem fmtB_le (l:List Rec) (h:∀ r∈l,Rec.rest r≤65547):(fmtB l).length≤l.length * 65554:=by
 induction l with
 | nil=>simp [fmtB]
 | cons r l ih =>
  have h1:=h r (by simp);have h2:=digN_spec (Rec.rest r) (by omega);have h3:=ih fun q hq=>h q (by simp [hq]);have e:(fmtB (r :: l)).length=(recB r).length+(fmtB l).length:=by simp [fmtB]
  rw [e,recB_len r (by omega),List.length_cons];unfold recSz;omega
theorem fmt_len {l:List Rec} (h:RecsOk l) (hn:l.length≤3) (j:Nat):(fmtB (l.take j)).length≤200000:=by have h1:=fmtB_le (l.take j) fun r hr=>h.rest (List.mem_of_mem_take hr);rw [List.length_take] at h1;omega
set_option maxHeartbeats 4000000 in
theorem format_calls (g cap:Nat) (l:List Rec) (hl:RecsOk l) (hn:l.length≤3) (hcap:l.length≤cap) (w:World) (hG:Gl w) (hR:RecAt w g l):Calls Tryz.prog 93 #[.slice (some ⟨g,0,none⟩) l.length cap] w fun e w'=>∃ v,e=.returned (.tuple #[v,.int .i64 0])∧OwnB w' w.heap.size v (fmtB l)∧Below w.heap.size w w':=by
 have HL:=hid hl;have HN:=hid hn;have HG:=hid hG;have HR:=hid hR;have CC:=hid (fun k v hk W hW=>ZRec.check_calls k v hk W hW);have SC:=hid ZSize.size_calls;have AC:=hid append_calls;clear hl hG hR;go_enter Tryz.func93,Tryz.ntmps93
 go_wp2_with fail
 go_loopw [4,10] (fun v i wr=>∃ j:Nat,j≤l.length∧i=.int .i64 j∧Hid (OwnB wr w.heap.size v (fmtB (l.take j))∧Below w.heap.size w wr)) (fun _ i _=>l.length - (intOf i).toNat)
 case atStart=>exact ⟨0,Nat.zero_le _,rfl,by simp [fmtB];exact own_nil _ _ _ _,Below.refl _ _⟩
 case round =>
  obtain ⟨j,hj,rfl,HS⟩:=hrel;by_cases hlt:j < l.length
  ·
   have hltz:(j:Int) < (l.length:Int):=by omega
   obtain ⟨r,hr⟩:∃ r,l[j]?=some r:=⟨_,List.getElem?_eq_getElem hlt⟩;have hm:r∈l:=List.mem_of_getElem? hr;have R1:=HR.out.of (HS.out.2.block _ HR.out.lt);obtain ⟨c0,c1⟩:=R1.cell j r hr;have HRR:=hid (And.intro hr hm);clear hr hm R1;obtain ⟨key,val⟩:=r;dsimp only at c0 c1;have G1:=hid (gl1 (HG.out.below HS.out.2) (.cells #[.string key,.string val] 125));have hkey:=HL.out.key _ HRR.out.2;have hval:=HL.out.val _ HRR.out.2;have hrest:=HL.out.rest HRR.out.2;dsimp only at hkey hval;have C1:=hid (CC.out key val hkey _ G1.out);have HV:=hid (And.intro hkey (And.intro hval hrest));clear hkey hval hrest
   go_wp2_with fail
   refine C1.out.mono ?_;rintro e w1 ⟨x,rfl,hx,hb1⟩;have hx0:=hx.2 HV.out.2.1;subst hx0;have bx:((0:Int) != 0)=false:=rfl;have B1:=hid (show Below wr.heap.size wr w1 from after1 hb1);have H1:=hid ((hb1.block _ (by simp)).trans (heap_alloc_new wr (.cells #[.string key,.string val] 125)));obtain ⟨d0,d1⟩:w1.cell? ⟨wr.heap.size,0,none⟩=some (.string key)∧w1.cell? ⟨wr.heap.size,1,none⟩=some (.string val):=by simp [World.cell?,H1.out]
   have R1:=HR.out.of ((B1.out.block _ (Nat.lt_of_lt_of_le HR.out.lt HS.out.2.size)).trans (HS.out.2.block _ HR.out.lt));clear hx hb1 c0 c1;by_cases hj0:0 < j
   ·
    have hj0z:(0:Int) < (j:Int):=by omega
    obtain ⟨i,hi⟩:∃ i:Nat,(j:Int) - 1=(i:Int):=⟨j - 1,by omega⟩;have hij:j=i+1:=by omega
    obtain ⟨q,hq⟩:∃ q,l[i]?=some q:=⟨_,List.getElem?_eq_getElem (by omega)⟩;have hasc:=HL.out.asc i q _ hq (hij ▸ HRR.out.1);obtain ⟨e0,e1⟩:=R1.cell i q hq;dsimp only at hasc;obtain ⟨qk,qv⟩:=q;have w2:IntKind.i64.wrap ((i:Int))=(i:Int):=by rw [IntKind.wrap_i64];omega
    have b3:(i:Int) < (l.length:Int):=by omega
    clear hq R1 hij
    go_wp2_with fail
    repeat (go_quiet (fail);try go_wp2_with fail)
    have HS1:=hid (And.intro (pw_own_below HS.out.1 B1.out) (below_step HS.out.2 B1.out));have C2:=hid (fun q=>SC.out ⟨key,val⟩ (by have:=HV.out.2.2;omega) (w1.drewN q) (HG.out.below (pw_below_drewN HS1.out.2 q)));unfold Rec.cells at C2;refine (C2.out _).mono ?_;rintro e w2 ⟨rfl,hb2⟩;have HSZ:=hid (show recSz ⟨key,val⟩≤70000 by have h1:=HV.out.2.2;have h2:=digN_spec (Rec.rest ⟨key,val⟩) (by omega);unfold recSz;omega)
    have B2:=hid (show Below w1.heap.size w1 w2 from (pw_below_drewN (Below.refl _ _) _).trans hb2);clear hb2;have HS2:=hid (And.intro (pw_own_below HS1.out.1 B2.out) (below_step HS1.out.2 B2.out));have H2:=hid ((B2.out.block _ (blk_lt H1.out)).trans H1.out);have C3:=hid (AC.out (recSz ⟨key,val⟩) (by have:=HSZ.out;omega) w.heap.size _ _ w2 HS2.out.1 HS2.out.2.size (by
     have h1:=fmt_len HL.out HN.out j;omega) (fun w1 h=>HG.out.below (HS2.out.2.trans h)))
    clear d0 d1
    go_wp2_with fail
    refine C3.out.mono ?_;rintro e w3 ⟨v3,rfl,ho3,hb3,hk3⟩;have H3:=hid (hk3 _ _ H2.out (by simp) (fun c fz h=>by cases h));obtain ⟨d0,d1⟩:w3.cell? ⟨wr.heap.size,0,none⟩=some (.string key)∧w3.cell? ⟨wr.heap.size,1,none⟩=some (.string val):=by simp [World.cell?,H3.out]
    have HS3:=hid (And.intro ho3 (HS2.out.2.trans hb3));clear ho3 hb3 hk3;have hlen3:Hid ((fmtB (l.take j)++decB (recSz ⟨key,val⟩)).length+200000≤140737488355328):=hid (by
     have h1:=fmt_len HL.out HN.out j;have h2:=decB_len (recSz ⟨key,val⟩);have h3:Lib.nDigits (recSz ⟨key,val⟩)≤7:=by have h4:=HV.out.2.2;have h5:=digN_spec (Rec.rest ⟨key,val⟩) (by omega);unfold recSz;omega
     rw [List.length_append];omega)
    have hkv:key.size+val.size≤100000:=by have h4:=HV.out.2.2;unfold Rec.rest at h4;dsimp only at h4;omega
    have hlen:Hid ((fmtB (l.take j)++decB (recSz ⟨key,val⟩)).length+(⟨#[32]⟩++key++⟨#[61]⟩++val++⟨#[10]⟩:ByteArray).size≤140737488355328):=hid (by
     have h1:=hlen3.out;have h2:(⟨#[32]⟩++key++⟨#[61]⟩++val++⟨#[10]⟩:ByteArray).size=key.size+val.size+3:=line_size key val;rw [h2];omega)
    go_wp2_with (at_builtin;refine print_append_str (w0:=w) w.heap.size rfl (.tmp 37) (.tmp 45) 30 9 5 rfl Tryz.underlying30 Tryz.underlying9 info5 _ _ _ rfl rfl HS3.out.1 HS3.out.2 HS3.out.2.size hlen.out ?_;intro v4 w4 ho4 hb4 _;replace ho4:=hid ho4;replace hb4:=hid hb4)
    go_roundw
    case rel=>exact ⟨j+1,by omega,by go_num,by
     rw [line_bytes] at ho4;rw [fmt_take HRR.out.1];exact ho4.out,hb4.out⟩
    case measure=>simp [intOf];omega
   ·
    have hj0z:¬ (0:Int) < (j:Int):=by omega
    have hdec:decide ((0:Int) < (j:Int))=false:=decide_eq_false hj0z
    go_wp2_with fail
    repeat (go_quiet (fail);try go_wp2_with fail)
    have HS1:=hid (And.intro (pw_own_below HS.out.1 B1.out) (below_step HS.out.2 B1.out));have C2:=hid (fun q=>SC.out ⟨key,val⟩ (by have:=HV.out.2.2;omega) (w1.drewN q) (HG.out.below (pw_below_drewN HS1.out.2 q)));unfold Rec.cells at C2;refine (C2.out _).mono ?_;rintro e w2 ⟨rfl,hb2⟩;have HSZ:=hid (show recSz ⟨key,val⟩≤70000 by have h1:=HV.out.2.2;have h2:=digN_spec (Rec.rest ⟨key,val⟩) (by omega);unfold recSz;omega)
    have B2:=hid (show Below w1.heap.size w1 w2 from (pw_below_drewN (Below.refl _ _) _).trans hb2);clear hb2;have HS2:=hid (And.intro (pw_own_below HS1.out.1 B2.out) (below_step HS1.out.2 B2.out));have H2:=hid ((B2.out.block _ (blk_lt H1.out)).trans H1.out);have C3:=hid (AC.out (recSz ⟨key,val⟩) (by have:=HSZ.out;omega) w.heap.size _ _ w2 HS2.out.1 HS2.out.2.size (by
     have h1:=fmt_len HL.out HN.out j;omega) (fun w1 h=>HG.out.below (HS2.out.2.trans h)))
    clear d0 d1
    go_wp2_with fail
    refine C3.out.mono ?_;rintro e w3 ⟨v3,rfl,ho3,hb3,hk3⟩;have H3:=hid (hk3 _ _ H2.out (by simp) (fun c fz h=>by cases h));obtain ⟨d0,d1⟩:w3.cell? ⟨wr.heap.size,0,none⟩=some (.string key)∧w3.cell? ⟨wr.heap.size,1,none⟩=some (.string val):=by simp [World.cell?,H3.out]
    have HS3:=hid (And.intro ho3 (HS2.out.2.trans hb3));clear ho3 hb3 hk3;have hlen3:Hid ((fmtB (l.take j)++decB (recSz ⟨key,val⟩)).length+200000≤140737488355328):=hid (by
     have h1:=fmt_len HL.out HN.out j;have h2:=decB_len (recSz ⟨key,val⟩);have h3:Lib.nDigits (recSz ⟨key,val⟩)≤7:=by have h4:=HV.out.2.2;have h5:=digN_spec (Rec.rest ⟨key,val⟩) (by omega);unfold recSz;omega
     rw [List.length_append];omega)
    have hkv:key.size+val.size≤100000:=by have h4:=HV.out.2.2;unfold Rec.rest at h4;dsimp only at h4;omega
    have hlen:Hid ((fmtB (l.take j)++decB (recSz ⟨key,val⟩)).length+(⟨#[32]⟩++key++⟨#[61]⟩++val++⟨#[10]⟩:ByteArray).size≤140737488355328):=hid (by
     have h1:=hlen3.out;have h2:(⟨#[32]⟩++key++⟨#[61]⟩++val++⟨#[10]⟩:ByteArray).size=key.size+val.size+3:=line_size key val;rw [h2];omega)
    go_wp2_with (at_builtin;refine print_append_str (w0:=w) w.heap.size rfl (.tmp 37) (.tmp 45) 30 9 5 rfl Tryz.underlying30 Tryz.underlying9 info5 _ _ _ rfl rfl HS3.out.1 HS3.out.2 HS3.out.2.size hlen.out ?_;intro v4 w4 ho4 hb4 _;replace ho4:=hid ho4;replace hb4:=hid hb4)
    go_roundw
    case rel=>exact ⟨j+1,by omega,by go_num,by
     rw [line_bytes] at ho4;rw [fmt_take HRR.out.1];exact ho4.out,hb4.out⟩
    case measure=>simp [intOf];omega
  ·
   obtain rfl:j=l.length:=by omega
   go_wp2_with fail
   go_ret2
   have h:=HS.out;rw [List.take_length] at h;exact ⟨_,rfl,h.1,h.2⟩
end ZFmt
namespace ZPlanOk
open Go.RowKit YteikiojmcipkmaaGreatDoorW.PrintWords YteikiojmcipkmaaGreatDoorW.PrintLast YteikiojmcipkmaaGreatDoorW.PrintMore Oct ZBase ZGlob ZMo ZPath ZRec ZFit ZPlan ZSize ZFmt ZCheck ZCstr
theorem index_neg (l:List UInt8) (c:UInt8):Lib.indexByte l c=-1↔c∉l:=by
 induction l with
 | nil=>simp [Lib.indexByte]
 | cons x l ih =>
  have hg:=Lib.indexByte_ge l c;rw [indexByte_cons];by_cases hx:x=c
  ·subst hx;simp
  ·
   rw [if_neg hx];by_cases hl:Lib.indexByte l c=-1
   ·rw [if_pos hl];have:=ih.1 hl;simp [this];exact fun e=>hx e.symm
   ·
    rw [if_neg hl];have h2:c∈l:=Classical.byContradiction fun hn=>hl (ih.2 hn);constructor
    ·intro h;omega
    ·intro h;exact absurd (List.mem_cons_of_mem _ h2) h
theorem index_lt (l:List UInt8) (c:UInt8):Lib.indexByte l c < 0↔c∉l:=by rw [← index_neg];have hg:=Lib.indexByte_ge l c;omega
theorem noNul_iff (s:ByteArray):noNul s↔(0:UInt8)∉s.data.toList:=index_neg _ _
theorem mem_comps (l:List UInt8) (x:UInt8) (h:x∈l):x=47∨∃ c∈comps l,x∈c:=by
 induction l with
 | nil=>cases h
 | cons y l ih =>
  have hne:=comps_ne l;by_cases hy:y=47
  ·
   rcases List.mem_cons.1 h with h | h
   ·exact .inl (h.trans hy)
   ·
    rcases ih h with h2 | ⟨c,h2,h3⟩
    ·exact .inl h2
    ·refine .inr ⟨c,?_,h3⟩;rw [comps,if_pos hy];exact List.mem_cons_of_mem _ h2
  ·
   rw [comps,if_neg hy];cases hc:comps l with
   | nil=>exact absurd hc hne
   | cons c cs =>
    rcases List.mem_cons.1 h with h | h
    ·exact .inr ⟨y :: c,by simp,by simp [h]⟩
    ·
     rcases ih h with h2 | ⟨d,h2,h3⟩
     ·exact .inl h2
     ·
      rw [hc] at h2;rcases List.mem_cons.1 h2 with h4 | h4
      ·exact .inr ⟨y :: c,by simp,by simp [← h4,h3]⟩
      ·exact .inr ⟨d,by simp [h4],h3⟩
theorem okPath_nul {p:ByteArray} (h:okPath p):(0:UInt8)∉p.data.toList:=by
 intro hm;rcases mem_comps _ _ hm with h1 | ⟨c,h1,h2⟩
 ·cases h1
 ·have:=(h.2 ⟨c.toArray⟩ (List.mem_map.2 ⟨c,h1,rfl⟩)).2.2.2;rw [index_lt] at this;exact this h2
theorem extract_nul {p:ByteArray} (h:(0:UInt8)∉p.data.toList) (a b:Nat):(0:UInt8)∉(p.extract a b).data.toList:=by intro hm;apply h;rw [ByteArray.data_extract,Array.toList_extract] at hm;exact List.mem_of_mem_drop (List.mem_of_mem_take hm)
theorem nul_empty:(0:UInt8)∉(⟨#[]⟩:ByteArray).data.toList:=by simp
theorem split_ok {p:ByteArray} (h:okPath p):noNul (splitP p).1∧(splitP p).1.size≤155∧noNul (splitP p).2.1∧(splitP p).2.1.size≤100∧((splitP p).2.2=false→100 < p.size):=by
 have hn:=okPath_nul h;rw [noNul_iff,noNul_iff];by_cases h1:p.size≤100
 ·
  have e:splitP p=(⟨#[]⟩,p,true):=by rw [splitP,if_pos h1]
  rw [e];exact ⟨nul_empty,Nat.zero_le 155,hn,h1,fun h=>by cases h⟩
 ·
  obtain ⟨i,hi⟩:∃ i,Lib.indexByte (p.extract (max 1 (p.size - 101)) p.size).data.toList 47=i:=⟨_,rfl⟩;have e:splitP p=if i < 0∨((max 1 (p.size - 101):Nat):Int)+i > 155∨((max 1 (p.size - 101):Nat):Int)+i=(p.size:Int) - 1 then (⟨#[]⟩,⟨#[]⟩,false) else (p.extract 0 (((max 1 (p.size - 101):Nat):Int)+i).toNat,p.extract (((max 1 (p.size - 101):Nat):Int)+i+1).toNat p.size,true):=by rw [splitP,if_neg h1,hi]
  rw [e];split
  ·exact ⟨nul_empty,by decide,nul_empty,by decide,fun _=>by omega⟩
  ·
   rename_i hc;refine ⟨extract_nul hn _ _,?_,extract_nul hn _ _,?_,fun h=>by cases h⟩
   ·rw [ByteArray.size_extract];omega
   ·rw [ByteArray.size_extract];omega
theorem planH_ok {e:Ent} (h:e.Ok) (hs:e.size≤8589934591):(planH e).Ok:=by
 obtain ⟨s1,s2,s3,s4,_⟩:=split_ok h.path;have hz:0≤e.size:=by have:=h.size;unfold sizeOk at this;split at this <;> omega
 refine ⟨?_,⟨s3,s4⟩,?_,⟨s1,s2⟩,h.mode,?_⟩
 ·
  simp only [planH,typOf]
  repeat' split
  all_goals omega
 ·
  simp only [planH];by_cases ht:e.target.size≤100
  ·
   rw [if_pos ht];refine ⟨?_,ht⟩;rw [noNul_iff];have:=h.target;unfold targetOk at this;split at this
   ·exact okPath_nul this
   ·
    split at this
    ·exact (index_lt _ _).1 this.2.2
    ·rw [this];exact nul_empty
  ·rw [if_neg ht];exact ⟨by rw [noNul_iff];exact nul_empty,by decide⟩
 ·simp only [planH];rw [if_pos hs];exact ⟨hz,hs⟩
theorem okPath_val {p:ByteArray} (h:okPath p) (h1:0 < p.size):valOk p :=
 ⟨h.1,(fun e=>by rw [e] at h1;cases h1),(index_lt _ _).2 (okPath_nul h)⟩
theorem planR_ok {e:Ent} (h:e.Ok) (hs:e.size≤8589934591):RecsOk (planR e)∧(planR e).length≤2:=by
 have hl:100 < e.target.size→valOk e.target:=fun hgt=>by
  have:=h.target;unfold targetOk at this;split at this
  ·exact okPath_val this (by omega)
  ·
   split at this
   ·exact this
   ·rw [this] at hgt;cases hgt
 have hp:(splitP e.path).2.2=false→valOk e.path:=fun hf=>okPath_val h.path (by have:=(split_ok h.path).2.2.2.2 hf;omega);have hasc:(Op.bytesLess sPath.toList sLink.toList || sPath.toList == sLink.toList)=false:=by rw [ByteArray.toList_eq,ByteArray.toList_eq];decide
 have none_asc:∀ (r0:Rec) (i:Nat) (r q:Rec),[r0][i]?=some r→[r0][i+1]?=some q→(Op.bytesLess q.key.toList r.key.toList || q.key.toList == r.key.toList)=false:=fun r0 i r q h1 h2=>by simp at h2
 unfold planR;rw [if_pos hs,List.append_nil];by_cases ht:e.target.size≤100
 ·
  rw [if_pos ht,List.nil_append];cases hk:(splitP e.path).2.2 with
  | true =>rw [if_pos rfl];exact ⟨⟨by simp,by simp,by simp⟩,by simp⟩
  | false =>rw [if_neg (by decide)];exact ⟨⟨by simp,by simpa using hp hk,none_asc _⟩,by simp⟩
 ·
  rw [if_neg ht];cases hk:(splitP e.path).2.2 with
  | true =>rw [if_pos rfl,List.append_nil];exact ⟨⟨by simp,by simpa using hl (by omega),none_asc _⟩,by simp⟩
  | false =>
   rw [if_neg (by decide)];refine ⟨⟨by simp,?_,?_⟩,by simp⟩
   ·
    simp only [List.cons_append,List.nil_append,List.mem_cons,List.not_mem_nil,or_false];rintro r (rfl | rfl)
    ·exact hl (by omega)
    ·exact hp hk
   ·
    intro i r q h1 h2;cases i with
    | zero =>simp at h1 h2;subst h1 h2;exact hasc
    | succ i=>simp at h2
end ZPlanOk
namespace ZJoin
open Go ZPath ZFit ZPlan ZRec ZGlob
theorem index_at (c:UInt8):∀ l:List UInt8,0≤Lib.indexByte l c→l[(Lib.indexByte l c).toNat]?=some c:=by
 intro l
 induction l with
 | nil=>intro h;simp [Lib.indexByte] at h
 | cons x l ih =>
  intro h;unfold Lib.indexByte at h ⊢;split
  ·
   rename_i hx;have:x=c:=by simpa using hx
   simp [this]
  ·
   rename_i hx;rw [if_neg hx] at h;have hg:=Lib.indexByte_ge l c;by_cases hb:(Lib.indexByte l c == -1)=true
   ·rw [if_pos hb] at h;omega
   ·
    rw [if_neg hb] at h ⊢;have hb2:Lib.indexByte l c≠-1:=by simpa using hb
    have h0:0≤Lib.indexByte l c:=by omega
    have:=ih h0;have e:(Lib.indexByte l c+1).toNat=(Lib.indexByte l c).toNat+1:=by omega
    first
     | (rw [e,List.getElem?_cons_succ];exact this)
     | (rw [show (1+Lib.indexByte l c).toNat=(Lib.indexByte l c).toNat+1 by omega,List.getElem?_cons_succ];exact this)
theorem extract_list (p:ByteArray) (a b:Nat):(p.extract a b).data.toList=(p.data.toList.drop a).take (b - a):=by simp [ByteArray.data_extract]
theorem join_at (p:ByteArray) (n:Nat) (h0:1≤n) (h:p.data.toList[n]?=some 47):joinP (p.extract 0 n) (p.extract (n+1) p.size)=p:=by
 have hn:n < p.data.toList.length:=(List.getElem?_eq_some_iff.1 h).1;have hs:p.data.toList.length=p.size:=Array.length_toList;have hne:p.extract 0 n≠⟨#[]⟩:=by intro e;have:=congrArg ByteArray.size e;rw [ByteArray.size_extract] at this;have e0:(⟨#[]⟩:ByteArray).size=0:=rfl;rw [e0] at this;omega
 unfold joinP;rw [if_neg hne];apply ByteArray.ext;apply Array.ext';simp only [ByteArray.data_append,Array.toList_append,extract_list,List.drop_zero,Nat.sub_zero];rw [List.take_of_length_le (l:=p.data.toList.drop (n+1)) (by simp)]
 conv=>rhs;rw [← List.take_append_drop n p.data.toList,List.drop_eq_getElem_cons hn,(List.getElem?_eq_some_iff.1 h).2]
 simp
theorem join_split (p:ByteArray) (h:(splitP p).2.2=true):joinP (splitP p).1 (splitP p).2.1=p:=by
 by_cases h1:p.size≤100
 ·
  have e:splitP p=(⟨#[]⟩,p,true):=by rw [splitP,if_pos h1]
  rw [e];rfl
 ·
  obtain ⟨i,hi⟩:∃ i,Lib.indexByte (p.extract (max 1 (p.size - 101)) p.size).data.toList 47=i:=⟨_,rfl⟩;have hat:=index_at 47 (p.extract (max 1 (p.size - 101)) p.size).data.toList;rw [hi] at hat;unfold splitP at h ⊢;rw [if_neg h1,hi] at h ⊢;split
  ·rename_i hc;rw [if_pos hc] at h;cases h
  ·
   rename_i hc;have hat:=hat (by omega);obtain ⟨a,ha⟩:∃ a,max 1 (p.size - 101)=a:=⟨_,rfl⟩;rw [ha] at hat ⊢;have e1:(((a:Nat):Int)+i).toNat=a+i.toNat:=by omega
   have e2:(((a:Nat):Int)+i+1).toNat=a+i.toNat+1:=by omega
   dsimp only;rw [e1,e2];refine join_at p _ (by omega) ?_;rw [extract_list,List.getElem?_take] at hat;split at hat
   ·rw [List.getElem?_drop] at hat;exact hat
   ·cases hat
theorem back (e:Ent) (hs:e.size≤8589934591):(planR e).foldl (fun (e:Ent) (r:Rec)=>if r.key=sLink then { e with target:=r.val } else { e with path:=r.val }) ⟨e.kind,joinP (splitP e.path).1 (splitP e.path).2.1,e.mode,(planH e).link,(planH e).size⟩=e:=by
 have hj:=join_split e.path;have hne:¬ sPath=sLink:=by decide
 obtain ⟨kind,path,mode,target,size⟩:=e;dsimp only at hs hj;unfold planR planH;dsimp only;by_cases h1:target.size≤100 <;> by_cases h2:(splitP path).2.2=true <;> simp [h1,h2,hs,hne,hj]
end ZJoin
namespace ZRe
open Go.RowKit YteikiojmcipkmaaGreatDoorW.PrintWords YteikiojmcipkmaaGreatDoorW.PrintLast YteikiojmcipkmaaGreatDoorW.PrintMore Oct ZBase
open ZPath ZPlanOk
theorem byte_eq {p:ByteArray} (k:Nat) (hk:k < p.size):p.data.toList[k]?=some (p[k]'hk):=by have h':k < p.data.size:=hk;rw [Array.getElem?_toList,Array.getElem?_eq_getElem h'];rfl
theorem byte_num {b:UInt8} (c:UInt8):((b.toNat:Nat):Int)=(c.toNat:Int)↔b=c:=by
 constructor
 ·intro h;exact UInt8.toNat_inj.1 (by omega)
 ·rintro rfl;rfl
theorem good_iff (s:ByteArray):good s↔s≠⟨#[]⟩∧s≠⟨#[46]⟩∧s≠⟨#[46,46]⟩∧∀ k (hk:k < s.size),¬ (s[k]'hk=0):=by
 unfold good;rw [index_lt];refine and_congr_right fun _=>and_congr_right fun _=>and_congr_right fun _=>?_;constructor
 ·intro h k hk e;exact h (List.mem_of_getElem? (i:=k) (by rw [byte_eq k hk,e]))
 ·
  intro h hm;obtain ⟨k,hk⟩:=List.mem_iff_getElem?.1 hm;have hl:k < s.size:=by have:=(List.getElem?_eq_some_iff.1 hk).1;simpa using this
  rw [byte_eq k hl] at hk;exact h k hl (Option.some.inj hk)
theorem str_ne {a b:ByteArray} (h:a≠b):(a.toList == b.toList)=false:=by rw [beq_eq_false_iff_ne];intro e;apply h;rw [ByteArray.toList_eq,ByteArray.toList_eq] at e;cases a;cases b;simpa using e
set_option maxHeartbeats 1000000 in
theorem part_calls (s:ByteArray) (hs:s.size≤9223372036854775000) (w:World):Calls Tryz.prog 140 #[.string s] w fun e w'=>(e=.returned (.bool true)∧good s∨e=.returned (.bool false)∧¬ good s)∧w=w':=by
 have G:=hid (good_iff s);by_cases h0:s=⟨#[]⟩
 ·have R:Hid (¬ good s):=hid fun h=>h.1 h0;subst h0;go_enter Tryz.func140,Tryz.ntmps140;go_wp2;go_ret;exact ⟨.inr ⟨rfl,R.out⟩,rfl⟩
 by_cases h1:s=⟨#[46]⟩
 ·have R:Hid (¬ good s):=hid fun h=>h.2.1 h1;subst h1;go_enter Tryz.func140,Tryz.ntmps140;go_wp2;go_ret;exact ⟨.inr ⟨rfl,R.out⟩,rfl⟩
 by_cases h2:s=⟨#[46,46]⟩
 ·have R:Hid (¬ good s):=hid fun h=>h.2.2.1 h2;subst h2;go_enter Tryz.func140,Tryz.ntmps140;go_wp2;go_ret;exact ⟨.inr ⟨rfl,R.out⟩,rfl⟩
 have e0:s.toList.isEmpty=false:=by
  have:=str_ne h0;rw [ByteArray.toList_eq ⟨#[]⟩] at this;cases h:s.toList with
  | nil=>rw [h] at this;cases this
  | cons x r=>rfl
 have e1:(s.toList == [46])=false:=by have:=str_ne h1;rw [ByteArray.toList_eq ⟨#[46]⟩] at this;exact this
 have e2:(s.toList == [46,46])=false:=by have:=str_ne h2;rw [ByteArray.toList_eq ⟨#[46,46]⟩] at this;exact this
 have H:=hid (And.intro h0 (And.intro h1 h2));clear h0 h1 h2;go_enter Tryz.func140,Tryz.ntmps140;go_wp2
 go_loop [3] (fun i=>∃ k:Nat,k≤s.size∧i=.int .i64 k∧∀ j (hj:j < s.size),j < k→¬ (s[j]'hj=0)) (fun i=>s.size - (intOf i).toNat)
 case atStart=>exact ⟨0,Nat.zero_le _,rfl,fun j _ h=>absurd h (Nat.not_lt_zero j)⟩
 case round =>
  obtain ⟨k,hk,rfl,hA⟩:=hrel;have HA:=hid hA;clear hA;by_cases hlt:k < s.size
  ·
   by_cases hz:s[k]'hlt=0
   ·
    have e3:(((s[k]'hlt).toNat:Nat):Int)=0:=by rw [hz];rfl
    have R:Hid (¬ good s):=hid fun h=>((G.out).1 h).2.2.2 k hlt hz;clear hz;go_wp2;go_ret;exact ⟨.inr ⟨rfl,R.out⟩,rfl⟩
   ·
    have e3:¬ (((s[k]'hlt).toNat:Nat):Int)=0:=fun e=>hz ((byte_num 0).1 e);have N1:Hid (∀ j (hj:j < s.size),j < k+1→¬ (s[j]'hj=0)):=hid fun j hj hlt'=>by
     by_cases hjk:j=k
     ·subst hjk;exact hz
     ·exact HA.out j hj (by omega)
    clear hz;go_wp2
    go_round
    case rel=>exact ⟨k+1,by omega,by first | rfl | go_num,N1.out⟩
    case measure=>simp [intOf];omega
  ·
   obtain rfl:k=s.size:=by omega
   go_wp2;go_ret;exact ⟨.inl ⟨rfl,(G.out).2 ⟨H.out.1,H.out.2.1,H.out.2.2,fun j hj=>HA.out j hj hj⟩⟩,rfl⟩
def Free (L:List UInt8) (f k:Nat):Prop:=∀ j,f≤j→j < k→L[j]?≠some 47
theorem not_mem_take {L:List UInt8} {f k:Nat} (h:Free L f k):(47:UInt8)∉(L.drop f).take (k - f):=by
 intro hm;obtain ⟨i,hi⟩:=List.mem_iff_getElem?.1 hm;have h1:i < k - f:=by have:=(List.getElem?_eq_some_iff.1 hi).1;rw [List.length_take] at this;omega
 rw [List.getElem?_take_of_lt h1,List.getElem?_drop] at hi;exact h (f+i) (by omega) (by omega) hi
theorem indexByte_split (a:List UInt8) (r:List UInt8) (h:(47:UInt8)∉a):Lib.indexByte (a++47 :: r) 47=a.length:=by
 induction a with
 | nil=>simp [Lib.indexByte]
 | cons x a ih =>simp only [List.mem_cons,not_or] at h;have:=ih h.2;rw [List.cons_append,indexByte_cons,if_neg (fun e=>h.1 e.symm),this,if_neg (by omega)];simp
theorem comps_here {L:List UInt8} {f k:Nat} (h:Free L f k) (hf:f≤k) (hk:L[k]?=some 47):comps (L.drop f)=(L.drop f).take (k - f) :: comps (L.drop (k+1)):=by
 have hlt:k < L.length:=(List.getElem?_eq_some_iff.1 hk).1;have e:L.drop f=(L.drop f).take (k - f)++47 :: L.drop (k+1):=by
  conv=>lhs;rw [← List.take_append_drop (k - f) (L.drop f)]
  congr 1;rw [List.drop_drop,show f+(k - f)=k by omega,List.drop_eq_getElem_cons hlt];congr 1;exact (List.getElem?_eq_some_iff.1 hk).2
 have hi:=indexByte_split _ (L.drop (k+1)) (not_mem_take h);rw [← e] at hi;have hl:((L.drop f).take (k - f)).length=k - f:=by simp;omega
 rw [hl] at hi;have:=(comps_hit _ _ hi).2;rw [List.drop_drop,show f+(k - f+1)=k+1 by omega] at this;exact this
theorem comps_end {L:List UInt8} {f:Nat} (h:Free L f L.length):comps (L.drop f)=[L.drop f]:=by
 refine comps_miss _ ((index_neg _ _).2 ?_);have:=not_mem_take h
 rwa [List.take_of_length_le (by simp)] at this
def goodL (l:List UInt8):Prop:=good ⟨l.toArray⟩
theorem okPath_iff (p:ByteArray):okPath p↔p.size≤65536∧∀ c∈comps p.data.toList,goodL c:=by unfold okPath parts goodL;simp
structure At (L:List UInt8) (f k:Nat):Prop where
 fk:f≤k
 free:Free L f k
 done:∃ d,comps L=d++(if k≤L.length then comps (L.drop f) else [])∧∀ c∈d,goodL c
theorem At.start (L:List UInt8):At L 0 0:=⟨Nat.le_refl _,fun j _ h=>absurd h (Nat.not_lt_zero j),[],by simp,fun c hc=>by cases hc⟩
theorem At.go {L:List UInt8} {f k:Nat} (h:At L f k) (hk:k < L.length) (hn:L[k]?≠some 47):At L f (k+1):=by
 refine ⟨by have:=h.fk;omega,fun j h1 h2=>?_,?_⟩
 ·
  by_cases hj:j=k
  ·subst hj;exact hn
  ·exact h.free j h1 (by omega)
 ·obtain ⟨d,e,hd⟩:=h.done;rw [if_pos (by omega)] at e;exact ⟨d,by rw [if_pos (by omega)];exact e,hd⟩
theorem At.part {L:List UInt8} {f k:Nat} (h:At L f k) (hk:k≤L.length) (hs:k=L.length∨L[k]?=some 47):(L.drop f).take (k - f)∈comps L:=by
 obtain ⟨d,e,hd⟩:=h.done;rw [if_pos hk] at e;rw [e];rcases hs with rfl | hs
 ·rw [comps_end h.free,List.take_of_length_le (by simp)];simp
 ·rw [comps_here h.free h.fk hs];simp
theorem At.next {L:List UInt8} {f k:Nat} (h:At L f k) (hk:k≤L.length) (hs:k=L.length∨L[k]?=some 47) (hg:goodL ((L.drop f).take (k - f))):At L (k+1) (k+1):=by
 refine ⟨Nat.le_refl _,fun j h1 h2=>by omega,?_⟩;obtain ⟨d,e,hd⟩:=h.done;rw [if_pos hk] at e;rcases hs with rfl | hs
 ·
  refine ⟨comps L,by rw [if_neg (by omega)];simp,fun c hc=>?_⟩;rw [e,comps_end h.free] at hc;rcases List.mem_append.1 hc with hc | hc
  ·exact hd c hc
  ·
   obtain rfl:c=L.drop f:=by simpa using hc
   rwa [List.take_of_length_le (by simp)] at hg
 ·
  have hlt:k < L.length:=(List.getElem?_eq_some_iff.1 hs).1;refine ⟨d++[(L.drop f).take (k - f)],by rw [if_pos (by omega),e,comps_here h.free h.fk hs];simp,fun c hc=>?_⟩;rcases List.mem_append.1 hc with hc | hc
  ·exact hd c hc
  ·
   obtain rfl:c=(L.drop f).take (k - f):=by simpa using hc
   exact hg
theorem At.all {L:List UInt8} {f k:Nat} (h:At L f k) (hk:L.length < k):∀ c∈comps L,goodL c:=by obtain ⟨d,e,hd⟩:=h.done;rw [if_neg (by omega)] at e;rw [e];simpa using hd
theorem extract_list (p:ByteArray) (f k:Nat):p.extract f k=⟨((p.data.toList.drop f).take (k - f)).toArray⟩:=by
 cases p with
 | mk d =>simp [ByteArray.extract,ByteArray.copySlice];apply Array.ext';simp [List.extract]
theorem piece {p:ByteArray} {f k:Nat} (h:At p.data.toList f k) (hk:k≤p.size):goodL ((p.data.toList.drop f).take (k - f))↔good (p.extract f k):=by rw [extract_list];rfl
set_option maxHeartbeats 2000000 in
theorem check_calls (p:ByteArray) (hs:p.size≤9223372036854775000) (w:World):Calls Tryz.prog 101 #[.string p] w fun e w'=>∃ x:Int,e=.returned (.int .i64 x)∧(x=0↔okPath p)∧w=w':=by
 have OK:=hid (okPath_iff p);have hL:p.data.toList.length=p.size:=by simp
 have PC:=hid (fun (f k:Nat) W=>part_calls (p.extract f k) (by rw [ByteArray.size_extract];omega) W);by_cases hbig:65536 < p.size
 ·
  have R:Hid (¬ okPath p):=hid fun h=>by have:=h.1;omega
  go_enter Tryz.func101,Tryz.ntmps101;go_wp2;go_ret;exact ⟨7,rfl,⟨fun h=>absurd h (by decide),fun h=>absurd h R.out⟩,rfl⟩
 have HL:=hid hL;have hb2:p.size≤65536:=by omega
 clear hL;go_enter Tryz.func101,Tryz.ntmps101;go_wp2
 go_loop [3,4] (fun vf vk=>∃ f k:Nat,k≤p.size+1∧vf=.int .i64 f∧vk=.int .i64 k∧At p.data.toList f k) (fun _ vk=>p.size+1 - (intOf vk).toNat)
 case atStart=>exact ⟨0,0,Nat.zero_le _,rfl,rfl,At.start _⟩
 case round =>
  obtain ⟨f,k,hk,rfl,rfl,hA⟩:=hrel;have HA:=hid hA;have hfk:=hA.fk;clear hA;by_cases hle:k≤p.size
  ·
   by_cases hsep:k=p.size∨p.data.toList[k]?=some 47
   ·
    have PP:=hid (HA.out.part (by rw [HL.out];exact hle) (by rw [HL.out];exact hsep));have HP:=hid (piece HA.out hle);have NX:=hid (fun hg=>HA.out.next (by rw [HL.out];exact hle) (by rw [HL.out];exact hsep) hg);by_cases hend:k=p.size
    ·
     subst hend;clear hsep
     go_wp2_with fail
     refine (PC.out _ _ _).mono ?_;rintro e w1 ⟨⟨rfl,hg⟩ | ⟨rfl,hg⟩,rfl⟩
     ·
      have N:=hid (NX.out (HP.out.2 hg));clear hg
      go_wp2_with fail
      go_round
      case rel=>exact ⟨p.size+1,p.size+1,Nat.le_refl _,by first | rfl | go_num,by first | rfl | go_num,N.out⟩
      case measure=>simp [intOf]
     ·
      have R:Hid (¬ okPath p):=hid fun h=>hg (HP.out.1 ((OK.out.1 h).2 _ PP.out));clear hg
      go_wp2_with fail
      go_ret;exact ⟨6,rfl,⟨fun h=>absurd h (by decide),fun h=>absurd h R.out⟩,rfl⟩
    ·
     have hlt:k < p.size:=by omega
     have h47:p.data.toList[k]?=some 47:=hsep.resolve_left hend;have hb:p[k]'hlt=47:=by rw [byte_eq k hlt] at h47;exact Option.some.inj h47
     have e3:(((p[k]'hlt).toNat:Nat):Int)=47:=by rw [hb];rfl
     have e4:((k:Int) == (p.size:Int))=false:=by rw [beq_eq_false_iff_ne];omega
     clear hsep h47 hb
     go_wp2_with fail
     refine (PC.out _ _ _).mono ?_;rintro e w1 ⟨⟨rfl,hg⟩ | ⟨rfl,hg⟩,rfl⟩
     ·
      have N:=hid (NX.out (HP.out.2 hg));clear hg
      go_wp2_with fail
      go_round
      case rel=>exact ⟨k+1,k+1,by omega,by first | rfl | go_num,by first | rfl | go_num,N.out⟩
      case measure=>simp [intOf];omega
     ·
      have R:Hid (¬ okPath p):=hid fun h=>hg (HP.out.1 ((OK.out.1 h).2 _ PP.out));clear hg
      go_wp2_with fail
      go_ret;exact ⟨6,rfl,⟨fun h=>absurd h (by decide),fun h=>absurd h R.out⟩,rfl⟩
   ·
    have hlt:k < p.size:=by omega
    have hb:¬ p[k]'hlt=47:=fun e=>hsep (.inr (by rw [byte_eq k hlt,e]));have e3:¬ (((p[k]'hlt).toNat:Nat):Int)=47:=fun e=>hb ((byte_num 47).1 e);have e4:((k:Int) == (p.size:Int))=false:=by rw [beq_eq_false_iff_ne];omega
    have N:=hid (HA.out.go (by rw [HL.out];exact hlt) (fun e=>hsep (.inr e)));clear hsep hb
    go_wp2_with fail
    go_round
    case rel=>exact ⟨f,k+1,by omega,rfl,by first | rfl | go_num,N.out⟩
    case measure=>simp [intOf];omega
  ·
   have R:Hid (okPath p):=hid (OK.out.2 ⟨hb2,HA.out.all (by rw [HL.out];omega)⟩)
   go_wp2_with fail
   go_ret;exact ⟨0,rfl,⟨fun _=>R.out,fun _=>rfl⟩,rfl⟩
end ZRe
namespace ZRg
open Go.RowKit YteikiojmcipkmaaGreatDoorW.PrintWords YteikiojmcipkmaaGreatDoorW.PrintLast YteikiojmcipkmaaGreatDoorW.PrintMore Oct ZBase
open ZPath ZPlanOk ZRe
theorem tail_list (p:ByteArray) (M:Nat):(p.extract M p.size).data.toList=p.data.toList.drop M:=by rw [extract_list];show (p.data.toList.drop M).take (p.size - M)=_;exact List.take_of_length_le (by simp)
theorem split_some {p:ByteArray} {i:Nat} (hn:100 < p.size) (h1:1≤i) (h2:i≤155) (h3:i+2≤p.size) (h4:p.size≤i+101) (hk:p.data.toList[i]?=some 47) (hf:∀ j,max 1 (p.size - 101)≤j→j < i→p.data.toList[j]?≠some 47): splitP p=(p.extract 0 i,p.extract (i+1) p.size,true):=by
 have hl:p.data.toList.length=p.size:=by simp
 have e:p.data.toList.drop (max 1 (p.size - 101))=(p.data.toList.drop (max 1 (p.size - 101))).take (i - max 1 (p.size - 101))++47 :: p.data.toList.drop (i+1):=by
  conv=>lhs;rw [← List.take_append_drop (i - max 1 (p.size - 101)) (p.data.toList.drop (max 1 (p.size - 101)))]
  congr 1;rw [List.drop_drop,show max 1 (p.size - 101)+(i - max 1 (p.size - 101))=i by omega,List.drop_eq_getElem_cons (show i < p.data.toList.length by omega)];congr 1;exact (List.getElem?_eq_some_iff.1 hk).2
 have hi:=indexByte_split _ (p.data.toList.drop (i+1)) (not_mem_take (L:=p.data.toList) (f:=max 1 (p.size - 101)) (k:=i) hf);rw [← e] at hi;have hlen:((p.data.toList.drop (max 1 (p.size - 101))).take (i - max 1 (p.size - 101))).length=i - max 1 (p.size - 101):=by rw [List.length_take,List.length_drop];omega
 rw [hlen] at hi;unfold splitP;rw [if_neg (by omega),tail_list,hi,if_neg (by omega)];have e1:(((max 1 (p.size - 101):Nat):Int)+((i - max 1 (p.size - 101):Nat):Int)).toNat=i:=by omega
 have e2:(((max 1 (p.size - 101):Nat):Int)+((i - max 1 (p.size - 101):Nat):Int)+1).toNat=i+1:=by omega
 rw [e1,e2]
theorem split_none {p:ByteArray} (hn:100 < p.size) (h:∀ j,1≤j→j≤155→j+2≤p.size→p.size≤j+101→p.data.toList[j]?≠some 47):splitP p=(⟨#[]⟩,⟨#[]⟩,false):=by
 have hl:p.data.toList.length=p.size:=by simp
 unfold splitP;rw [if_neg (by omega),tail_list];by_cases h0:Lib.indexByte (p.data.toList.drop (max 1 (p.size - 101))) 47 < 0
 ·rw [if_pos (.inl h0)]
 ·
  have ha:=ZJoin.index_at 47 (p.data.toList.drop (max 1 (p.size - 101))) (by omega);rw [List.getElem?_drop] at ha;have hlt:max 1 (p.size - 101)+(Lib.indexByte (p.data.toList.drop (max 1 (p.size - 101))) 47).toNat < p.data.toList.length:=(List.getElem?_eq_some_iff.1 ha).1;rw [if_pos];by_cases hc:((max 1 (p.size - 101):Nat):Int)+Lib.indexByte (p.data.toList.drop (max 1 (p.size - 101))) 47 > 155
  ·exact .inr (.inl hc)
  ·
   by_cases hd:((max 1 (p.size - 101):Nat):Int)+Lib.indexByte (p.data.toList.drop (max 1 (p.size - 101))) 47=(p.size:Int) - 1
   ·exact .inr (.inr hd)
   ·exact absurd ha (h _ (by omega) (by omega) (by omega) (by omega))
set_option maxHeartbeats 2000000 in
theorem split_calls (p:ByteArray) (hs:p.size≤9223372036854775000) (w:World):Calls Tryz.prog 68 #[.string p] w fun e w'=>e=.returned (.tuple #[.string (splitP p).1,.string (splitP p).2.1,.bool (splitP p).2.2])∧Below w.heap.size w w':=by
 by_cases h100:p.size≤100
 ·
  have E:splitP p=(⟨#[]⟩,p,true):=by unfold splitP;rw [if_pos h100]
  rw [E];clear E;go_enter Tryz.func68,Tryz.ntmps68;go_wp2
  go_ret3
  exact ⟨rfl,Below.refl _ _⟩
 have S1:=hid (fun i=>split_some (p:=p) (i:=i) (by omega));have S0:=hid (split_none (p:=p) (by omega));obtain ⟨R,hR⟩:∃ R,splitP p=R:=⟨_,rfl⟩;have HR:=hid hR;rw [hR];clear hR;go_enter Tryz.func68,Tryz.ntmps68;go_wp2
 go_loop [2,3,4,5] (fun v2 v3 v4 vi=>∃ i:Nat,v2=.string ⟨#[]⟩∧v3=.string ⟨#[]⟩∧v4=.bool false∧1≤i∧i≤156∧i≤p.size∧vi=.int .i64 i∧∀ j,1≤j→j < i→j+2≤p.size→p.size≤j+101→p.data.toList[j]?≠some 47) (fun _ _ _ vi=>156 - (intOf vi).toNat)
 case atStart=>exact ⟨1,rfl,rfl,rfl,Nat.le_refl _,by omega,by omega,rfl,fun j h1 h2=>by omega⟩
 case round =>
  obtain ⟨i,rfl,rfl,rfl,hi1,hi2,hi3,rfl,hA⟩:=hrel;have HA:=hid hA;clear hA;by_cases hin:i < p.size∧i≤155
  ·
   obtain ⟨hlt,h155⟩:=hin;obtain ⟨r,hr⟩:∃ r:Nat,p.size=i+1+r:=⟨p.size - i - 1,by omega⟩;by_cases hfit:p.data.toList[i]?=some 47∧1≤r∧r≤100
   ·
    have E:=hid (HR.out.symm.trans (S1.out i hi1 h155 (by omega) (by omega) hfit.1 (fun j hj1 hj2=>HA.out j (by omega) hj2 (by omega) (by omega))));obtain ⟨h47,hr1,hr2⟩:=hfit;have hb:p[i]'hlt=47:=by rw [byte_eq i hlt] at h47;exact Option.some.inj h47
    have e3:(((p[i]'hlt).toNat:Nat):Int)=47:=by rw [hb];rfl
    have e4:(p.size:Int) - i - 1=r:=by omega
    clear h47 hb hr;have E2:=E.out;subst E2
    go_wp2_with fail
    go_quiet (fail)
    go_wp2_with fail
    go_ret3
    exact ⟨by first | rfl | simp,pw_below_drewN (Below.refl _ _) _⟩
   ·
    have N:Hid (∀ j,1≤j→j < i+1→j+2≤p.size→p.size≤j+101→p.data.toList[j]?≠some 47):=hid fun j h1 h2 h3 h4=>by
     by_cases hj:j=i
     ·subst hj;exact fun e=>hfit ⟨e,by omega,by omega⟩
     ·exact HA.out j h1 (by omega) h3 h4
    by_cases h47:p[i]'hlt=47
    ·
     have e3:(((p[i]'hlt).toNat:Nat):Int)=47:=by rw [h47];rfl
     have hrr:r < 1∨100 < r:=by
      have:=byte_eq i hlt;rw [h47] at this;by_cases hx:1≤r∧r≤100
      ·exact absurd ⟨this,hx.1,hx.2⟩ hfit
      ·omega
     have e4:(p.size:Int) - i - 1=r:=by omega
     clear h47 hfit hr;rcases hrr with hrr | hrr
     ·
      have e5:¬ (1:Int)≤(r:Int):=by omega
      go_wp2_with fail
      go_round
      case rel=>exact ⟨i+1,rfl,rfl,rfl,by omega,by omega,by omega,by first | rfl | go_num,N.out⟩
      case measure=>first | (simp [intOf];done) | (simp [intOf];omega)
     ·
      have e5:(1:Int)≤(r:Int):=by omega
      have e6:¬ (r:Int)≤100:=by omega
      go_wp2_with fail
      go_round
      case rel=>exact ⟨i+1,rfl,rfl,rfl,by omega,by omega,by omega,by first | rfl | go_num,N.out⟩
      case measure=>first | (simp [intOf];done) | (simp [intOf];omega)
    ·
     have e3:¬ (((p[i]'hlt).toNat:Nat):Int)=47:=fun e=>h47 ((byte_num 47).1 e);clear h47 hfit hr
     go_wp2_with fail
     go_round
     case rel=>exact ⟨i+1,rfl,rfl,rfl,by omega,by omega,by omega,by first | rfl | go_num,N.out⟩
     case measure=>first | (simp [intOf];done) | (simp [intOf];omega)
  ·
   have E:=hid (HR.out.symm.trans (S0.out fun j h1 h2 h3 h4=>HA.out j h1 (by omega) h3 h4));have E2:=E.out;subst E2;by_cases hlt:i < p.size
   ·
    have h155:¬ i≤155:=fun h=>hin ⟨hlt,h⟩;clear hin
    go_wp2_with fail
    go_ret3
    exact ⟨rfl,Below.refl _ _⟩
   ·
    clear hin
    go_wp2_with fail
    go_ret3
    exact ⟨rfl,Below.refl _ _⟩
end ZRg
namespace ZRh
open Go.RowKit YteikiojmcipkmaaGreatDoorW.PrintWords YteikiojmcipkmaaGreatDoorW.PrintLast YteikiojmcipkmaaGreatDoorW.PrintMore Oct ZBase
open ZPath ZPlanOk ZRe ZStr
theorem get_bang {p:ByteArray} (k:Nat) (hk:k < p.size):p.data[k]! = p[k]'hk:=by have h':k < p.data.size:=hk;rw [getElem!_pos p.data k h'];rfl
set_option maxHeartbeats 1000000 in
theorem last_calls (p:ByteArray) (hs:p.size≤9223372036854775000) (w:World):Calls Tryz.prog 139 #[.string p] w fun e w'=>e=.returned (.int .i64 (Lib.lastIndexByte p 47))∧w=w':=by
 have SP:Hid (∀ i:Nat,i < p.size→p.data.toList[i]?=some 47→(∀ j,i < j→j < p.size→p.data.toList[j]?≠some 47)→Lib.lastIndexByte p 47=i):=hid fun i hi h47 hA=>by
  have hb:p[i]'hi=47:=by rw [byte_eq i hi] at h47;exact Option.some.inj h47
  rcases Lib.lastIdx_spec p 47 p.size with ⟨_,h2⟩ | ⟨j,hj,h1,h2,h3⟩
  ·exact absurd (by rw [get_bang i hi,hb];rfl) (h2 i hi)
  ·
   by_cases e:j=i
   ·subst e;exact h1
   ·
    rcases Nat.lt_or_ge i j with h | h
    ·refine absurd ?_ (hA j h hj);rw [get_bang j hj] at h2;rw [byte_eq j hj,(byte_num (b:=p[j]'hj) 47).1 h2]
    ·exact absurd (by rw [get_bang i hi,hb];rfl) (h3 i (by omega) hi)
 have S0:Hid ((∀ j,j < p.size→p.data.toList[j]?≠some 47)→Lib.lastIndexByte p 47=-1):=hid fun hA=>by
  rcases Lib.lastIdx_spec p 47 p.size with ⟨h1,_⟩ | ⟨j,hj,h1,h2,h3⟩
  ·exact h1
  ·refine absurd ?_ (hA j hj);rw [get_bang j hj] at h2;rw [byte_eq j hj,(byte_num (b:=p[j]'hj) 47).1 h2]
 obtain ⟨R,hR⟩:∃ R,Lib.lastIndexByte p 47=R:=⟨_,rfl⟩;have HR:=hid hR;rw [hR];clear hR;go_enter Tryz.func139,Tryz.ntmps139;go_wp2
 go_loop [2,3] (fun v2 vi=>∃ i:Nat,v2=.int .i64 0∧i≤p.size∧vi=.int .i64 ((i:Int) - 1)∧∀ j,i≤j→j < p.size→p.data.toList[j]?≠some 47) (fun _ vi=>(intOf vi+1).toNat)
 case atStart=>exact ⟨p.size,rfl,Nat.le_refl _,by first | rfl | go_num,fun j h1 h2=>by omega⟩
 case round =>
  obtain ⟨i,rfl,hi,rfl,hA⟩:=hrel;have HA:=hid hA;clear hA;cases i with
  | zero =>have E:=hid (HR.out.symm.trans (S0.out fun j h=>HA.out j (Nat.zero_le _) h));have E2:=E.out;subst E2;go_wp2;go_ret;exact ⟨rfl,rfl⟩
  | succ i =>
   have hlt:i < p.size:=by omega
   have ei:((i+1:Nat):Int) - 1=(i:Int):=by omega
   rw [ei];clear ei;by_cases h47:p[i]'hlt=47
   ·
    have e3:(((p[i]'hlt).toNat:Nat):Int)=47:=by rw [h47];rfl
    have E:=hid (HR.out.symm.trans (SP.out i hlt (by rw [byte_eq i hlt,h47]) (fun j h1 h2=>HA.out j (by omega) h2)));have E2:=E.out;subst E2;clear h47;go_wp2;go_ret;exact ⟨rfl,rfl⟩
   ·
    have e3:¬ (((p[i]'hlt).toNat:Nat):Int)=47:=fun e=>h47 ((byte_num 47).1 e);have N:Hid (∀ j,i≤j→j < p.size→p.data.toList[j]?≠some 47):=hid fun j h1 h2=>by
     by_cases hj:j=i
     ·subst hj;rw [byte_eq j h2];exact fun e=>h47 (Option.some.inj e)
     ·exact HA.out j (by omega) h2
    clear h47;go_wp2
    go_round
    case rel=>exact ⟨i,rfl,by omega,by first | rfl | go_num,N.out⟩
    case measure=>first | (simp [intOf];done) | (simp [intOf];omega)
set_option maxHeartbeats 1000000 in
theorem parent_calls (p:ByteArray) (hs:p.size≤9223372036854775000) (w:World):Calls Tryz.prog 100 #[.string p] w fun e w'=>e=.returned (.string (parentP p))∧w=w':=by
 have LC:=hid (fun W=>last_calls p hs W);rcases Lib.lastIdx_spec p 47 p.size with ⟨h1,_⟩ | ⟨i,hi,h1,_,_⟩
 ·
  have h1:Lib.lastIndexByte p 47=-1:=h1;rw [h1] at LC;have e:parentP p=⟨#[]⟩:=by unfold parentP;rw [h1];rfl
  rw [e];clear e h1;go_enter Tryz.func100,Tryz.ntmps100
  go_wp2_with fail
  refine (LC.out _).mono ?_;rintro e w1 ⟨rfl,rfl⟩;go_wp2;go_ret;exact ⟨rfl,rfl⟩
 ·
  have h1:Lib.lastIndexByte p 47=(i:Int):=h1;rw [h1] at LC;have e:parentP p=p.extract 0 i:=by unfold parentP;rw [h1,if_neg (by omega)];rfl
  rw [e];clear e h1;go_enter Tryz.func100,Tryz.ntmps100
  go_wp2_with fail
  refine (LC.out _).mono ?_;rintro e w1 ⟨rfl,rfl⟩;go_wp2;go_ret;exact ⟨rfl,rfl⟩
theorem less_same (x:UInt8) (l m:List UInt8):Op.bytesLess (x :: l) (x :: m)=Op.bytesLess l m:=by simp [Op.bytesLess]
theorem less_lt {x y:UInt8} (l m:List UInt8) (h:x < y):Op.bytesLess (x :: l) (y :: m)=true:=by simp [Op.bytesLess,h]
theorem less_gt {x y:UInt8} (l m:List UInt8) (h:x < y):Op.bytesLess (y :: m) (x :: l)=false:=by
 have h1:¬ y < x:=by intro h';have:=UInt8.lt_iff_toNat_lt.1 h;have:=UInt8.lt_iff_toNat_lt.1 h';omega
 have h2:y≠x:=by rintro rfl;exact h1 h
 simp [Op.bytesLess,h1,h2]
theorem drop_at {p:ByteArray} (k:Nat) (hk:k < p.size):p.data.toList.drop k=p[k]'hk :: p.data.toList.drop (k+1):=by
 have h':k < p.data.toList.length:=by simpa using hk
 rw [List.drop_eq_getElem_cons h'];congr 1
structure Alike (a b:ByteArray) (k:Nat):Prop where
 ab:lt a b=Op.bytesLess (a.data.toList.drop k) (b.data.toList.drop k)
 ba:lt b a=Op.bytesLess (b.data.toList.drop k) (a.data.toList.drop k)
theorem Alike.start (a b:ByteArray):Alike a b 0:=⟨by unfold lt;rw [ByteArray.toList_eq,ByteArray.toList_eq];rfl,by unfold lt;rw [ByteArray.toList_eq,ByteArray.toList_eq];rfl⟩
theorem Alike.next {a b:ByteArray} {k:Nat} (h:Alike a b k) (ha:k < a.size) (hb:k < b.size) (e:a[k]'ha=b[k]'hb):Alike a b (k+1):=by obtain ⟨h1,h2⟩:=h;rw [drop_at k ha,drop_at k hb,e,less_same] at h1 h2;exact ⟨h1,h2⟩
theorem Alike.less {a b:ByteArray} {k:Nat} (h:Alike a b k) (ha:k < a.size) (hb:k < b.size) (e:a[k]'ha < b[k]'hb):cmpV a b=-1:=by obtain ⟨h1,h2⟩:=h;rw [drop_at k ha,drop_at k hb,less_lt _ _ e] at h1;unfold cmpV;rw [if_pos h1]
theorem Alike.more {a b:ByteArray} {k:Nat} (h:Alike a b k) (ha:k < a.size) (hb:k < b.size) (e:b[k]'hb < a[k]'ha):cmpV a b=1:=by obtain ⟨h1,h2⟩:=h;rw [drop_at k ha,drop_at k hb,less_gt _ _ e] at h1;rw [drop_at k ha,drop_at k hb,less_lt _ _ e] at h2;unfold cmpV;rw [if_neg (by rw [h1];decide),if_pos h2]
theorem drop_all {p:ByteArray} {k:Nat} (h:p.size≤k):p.data.toList.drop k=[]:=List.drop_eq_nil_of_le (by simpa using h)
theorem Alike.short {a b:ByteArray} {k:Nat} (h:Alike a b k) (ha:a.size≤k) (hb:k < b.size):cmpV a b=-1:=by obtain ⟨h1,h2⟩:=h;rw [drop_all ha,drop_at k hb] at h1;unfold cmpV;rw [if_pos (by rw [h1];rfl)]
theorem Alike.long {a b:ByteArray} {k:Nat} (h:Alike a b k) (ha:k < a.size) (hb:b.size≤k):cmpV a b=1:=by obtain ⟨h1,h2⟩:=h;rw [drop_all hb,drop_at k ha] at h1 h2;unfold cmpV;rw [if_neg (by rw [h1];simp [Op.bytesLess]),if_pos (by rw [h2];rfl)]
theorem Alike.same {a b:ByteArray} {k:Nat} (h:Alike a b k) (ha:a.size≤k) (hb:b.size≤k):cmpV a b=0:=by obtain ⟨h1,h2⟩:=h;rw [drop_all hb,drop_all ha] at h1 h2;unfold cmpV;rw [if_neg (by rw [h1];simp [Op.bytesLess]),if_neg (by rw [h2];simp [Op.bytesLess])]
set_option maxHeartbeats 2000000 in
theorem compare_calls (a b:ByteArray) (ha:a.size≤9223372036854775000) (hb:b.size≤9223372036854775000) (w:World):Calls Tryz.prog 66 #[.string a,.string b] w fun e w'=>e=.returned (.int .i64 (cmpV a b))∧Drawn0 w w':=by
 obtain ⟨R,hR⟩:∃ R,cmpV a b=R:=⟨_,rfl⟩;have HR:=hid hR;rw [hR];clear hR;have AS:=hid (Alike.start a b);go_enter Tryz.func66,Tryz.ntmps66;go_wp2
 go_loopw [4,5] (fun v4 vi wr=>∃ k:Nat,v4=.int .i64 0∧k≤a.size∧k≤b.size∧vi=.int .i64 k∧Alike a b k∧Drawn0 w wr) (fun _ vi _=>a.size - (intOf vi).toNat)
 case atStart=>exact ⟨0,rfl,Nat.zero_le _,Nat.zero_le _,rfl,AS.out,Drawn0.refl _⟩
 case round =>
  obtain ⟨k,rfl,hka,hkb,rfl,hA,hB⟩:=hrel;have HA:=hid hA;have HB:=hid hB;clear hA hB;by_cases hla:k < a.size
  ·
   by_cases hlb:k < b.size
   ·
    have b1:(k:Int) < (a.size:Int):=by omega
    have b2:(k:Int) < (b.size:Int):=by omega
    obtain ⟨x,hx⟩:∃ x:Int,(((a[k]'hla).toNat:Nat):Int)=x:=⟨_,rfl⟩;obtain ⟨y,hy⟩:∃ y:Int,(((b[k]'hlb).toNat:Nat):Int)=y:=⟨_,rfl⟩;have HX:=hid hx;have HY:=hid hy;by_cases h1:x < y
    ·
     have E:=hid (HR.out.symm.trans (HA.out.less hla hlb (by rw [UInt8.lt_iff_toNat_lt];omega)));have E2:=E.out;subst E2
     go_wp2_with fail
     go_quiet (fail)
     go_wp2_with fail
     go_ret;exact ⟨rfl,by first | exact HB.out.step _ | exact (HB.out.step _).step _⟩
    ·
     by_cases h2:y < x
     ·
      have E:=hid (HR.out.symm.trans (HA.out.more hla hlb (by rw [UInt8.lt_iff_toNat_lt];omega)));have E2:=E.out;subst E2
      go_wp2_with fail
      go_quiet (fail)
      go_wp2_with fail
      go_quiet (fail)
      go_wp2_with fail
      go_ret;exact ⟨rfl,by first | exact HB.out.step _ | exact (HB.out.step _).step _⟩
     ·
      have N:=hid (HA.out.next hla hlb (UInt8.toNat_inj.1 (by omega)))
      go_wp2_with fail
      go_quiet (fail)
      go_wp2_with fail
      go_quiet (fail)
      go_wp2_with fail
      go_roundw
      case rel=>exact ⟨k+1,rfl,by omega,by omega,by first | rfl | go_num,N.out,by first | exact HB.out.step _ | exact (HB.out.step _).step _⟩
      case measure=>first | (simp [intOf];done) | (simp [intOf];omega)
   ·
    have E:=hid (HR.out.symm.trans (HA.out.long hla (by omega)));obtain rfl:k=b.size:=by omega
    have E2:=E.out;subst E2;have b2:(b.size:Int) < (a.size:Int):=by omega
    have b3:¬ (a.size:Int) < (b.size:Int):=by omega
    go_wp2_with fail
    go_ret;exact ⟨rfl,HB.out⟩
  ·
   obtain rfl:k=a.size:=by omega
   by_cases hlb:a.size < b.size
   ·
    have E:=hid (HR.out.symm.trans (HA.out.short (Nat.le_refl _) hlb));have E2:=E.out;subst E2;have b2:(a.size:Int) < (b.size:Int):=by omega
    go_wp2_with fail
    go_ret;exact ⟨rfl,HB.out⟩
   ·
    have E:=hid (HR.out.symm.trans (HA.out.same (Nat.le_refl _) (by omega)));have E2:=E.out;subst E2;have b2:¬ (a.size:Int) < (b.size:Int):=by omega
    have b3:¬ (b.size:Int) < (a.size:Int):=by omega
    go_wp2_with fail
    go_ret;exact ⟨rfl,HB.out⟩
end ZRh
namespace ZRc
open Go.RowKit YteikiojmcipkmaaGreatDoorW.PrintWords YteikiojmcipkmaaGreatDoorW.PrintLast YteikiojmcipkmaaGreatDoorW.PrintMore Oct ZBase ZSumPlain ZCstr
open ZPlanOk (noNul_iff)
structure Lies (w:World) (base g cap:Nat) (l:List Int):Prop where
 lt:g < w.heap.size
 from_:base≤g
 le:l.length≤cap
 max:cap≤maxLen
 cell:∀ j,j < l.length→w.cell? ⟨g,j,none⟩=some (.int .u8 (l.getD j 0))
 spare:∀ j,j < cap→(w.cell? ⟨g,j,none⟩).isSome=true∧w.frozen? ⟨g,j,none⟩=false
theorem Lies.reads {w:World} {base g cap:Nat} {l:List Int} (h:Lies w base g cap l):Kd.C (Kd.int .u8) w (some ⟨g,0,none⟩) l.length l :=
 Kd.C_of_reads (d:=(0:Int)) (h1:=fun _=>rfl) ⟨rfl,by have:=h.le;have:=h.max;unfold maxLen at this;omega,fun _=>⟨_,rfl,fun j hj=>by rw [add_plain];exact h.cell j hj⟩⟩
theorem Lies.of_own {w:World} {base g cap n:Nat} {l:List Int} (h:ZBase.Own w base g cap n l):Lies w base g cap l:=by
 have hl:=h.len;have hle:=h.le;refine ⟨h.lt,h.from_,by omega,?_,fun j hj=>(h.cell j (by omega)).1,fun j hj=>?_⟩
 ·
  rcases h.row.2 with ⟨h',_⟩ | ⟨g',cap',cur,h',_,_,_,hm,_⟩
  ·cases h'
  ·
   injection h' with _ _ h3
   rw [h3];exact hm
 ·
  rcases h.row.2 with ⟨h',_⟩ | ⟨g',cap',cur,h',_,hb,_,_,hs,_⟩
  ·cases h'
  ·
   injection h' with h1 _ h3
   simp only [Option.some.injEq,Addr.mk.injEq] at h1;obtain ⟨rfl,_⟩:=h1;subst h3;exact ⟨by simp [World.cell?,hb];omega,by simp [World.frozen?,hb]⟩
theorem Lies.alloc {w:World} {base g cap:Nat} {l:List Int} (h:Lies w base g cap l) (o:Obj):Lies (w.alloc o) base g cap l:=by
 have hb:=below_alloc (Below.refl w.heap.size w) o;refine ⟨by have:=h.lt;simp;omega,h.from_,h.le,h.max,fun j hj=>(hb.cell (p:=⟨g,j,none⟩) h.lt).trans (h.cell j hj),fun j hj=>?_⟩;have e:(w.alloc o).frozen? ⟨g,j,none⟩=w.frozen? ⟨g,j,none⟩:=by simp only [World.frozen?,hb.block g h.lt]
 rw [hb.cell (p:=⟨g,j,none⟩) h.lt,e];exact h.spare j hj
theorem lies_bytes (W:World) (s:ByteArray) (hs:s.size≤maxLen):Lies (Lib.bytesWorld W 5 s) W.heap.size W.heap.size (grownCap W s.size 0 5) (bytesOf s):=by
 have hn:=Lib.bytesWorld_at_new W 5 s;have hg:=grownCap_ge W s.size 0 5;have hsz:(Lib.bytesCells W 5 s).size=grownCap W s.size 0 5:=by have:s.data.size=s.size:=rfl;simp [Lib.bytesCells];omega
 refine ⟨by rw [Lib.bytesWorld_size];omega,Nat.le_refl _,by rw [bytesOf_length];exact hg,grownCap_le_maxLen W s.size 0 5 hs,fun j hj=>?_,fun j hj=>?_⟩
 ·
  rw [bytesOf_length] at hj;rw [Lib.bytesWorld_cell W 5 s j hj];have h':j < s.data.toList.length:=by rw [data_length];exact hj
  simp [bytesOf,List.getD_eq_getElem?_getD,List.getElem?_eq_getElem h']
 ·
  refine ⟨?_,?_⟩
  ·simp only [World.cell?,hn];rw [Array.getElem?_eq_getElem (by omega)];rfl
  ·simp only [World.frozen?,hn,hsz,Bool.and_eq_false_iff,decide_eq_false_iff_not];left;omega
theorem append_one {ops:Array Oper} {rest:List Oper} {o:Oper} {a:Act} {Q:Exit→Act→World→Prop} (w0 W:World) (base:Nat) (hgd:o.guard=none) (s x:Operand) (ho:o.op=.call { callee:=.builtin .append,args:=#[s,x],argTypes:=#[30,30] }) (g cap n:Nat) (l:List Int) (hn:l.length=n) (y:Int) (ad:Addr) (c:Nat) (hs:a.eval s=.slice (some ⟨g,0,none⟩) n cap) (hx:a.eval x=.slice (some ad) 1 c) (HL:Lies W base g cap l) (HR:Kd.C (Kd.int .u8) W (some ad) 1 [y]) (HB:Below base w0 W) (hl:n+1≤140737488355328) (h:∀ g' cap' w1,Lies w1 base g' cap' (l++[y])→Below base w0 w1→wpList Tryz.prog ops Q rest (a.put o.dst (.slice (some ⟨g',0,none⟩) (n+1) cap')) w1) : wpList Tryz.prog ops Q (o :: rest) a W:=by
 subst hn;obtain ⟨i,hi,hz⟩:=Option.map_eq_some_iff.1 info5;simp only [Prod.mk.injEq] at hz;have hbase:base≤W.heap.size:=by have:=HL.lt;have:=HL.from_;omega
 have hnew:∀ (j:Nat) (u:Value),(nums .u8 [y])[j]?=some u→W.cell? (ad.add j)=some u:=by
  intro j u hu;have hj:j=0:=by have:=(List.getElem?_eq_some_iff.1 hu).1;simpa [nums] using this
  subst hj;obtain ⟨ad',e,hc⟩:=Kd.at_int HR 0 (by decide) (by decide);cases e;have e0:u=.int .u8 y:=by simpa [nums] using hu.symm
  rw [e0];simpa [rd] using hc
 refine wpList_append_arg W hgd s x 30 ho 5 i (.int .u8 0) 1 1 Tryz.underlying30 hi hz.1 hz.2.1 hz.2.2 rfl (by decide) g 0 l.length cap (nums .u8 l) hs (by simp [nums]) ?_ ad 1 c (nums .u8 [y]) hx (by simp [nums]) hnew (by simp [nums,Value.oneCell']) ?_ (by unfold maxLen;omega) (by omega) ?_ ?_
 ·
  intro j u hu;have hj:j < l.length:=by have:=(List.getElem?_eq_some_iff.1 hu).1;simpa [nums] using this
  rw [Nat.zero_add,HL.cell j hj];simp [nums,List.getElem?_eq_getElem hj] at hu;simp [List.getD_eq_getElem?_getD,List.getElem?_eq_getElem hj,hu]
 ·
  intro hr j hj;have hj0:j=0:=by simpa [nums] using hj
  subst hj0;rw [show 0+l.length * 1+0=l.length by omega];exact HL.spare l.length (by omega)
 ·
  intro hr;have e1:W.setCells g (0+l.length * 1) (nums .u8 [y])=W.setCell ⟨g,l.length,none⟩ (.int .u8 y):=by rw [show 0+l.length * 1=l.length by omega];rfl
  rw [e1];refine h g cap _ ⟨?_,HL.from_,by simp;omega,HL.max,fun j hj=>?_,fun j hj=>?_⟩ ?_
  ·have:=HL.lt;simpa using this
  ·
   simp at hj;by_cases hjl:j=l.length
   ·subst hjl;obtain ⟨u,hu⟩:=Option.isSome_iff_exists.1 (HL.spare l.length (by omega)).1;rw [World.cell?_setCell_same W _ _ hu];simp [List.getD_eq_getElem?_getD]
   ·rw [World.cell?_setCell_other W ⟨g,l.length,none⟩ ⟨g,j,none⟩ _ (by intro e;injection e with _ e2 _;exact hjl e2.symm),HL.cell j (by omega)];simp [List.getD_eq_getElem?_getD,List.getElem?_append_left (show j < l.length by omega)]
  ·obtain ⟨s1,s2⟩:=HL.spare j hj;refine ⟨?_,by simpa using s2⟩;obtain ⟨v,hv⟩:=Option.isSome_iff_exists.1 s1;obtain ⟨v',hv'⟩:=cell?_setCell_some (p:=⟨g,l.length,none⟩) (x:=.int .u8 y) hv;rw [hv'];rfl
  ·exact HB.trans ⟨rfl,rfl,rfl,by simp,fun k hk=>Below.heap_setCell W _ _ k (by have:=HL.from_;show k≠g;omega)⟩
 ·intro hr v' w' hown hgr;rw [show nums .u8 l++nums .u8 [y]=nums .u8 (l++[y]) by simp [nums]] at hown;obtain ⟨g',cap',rfl,hg1,_⟩:=World.ownsRow.form hown (by omega);have hO:ZBase.Own w' base g' cap' (l.length+1) (l++[y]):=(ZBase.Own.mk hown).lower hbase;refine h g' cap' w' (Lies.of_own hO) (HB.trans ⟨hgr.os,hgr.tape,hgr.output,hgr.size,fun k hk=>hgr.block k (by omega) (by simp)⟩)
theorem not_nul {s:ByteArray} (h:noNul s) (k:Nat) (hk:k < s.size):¬ (((s[k]'hk).toNat:Nat):Int)=0:=by intro e;have h1:s[k]=0:=UInt8.toNat_inj.1 (by show (s[k]'hk).toNat=0;omega);refine (noNul_iff s).1 h ?_;rw [← h1];exact Array.mem_toList_iff.2 (Array.getElem_mem (xs:=s.data) hk)
def txt (s:ByteArray) (n:Nat):List Int:=bytesOf s++List.replicate (n - s.size) 0
theorem txt_len (s:ByteArray) (n:Nat) (h:s.size≤n):(txt s n).length=n:=by simp [txt,bytesOf_length];omega
set_option maxHeartbeats 2000000 in
theorem format_calls (s:ByteArray) (n:Nat) (h:noNul s) (hs:s.size≤n) (h0:1≤n) (h1:n≤256) (w:World): Calls Tryz.prog 106 #[.string s,.int .i64 n] w fun e w'=>∃ g cap,e=.returned (.tuple #[.slice (some ⟨g,0,none⟩) n cap,.int .i64 0])∧Kd.C (Kd.int .u8) w' (some ⟨g,0,none⟩) n (txt s n)∧Below w.heap.size w w':=by
 have NN:=hid (not_nul h);have hd1:decide ((n:Int) < 1)=false:=by simp;omega
 have HN:=hid (And.intro hs (And.intro h0 h1));have kb:=fun W:World=>print_bytes (P:=Tryz.prog) 9 30 5 Tryz.underlying9 Tryz.underlying30 Tryz.underlying5 s W;have LB:=hid (fun W:World=>lies_bytes W s (by unfold maxLen;omega));have BB:=hid (fun W:World=>bytes_below (Below.refl W.heap.size W) (Nat.le_refl _) 5 s);clear h;go_enter Tryz.func106,Tryz.ntmps106;go_wp2
 go_loop [6] (fun i=>∃ k:Nat,k≤s.size∧i=.int .i64 k) (fun i=>s.size - (intOf i).toNat)
 case atStart=>exact ⟨0,Nat.zero_le _,rfl⟩
 case round =>
  obtain ⟨k,hk,rfl⟩:=hrel;by_cases hlt:k < s.size
  ·
   have hne:=NN.out k hlt;go_wp2
   go_round
   case rel=>exact ⟨k+1,by omega,by go_num⟩
   case measure=>simp [intOf];omega
  ·
   obtain rfl:k=s.size:=by omega
   go_wp2
   go_loopw [7] (fun v wr=>∃ (g cap j:Nat),s.size+j≤n∧v=.slice (some ⟨g,0,none⟩) (s.size+j) cap∧Lies wr w.heap.size g cap (bytesOf s++List.replicate j 0)∧Below w.heap.size w wr) (fun v _=>n - (match v with | .slice _ l _=>l | _=>0))
   case atStart=>exact ⟨w.heap.size,_,0,by omega,rfl,by simpa using LB.out w,BB.out w⟩
   case round =>
    obtain ⟨g,cap,j,hj,rfl,HL,hb⟩:=hrel;by_cases hlt2:s.size+j < n
    ·
     have hL:=hid HL;have hB:=hid hb;clear HL hb
     go_wp2_with (at_builtin;refine append_one w _ w.heap.size rfl (.tmp 34) (.tmp 35) rfl g cap (s.size+j) (bytesOf s++List.replicate j 0) (by simp [bytesOf_length]) 0 ⟨wr.heap.size,0,none⟩ 1 rfl rfl (hL.out.alloc _) (ZRb.one_byte 0 wr) (below_alloc hB.out _) (by omega) ?_;intro g' cap' w1 hL1 hB1)
     go_roundw
     case rel=>exact ⟨g',cap',j+1,by omega,rfl,by rw [List.replicate_succ',← List.append_assoc];exact hL1,hB1⟩
     case measure=>simp;omega
    ·
     obtain ⟨hE⟩:Nonempty (s.size+j=n):=⟨by omega⟩;subst hE;have hr:=hid HL.reads;have hB:=hid hb;clear HL hb;go_wp2
     go_ret2
     refine ⟨g,cap,rfl,?_,hB.out⟩;have:=hr.out;have hlen:(bytesOf s++List.replicate j (0:Int)).length=s.size+j:=by simp [bytesOf_length]
     rw [hlen] at this;unfold txt;rw [show s.size+j - s.size=j by omega];exact this
end ZRc
end Go.Proofs.YteikiojmcipkmaaGreatDoor
