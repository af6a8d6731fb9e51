/- Parts of the proof, gathered by a program: what calls of the functions answer, and what follows in plain lists. Conditions: those that each theorem states. -/
import Derived.Test.YteikiojmcipkmaaGreatDoorMR26
set_option linter.unusedVariables false
set_option linter.unusedSimpArgs false
namespace Go.Proofs.YteikiojmcipkmaaGreatDoor
open Go.Lib (hid)
open Go.RowKit YteikiojmcipkmaaGreatDoorW.PrintWords YteikiojmcipkmaaGreatDoorW.PrintLast YteikiojmcipkmaaGreatDoorW.PrintMore Oct ZBase ZGlob ZCstr ZCPar ZCAny ZCheck ZHead ZHdr ZMap
set_option maxRecDepth 100000
section
namespace ZUDecA
open ZSumPlain (Bytes sealL vfy vfy_seal)
open ZEntry (blkB blkB_len)
def okTyp (t:Int):Prop:=t=48∨t=49∨t=50∨t=53∨t=120
theorem type_bad (t:Int) (h0:0≤t∧t < 256) (h:¬ okTyp t) (w:World):Calls Tryz.prog 111 #[.string ⟨#[48,49,50,53,120]⟩,.int .u8 t] w fun e w'=>e=.returned (.int .i64 (-1))∧w=w':=by
 refine (Tryz.strings_IndexByte _ t w).mono ?_;rintro e w' ⟨rfl,rfl⟩;refine ⟨?_,rfl⟩;have:Lib.indexByte (⟨#[48,49,50,53,120]⟩:ByteArray).data.toList t.toNat.toUInt8=-1:=by
  rw [ZPlanOk.index_neg];intro hm;have hv:t.toNat.toUInt8.toNat=t.toNat:=by show (UInt8.ofNat t.toNat).toNat=_;rw [UInt8.toNat_ofNat'];omega
  unfold okTyp at h;simp only [List.mem_cons,List.not_mem_nil,or_false] at hm;rcases hm with e | e | e | e | e <;> rw [e] at hv
  ·have:(48:UInt8).toNat=48:=rfl;omega
  ·have:(49:UInt8).toNat=49:=rfl;omega
  ·have:(50:UInt8).toNat=50:=rfl;omega
  ·have:(53:UInt8).toNat=53:=rfl;omega
  ·have:(120:UInt8).toNat=120:=rfl;omega
 rw [this]
set_option maxHeartbeats 1000000 in
theorem check_bad (typ:Int) (name pre link:ByteArray) (mode size:Int) (h1:okTyp typ) (h2:noNul name∧name.size≤100) (h3:noNul link∧link.size≤100) (h4:noNul pre∧pre.size≤155) (h5:4095 < mode) (w:World) (hG:Gl w): Calls Tryz.prog 130 #[(⟨typ,name,pre,link,mode,size⟩:Hdr).val] w fun e w'=>e=.returned (.int .i64 16)∧Below w.heap.size w w':=by
 have TC:=hid (type_calls typ h1);have FN:=hid (ZCstr.format_calls name 100 h2.1 h2.2 (by decide) (by decide));have FL:=hid (ZCstr.format_calls link 100 h3.1 h3.2 (by decide) (by decide));have FP:=hid (ZCstr.format_calls pre 155 h4.1 h4.2 (by decide) (by decide));have G:=hid hG;clear h1 h2 h3 h4 hG;unfold Hdr.val Hdr.cells;dsimp only;have q1:=hid (below_alloc (Below.refl w.heap.size w) (.cells #[.int .u8 typ,.string name,.string pre,.string link,.int .i64 mode,.int .i64 size] 138));have G1:=G.out.below q1.out;have a0:=G1.fName.c0;have a1:=G1.fName.c1;have b0:=G1.fLink.c0;have b1:=G1.fLink.c1;have c0:=G1.fPrefix.c0;have c1:=G1.fPrefix.c1;clear G1;go_enter Tryz.func130,Tryz.ntmps130
 go_wp2_with (go_at_call 111;refine (TC.out _).mono ?_;rintro e w' ⟨⟨k,rfl⟩,rfl⟩;have hk:¬ (k:Int) < 0:=Int.not_lt.2 (Int.natCast_nonneg k))
 clear q1 G;have S0:=hid (ZCheck.St.start w typ name pre link mode size)
 go_loopw [25] (fun i wr=>∃ j:Nat,j≤3∧i=.int .i64 j∧ZCheck.St w wr typ name pre link mode size) (fun i _=>3 - (intOf i).toNat)
 case atStart=>exact ⟨0,by decide,rfl,S0.out⟩
 case round =>
  clear S0 a0 a1 b0 b1 c0 c1;obtain ⟨j,hj,rfl,hS⟩:=hrel;have hcell:=row_cell hS.row;have S:=hid hS;obtain rfl | rfl | rfl | rfl:j=0∨j=1∨j=2∨j=3:=by omega
  ·
   have k0:=hcell 0 _ rfl;have k1:=hcell 1 _ rfl;have k2:=hcell 2 _ rfl;clear hcell hS
   go_wp2_with fail
   refine (FN.out _).mono ?_;rintro e w3 ⟨v,rfl,hb3⟩;have S3:=hid (S.out.step (after_alloc hb3));clear hb3 S;go_wp2
   go_roundw
   case rel=>exact ⟨1,by decide,by go_num,S3.out⟩
   case measure=>simp [intOf]
  ·
   have k0:=hcell 3 _ rfl;have k1:=hcell 4 _ rfl;have k2:=hcell 5 _ rfl;clear hcell hS
   go_wp2_with fail
   refine (FL.out _).mono ?_;rintro e w3 ⟨v,rfl,hb3⟩;have S3:=hid (S.out.step (after_alloc hb3));clear hb3 S;go_wp2
   go_roundw
   case rel=>exact ⟨2,by decide,by go_num,S3.out⟩
   case measure=>simp [intOf]
  ·
   have k0:=hcell 6 _ rfl;have k1:=hcell 7 _ rfl;have k2:=hcell 8 _ rfl;clear hcell hS
   go_wp2_with fail
   refine (FP.out _).mono ?_;rintro e w3 ⟨v,rfl,hb3⟩;have S3:=hid (S.out.step (after_alloc hb3));clear hb3 S;go_wp2
   go_roundw
   case rel=>exact ⟨3,by decide,by go_num,S3.out⟩
   case measure=>simp [intOf]
  ·
   have k4:=row_cell hS.box 4 _ rfl;have k5:=row_cell hS.box 5 _ rfl;have h7:¬ mode < 0:=by omega
   clear hcell hS;go_wp2;go_ret;exact ⟨rfl,S.out.bel⟩
set_option maxHeartbeats 1000000 in
theorem enc_bad (typ:Int) (name pre link:ByteArray) (mode size:Int) (h1:okTyp typ) (h2:noNul name∧name.size≤100) (h3:noNul link∧link.size≤100) (h4:noNul pre∧pre.size≤155) (h5:4095 < mode) (w:World) (hG:Gl w): Calls Tryz.prog 92 #[(⟨typ,name,pre,link,mode,size⟩:Hdr).val] w fun e w'=>e=.returned (.tuple #[.slice none 0 0,.int .i64 16])∧Below w.heap.size w w':=by
 have B1:=hid (below_alloc (Below.refl w.heap.size w) (.cells #[.int .u8 typ,.string name,.string pre,.string link,.int .i64 mode,.int .i64 size] 138));have CC:=hid (check_bad typ name pre link mode size h1 h2 h3 h4 h5 _ (hG.below B1.out));clear h1 h2 h3 h4 h5 hG;unfold Hdr.val Hdr.cells at *;dsimp only at *;go_enter Tryz.func92,Tryz.ntmps92
 go_wp2_with fail
 refine CC.out.mono ?_;rintro e w1 ⟨rfl,hb⟩;have B2:=hid (below_step B1.out hb);clear hb
 go_wp2_with fail
 go_ret2
 exact ⟨rfl,B2.out⟩
abbrev pv (hb n:Nat):Value:=.pointer (some ⟨hb,n,none⟩)
abbrev fv (p:Int×Int):Value:=.agg #[.int .i64 p.1,.int .i64 p.2]
theorem size9 (w:World):(Go.sizeOf 9).run Tryz.prog w=.ok 1 w:=by kernel_rfl
theorem equal_ptr (hb a b:Nat) (w:World):(Op.equal 178 (pv hb a) (pv hb b)).run Tryz.prog w=.ok (decide (a=b)) w:=by
 have e:((⟨hb,a,none⟩:Addr) == ⟨hb,b,none⟩)=decide (a=b):=by
  by_cases h:a=b
  ·subst h;simp
  ·rw [decide_eq_false h,beq_eq_false_iff_ne];intro e;exact h (Addr.mk.inj e).2.1
 show (Op.equalIn (9999+1) 178 (pv hb a) (pv hb b)).run Tryz.prog w=.ok (decide (a=b)) w;unfold Op.equalIn;simp [run_underlying Tryz.underlying178,Result.andThen,size9,sameAddr,e]
section
variable {w:World} {hb b:Nat} {l:List (Nat×(Int×Int))}
theorem asking (k:Nat) (i j:Nat):(Instr.findAsking 178 (pv hb k) (ents (pv hb) fv i l) j).run Tryz.prog w=.ok ((find l k j).map fun x=>(x.1,fv x.2)) w:=by
 induction l generalizing i j with
 | nil=>rfl
 | cons p l ih =>
  simp only [ents,Instr.findAsking,Sem.run_bind,equal_ptr,Result.andThen,find];by_cases h:k=p.1
  ·simp [h]
  ·simp only [h,decide_false,if_false];exact ih _ _
theorem run_find3 (k:Nat):(Instr.findKey 178 (pv hb k) (ents (pv hb) fv 0 l)).run Tryz.prog w=.ok ((find l k 0).map fun x=>(x.1,fv x.2)) w:=by
 have h:=asking (w:=w) (hb:=hb) (l:=l) k 0 0;cases l with
 | nil=>simp [Instr.findKey,run_underlying Tryz.underlying178,Result.andThen,ents,Instr.findNow,find]
 | cons p l=>simpa [Instr.findKey,run_underlying Tryz.underlying178,Result.andThen,ents,Instr.findNow,Instr.sameNow] using h
theorem check3 (k:Nat) (e:Bool):(Instr.checkKey e 10000 178 (pv hb k)).run Tryz.prog w=.ok () w:=by show (Instr.checkKey e (9999+1) 178 (pv hb k)).run Tryz.prog w=.ok () w;unfold Instr.checkKey;simp [run_underlying Tryz.underlying178,Result.andThen]
theorem run_put3 (h:MapAt w (pv hb) fv b l) (k:Nat) (v:Int×Int) (hn:find l k 0=none): (Instr.mapUpdate 179 (.map (some b)) (pv hb k) (fv v)).run Tryz.prog w=.ok () (w.putObj b (.map (ents (pv hb) fv 0 (l++[(k,v)])).toArray (l++[(k,v)]).length)):=by
 have hf:=run_find3 (w:=w) (hb:=hb) (l:=l) k;rw [hn] at hf;simp [Instr.mapUpdate,run_underlying Tryz.underlying179,MapKept.run_getObj_map h,check3,hf,MapKept.run_setObj_map _ h,Result.andThen,ents_append,ents,World.putObj]
end
def l3:List (Nat×(Int×Int)):=[(1,(0,100)),(3,(157,100)),(2,(345,155))]
structure Mw (W2 V:World) (hb:Nat) (l:List (Nat×(Int×Int))):Prop where
 map:MapAt V (pv hb) fv W2.heap.size l
 keep:∀ i,i≠W2.heap.size→V.heap[i]?=(W2.alloc (.map #[] 0)).heap[i]?
 size:V.heap.size=W2.heap.size+1
 rest:V.os=W2.os∧V.tape=W2.tape∧V.output=W2.output
theorem Mw.start (W2:World) (hb:Nat):Mw W2 (W2.alloc (.map #[] 0)).drew hb []:=⟨heap_alloc_new W2 _,fun _ _=>rfl,by simp,rfl,rfl,rfl⟩
theorem Mw.put {W2 V:World} {hb:Nat} {l:List (Nat×(Int×Int))} (h:Mw W2 V hb l) (k:Nat) (v:Int×Int) (hn:find l k 0=none) : ∃ V',(Instr.mapUpdate 179 (.map (some W2.heap.size)) (pv hb k) (fv v)).run Tryz.prog V=.ok () V'∧Mw W2 V' hb (l++[(k,v)]) :=
 ⟨_,run_put3 h.map k v hn,MapAt.put h.map _,fun i hi=>(World.putObj_heap_other hi).trans (h.keep i hi),(World.putObj_size ..).trans h.size,h.rest⟩
theorem Mw.cell {W2 V:World} {hb:Nat} {l:List (Nat×(Int×Int))} (h:Mw W2 V hb l) {a:Addr} {v:Value} (hc:W2.cell? a=some v):V.cell? a=some v:=by
 have hlt:a.block < W2.heap.size:=by
  rcases Nat.lt_or_ge a.block W2.heap.size with h1 | h1
  ·exact h1
  ·simp [World.cell?,Array.getElem?_eq_none h1] at hc
 have e:V.heap[a.block]?=W2.heap[a.block]?:=(h.keep _ (by omega)).trans (heap_alloc_old _ _ hlt);rw [← hc];unfold World.cell?;rw [e]
theorem Mw.range {W2 V:World} {hb:Nat} {l:List (Nat×(Int×Int))} (h:Mw W2 V hb l):(Instr.range 179 (.map (some W2.heap.size))).run Tryz.prog V=.ok (.pointer (some ⟨W2.heap.size+1,0,none⟩)) (V.alloc (.mapIter (some W2.heap.size) l.length #[] l.length)):=by rw [← h.size];exact run_range_map V 179 178 176 W2.heap.size _ _ Tryz.underlying179 h.map
def fieldk (b:List Int) (k:Nat):List Int:=if k=1 then sl b 0 100 else if k=3 then sl b 157 100 else sl b 345 155
def Good (b:List Int) (k:Nat) (s:ByteArray):Prop:=noNul s∧∃ r,fieldk b k=padded s r
abbrev zcells:Array Value:=#[.int .u8 0,.string ⟨#[]⟩,.string ⟨#[]⟩,.string ⟨#[]⟩,.int .i64 0,.int .i64 0]
structure C9 (w wr:World) (b:List Int) (hb:Nat) (typ:Int) (l:List (Nat×(Int×Int))) (its seen:List Nat) (st:Nat→ByteArray):Prop where
 bel:Below w.heap.size w wr
 ret0:wr.heap[w.heap.size]?=some (.cells zcells 138 (0,0))
 box:wr.heap[hb]?=some (.cells #[.int .u8 typ,.string (st 1),.string (st 2),.string (st 3),.int .i64 0,.int .i64 0] 138 (0,0))
 map:MapAt wr (pv hb) fv (hb+1) l
 iter:wr.heap[hb+1+1]?=some (.mapIter (some (hb+1)) 3 its.toArray 3)
 nd:its.Nodup∧∀ i∈its,i < 3
 good:∀ i∈seen,∀ p,l[i]?=some p→Good b p.1 (st p.1)
 lo:w.heap.size < hb
theorem l3_mem {l:List (Nat×(Int×Int))} (h:l.Perm l3) {p:Nat×(Int×Int)} (hp:p∈l):p=(1,(0,100))∨p=(3,(157,100))∨p=(2,(345,155)):=by have:=h.mem_iff.1 hp;simpa [l3] using this
theorem ents_mem {hb:Nat} {l:List (Nat×(Int×Int))} {e:MapEntry} {j:Nat} (h:e∈ents (pv hb) fv j l):∃ i p,l[i]?=some p∧e=⟨pv hb p.1,fv p.2,j+i⟩:=by
 induction l generalizing j with
 | nil=>cases h
 | cons p l ih =>
  simp only [ents,List.mem_cons] at h;rcases h with rfl | h
  ·exact ⟨0,p,rfl,rfl⟩
  ·obtain ⟨i,q,h1,h2⟩:=ih h;exact ⟨i+1,q,h1,by rw [h2];congr 1;omega⟩
theorem ents_nodup {hb:Nat} (l:List (Nat×(Int×Int))) (j:Nat):((ents (pv hb) fv j l).map (·.born)).Nodup∧∀ x∈ents (pv hb) fv j l,j≤x.born∧x.born < j+l.length:=by
 induction l generalizing j with
 | nil=>exact ⟨List.nodup_nil,fun x h=>by cases h⟩
 | cons p l ih =>
  obtain ⟨h1,h2⟩:=ih (j+1);refine ⟨?_,fun x hx=>?_⟩
  ·simp only [ents,List.map_cons,List.nodup_cons];refine ⟨fun h=>?_,h1⟩;obtain ⟨x,hx,e⟩:=List.mem_map.1 h;have:=h2 x hx;omega
  ·
   simp only [ents,List.mem_cons] at hx;simp only [List.length_cons];rcases hx with rfl | hx
   ·simp
   ·have:=h2 x hx;omega
theorem next_type (v:Value) (b:Bool) (ty:TypeId):Instr.next v b ty=Instr.next v b 0:=rfl
theorem C9.next {w wr:World} {b:List Int} {hb:Nat} {typ:Int} {l:List (Nat×(Int×Int))} {seen:List Nat} {st:Nat→ByteArray} (h:C9 w wr b hb typ l seen seen st) (hl:l.Perm l3): ((∀ k,k=1∨k=2∨k=3→Good b k (st k))∧∀ ty,(Instr.next (.pointer (some ⟨hb+1+1,0,none⟩)) false ty).run Tryz.prog wr=.ok (.tuple #[.bool false]) wr) ∨ ∃ (i k off len:Nat) (W:World),l[i]?=some (k,((off:Int),(len:Int)))∧(k=1∧off=0∧len=100∨k=3∧off=157∧len=100∨k=2∧off=345∧len=155)∧fieldk b k=sl b off len∧i∉seen∧i < 3 ∧ (∀ ty,(Instr.next (.pointer (some ⟨hb+1+1,0,none⟩)) false ty).run Tryz.prog wr=.ok (.tuple #[.bool true,pv hb k,.agg #[.int .i64 off,.int .i64 len]]) W) ∧ (Instr.entry (.pointer (some ⟨hb+1+1,0,none⟩))).run Tryz.prog W=.ok (.tuple #[pv hb k,.agg #[.int .i64 off,.int .i64 len]]) W∧C9 w W b hb typ l (seen++[i]) seen st:=by
 have hlen:l.length=3:=hl.length_eq;obtain ⟨hn1,hn2⟩:=ents_nodup (hb:=hb) l 0;have hmap:wr.heap[hb+1]?=some (.map (ents (pv hb) fv 0 l).toArray l.length):=h.map;rw [hlen] at hmap hn2;have hold:∀ x∈(ents (pv hb) fv 0 l).toArray.toList,x.born < 3:=fun x hx=>by have:=hn2 x hx;omega
 rcases run_next_at (P:=Tryz.prog) wr 0 (hb+1+1) (hb+1) 3 3 seen.toArray (ents (pv hb) fv 0 l).toArray 3 h.iter hmap hold (Nat.le_refl _) with ⟨h1,h2⟩ | ⟨e,he,w1,hw1,hrun⟩
 ·
  refine .inl ⟨fun k hk=>?_,fun ty=>by rw [next_type];exact h2⟩;have hall:∀ i,i < 3→i∈seen:=by
   intro i hi;refine Decidable.byContradiction fun hns=>?_;obtain ⟨p,hp⟩:∃ p,l[i]?=some p:=⟨_,List.getElem?_eq_getElem (by omega)⟩;have hm:(⟨pv hb p.1,fv p.2,i⟩:MapEntry)∈ents (pv hb) fv 0 l:=by
    have key:∀ (l:List (Nat×(Int×Int))) (i j:Nat) (p:Nat×(Int×Int)),l[i]?=some p→(⟨pv hb p.1,fv p.2,j+i⟩:MapEntry)∈ents (pv hb) fv j l:=by
     intro l
     induction l with
     | nil=>intro i j p h;cases h
     | cons q l ih =>
      intro i j p h;cases i with
      | zero=>cases h;simp [ents]
      | succ i =>
       have:=ih i (j+1) p (by simpa using h);simp only [ents,List.mem_cons];right
       rwa [show j+1+i=j+(i+1) by omega] at this
    have:=key l i 0 p hp
    rwa [Nat.zero_add] at this
   have hf:(⟨pv hb p.1,fv p.2,i⟩:MapEntry)∈leftOf (ents (pv hb) fv 0 l).toArray seen.toArray:=by unfold leftOf;rw [Array.mem_filter];exact ⟨by simpa using hm,by simpa using hns⟩
   rw [Array.eq_empty_of_size_eq_zero h1] at hf;simp at hf
  have hin:∃ q,(k,q)∈l:=by
   rcases hk with rfl | rfl | rfl
   ·exact ⟨(0,100),hl.mem_iff.2 (by simp [l3])⟩
   ·exact ⟨(345,155),hl.mem_iff.2 (by simp [l3])⟩
   ·exact ⟨(157,100),hl.mem_iff.2 (by simp [l3])⟩
  obtain ⟨q,hq⟩:=hin;obtain ⟨i,hi⟩:=List.getElem?_of_mem hq;exact h.good i (hall i (by have:=(List.getElem?_eq_some_iff.1 hi).1;omega)) _ hi
 ·
  unfold leftOf at he;rw [Array.mem_toList_iff,Array.mem_filter] at he;obtain ⟨he1,he2⟩:=he;have he1':e∈ents (pv hb) fv 0 l:=by simpa using he1
  obtain ⟨i,p,hp,rfl⟩:=ents_mem he1';have hi:i < 3:=by have:=(List.getElem?_eq_some_iff.1 hp).1;omega
  have hns:i∉seen:=by simpa using he2
  rw [Nat.zero_add] at hrun;have hlt:hb+1+1 < wr.heap.size:=(Array.getElem?_eq_some_iff.1 h.iter).1;have hh1:w1.heap=wr.heap:=by rcases hw1 with rfl | rfl <;> rfl
  have hk1:∀ j,j≠hb+1+1→(ChangeMaps.setBlock w1 (hb+1+1) (.mapIter (some (hb+1)) 3 (seen.toArray.push i) 3)).heap[j]?=wr.heap[j]?:=by intro j hj;rw [← hh1];exact Array.getElem?_setIfInBounds_ne (by omega)
  have hk2:(ChangeMaps.setBlock w1 (hb+1+1) (.mapIter (some (hb+1)) 3 (seen.toArray.push i) 3)).heap[hb+1+1]?=some (.mapIter (some (hb+1)) 3 (seen.toArray.push i) 3):=by exact Array.getElem?_setIfInBounds_self_of_lt (by rw [hh1];exact hlt)
  obtain ⟨W,hW⟩:∃ W,ChangeMaps.setBlock w1 (hb+1+1) (.mapIter (some (hb+1)) 3 (seen.toArray.push i) 3)=W:=⟨_,rfl⟩;have hos:W.os=wr.os∧W.tape=wr.tape∧W.output=wr.output∧W.heap.size=wr.heap.size:=by
   rw [← hW];refine ⟨?_,?_,?_,?_⟩
   ·rcases hw1 with rfl | rfl <;> rfl
   ·rcases hw1 with rfl | rfl <;> rfl
   ·rcases hw1 with rfl | rfl <;> rfl
   ·show (w1.heap.setIfInBounds _ _).size=_;rw [Array.size_setIfInBounds,hh1]
  rw [hW] at hrun hk1 hk2;have hlo:=h.lo;have hent:=run_entry_at (P:=Tryz.prog) W (hb+1+1) (hb+1) 3 seen.toArray (ents (pv hb) fv 0 l).toArray 3 ⟨pv hb p.1,fv p.2,0+i⟩ (by simpa using hk2) ((hk1 _ (by omega)).trans hmap) (by simpa using he1') (by simpa using hn1);have hC:C9 w W b hb typ l (seen++[i]) seen st:=by
   refine ⟨⟨hos.1.trans h.bel.os,hos.2.1.trans h.bel.tape,hos.2.2.1.trans h.bel.output,by rw [hos.2.2.2];exact h.bel.size,fun j hj=>(hk1 j (by omega)).trans (h.bel.block j hj)⟩,(hk1 _ (by omega)).trans h.ret0,(hk1 _ (by omega)).trans h.box,MapAt.of h.map (hk1 _ (by omega)),?_,⟨?_,fun j hj=>?_⟩,h.good,hlo⟩
   ·rw [hk2];simp
   ·
    rw [List.nodup_append];refine ⟨h.nd.1,by simp,fun a ha c hc e=>?_⟩;obtain rfl:c=i:=by simpa using hc
    exact hns (e ▸ ha)
   ·
    rcases List.mem_append.1 hj with hj | hj
    ·exact h.nd.2 j hj
    ·
     obtain rfl:j=i:=by simpa using hj
     exact hi
  rcases l3_mem hl (List.mem_of_getElem? hp) with rfl | rfl | rfl
  ·exact .inr ⟨i,1,0,100,W,hp,.inl ⟨rfl,rfl,rfl⟩,rfl,hns,hi,fun ty=>by rw [next_type];exact hrun,hent,hC⟩
  ·exact .inr ⟨i,3,157,100,W,hp,.inr (.inl ⟨rfl,rfl,rfl⟩),rfl,hns,hi,fun ty=>by rw [next_type];exact hrun,hent,hC⟩
  ·exact .inr ⟨i,2,345,155,W,hp,.inr (.inr ⟨rfl,rfl,rfl⟩),rfl,hns,hi,fun ty=>by rw [next_type];exact hrun,hent,hC⟩
theorem C9.start {w W2 V:World} {b:List Int} {hb:Nat} {typ:Int} {l:List (Nat×(Int×Int))} (hbel:Below w.heap.size w W2) (hret:W2.heap[w.heap.size]?=some (.cells zcells 138 (0,0))) (hbox:W2.heap[hb]?=some (.cells #[.int .u8 typ,.string ⟨#[]⟩,.string ⟨#[]⟩,.string ⟨#[]⟩,.int .i64 0,.int .i64 0] 138 (0,0))) (hs:W2.heap.size=hb+1) (hlo:w.heap.size < hb) (hM:Mw W2 V hb l): C9 w (V.alloc (.mapIter (some (hb+1)) 3 #[] 3)) b hb typ l [] [] (fun _=>⟨#[]⟩):=by
 have hk:∀ i,i < W2.heap.size→(V.alloc (.mapIter (some (hb+1)) 3 #[] 3)).heap[i]?=W2.heap[i]?:=fun i hi =>(heap_alloc_old _ _ (by rw [hM.size];omega)).trans ((hM.keep i (by omega)).trans (heap_alloc_old _ _ hi))
 have hlt:=(Array.getElem?_eq_some_iff.1 hret).1;have hsz:(V.alloc (.mapIter (some (hb+1)) 3 #[] 3)).heap.size=hb+1+1+1:=by simp [hM.size,hs]
 refine ⟨⟨hM.rest.1.trans hbel.os,hM.rest.2.1.trans hbel.tape,hM.rest.2.2.trans hbel.output,by rw [hsz];omega,fun j hj=>(hk j (by omega)).trans (hbel.block j hj)⟩,(hk _ hlt).trans hret,(hk _ (by omega)).trans hbox,?_,?_,⟨List.nodup_nil,fun i h=>absurd h (by simp)⟩,fun i h=>absurd h (by simp),hlo⟩
 ·have:=hM.map;rw [hs] at this;exact MapAt.of this (heap_alloc_old _ _ (by rw [hM.size,hs];omega))
 ·rw [show hb+1+1=V.heap.size by rw [hM.size,hs]];exact heap_alloc_new _ _
theorem C9.move {w wr w2:World} {b:List Int} {hb:Nat} {typ:Int} {l:List (Nat×(Int×Int))} {its seen:List Nat} {st:Nat→ByteArray} (h:C9 w wr b hb typ l its seen st) (hk:Below wr.heap.size wr w2):C9 w w2 b hb typ l its seen st:=by have hlt:=(Array.getElem?_eq_some_iff.1 h.iter).1;have hlo:=h.lo;exact ⟨below_step h.bel hk,(hk.block _ (by omega)).trans h.ret0,(hk.block _ (by omega)).trans h.box,MapAt.of h.map (hk.block _ (by omega)),(hk.block _ hlt).trans h.iter,h.nd,h.good,hlo⟩
theorem C9.store {w wr:World} {b:List Int} {hb:Nat} {typ:Int} {l:List (Nat×(Int×Int))} {seen:List Nat} {st:Nat→ByteArray} {i k:Nat} {q:Int×Int} {s:ByteArray} (h:C9 w wr b hb typ l (seen++[i]) seen st) (hl:l.Perm l3) (hi:l[i]?=some (k,q)) (hk:k=1∨k=3∨k=2) (hg:Good b k s): C9 w (wr.setCell ⟨hb,k,none⟩ (.string s)) b hb typ l (seen++[i]) (seen++[i]) (fun j=>if j=k then s else st j):=by
 have hlo:=h.lo;have hne:∀ j,j≠hb→(wr.setCell ⟨hb,k,none⟩ (.string s)).heap[j]?=wr.heap[j]?:=fun j hj=>Below.heap_setCell _ _ _ _ hj;refine ⟨h.bel.setCell (by show w.heap.size≤hb;omega) _,(hne _ (by omega)).trans h.ret0,?_,MapAt.of h.map (hne _ (by omega)),(hne _ (by omega)).trans h.iter,h.nd,fun j hj p hp=>?_,hlo⟩
 ·rw [setCell_eq_setRow _ _ _ _ 138 (0,0) _ h.box,setRow_heap _ _ _ _ _ _ h.box];rcases hk with rfl | rfl | rfl <;> simp
 ·
  rcases List.mem_append.1 hj with hj | hj
  ·
   have h1:=h.good j hj p hp;by_cases hpk:p.1=k
   ·rw [if_pos hpk,hpk];exact hg
   ·rw [if_neg hpk];exact h1
  ·
   obtain rfl:j=i:=by simpa using hj
   rw [hi] at hp;cases hp;rw [if_pos rfl];exact hg
def left3 (wr:World) (r:Nat):Nat:=match wr.heap[r]? with
 | some (.mapIter _ _ s _)=>3 - s.size
 | _=>0
theorem C9.left {w wr:World} {b:List Int} {hb:Nat} {typ:Int} {l:List (Nat×(Int×Int))} {its seen:List Nat} {st:Nat→ByteArray} (h:C9 w wr b hb typ l its seen st):left3 wr (hb+1+1)=3 - its.length:=by unfold left3;rw [h.iter];simp
theorem short3 {seen:List Nat} {i:Nat} (h:(seen++[i]).Nodup∧∀ j∈seen++[i],j < 3):seen.length < 3:=by
 obtain ⟨h1,h2⟩:=h;rcases seen with _ | ⟨a,_ | ⟨b,_ | ⟨c,t⟩⟩⟩
 ·simp
 ·simp
 ·simp
 ·simp only [List.cons_append,List.nodup_cons,List.mem_cons,List.mem_append,List.not_mem_nil,or_false,not_or] at h1 h2;have ha:=h2 a (.inl rfl);have hb:=h2 b (.inr (.inl rfl));have hc:=h2 c (.inr (.inr (.inl rfl)));have hi:=h2 i (.inr (.inr (.inr (.inr rfl))));omega
end ZUDecA
namespace ZUDec
open ZUDecA
open ZSumPlain (Bytes sealL vfy vfy_seal)
open ZEntry (blkB blkB_len)
def HdPost (w:World) (b:List Int) (e:Ending) (w':World):Prop :=
 Below w.heap.size w w'∧((∃ h:Hdr,h.Ok∧b=blkB h∧e=.returned (.tuple #[h.val,.int .i64 0]))∨((∀ h:Hdr,h.Ok→b≠blkB h)∧∃ x:Int,(x=9∨x=8∨x=6)∧e=.returned (.tuple #[(⟨0,⟨#[]⟩,⟨#[]⟩,⟨#[]⟩,0,0⟩:Hdr).val,.int .i64 x])))
theorem part_reads {w:World} {g:Nat} {b:List Int} (h:Kd.C (Kd.int .u8) w (some ⟨g,0,none⟩) 512 b) (off len:Nat) (hl:off+len≤512):Kd.C (Kd.int .u8) w (some ⟨g,off,none⟩) len (sl b off len):=by
 have h1:=ZSource.C_from (c:=513) h off (by omega) (by omega);rw [if_neg (by omega)] at h1;have h2:=ZSource.C_to h1 len (by omega);have e:(some (⟨g,0,none⟩:Addr)).map (·.add off)=some ⟨g,off,none⟩:=by show some ((⟨g,0,none⟩:Addr).add off)=_;rw [Addr.add_lit,Nat.zero_add]
 rw [e] at h2;exact h2
theorem zero_facts {w:World} {k:Nat} (h:w.heap[k]?=some (.cells zcells 138 (0,0))): (w.cell? ⟨k,0,none⟩=some (.int .u8 0)∧w.cell? ⟨k,1,none⟩=some (.string ⟨#[]⟩)∧w.cell? ⟨k,2,none⟩=some (.string ⟨#[]⟩)∧w.cell? ⟨k,3,none⟩=some (.string ⟨#[]⟩)∧w.cell? ⟨k,4,none⟩=some (.int .i64 0)∧w.cell? ⟨k,5,none⟩=some (.int .i64 0)) ∧ (w.frozen? ⟨k,0,none⟩=false∧w.frozen? ⟨k,1,none⟩=false∧w.frozen? ⟨k,2,none⟩=false∧w.frozen? ⟨k,3,none⟩=false∧w.frozen? ⟨k,4,none⟩=false∧w.frozen? ⟨k,5,none⟩=false):=by
 refine ⟨⟨?_,?_,?_,?_,?_,?_⟩,?_,?_,?_,?_,?_,?_⟩ <;> first | exact row_cell h _ _ rfl | simp [World.frozen?,h]
theorem heap_alloc2_old' (W:World) (a b:Obj) {k:Nat} (h:k < W.heap.size):((W.alloc a).alloc b).heap[k]?=W.heap[k]?:=(heap_alloc_old _ _ (by simp;omega)).trans (heap_alloc_old _ _ h)
set_option maxHeartbeats 8000000 in
theorem decode_calls (g cap:Nat) (b:List Int) (w:World) (hr:Kd.C (Kd.int .u8) w (some ⟨g,0,none⟩) 512 b) (hb:Bytes b) (hc:512≤cap) (hm:cap≤9223372036854775807) (hG:Gl w): Calls Tryz.prog 76 #[.slice (some ⟨g,0,none⟩) 512 cap] w (HdPost w b):=by
 have hlen:=Kd.C_len hr;have B1:=hid (below_alloc (Below.refl w.heap.size w) (.cells #[.int .u8 0,.string ⟨#[]⟩,.string ⟨#[]⟩,.string ⟨#[]⟩,.int .i64 0,.int .i64 0] 138));have VC:=hid (ZSum.verify_calls ⟨g,0,none⟩ cap b (w.alloc (.cells #[.int .u8 0,.string ⟨#[]⟩,.string ⟨#[]⟩,.string ⟨#[]⟩,.int .i64 0,.int .i64 0] 138)) (Kd.C_below hr B1.out) hb);have HW:=hid (And.intro hr (And.intro hb (And.intro hlen (And.intro hc (And.intro hm hG)))));have N1:=hid (heap_alloc_new w (.cells #[.int .u8 0,.string ⟨#[]⟩,.string ⟨#[]⟩,.string ⟨#[]⟩,.int .i64 0,.int .i64 0] 138));clear hr hb hc hm hG hlen;go_enter Tryz.func76,Tryz.ntmps76
 go_wp2_with fail
 refine VC.out.mono ?_;rintro e w1 ⟨rfl,hb1⟩;have T1:=hid (And.intro (below_step B1.out hb1) ((hb1.block w.heap.size (by simp)).trans N1.out));clear hb1 VC N1 B1;by_cases hv:vfy b=0
 ·
  rw [hv];have bx:((0:Int) != 0)=false:=rfl;have HV:=hid hv;clear hv;have G1:=HW.out.2.2.2.2.2.below T1.out.1;have a0:=G1.fType.c0;have a1:=G1.fType.c1;have OC:=hid (fun W=>of_calls g 512 cap 156 1 (by decide) HW.out.2.2.2.1 (by have:=HW.out.2.2.2.1;omega) HW.out.2.2.2.2.1 W);obtain ⟨typ,htyp⟩:∃ t,b[156]?=some t:=⟨_,List.getElem?_eq_getElem (by rw [HW.out.2.2.1];decide)⟩;have HT:=hid (And.intro htyp (HW.out.2.1 typ (List.mem_of_getElem? htyp)));have k0:(w1.alloc (.cells #[.int .i64 156,.int .i64 1] 176)).cell? ⟨g,156,none⟩=some (.int .u8 typ):=by
   obtain ⟨ad,e,hx⟩:=Kd.at_int (Kd.C_below (Kd.C_below HW.out.1 T1.out.1) (below_alloc (Below.refl _ _) _)) (156:Int) (by omega) (by omega);cases e;have:rd b 156=typ:=by simp [rd,List.getD_eq_getElem?_getD,htyp]
   rw [this] at hx;exact hx
  clear htyp G1;have q8:156 < cap:=by have:=HW.out.2.2.2.1;omega
  go_wp2_with fail
  refine (OC.out _).mono ?_;rintro e w2 ⟨rfl,rfl⟩
  go_wp2_with fail
  obtain ⟨W2,hW2⟩:∃ X,(w1.alloc (.cells #[.int .i64 156,.int .i64 1] 176)).alloc (.cells #[.int .u8 typ,.string ⟨#[]⟩,.string ⟨#[]⟩,.string ⟨#[]⟩,.int .i64 0,.int .i64 0] 138)=X:=⟨_,rfl⟩;rw [hW2];obtain ⟨hb,hhb⟩:∃ n,w1.heap.size+1=n:=⟨_,rfl⟩;rw [hhb];have T2:Hid (Below w.heap.size w W2∧W2.heap[w.heap.size]?=some (.cells #[.int .u8 0,.string ⟨#[]⟩,.string ⟨#[]⟩,.string ⟨#[]⟩,.int .i64 0,.int .i64 0] 138 (0,0))∧W2.heap[hb]?=some (.cells #[.int .u8 typ,.string ⟨#[]⟩,.string ⟨#[]⟩,.string ⟨#[]⟩,.int .i64 0,.int .i64 0] 138 (0,0))∧W2.heap.size=hb+1∧w.heap.size < hb):=hid (by
   obtain ⟨t1,t2⟩:=T1.out;have hl:=(Array.getElem?_eq_some_iff.1 t2).1;have hs:(w1.alloc (.cells #[.int .i64 156,.int .i64 1] 176)).heap.size=hb:=by rw [← hhb];simp
   rw [← hW2];refine ⟨(t1.alloc t1.size _).alloc (by omega) _,(heap_alloc2_old' _ _ _ hl).trans t2,?_,by simp [hs],by omega⟩;rw [← hs];exact heap_alloc_new _ _)
  clear hW2 hhb T1 a0 a1 k0 OC;have HB0:=row_cell T2.out.2.2.1 0 _ rfl;by_cases ht:okTyp typ
  ·
   have HOT:=hid ht;have TC:=hid (type_calls typ ht W2);have G2:=HW.out.2.2.2.2.2.below T2.out.1;have n0:=G2.fName.c0;have n1:=G2.fName.c1;have o0:=G2.fLink.c0;have o1:=G2.fLink.c1;have p0:=G2.fPrefix.c0;have p1:=G2.fPrefix.c1;have hmm:=@run_makeMap Tryz.prog;clear G2 ht
   go_wp2_with fail
   refine TC.out.mono ?_;rintro e w3 ⟨⟨k,rfl⟩,rfl⟩;have hk:¬ (k:Int) < 0:=Int.not_lt.2 (Int.natCast_nonneg k)
   go_wp2_with fail
   have M0:=Mw.start W2 hb;obtain ⟨VA,fA,mA⟩:=M0.put 1 (0,100) (by decide);obtain ⟨VB,fB,mB⟩:=M0.put 3 (157,100) (by decide);obtain ⟨VC,fC,mC⟩:=M0.put 2 (345,155) (by decide);obtain ⟨VAB,fAB,mAB⟩:=mA.put 3 (157,100) (by decide);obtain ⟨VAC,fAC,mAC⟩:=mA.put 2 (345,155) (by decide);obtain ⟨VBA,fBA,mBA⟩:=mB.put 1 (0,100) (by decide);obtain ⟨VBC,fBC,mBC⟩:=mB.put 2 (345,155) (by decide);obtain ⟨VCA,fCA,mCA⟩:=mC.put 1 (0,100) (by decide);obtain ⟨VCB,fCB,mCB⟩:=mC.put 3 (157,100) (by decide);obtain ⟨VABC,fABC,mABC⟩:=mAB.put 2 (345,155) (by decide);obtain ⟨VACB,fACB,mACB⟩:=mAC.put 3 (157,100) (by decide);obtain ⟨VBAC,fBAC,mBAC⟩:=mBA.put 2 (345,155) (by decide);obtain ⟨VBCA,fBCA,mBCA⟩:=mBC.put 1 (0,100) (by decide);obtain ⟨VCAB,fCAB,mCAB⟩:=mCA.put 3 (157,100) (by decide);obtain ⟨VCBA,fCBA,mCBA⟩:=mCB.put 1 (0,100) (by decide);have o0A:=mA.cell o0;have o1A:=mA.cell o1;have p0A:=mA.cell p0;have p1A:=mA.cell p1;have n0B:=mB.cell n0;have n1B:=mB.cell n1;have p0B:=mB.cell p0;have p1B:=mB.cell p1;have n0C:=mC.cell n0;have n1C:=mC.cell n1;have o0C:=mC.cell o0;have o1C:=mC.cell o1;have p0AB:=mAB.cell p0;have p1AB:=mAB.cell p1;have o0AC:=mAC.cell o0;have o1AC:=mAC.cell o1;have p0BA:=mBA.cell p0;have p1BA:=mBA.cell p1;have n0BC:=mBC.cell n0;have n1BC:=mBC.cell n1;have o0CA:=mCA.cell o0;have o1CA:=mCA.cell o1;have n0CB:=mCB.cell n0;have n1CB:=mCB.cell n1;have rABC:(Instr.range 179 (.map (some W2.heap.size))).run Tryz.prog VABC=.ok (.pointer (some ⟨W2.heap.size+1,0,none⟩)) (VABC.alloc (.mapIter (some W2.heap.size) 3 #[] 3)):=mABC.range;have rACB:(Instr.range 179 (.map (some W2.heap.size))).run Tryz.prog VACB=.ok (.pointer (some ⟨W2.heap.size+1,0,none⟩)) (VACB.alloc (.mapIter (some W2.heap.size) 3 #[] 3)):=mACB.range;have rBAC:(Instr.range 179 (.map (some W2.heap.size))).run Tryz.prog VBAC=.ok (.pointer (some ⟨W2.heap.size+1,0,none⟩)) (VBAC.alloc (.mapIter (some W2.heap.size) 3 #[] 3)):=mBAC.range;have rBCA:(Instr.range 179 (.map (some W2.heap.size))).run Tryz.prog VBCA=.ok (.pointer (some ⟨W2.heap.size+1,0,none⟩)) (VBCA.alloc (.mapIter (some W2.heap.size) 3 #[] 3)):=mBCA.range;have rCAB:(Instr.range 179 (.map (some W2.heap.size))).run Tryz.prog VCAB=.ok (.pointer (some ⟨W2.heap.size+1,0,none⟩)) (VCAB.alloc (.mapIter (some W2.heap.size) 3 #[] 3)):=mCAB.range;have rCBA:(Instr.range 179 (.map (some W2.heap.size))).run Tryz.prog VCBA=.ok (.pointer (some ⟨W2.heap.size+1,0,none⟩)) (VCBA.alloc (.mapIter (some W2.heap.size) 3 #[] 3)):=mCBA.range;replace mA:=hid mA;replace mB:=hid mB;replace mC:=hid mC;replace mAB:=hid mAB;replace mAC:=hid mAC;replace mBA:=hid mBA;replace mBC:=hid mBC;replace mCA:=hid mCA;replace mCB:=hid mCB;replace mABC:=hid mABC;replace mACB:=hid mACB;replace mBAC:=hid mBAC;replace mBCA:=hid mBCA;replace mCAB:=hid mCAB;replace mCBA:=hid mCBA;have n0X:(W2.alloc (.map #[] 0)).cell? ⟨1,0,none⟩=_:=M0.cell n0;have n1X:(W2.alloc (.map #[] 0)).cell? ⟨1,1,none⟩=_:=M0.cell n1;have o0X:(W2.alloc (.map #[] 0)).cell? ⟨2,0,none⟩=_:=M0.cell o0;have o1X:(W2.alloc (.map #[] 0)).cell? ⟨2,1,none⟩=_:=M0.cell o1;have p0X:(W2.alloc (.map #[] 0)).cell? ⟨3,0,none⟩=_:=M0.cell p0;have p1X:(W2.alloc (.map #[] 0)).cell? ⟨3,1,none⟩=_:=M0.cell p1;clear M0;dsimp only [pv,fv] at fA fB fC fAB fAC fBA fBC fCA fCB fABC fACB fBAC fBCA fCAB fCBA;apply join (S:=fun W'=>∃ V l,l.Perm l3∧Mw W2 V hb l∧W'=V.alloc (.mapIter (some W2.heap.size) 3 #[] 3))
   ·
    go_region
    all_goals first | exact ⟨rfl,_,_,by decide,mABC.out,rfl⟩ | exact ⟨rfl,_,_,by decide,mACB.out,rfl⟩ | exact ⟨rfl,_,_,by decide,mBAC.out,rfl⟩ | exact ⟨rfl,_,_,by decide,mBCA.out,rfl⟩ | exact ⟨rfl,_,_,by decide,mCAB.out,rfl⟩ | exact ⟨rfl,_,_,by decide,mCBA.out,rfl⟩
   intro W3 ⟨V,l,hperm,hM,hW3⟩;have S0:Hid (C9 w W3 b hb typ l [] [] (fun _=>⟨#[]⟩)):=hid (by
    obtain ⟨t1,t2,t3,t4,t5⟩:=T2.out;rw [hW3,t4];exact C9.start t1 t2 t3 t4 t5 hM)
   have HP:=hid hperm;have e4:=T2.out.2.2.2.1;rw [e4];clear fA fB fC fAB fAC fBA fBC fCA fCB fABC fACB fBAC fBCA fCAB fCBA mA mB mC mAB mAC mBA mBC mCA mCB mABC mACB mBAC mBCA mCAB mCBA rABC rACB rBAC rBCA rCAB rCBA o0A o1A p0A p1A n0B n1B p0B p1B n0C n1C o0C o1C p0AB p1AB o0AC o1AC p0BA p1BA n0BC n1BC o0CA o1CA n0CB n1CB n0X n1X o0X o1X p0X p1X n0 n1 o0 o1 p0 p1 hM hW3 hperm e4 T2 HB0 hmm TC hk VA VB VC VAB VAC VBA VBC VCA VCB VABC VACB VBAC VBCA VCAB VCBA V W2
   go_wp2_with fail
   go_loopw [6] (fun _ wr=>∃ seen st,Hid (C9 w wr b hb typ l seen seen st)) (fun _ wr=>left3 wr (hb+1+1))
   case atStart=>exact ⟨_,_,S0⟩
   case round =>
    clear S0;obtain ⟨seen,st,HS⟩:=hrel;rcases HS.out.next HP.out with ⟨hall,hnx⟩ | ⟨i,k,off,len,W,hi,hk,hfk,hns,hi3,hnx,hen,hC⟩
    ·
     have HALL:=hid hall;have BW:=hid HS.out.bel;have ZW:=hid HS.out.ret0;have XW:=hid HS.out.box;have LO:=hid HS.out.lo;have M1:=hid (answer_fld 7 (by decide) (by decide) (sl b 100 8) (sl_len _ _ _ (by rw [HW.out.2.2.1];decide)));have M2:=hid (answer_fld 11 (by decide) (by decide) (sl b 124 12) (sl_len _ _ _ (by rw [HW.out.2.2.1];decide)));have G3:=HW.out.2.2.2.2.2.below BW.out;have a0:=G3.fMode.c0;have a1:=G3.fMode.c1;have OC:=hid (fun X=>of_calls g 512 cap 100 8 (by decide) HW.out.2.2.2.1 (by have:=HW.out.2.2.2.1;omega) HW.out.2.2.2.2.1 X);have B4:=hid (below_alloc (Below.refl wr.heap.size wr) (.cells #[.int .i64 100,.int .i64 8] 176));have PC:=ZParse.parse_calls (some ⟨g,100,none⟩) (cap - 100) (sl b 100 8) (wr.alloc (.cells #[.int .i64 100,.int .i64 8] 176)) (by
      rw [sl_len _ _ _ (by rw [HW.out.2.2.1];decide)];exact part_reads (Kd.C_below HW.out.1 (below_step BW.out B4.out)) 100 8 (by decide)) (by rw [sl_len _ _ _ (by rw [HW.out.2.2.1];decide)];have:=HW.out.2.2.2.1;omega) (fun x hx=>HW.out.2.1 x (List.mem_of_mem_drop (List.mem_of_mem_take hx)))
     rw [sl_len _ _ _ (by rw [HW.out.2.2.1];decide)] at PC;replace PC:=hid PC;clear hall G3 HS HP;rcases M1.out with ⟨m,hm0,hm1,hm2,hm3⟩ | ⟨hmb,hm3⟩
     ·
      rw [hm3] at PC;have HM:=hid (And.intro hm0 (And.intro hm1 hm2));have bx:((0:Int) != 0)=false:=rfl;clear hm0 hm1 hm2 hm3 M1
      go_wp2_with fail
      refine (OC.out _).mono ?_;rintro e w4 ⟨rfl,rfl⟩
      go_wp2_with fail
      refine PC.out.mono ?_;rintro e w5 ⟨rfl,hd⟩;have B5':=hid (below_step B4.out hd.below);have B5:=hid (below_step BW.out B5'.out);have ZL:=hid (Array.getElem?_eq_some_iff.1 ZW.out).1;have XL:=hid (Array.getElem?_eq_some_iff.1 XW.out).1;have Z5:=hid ((B5'.out.block w.heap.size ZL.out).trans ZW.out);have X5:=hid ((B5'.out.block hb XL.out).trans XW.out);have G5:=HW.out.2.2.2.2.2.below B5.out;have c0:=G5.fSize.c0;have c1:=G5.fSize.c1;have OC2:=hid (fun X=>of_calls g 512 cap 124 12 (by decide) HW.out.2.2.2.1 (by have:=HW.out.2.2.2.1;omega) HW.out.2.2.2.2.1 X);have B6:=hid (below_alloc (Below.refl w5.heap.size w5) (.cells #[.int .i64 124,.int .i64 12] 176));have PC2:=ZParse.parse_calls (some ⟨g,124,none⟩) (cap - 124) (sl b 124 12) (w5.alloc (.cells #[.int .i64 124,.int .i64 12] 176)) (by
       rw [sl_len _ _ _ (by rw [HW.out.2.2.1];decide)];exact part_reads (Kd.C_below HW.out.1 (below_step B5.out B6.out)) 124 12 (by decide)) (by rw [sl_len _ _ _ (by rw [HW.out.2.2.1];decide)];have:=HW.out.2.2.2.1;omega) (fun x hx=>HW.out.2.1 x (List.mem_of_mem_drop (List.mem_of_mem_take hx)))
      rw [sl_len _ _ _ (by rw [HW.out.2.2.1];decide)] at PC2;replace PC2:=hid PC2;clear hd PC G5 OC a0 a1;rcases M2.out with ⟨n,hn0,hn1,hn2,hn3⟩ | ⟨hnb,hn3⟩
      ·
       rw [hn3] at PC2;have HN:=hid (And.intro hn0 (And.intro hn1 hn2));clear hn0 hn1 hn2 hn3 M2
       go_wp2_with fail
       refine (OC2.out _).mono ?_;rintro e w6 ⟨rfl,rfl⟩
       go_wp2_with fail
       refine PC2.out.mono ?_;rintro e w7 ⟨rfl,hd⟩;have B7':=hid (below_step B6.out hd.below);have B7:=hid (below_step B5.out B7'.out);have Z7:=hid ((B7'.out.block w.heap.size (by have:=ZL.out;have:=B5'.out.size;omega)).trans Z5.out);have X7:=hid ((B7'.out.block hb (by have:=XL.out;have:=B5'.out.size;omega)).trans X5.out);obtain ⟨d0,d1,d2,d3,d4,d5⟩:w7.cell? ⟨hb,0,none⟩=some (.int .u8 typ)∧w7.cell? ⟨hb,1,none⟩=some (.string (st 1))∧w7.cell? ⟨hb,2,none⟩=some (.string (st 2))∧w7.cell? ⟨hb,3,none⟩=some (.string (st 3))∧w7.cell? ⟨hb,4,none⟩=some (.int .i64 0)∧w7.cell? ⟨hb,5,none⟩=some (.int .i64 0) :=
        ⟨row_cell X7.out 0 _ rfl,row_cell X7.out 1 _ rfl,row_cell X7.out 2 _ rfl,row_cell X7.out 3 _ rfl,row_cell X7.out 4 _ rfl,row_cell X7.out 5 _ rfl⟩
       obtain ⟨e4,e5⟩:w7.frozen? ⟨hb,4,none⟩=false∧w7.frozen? ⟨hb,5,none⟩=false:=by simp [World.frozen?,X7.out]
       clear hd PC2 OC2 c0 c1 B6
       go_wp2_with fail
       clear d0 d1 d2 d3 d4 d5 e4 e5;obtain ⟨W8,hW8⟩:∃ X,(w7.setCell ⟨hb,4,none⟩ (.int .i64 m)).setCell ⟨hb,5,none⟩ (.int .i64 n)=X:=⟨_,rfl⟩;rw [hW8];have hlo:=LO.out;have T8:Hid (Below w.heap.size w W8∧W8.heap[w.heap.size]?=some (.cells zcells 138 (0,0))∧W8.heap[hb]?=some (.cells #[.int .u8 typ,.string (st 1),.string (st 2),.string (st 3),.int .i64 m,.int .i64 n] 138 (0,0))):=hid (by
        rw [← hW8];refine ⟨(B7.out.setCell (by show w.heap.size≤hb;omega) _).setCell (by show w.heap.size≤hb;omega) _,?_,?_⟩
        ·exact (Below.heap_setCell _ _ _ _ (by show w.heap.size≠hb;omega)).trans ((Below.heap_setCell _ _ _ _ (by show w.heap.size≠hb;omega)).trans Z7.out)
        ·have b1:=blk_set X7.out 4 (.int .i64 m);have b2:=blk_set b1 5 (.int .i64 n);simpa using b2)
       have HST:Hid ((noNul (st 1)∧(st 1).size≤100)∧(noNul (st 3)∧(st 3).size≤100)∧(noNul (st 2)∧(st 2).size≤155)):=hid (by
        obtain ⟨a1,r1,a2⟩:=HALL.out 1 (.inl rfl);obtain ⟨a3,r3,a4⟩:=HALL.out 3 (.inr (.inr rfl));obtain ⟨a5,r5,a6⟩:=HALL.out 2 (.inr (.inl rfl));have l1:=congrArg List.length a2;have l3:=congrArg List.length a4;have l5:=congrArg List.length a6;simp only [fieldk] at l1 l3 l5;rw [padded_len,if_pos trivial,sl_len _ _ _ (by rw [HW.out.2.2.1];decide)] at l1;rw [padded_len,if_neg (by decide),if_pos trivial,sl_len _ _ _ (by rw [HW.out.2.2.1];decide)] at l3;rw [padded_len,if_neg (by decide),if_neg (by decide),sl_len _ _ _ (by rw [HW.out.2.2.1];decide)] at l5;exact ⟨⟨a1,by omega⟩,⟨a3,by omega⟩,a5,by omega⟩)
       have HTELL:Hid (∀ h:Hdr,h.Ok→b=blkB h→h=⟨typ,st 1,st 2,st 3,m,n⟩):=hid (by
        intro h hk e;obtain ⟨f1,f2,f3,f4,f5,f6⟩:=blk_tell hk e;obtain ⟨a1,r1,a2⟩:=HALL.out 1 (.inl rfl);obtain ⟨a3,r3,a4⟩:=HALL.out 3 (.inr (.inr rfl));obtain ⟨a5,r5,a6⟩:=HALL.out 2 (.inr (.inl rfl));have a2':sl b 0 100=padded (st 1) r1:=a2;have a4':sl b 157 100=padded (st 3) r3:=a4;have a6':sl b 345 155=padded (st 2) r5:=a6;have g2:=padded_inj hk.name.1 a1 (f2.symm.trans a2');have g3:=padded_inj hk.link.1 a3 (f3.symm.trans a4');have g4:=padded_inj hk.pre.1 a5 (f4.symm.trans a6');have hmo:=hk.mode;have hsi:=hk.size;have g5:=fld_inj 7 _ _ ⟨by omega,by rw [pow7];omega⟩ ⟨HM.out.1,HM.out.2.1⟩ (f5.symm.trans HM.out.2.2);have g6:=fld_inj 11 _ _ ⟨by omega,by rw [pow11];omega⟩ ⟨HN.out.1,HN.out.2.1⟩ (f6.symm.trans HN.out.2.2);have g1:h.typ=typ:=by have e1:=congrArg (fun q=>q[0]?) f1;simp only [sl_get] at e1;rw [if_pos (by decide),HT.out.1] at e1;simpa using e1.symm
        cases h;simp only at g1 g2 g3 g4 g5 g6;simp [g1,g2,g3,g4,g5,g6])
       clear hW8 hlo X7 Z7 B7 B7' X5 Z5 B5 B5' ZL XL XW ZW BW B4;by_cases hmo:m≤4095
       ·
        have HOK:Hid ((⟨typ,st 1,st 2,st 3,m,n⟩:Hdr).Ok):=hid ⟨HOT.out,HST.out.1,HST.out.2.1,HST.out.2.2,⟨HM.out.1,hmo⟩,HN.out.1,by
         have:=HN.out.2.1;rw [pow11] at this;show n≤8589934591;omega⟩
        have EC:=hid (ZHead.encode_calls ⟨typ,st 1,st 2,st 3,m,n⟩ HOK.out W8 (HW.out.2.2.2.2.2.below T8.out.1));clear hmo;refine EC.out.mono ?_;rintro e w9 ⟨g2,cap2,rfl,ho,hb9⟩;have B9:=hid (below_step T8.out.1 hb9);have Z9:=hid ((hb9.block w.heap.size (Array.getElem?_eq_some_iff.1 T8.out.2.1).1).trans T8.out.2.1);have X9:=hid ((hb9.block hb (Array.getElem?_eq_some_iff.1 T8.out.2.2).1).trans T8.out.2.2);have EQ:=ZSum.equal_calls (some ⟨g2,0,none⟩) (some ⟨g,0,none⟩) 512 512 cap2 cap (sealL (raw ⟨typ,st 1,st 2,st 3,m,n⟩)) b w9 ho.reads (Kd.C_below HW.out.1 B9.out);clear ho hb9 EC;by_cases heq:sealL (raw ⟨typ,st 1,st 2,st 3,m,n⟩)=b
        ·
         rw [decide_eq_true heq] at EQ;replace EQ:=hid EQ;have HEQ:=hid heq;clear heq
         go_wp2_with fail
         refine EQ.out.mono ?_;rintro e w10 ⟨rfl,hd⟩;have B10:=hid (below_step B9.out hd.below);have Z10:=(hd.below.block w.heap.size (Array.getElem?_eq_some_iff.1 Z9.out).1).trans Z9.out;have X10:=(hd.below.block hb (Array.getElem?_eq_some_iff.1 X9.out).1).trans X9.out;obtain ⟨⟨y0,y1,y2,y3,y4,y5⟩,z0,z1,z2,z3,z4,z5⟩:=zero_facts Z10;obtain ⟨d0,d1,d2,d3,d4,d5⟩:w10.cell? ⟨hb,0,none⟩=some (.int .u8 typ)∧w10.cell? ⟨hb,1,none⟩=some (.string (st 1))∧w10.cell? ⟨hb,2,none⟩=some (.string (st 2))∧w10.cell? ⟨hb,3,none⟩=some (.string (st 3))∧w10.cell? ⟨hb,4,none⟩=some (.int .i64 m)∧w10.cell? ⟨hb,5,none⟩=some (.int .i64 n) :=
          ⟨row_cell X10 0 _ rfl,row_cell X10 1 _ rfl,row_cell X10 2 _ rfl,row_cell X10 3 _ rfl,row_cell X10 4 _ rfl,row_cell X10 5 _ rfl⟩
         clear hd EQ Z10 X10 Z9 X9
         go_wp2_with fail
         refine bodyPost_ret (v:=.tuple #[(⟨typ,st 1,st 2,st 3,m,n⟩:Hdr).val,.int .i64 0]) (by simp [results,Tryz.results76,go_sem,Hdr.val,Hdr.cells,y0,y1,y2,y3,y4,y5,z0,z1,z2,z3,z4,z5]) rfl ⟨?_,.inl ⟨_,HOK.out,HEQ.out.symm,rfl⟩⟩
         iterate 6 (refine Below.setCell ?_ (by show w.heap.size≤w.heap.size;omega) _)
         exact B10.out
        ·
         rw [decide_eq_false heq] at EQ;replace EQ:=hid EQ;have HBAD:Hid (∀ h:Hdr,h.Ok→b≠blkB h):=hid (by
          intro h hk e;have e2:=HTELL.out h hk e;rw [e2] at e;exact heq e.symm)
         clear heq
         go_wp2_with fail
         refine EQ.out.mono ?_;rintro e w10 ⟨rfl,hd⟩;have B10:=hid (below_step B9.out hd.below);obtain ⟨⟨y0,y1,y2,y3,y4,y5⟩,z0,z1,z2,z3,z4,z5⟩:=zero_facts ((hd.below.block w.heap.size (Array.getElem?_eq_some_iff.1 Z9.out).1).trans Z9.out);clear hd EQ Z9 X9
         go_wp2_with fail
         refine bodyPost_ret (v:=.tuple #[(⟨0,⟨#[]⟩,⟨#[]⟩,⟨#[]⟩,0,0⟩:Hdr).val,.int .i64 6]) (by simp [results,Tryz.results76,go_sem,Hdr.val,Hdr.cells,y0,y1,y2,y3,y4,y5,z0,z1,z2,z3,z4,z5]) rfl ⟨?_,.inr ⟨HBAD.out,6,.inr (.inr rfl),rfl⟩⟩
         iterate 6 (refine Below.setCell ?_ (by show w.heap.size≤w.heap.size;omega) _)
         exact B10.out
       ·
        have EC:=hid (enc_bad typ (st 1) (st 2) (st 3) m n HOT.out HST.out.1 HST.out.2.1 HST.out.2.2 (by omega) W8 (HW.out.2.2.2.2.2.below T8.out.1));have HBAD:Hid (∀ h:Hdr,h.Ok→b≠blkB h):=hid (by
         intro h hk e;have e2:=HTELL.out h hk e;have h3:=hk.mode;rw [e2] at h3;exact hmo h3.2)
        have bx16:((16:Int) != 0)=true:=rfl;clear hmo;refine EC.out.mono ?_;rintro e w9 ⟨rfl,hb9⟩;have B9:=hid (below_step T8.out.1 hb9);obtain ⟨⟨y0,y1,y2,y3,y4,y5⟩,z0,z1,z2,z3,z4,z5⟩:=zero_facts ((hb9.block w.heap.size (Array.getElem?_eq_some_iff.1 T8.out.2.1).1).trans T8.out.2.1);clear hb9 EC
        go_wp2_with fail
        refine bodyPost_ret (v:=.tuple #[(⟨0,⟨#[]⟩,⟨#[]⟩,⟨#[]⟩,0,0⟩:Hdr).val,.int .i64 6]) (by simp [results,Tryz.results76,go_sem,Hdr.val,Hdr.cells,y0,y1,y2,y3,y4,y5,z0,z1,z2,z3,z4,z5]) rfl ⟨?_,.inr ⟨HBAD.out,6,.inr (.inr rfl),rfl⟩⟩
        iterate 6 (refine Below.setCell ?_ (by show w.heap.size≤w.heap.size;omega) _)
        exact B9.out
      ·
       rw [hn3] at PC2;have HBAD:Hid (∀ h:Hdr,h.Ok→b≠blkB h):=hid (by
        intro h hk e;obtain ⟨_,_,_,_,_,e6⟩:=blk_tell hk e;have hmo:=hk.size;exact hnb h.size hmo.1 (by rw [pow11];omega) e6)
       have bx6:((6:Int) != 0)=true:=rfl;clear hnb hn3 M2
       go_wp2_with fail
       refine (OC2.out _).mono ?_;rintro e w6 ⟨rfl,rfl⟩
       go_wp2_with fail
       refine PC2.out.mono ?_;rintro e w7 ⟨rfl,hd⟩;have B7':=hid (below_step B6.out hd.below);have B7:=hid (below_step B5.out B7'.out);obtain ⟨⟨y0,y1,y2,y3,y4,y5⟩,z0,z1,z2,z3,z4,z5⟩:=zero_facts ((B7'.out.block w.heap.size (by have:=ZL.out;have:=B5'.out.size;omega)).trans Z5.out);clear hd PC2
       go_wp2_with fail
       refine bodyPost_ret (v:=.tuple #[(⟨0,⟨#[]⟩,⟨#[]⟩,⟨#[]⟩,0,0⟩:Hdr).val,.int .i64 6]) (by simp [results,Tryz.results76,go_sem,Hdr.val,Hdr.cells,y0,y1,y2,y3,y4,y5,z0,z1,z2,z3,z4,z5]) rfl ⟨?_,.inr ⟨HBAD.out,6,.inr (.inr rfl),rfl⟩⟩
       iterate 6 (refine Below.setCell ?_ (by show w.heap.size≤w.heap.size;omega) _)
       exact B7.out
     ·
      rw [hm3] at PC;have HBAD:Hid (∀ h:Hdr,h.Ok→b≠blkB h):=hid (by
       intro h hk e;obtain ⟨_,_,_,_,e5,_⟩:=blk_tell hk e;have hmo:=hk.mode;exact hmb h.mode hmo.1 (by rw [pow7];omega) e5)
      have bx:((6:Int) != 0)=true:=rfl;clear hmb hm3 M1
      go_wp2_with fail
      refine (OC.out _).mono ?_;rintro e w4 ⟨rfl,rfl⟩
      go_wp2_with fail
      refine PC.out.mono ?_;rintro e w5 ⟨rfl,hd⟩;have B5:=hid (below_step BW.out (below_step B4.out hd.below));have Z5:=(hd.below.block w.heap.size (by have:=(Array.getElem?_eq_some_iff.1 ZW.out).1;simp;omega)).trans ((heap_alloc_old wr (.cells #[.int .i64 100,.int .i64 8] 176) (Array.getElem?_eq_some_iff.1 ZW.out).1).trans ZW.out);obtain ⟨⟨y0,y1,y2,y3,y4,y5⟩,z0,z1,z2,z3,z4,z5⟩:=zero_facts Z5;clear hd PC Z5
      go_wp2_with fail
      refine bodyPost_ret (v:=.tuple #[(⟨0,⟨#[]⟩,⟨#[]⟩,⟨#[]⟩,0,0⟩:Hdr).val,.int .i64 6]) (by simp [results,Tryz.results76,go_sem,Hdr.val,Hdr.cells,y0,y1,y2,y3,y4,y5,z0,z1,z2,z3,z4,z5]) rfl ⟨?_,.inr ⟨HBAD.out,6,.inr (.inr rfl),rfl⟩⟩
      iterate 6 (refine Below.setCell ?_ (by show w.heap.size≤w.heap.size;omega) _)
      exact B5.out
    ·
     have HI:=hid (And.intro hi (And.intro hk (And.intro hfk (And.intro hns hi3))));have HC:=hid hC;have hb2:off+len≤512∧off < 512∧0 < len∧len≤256∧(k=1∨k=3∨k=2):=by omega
     have HB2:=hid hb2;have WB:=hid (((Below.refl W.heap.size W).alloc (Nat.le_refl _) (.cells #[.int .i64 off,.int .i64 len] 176)).alloc (by simp) (.cells #[.int .i64 off,.int .i64 len] 176));have OC:=hid (fun X=>of_calls g 512 cap off len hb2.1 HW.out.2.2.2.1 (by have:=HW.out.2.2.2.1;omega) HW.out.2.2.2.2.1 X);have PA:=hid (parse_any ⟨g,off,none⟩ (cap - off) len (sl b off len) ((W.alloc (.cells #[.int .i64 off,.int .i64 len] 176)).alloc (.cells #[.int .i64 off,.int .i64 len] 176)) hb2.2.2.1
      (part_reads (Kd.C_below HW.out.1 (below_step HC.out.bel WB.out)) off len hb2.1) (fun x hx=>HW.out.2.1 x (List.mem_of_mem_drop (List.mem_of_mem_take hx))) (by have:=HW.out.2.2.2.1;omega) hb2.2.2.2.1 (HW.out.2.2.2.2.2.below (below_step HC.out.bel WB.out)))
     clear hi hk hfk hns hi3 hC hb2
     go_wp2_with fail
     refine (OC.out _).mono ?_;rintro e w4 ⟨rfl,rfl⟩
     go_wp2_with fail
     refine PA.out.mono ?_;rintro e w5 ⟨hb5,hres⟩;have C5:=hid (HC.out.move (below_step WB.out hb5));have HRES:=hid hres;clear hb5 hres PA;rcases HRES.out with ⟨s,r,hs1,hs2,rfl⟩ | ⟨hbad,rfl⟩
     ·
      have HG:Hid (ZUDecA.Good b k s):=hid ⟨hs1,r,HI.out.2.2.1.trans hs2⟩;have bx:((0:Int) != 0)=false:=rfl;obtain ⟨u,hu⟩:∃ u,w5.cell? ⟨hb,k,none⟩=some (.string u):=by
       have h:=C5.out.box;rcases HB2.out.2.2.2.2 with rfl | rfl | rfl
       ·exact ⟨_,row_cell h 1 _ rfl⟩
       ·exact ⟨_,row_cell h 3 _ rfl⟩
       ·exact ⟨_,row_cell h 2 _ rfl⟩
      have hf:w5.frozen? ⟨hb,k,none⟩=false:=by simp [World.frozen?,C5.out.box]
      have S6:=hid (C5.out.store HP.out HI.out.1 HB2.out.2.2.2.2 HG.out);clear hs1 hs2 HRES
      go_wp2_with fail
      go_roundw
      case rel=>exact ⟨_,_,S6⟩
      case measure =>rw [S6.out.left,HS.out.left];have h1:=short3 C5.out.nd;rw [List.length_append];simp only [List.length_cons,List.length_nil];omega
     ·
      obtain ⟨⟨y0,y1,y2,y3,y4,y5⟩,z0,z1,z2,z3,z4,z5⟩:=zero_facts C5.out.ret0;have bx:((6:Int) != 0)=true:=rfl;have HBAD:Hid (∀ h:Hdr,h.Ok→b≠blkB h):=hid (by
       intro h hk e;obtain ⟨_,e2,e3,e4,_,_⟩:=blk_tell hk e;rcases HI.out.2.1 with ⟨rfl,rfl,rfl⟩ | ⟨rfl,rfl,rfl⟩ | ⟨rfl,rfl,rfl⟩
       ·exact hbad _ _ hk.name.1 e2
       ·exact hbad _ _ hk.link.1 e3
       ·exact hbad _ _ hk.pre.1 e4)
      have B5:=hid C5.out.bel;clear hbad HRES
      go_wp2_with fail
      refine bodyPost_ret (v:=.tuple #[(⟨0,⟨#[]⟩,⟨#[]⟩,⟨#[]⟩,0,0⟩:Hdr).val,.int .i64 6]) (by simp [results,Tryz.results76,go_sem,Hdr.val,Hdr.cells,y0,y1,y2,y3,y4,y5,z0,z1,z2,z3,z4,z5]) rfl ⟨?_,.inr ⟨HBAD.out,6,.inr (.inr rfl),rfl⟩⟩
      iterate 6 (refine Below.setCell ?_ (by show w.heap.size≤w.heap.size;omega) _)
      exact B5.out
  ·
   have TC:=hid (type_bad typ HT.out.2 ht W2);have HBAD:Hid (∀ h:Hdr,h.Ok→b≠blkB h):=hid (by
    intro h hk e;obtain ⟨f1,_⟩:=blk_tell hk e;have e1:=congrArg (fun q=>q[0]?) f1;simp only [sl_get] at e1;rw [if_pos (by decide),HT.out.1] at e1;have e2:typ=h.typ:=by simpa using e1
    exact ht (e2 ▸ hk.typ))
   obtain ⟨⟨y0,y1,y2,y3,y4,y5⟩,z0,z1,z2,z3,z4,z5⟩:=zero_facts T2.out.2.1;clear ht
   go_wp2_with fail
   refine TC.out.mono ?_;rintro e w3 ⟨rfl,rfl⟩
   go_wp2_with fail
   refine bodyPost_ret (v:=.tuple #[(⟨0,⟨#[]⟩,⟨#[]⟩,⟨#[]⟩,0,0⟩:Hdr).val,.int .i64 8]) (by simp [results,Tryz.results76,go_sem,Hdr.val,Hdr.cells,y0,y1,y2,y3,y4,y5,z0,z1,z2,z3,z4,z5]) rfl ⟨?_,.inr ⟨HBAD.out,8,.inr (.inl rfl),rfl⟩⟩
   iterate 6 (refine Below.setCell ?_ (by show w.heap.size≤w.heap.size;omega) _)
   exact T2.out.1
 ·
  have HBAD:Hid (∀ h:Hdr,h.Ok→b≠blkB h):=hid (by
   intro h hk e;refine hv ?_;rw [e];exact vfy_seal _ (raw_len hk))
  have hx9:vfy b=9:=by
   unfold vfy at hv ⊢;split
   ·rename_i h;rw [if_pos h] at hv;exact absurd rfl hv
   ·rfl
  rw [hx9];have bx9:((9:Int) != 0)=true:=rfl;obtain ⟨⟨y0,y1,y2,y3,y4,y5⟩,z0,z1,z2,z3,z4,z5⟩:=zero_facts T1.out.2;clear hv hx9
  go_wp2_with fail
  refine bodyPost_ret (v:=.tuple #[(⟨0,⟨#[]⟩,⟨#[]⟩,⟨#[]⟩,0,0⟩:Hdr).val,.int .i64 9]) (by simp [results,Tryz.results76,go_sem,Hdr.val,Hdr.cells,y0,y1,y2,y3,y4,y5,z0,z1,z2,z3,z4,z5]) rfl ⟨?_,.inr ⟨HBAD.out,9,.inl rfl,rfl⟩⟩
  iterate 6 (refine Below.setCell ?_ (by show w.heap.size≤w.heap.size;omega) _)
  exact T1.out.1
end ZUDec
end
end Go.Proofs.YteikiojmcipkmaaGreatDoor
