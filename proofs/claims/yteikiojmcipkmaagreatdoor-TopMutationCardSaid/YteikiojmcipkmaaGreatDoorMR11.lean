/- Parts of the proof, gathered by a program: what calls of the functions answer, and what follows in plain lists. Conditions: those that each theorem states. -/
import Derived.Test.YteikiojmcipkmaaGreatDoorMR09
import Derived.RangeFuncLeaves
import Derived.RangeFuncKeeps
import Derived.OwnWalkIn
import Derived.TacticsInMore
import Derived.LoopNIn
import Derived.LoopIn
set_option linter.unusedVariables false
set_option linter.unusedSimpArgs false
namespace Go.Proofs.YteikiojmcipkmaaGreatDoor
open Go.Lib (hid)
open Go.RowKit YteikiojmcipkmaaGreatDoorW.PrintWords YteikiojmcipkmaaGreatDoorW.PrintLast YteikiojmcipkmaaGreatDoorW.PrintMore Oct ZBase ZGlob ZMo
set_option maxRecDepth 100000
section
namespace ZPath
attribute [local go_sem] Oper.semAt_some max2_int min2_int max_two min_two max_three min_three
def comps:List UInt8→List (List UInt8)
 | []=>[[]]
 | x :: l=>if x=47 then [] :: comps l else
  match comps l with
  | []=>[[x]]
  | c :: cs=>(x :: c) :: cs
theorem comps_ne (l:List UInt8):comps l≠[]:=by
 cases l with
 | nil=>simp [comps]
 | cons x l =>
  rw [comps];split
  ·simp
  ·split <;> simp
theorem indexByte_cons (x:UInt8) (l:List UInt8) (c:UInt8):Lib.indexByte (x :: l) c=if x=c then 0 else if Lib.indexByte l c=-1 then -1 else Lib.indexByte l c+1:=by simp only [Lib.indexByte,beq_iff_eq]
theorem comps_miss (l:List UInt8) (h:Lib.indexByte l 47=-1):comps l=[l]:=by
 induction l with
 | nil=>rfl
 | cons x l ih =>
  have hg:=Lib.indexByte_ge l 47;rw [indexByte_cons] at h;by_cases hx:x=47
  ·rw [if_pos hx] at h;omega
  ·
   rw [if_neg hx] at h;by_cases hl:Lib.indexByte l 47=-1
   ·rw [comps,if_neg hx,ih hl]
   ·rw [if_neg hl] at h;omega
theorem comps_hit (l:List UInt8) (k:Nat) (h:Lib.indexByte l 47=k):k < l.length∧comps l=l.take k :: comps (l.drop (k+1)):=by
 induction l generalizing k with
 | nil=>simp [Lib.indexByte] at h
 | cons x l ih =>
  have hg:=Lib.indexByte_ge l 47;rw [indexByte_cons] at h;by_cases hx:x=47
  ·
   rw [if_pos hx] at h;obtain rfl:k=0:=by omega
   exact ⟨by simp,by rw [comps,if_pos hx];simp⟩
  ·
   rw [if_neg hx] at h;by_cases hl:Lib.indexByte l 47=-1
   ·rw [if_pos hl] at h;omega
   ·rw [if_neg hl] at h;obtain ⟨j,rfl⟩:∃ j,k=j+1:=⟨k - 1,by omega⟩;obtain ⟨h1,h2⟩:=ih j (by omega);exact ⟨by simpa using h1,by rw [comps,if_neg hx,h2];simp⟩
def parts (p:ByteArray):List ByteArray:=(comps p.data.toList).map fun l=>⟨l.toArray⟩
def good (c:ByteArray):Prop:=c≠⟨#[]⟩∧c≠⟨#[46]⟩∧c≠⟨#[46,46]⟩∧Lib.indexByte c.data.toList 0 < 0
def okPath (p:ByteArray):Prop:=p.size≤65536∧∀ c∈parts p,good c
theorem cut_miss (p:ByteArray) (h:Lib.indexByte p.data.toList 47 < 0):Lib.cut p.data.toList [47]=(p.data.toList,[],false)∧parts p=[p]:=by
 have hg:=Lib.indexByte_ge p.data.toList 47;have e:Lib.indexByte p.data.toList 47=-1:=by omega
 refine ⟨?_,by rw [parts,comps_miss _ e];rfl⟩;rw [Lib.cut,Lib.index_one,if_neg (by omega)]
theorem cut_hit (p:ByteArray) (k:Nat) (h:Lib.indexByte p.data.toList 47=k):Lib.cut p.data.toList [47]=(p.data.toList.take k,p.data.toList.drop (k+1),true)∧k < p.size∧parts p=⟨(p.data.toList.take k).toArray⟩ :: parts ⟨(p.data.toList.drop (k+1)).toArray⟩:=by
 obtain ⟨h1,h2⟩:=comps_hit _ _ h;refine ⟨?_,by rw [← data_length];exact h1,?_⟩
 ·rw [Lib.cut,Lib.index_one,h,if_pos (by omega)];simp
 ·rw [parts,h2];simp [parts]
def boxSize (b:Nat) (w:World):Nat :=
 match w.heap[b]? with
 | some (Obj.cells cs _ _)=>match (cs[0]?:Option Value) with
  | some (Value.string s)=>s.size
  | _=>0
 | _=>0
theorem boxSize_eq {b:Nat} {w:World} {s:ByteArray} {t:TypeId} {fr:Nat×Nat} (h:w.heap[b]?=some (.cells #[.string s] t fr)):boxSize b w=s.size:=by simp [boxSize,h]
theorem box_set {W:World} {b:Nat} {t:TypeId} {v:Value} (h:W.heap[b]?=some (.cells #[v] t (0,0))) (v':Value):(W.setCell ⟨b,0,none⟩ v').heap[b]?=some (.cells #[v'] t (0,0)):=by have:=blk_set h 0 v';simpa using this
set_option maxHeartbeats 1000000 in
theorem comps_in (n:Nat) (hn:1≤n) (l b:Nat) (p:ByteArray) (hp:p.size≤65536) (J Jx:List ByteArray→World→Prop) (hJs:∀ pre W s,J pre W→J pre (W.setCell ⟨b,0,none⟩ (.string s))) (hJd:∀ pre W k,J pre W→J pre (W.drewN k)) (hJm:∀ pre W,J pre W→∃ m:Int,W.cell? ⟨14,0,none⟩=some (.int .i64 m)) (hY:∀ pre x W s,J pre W→W.heap[b]?=some (.cells #[.string s] 9 (0,0))→YieldAt Fence.wide (n - 1) Tryz.prog l #[.string x] W fun e W' =>(e=.returned (.bool true)∧J (pre++[x]) W'∧W'.heap[b]?=W.heap[b]?)∨(e=.returned (.bool false)∧Jx (pre++[x]) W')) (W:World) (hb:W.heap[b]?=some (.cells #[.string p] 9 (0,0))) (h0:J [] W): CallsIn Fence.wide n Tryz.prog 171 #[.func (.yield l) #[] #[],.pointer (some ⟨b,0,none⟩)] W fun e W'=>(∃ v,e=.returned v)∧(J (parts p) W'∨∃ pre,pre <+: parts p∧Jx pre W'):=by
 refine callsIn_of_wp Tryz.func171 rfl trivial ?_ rfl;simp only [Tryz.ntmps171,List.size_toArray,List.length_cons,List.length_nil,Nat.reduceAdd,Nat.reduceSub,Array.replicate_succ,Array.replicate_zero,List.push_toArray,List.append_toArray,List.nil_append,List.cons_append]
 gi_wp2
 gi_loopw [4] (fun _ wr=>∃ (pre:List ByteArray) (s:ByteArray),parts p=pre++parts s∧s.size≤65536∧wr.heap[b]?=some (.cells #[.string s] 9 (0,0))∧J pre wr) (fun _ wr=>boxSize b wr)
 case atStart=>exact ⟨[],p,rfl,hp,hb,h0⟩
 case round =>
  obtain ⟨pre,s,hps,hs,hbx,hJ⟩:=hrel;obtain ⟨m,hm⟩:=hJm _ _ hJ;have c0:wr.cell? ⟨b,0,none⟩=some (.string s):=by simp [World.cell?,hbx]
  have CC:=hid (Tryz.strings_Cut s ⟨#[47]⟩ m wr (by omega) hm);have hdt:(⟨#[47]⟩:ByteArray).data.toList=[47]:=rfl;rw [hdt] at CC;rcases Int.lt_or_le (Lib.indexByte s.data.toList 47) 0 with hlt | hge
  ·
   obtain ⟨hc,hpp⟩:=cut_miss s hlt;rw [hc] at CC
   gi_wp2
   refine ⟨trivial,(callsIn_wide.2 CC.out).mono ?_⟩;rintro e w' ⟨rfl,q,rfl⟩;obtain ⟨fn,tmps,assign,body,hy,hR⟩:=hY pre ⟨s.data.toList.toArray⟩ (wr.drewN q) s (hJd _ _ _ hJ) hbx;have T:=hid (show parts p=pre++[⟨s.data.toList.toArray⟩] by rw [hps,hpp]);clear CC hY hps hpp hc
   gi_wp2
   refine hR.mono ?_;rintro e W3 (⟨rfl,hJ3,hk3⟩ | ⟨rfl,hJx3⟩)
   ·
    gi_wp2
    refine bodyPost_ret (results_none rfl _ _ _) rfl ?_;exact ⟨⟨_,rfl⟩,.inl (by rw [T.out];exact hJ3)⟩
   ·
    gi_wp2
    refine bodyPost_ret (results_none rfl _ _ _) rfl ?_;exact ⟨⟨_,rfl⟩,.inr ⟨_,by rw [T.out];exact List.prefix_rfl,hJx3⟩⟩
  ·
   obtain ⟨k,hk⟩:∃ k:Nat,Lib.indexByte s.data.toList 47=k:=⟨_,(Int.toNat_of_nonneg hge).symm⟩;obtain ⟨hc,hlt,hpp⟩:=cut_hit s k hk;rw [hc] at CC;dsimp only at CC;obtain ⟨x,hx⟩:∃ x:ByteArray,x=⟨(s.data.toList.take k).toArray⟩:=⟨_,rfl⟩;obtain ⟨r,hr⟩:∃ r:ByteArray,r=⟨(s.data.toList.drop (k+1)).toArray⟩:=⟨_,rfl⟩;rw [← hx,← hr] at CC;have hrs:r.size+(k+1)=s.size:=by have:=data_length s;have e1:=data_length r;rw [hr] at e1 ⊢;simp only [List.length_drop] at e1;omega
   have T:=hid (show parts p=(pre++[x])++parts r by rw [hps,hpp,← hx,← hr];simp);have HY:=hid (fun q=>hY pre x (wr.drewN q) s (hJd _ _ _ hJ) hbx);clear hY hps hpp hc hx hr
   gi_wp2
   refine ⟨trivial,(callsIn_wide.2 CC.out).mono ?_⟩;rintro e w' ⟨rfl,q,rfl⟩;obtain ⟨fn,tmps,assign,body,hy,hR⟩:=HY.out q
   gi_wp2
   refine hR.mono ?_;rintro e W3 (⟨rfl,hJ3,hk3⟩ | ⟨rfl,hJx3⟩)
   ·
    have hb3:W3.heap[b]?=some (.cells #[.string s] 9 (0,0)):=hk3.trans hbx;have c3:W3.cell? ⟨b,0,none⟩=some (.string s):=by simp [World.cell?,hb3]
    have f3:W3.frozen? ⟨b,0,none⟩=false:=by simp [World.frozen?,hb3]
    have hJ4:=hid (hJs _ _ r hJ3);have hb4:=hid (box_set hb3 (.string r));have hsz:=hid (boxSize_eq hbx)
    gi_wp2
    go_roundw
    case rel=>exact ⟨_,r,T.out,by omega,hb4.out,hJ4.out⟩
    case measure=>rw [boxSize_eq hb4.out,hsz.out];omega
   ·
    gi_wp2
    refine bodyPost_ret (results_none rfl _ _ _) rfl ?_;exact ⟨⟨_,rfl⟩,.inr ⟨_,by rw [T.out];exact List.prefix_append _ _,hJx3⟩⟩
set_option maxHeartbeats 1000000 in
theorem components_calls (p:ByteArray) (w:World):Calls Tryz.prog 149 #[.string p] w fun e w'=>e=.returned (.func (.func 171) #[] #[.pointer (some ⟨w.heap.size,0,none⟩)])∧w'=w.alloc (.cells #[.string p] 9):=by go_enter Tryz.func149,Tryz.ntmps149;go_wp2;go_ret;exact ⟨rfl,rfl⟩
theorem blk_put {W:World} {k g:Nat} {o o':Obj} (h:W.heap[g]?=some o) (hne:g≠k):(W.putObj k o').heap[g]?=some o:=(World.putObj_heap_other hne).trans h
theorem blk_setc {W:World} {g:Nat} {o:Obj} {p:Addr} {v:Value} (h:W.heap[g]?=some o) (hne:g≠p.block):(W.setCell p v).heap[g]?=some o:=(Below.heap_setCell W p v g hne).trans h
theorem below_put {R k:Nat} {w W:World} (h:Below R w W) (hk:R≤k) (o:Obj):Below R w (W.putObj k o):=⟨h.os,h.tape,h.output,by rw [World.putObj_size];exact h.size,fun j hj=>(World.putObj_heap_other (by omega)).trans (h.block j hj)⟩
def rpost (_B b:Nat) (I Ix:List ByteArray→World→Prop) (xs:List ByteArray) (W:World):Exit→Act→World→Prop
 | .normal,_,W'=>KeepsOthers W W'∧W'.heap[b]?=W.heap[b]?∧I xs W'
 | .ret,_,W'=>KeepsOthers W W'∧Ix xs W'
 | _,_,_=>False
set_option maxHeartbeats 1000000 in
theorem range_comps {g:Operand} {ps:Array Tmp} {assign body:Code} {Q:Exit→Act→World→Prop} {a:Act} {w:World} {n:Nat} (hn:2≤n) (b:Nat) (p:ByteArray) (hp:p.size≤65536) (hg:a.eval g=.func (.func 171) #[] #[.pointer (some ⟨b,0,none⟩)]) (hb:w.heap[b]?=some (.cells #[.string p] 9 (0,0))) (hps:ps.size=1) (I Ix:List ByteArray→World→Prop) (hIs:∀ pre W s,I pre W→I pre (W.setCell ⟨b,0,none⟩ (.string s))) (hId:∀ pre W k,I pre W→I pre (W.drewN k)) (hIm:∀ pre W,I pre W→∃ m:Int,W.cell? ⟨14,0,none⟩=some (.int .i64 m)) (hIa:∀ W o,I [] W→I [] (W.alloc o)) (hIp:∀ pre W k o,w.heap.size≤k→I pre W→I pre (W.putObj k o)) (hXp:∀ pre W k o,w.heap.size≤k→Ix pre W→Ix pre (W.putObj k o)) (h0:I [] w) (a₁:ByteArray→Act) (hassign:∀ (l:Nat) (x:ByteArray) (W:World) (K:Act→World→Prop),K (a₁ x) W→assign.wpIn (Fence.wide.inRound l) (n - 1 - 1) Tryz.prog (Exit.then K (fun _ _ _=>False)) { tmps:=(ps.zip #[Value.string x]).foldl (fun t (p,v)=>t.setIfInBounds p v) a.tmps,defers:=[] } W) (hbody:∀ (l:Nat) (pre:List ByteArray) (x:ByteArray) (W:World),I pre W→body.wpIn (Fence.wide.inRound l) (n - 1 - 1) Tryz.prog (rpost w.heap.size b I Ix (pre++[x]) W) (a₁ x) W) (hdone:∀ (D:Nat) (W:World),w.heap.size≤D→I (parts p) W→W.heap[D]?=some (.deferred (some []))→Q .normal { a with defers:={ target:=.collected D,args:=#[] } :: a.defers } W) (hstop:∀ (D:Nat) (pre:List ByteArray) (W:World),w.heap.size≤D→pre <+: parts p→Ix pre W→W.heap[D]?=some (.deferred (some []))→Code.ret.wpIn Fence.wide n Tryz.prog Q { a with defers:={ target:=.collected D,args:=#[] } :: a.defers } W) : (Code.rangeFunc g ps assign body).wpIn Fence.wide n Tryz.prog Q a w:=by
 have hbl:b < w.heap.size:=blk_lt hb;refine wpIn_rangeFunc ?_;intro fn _;obtain ⟨rec,hrec⟩:∃ rec:LoopState→Option Code→Loop,rec=fun st pe=>{ state:=st,pending:=pe,fn,tmps:=a.tmps,params:=ps,assign,body,defers:=w.heap.size }:=⟨_,rfl⟩;obtain ⟨W1,hW1⟩:∃ W1,(w.alloc (.deferred (some []))).alloc (.loop (rec .ready none))=W1:=⟨_,rfl⟩;have hL:W1.heap[w.heap.size+1]?=some (.loop (rec .ready none)):=by
  rw [← hW1];have:=World.alloc_heap_new (w.alloc (.deferred (some []))) (.loop (rec .ready none))
  rwa [World.size_alloc] at this
 have hD:W1.heap[w.heap.size]?=some (.deferred (some [])):=by rw [← hW1];exact blk_alloc (World.alloc_heap_new w _) _
 have hI1:I [] W1:=by rw [← hW1];exact hIa _ _ (hIa _ _ h0)
 have hb1:W1.heap[b]?=some (.cells #[.string p] 9 (0,0)):=by rw [← hW1];exact blk_alloc (blk_alloc hb _) _
 refine ⟨w.heap.size+1,[{ target:=.collected w.heap.size,args:=#[] }],W1,{ target:=.fn (.func 171) #[.pointer (some ⟨b,0,none⟩)],args:=#[.func (.yield (w.heap.size+1)) #[] #[]] },W1,171,
  #[.func (.yield (w.heap.size+1)) #[] #[],.pointer (some ⟨b,0,none⟩)],W1,?_,?_,fun _ _=>trivial,?_,fun _=>by omega,?_⟩
 ·rw [← hW1,hrec];exact run_enterLoop_outer _ _ _ _ _
 ·simp only [resolve,hg];simp [go_sem]
 ·have eg:∀ args w,(callFunc 171 args).run Tryz.prog w=.ok (.enter 171 args) w:=enters_of Tryz.func171 (by kernel_rfl) rfl;simp [invoke,go_sem,eg]
 refine (comps_in (n - 1) (by omega) (w.heap.size+1) b p hp
  (fun pre W=>I pre W∧W.heap[w.heap.size+1]?=some (.loop (rec .ready none))∧W.heap[w.heap.size]?=some (.deferred (some [])))
  (fun pre W=>Ix pre W∧W.heap[w.heap.size+1]?=some (.loop (rec .done (some .ret)))∧W.heap[w.heap.size]?=some (.deferred (some [])))
  (fun pre W s h=>⟨hIs _ _ _ h.1,blk_setc h.2.1 (by show w.heap.size+1≠b;omega),blk_setc h.2.2 (by show w.heap.size≠b;omega)⟩)
  (fun pre W k h=>⟨hId _ _ _ h.1,h.2⟩) (fun pre W h=>hIm _ _ h.1) ?_ W1 hb1 ⟨hI1,hL,hD⟩).mono ?_
 ·
  rintro pre x W s ⟨hi,hl,hd⟩ hbx;have hlt:w.heap.size+1 < W.heap.size:=blk_lt hl;have hy:=run_yield (P:=Tryz.prog) (args:=#[Value.string x]) hl (by rw [hrec];exact hps.symm);rw [hrec] at hy;refine ⟨fn,_,assign,body,hy,roundIn_of_wpIn trivial (hassign _ x W _ ⟨_,run_beginRound hl (by rw [hrec]),?_⟩)⟩;have hl2:(W.putObj (w.heap.size+1) (.loop { rec .ready none with state:=.busy })).heap[w.heap.size+1]?=some (.loop { rec .ready none with state:=.busy }):=World.putObj_heap_same hlt;have hd2:(W.putObj (w.heap.size+1) (.loop { rec .ready none with state:=.busy })).heap[w.heap.size]?=some (.deferred (some [])):=blk_put hd (by omega);refine wpIn_mono (hbody _ pre x _ (hIp _ _ _ _ (by omega) hi)) ?_;have fin:∀ (jump:Option Code) (W3:World),KeepsOthers (W.putObj (w.heap.size+1) (.loop { rec .ready none with state:=.busy })) W3 →
    (Instr.endRound (w.heap.size+1) jump).run Tryz.prog W3=.ok (.bool jump.isNone) (W3.putObj (w.heap.size+1) (.loop (rec (if jump.isNone then .ready else .done) jump))) ∧
    (W3.putObj (w.heap.size+1) (.loop (rec (if jump.isNone then .ready else .done) jump))).heap[w.heap.size+1]?=some (.loop (rec (if jump.isNone then .ready else .done) jump)) ∧
    (W3.putObj (w.heap.size+1) (.loop (rec (if jump.isNone then .ready else .done) jump))).heap[w.heap.size]?=some (.deferred (some [])):=fun jump W3 hk3=>by
   have hl3:=hk3.same _ _ hl2 rfl;have hd3:=hk3.same _ _ hd2 rfl;have:=run_endRound (P:=Tryz.prog) jump hl3;rw [hrec] at this ⊢;exact ⟨this,World.putObj_heap_same (blk_lt hl3),blk_put hd3 (by omega)⟩
  rintro e a3 W3 hq;cases e with
  | normal =>obtain ⟨hk3,hbx3,hi3⟩:=hq;obtain ⟨hr,hl4,hd4⟩:=fin none W3 hk3;refine ⟨_,_,hr,.inl ⟨rfl,⟨hIp _ _ _ _ (by omega) hi3,hl4,hd4⟩,?_⟩⟩;have h1:=World.putObj_heap_other (w:=W3) (o:=.loop (rec .ready none)) (show b≠w.heap.size+1 by omega);have h2:=World.putObj_heap_other (w:=W) (o:=.loop { rec .ready none with state:=.busy }) (show b≠w.heap.size+1 by omega);exact h1.trans (hbx3.trans h2)
  | ret =>obtain ⟨hk3,hi3⟩:=hq;obtain ⟨hr,hl4,hd4⟩:=fin (some .ret) W3 hk3;exact ⟨_,_,hr,.inr ⟨rfl,hXp _ _ _ _ (by omega) hi3,hl4,hd4⟩⟩
  | exit id=>exact hq.elim
  | goto t=>exact hq.elim
  | panic ch=>exact hq.elim
  | outgrown=>exact hq.elim
 ·
  rintro e W2 ⟨⟨v,rfl⟩,(⟨hi,hl,hd⟩ | ⟨pre,hpre,hi,hl,hd⟩)⟩
  ·have:=run_endLoop (P:=Tryz.prog) hl (by rw [hrec];simp);rw [hrec] at this;exact ⟨none,_,this,hdone _ _ (Nat.le_refl _) (hIp _ _ _ _ (by omega) hi) (blk_put hd (by omega))⟩
  ·have:=run_endLoop (P:=Tryz.prog) hl (by rw [hrec];simp);rw [hrec] at this;exact ⟨some .ret,_,this,hstop _ pre _ (Nat.le_refl _) hpre (hXp _ _ _ _ (by omega) hi) (blk_put hd (by omega))⟩
theorem byte_cell {w:World} (h:Gl w) {W:World} (hb:Below w.heap.size w W):∃ m:Int,W.cell? ⟨14,0,none⟩=some (.int .i64 m):=(h.below hb).max
theorem str_yes {x:ByteArray} (l:List UInt8) (h:x=⟨l.toArray⟩):(x.toList == l)=true:=by rw [h,ByteArray.toList_eq];simp
theorem str_no {x:ByteArray} (l:List UInt8) (h:¬ x=⟨l.toArray⟩):(x.toList == l)=false:=by rw [ByteArray.toList_eq,beq_eq_false_iff_ne];intro e;apply h;rw [← e]
theorem emp_yes {x:ByteArray} (h:x=⟨#[]⟩):x.toList.isEmpty=true:=by rw [h,ByteArray.toList_eq];rfl
theorem emp_no {x:ByteArray} (h:¬ x=⟨#[]⟩):x.toList.isEmpty=false:=by
 rw [ByteArray.toList_eq];cases hx:x.data.toList with
 | nil =>
  apply (h _).elim;have:x=⟨x.data.toList.toArray⟩:=by simp
  rw [this,hx]
 | cons a l=>rfl
structure Lo (w:World) (pre:List ByteArray) (W:World):Prop where
 good_:∀ x∈pre,good x
 res:W.heap[w.heap.size]?=some (.cells #[.int .i64 0] 33 (0,0))
 bel:Below w.heap.size w W
structure Lx (w:World) (pre:List ByteArray) (W:World):Prop where
 bad:∃ x∈pre,¬ good x
 res:W.heap[w.heap.size]?=some (.cells #[.int .i64 6] 33 (0,0))
 bel:Below w.heap.size w W
set_option maxHeartbeats 4000000 in
theorem check_calls (p:ByteArray) (w:World) (hG:Gl w):Calls Tryz.prog 121 #[.string p] w fun e w'=>∃ x:Int,e=.returned (.int .i64 x)∧(x=0↔okPath p)∧Below w.heap.size w w':=by
 refine (callsIn_wide (n:=3)).1 ?_;refine callsIn_of_wp_marks Tryz.func121 rfl trivial ?_ rfl;simp only [Tryz.ntmps121,List.size_toArray,List.length_cons,List.length_nil,Nat.reduceAdd,Nat.reduceSub,Array.replicate_succ,Array.replicate_zero,List.push_toArray,List.append_toArray,List.nil_append,List.cons_append];by_cases hp:65536 < p.size
 ·
  have hp1:65536 < (p.size:Int):=by omega
  have hbx:=heap_alloc_new w (.cells #[.int .i64 7] 33)
  gi_wp2
  refine ⟨_,?_,7,rfl,?_,(Below.refl _ _).alloc (Nat.le_refl _) _⟩
  ·
   have hc:(w.alloc (.cells #[.int .i64 7] 33)).cell? ⟨w.heap.size,0,none⟩=some (.int .i64 7):=by rw [World.cell?,hbx];rfl
   simp [results,Tryz.f121,go_sem,hc]
  ·
   constructor
   ·intro h;omega
   ·intro h;have:=h.1;omega
 ·
  have hp1:¬ 65536 < (p.size:Int):=by omega
  gi_wp2
  refine ⟨trivial,(callsIn_wide.2 (components_calls _ _)).mono ?_⟩;rintro e w' ⟨rfl,rfl⟩
  gi_wp2
  have hR0:((w.alloc (.cells #[.int .i64 0] 33)).alloc (.cells #[.string p] 9)).heap[w.heap.size]?=some (.cells #[.int .i64 0] 33 (0,0)):=blk_alloc (heap_alloc_new w _) _;have hb0:((w.alloc (.cells #[.int .i64 0] 33)).alloc (.cells #[.string p] 9)).heap[w.heap.size+1]?=some (.cells #[.string p] 9 (0,0)):=by
   have:=heap_alloc_new (w.alloc (.cells #[.int .i64 0] 33)) (.cells #[.string p] 9)
   rwa [World.size_alloc] at this
  have hB0:Below w.heap.size w ((w.alloc (.cells #[.int .i64 0] 33)).alloc (.cells #[.string p] 9)):=((Below.refl _ w).alloc (Nat.le_refl _) _).alloc (by simp) _;refine range_comps (by decide) (w.heap.size+1) p (by omega) (by simp [go_sem]) hb0 rfl (Lo w) (Lx w) ?_ ?_ ?_ ?_ ?_ ?_ ⟨by simp,hR0,hB0⟩
   (fun x=>{ tmps:=#[.string p,undef,.pointer (some ⟨w.heap.size,0,none⟩),.string x,.string p,.int .i64 p.size,.bool false,.string p,.func (.func 171) #[] #[.pointer (some ⟨w.heap.size+1,0,none⟩)],.string x,undef,undef,undef,undef,undef,undef,undef,undef,undef,undef,undef,undef,undef,undef,undef],defers:=[] }) ?assign ?body ?done ?stop
  ·exact fun pre W s h=>⟨h.1,blk_setc h.2 (by show w.heap.size≠w.heap.size+1;omega),h.3.setCell (by show w.heap.size≤w.heap.size+1;omega) _⟩
  ·exact fun pre W k h=>⟨h.1,h.2,pw_below_drewN h.3 k⟩
  ·exact fun pre W h=>byte_cell hG h.3
  ·exact fun W o h=>⟨h.1,blk_alloc h.2 _,below_alloc h.3 _⟩
  ·exact fun pre W k o hk h=>⟨h.1,blk_put h.2 (by simp at hk;omega),below_put h.3 (by simp at hk;omega) _⟩
  ·exact fun pre W k o hk h=>⟨h.1,blk_put h.2 (by simp at hk;omega),below_put h.3 (by simp at hk;omega) _⟩
  case assign =>
   intro l x W K hK
   gi_wp2
   exact hK
  case body =>
   intro l pre x W hi;have c2:W.cell? ⟨w.heap.size,0,none⟩=some (.int .i64 0):=by simp [World.cell?,hi.2]
   have f2:W.frozen? ⟨w.heap.size,0,none⟩=false:=by simp [World.frozen?,hi.2]
   have T:=hid (And.intro hi.1 (And.intro (box_set hi.2 (.int .i64 6)) (hi.3.setCell (p:=⟨w.heap.size,0,none⟩) (Nat.le_refl _) (.int .i64 6))));have H:=hid hi;have IB:=hid (Tryz.strings_IndexByte x 0 W);clear hi;have bad:∀ h:¬ good x,KeepsOthers W (W.setCell ⟨w.heap.size,0,none⟩ (.int .i64 6))∧Lx w (pre++[x]) (W.setCell ⟨w.heap.size,0,none⟩ (.int .i64 6)):=fun h =>⟨KeepsOthers.setCell _ _ _,⟨x,by simp,h⟩,T.out.2.1,T.out.2.2⟩
   replace bad:=hid bad;by_cases h1:x=⟨#[]⟩
   ·
    have hb:=emp_yes h1;have hg:=hid (bad.out fun h=>h.1 h1);clear h1
    gi_wp2
    refine ⟨trivial,?_⟩
    gi_wp2
    exact hg.out
   have hb1:=emp_no h1;by_cases h2:x=⟨#[46]⟩
   ·
    have hb:=str_yes [46] h2;have hg:=hid (bad.out fun h=>h.2.1 h2);clear h1 h2
    gi_wp2
    refine ⟨trivial,?_⟩
    gi_wp2
    exact hg.out
   have hb2:=str_no [46] h2;by_cases h3:x=⟨#[46,46]⟩
   ·
    have hb:=str_yes [46,46] h3;have hg:=hid (bad.out fun h=>h.2.2.1 h3);clear h1 h2 h3
    gi_wp2
    refine ⟨trivial,?_⟩
    gi_wp2
    exact hg.out
   have hb3:=str_no [46,46] h3;have e0:(0:Int).toNat.toUInt8=0:=rfl;rw [e0] at IB;by_cases h4:0≤Lib.indexByte x.data.toList 0
   ·
    have hg:=hid (bad.out fun h=>by have:=h.2.2.2;omega);clear h1 h2 h3
    gi_wp2
    refine ⟨trivial,(callsIn_wide.2 IB.out).mono ?_⟩;rintro e w' ⟨rfl,rfl⟩
    gi_wp2
    exact hg.out
   ·
    have hg:=hid (show good x from ⟨h1,h2,h3,by omega⟩);clear h1 h2 h3
    gi_wp2
    refine ⟨trivial,(callsIn_wide.2 IB.out).mono ?_⟩;rintro e w' ⟨rfl,rfl⟩
    gi_wp2
    refine ⟨KeepsOthers.refl _,rfl,fun y hy=>?_,H.out.2,H.out.3⟩;rcases List.mem_append.1 hy with hy | hy
    ·exact H.out.1 y hy
    ·
     obtain rfl:y=x:=by simpa using hy
     exact hg.out
  case done =>
   rintro D W hD hi hd;have c2:W.cell? ⟨w.heap.size,0,none⟩=some (.int .i64 0):=by simp [World.cell?,hi.2]
   have f2:W.frozen? ⟨w.heap.size,0,none⟩=false:=by simp [World.frozen?,hi.2]
   have hD1:w.heap.size+2≤D:=by simpa using hD
   have r1:=box_set hi.2 (.int .i64 0);have d1:=blk_setc (p:=⟨w.heap.size,0,none⟩) (v:=.int .i64 0) hd (by show D≠w.heap.size;omega);have r2:=blk_put (o':=.deferred none) r1 (k:=D) (by omega);have c5:((W.setCell ⟨w.heap.size,0,none⟩ (.int .i64 0)).putObj D (.deferred none)).cell? ⟨w.heap.size,0,none⟩=some (.int .i64 0):=by simp [World.cell?,r2]
   have B5:=hid (below_put (k:=D) (hi.3.setCell (p:=⟨w.heap.size,0,none⟩) (Nat.le_refl _) (.int .i64 0)) (by omega) (.deferred none));have P5:=hid (show okPath p from ⟨by omega,hi.1⟩);clear hi hd r2 hD
   gi_wp2
   refine ⟨by simp,.inl ⟨_,_,rfl,run_takeDeferred d1,?_⟩⟩;refine ⟨.int .i64 0,?_,0,rfl,⟨fun _=>P5.out,fun _=>rfl⟩,B5.out⟩;simp [results,Tryz.f121,go_sem,c5]
  case stop =>
   rintro D pre W hD hpre hi hd;have hD1:w.heap.size+2≤D:=by simpa using hD
   have r2:=blk_put (o':=.deferred none) hi.2 (k:=D) (by omega);have c5:(W.putObj D (.deferred none)).cell? ⟨w.heap.size,0,none⟩=some (.int .i64 6):=by simp [World.cell?,r2]
   have B5:=hid (below_put (k:=D) hi.3 (by omega) (.deferred none));have P5:=hid (show ¬ okPath p from fun h=>by obtain ⟨x,hx,hb⟩:=hi.1;exact hb (h.2 x (hpre.subset hx)))
   clear hi r2 hD
   gi_wp2
   refine ⟨by simp,.inl ⟨_,_,rfl,run_takeDeferred hd,?_⟩⟩;refine ⟨.int .i64 6,?_,6,rfl,⟨fun h=>by omega,fun h=>(P5.out h).elim⟩,B5.out⟩;simp [results,Tryz.f121,go_sem,c5]
def parentP (p:ByteArray):ByteArray:=if Lib.lastIndexByte p 47 < 0 then ⟨#[]⟩ else p.extract 0 (Lib.lastIndexByte p 47).toNat
set_option maxHeartbeats 1000000 in
theorem parent_calls (p:ByteArray) (hp:p.size < 4611686018427387904) (w:World):Calls Tryz.prog 82 #[.string p] w fun e w'=>e=.returned (.string (parentP p))∧w=w':=by
 have LC:=hid (Tryz.strings_LastIndex_one p ⟨#[47]⟩ rfl hp w);have e0:(((⟨#[47]⟩:ByteArray)[0]'(by decide)).toNat:Int)=47:=rfl;rw [e0] at LC;rcases Lib.lastIdx_spec p 47 p.size with ⟨h1,_⟩ | ⟨i,hi,h1,_,_⟩
 ·
  have h1:Lib.lastIndexByte p 47=-1:=h1;have hp:parentP p=⟨#[]⟩:=by simp [parentP,h1]
  rw [h1] at LC;rw [hp];clear h1 hp e0;go_enter Tryz.func82,Tryz.ntmps82
  go_wp2_with fail
  refine LC.out.mono ?_;rintro e w' ⟨rfl,rfl⟩;go_wp2;go_ret;exact ⟨rfl,rfl⟩
 ·
  have h1:Lib.lastIndexByte p 47=i:=h1;have hp:parentP p=p.extract 0 i:=by rw [parentP,h1,if_neg (by omega),Int.toNat_natCast]
  rw [h1] at LC;rw [hp];clear h1 hp e0;go_enter Tryz.func82,Tryz.ntmps82
  go_wp2_with fail
  refine LC.out.mono ?_;rintro e w' ⟨rfl,rfl⟩;go_wp2;go_ret;exact ⟨rfl,rfl⟩
def joinP (pre name:ByteArray):ByteArray:=if pre=⟨#[]⟩ then name else pre++⟨#[47]⟩++name
set_option maxHeartbeats 1000000 in
theorem join_calls (pre name:ByteArray) (hs:pre.size+name.size≤1000000) (w:World):Calls Tryz.prog 116 #[.string pre,.string name] w fun e w'=>e=.returned (.string (joinP pre name))∧w=w':=by
 by_cases h:pre=⟨#[]⟩
 ·
  have hb:=emp_yes h;have hj:joinP pre name=name:=by rw [joinP,if_pos h]
  rw [hj];clear h hj;go_enter Tryz.func116,Tryz.ntmps116;go_wp2;go_ret;exact ⟨rfl,rfl⟩
 ·
  have hb:=emp_no h;have hj:joinP pre name=pre++⟨#[47]⟩++name:=by rw [joinP,if_neg h]
  rw [hj];clear h hj;go_enter Tryz.func116,Tryz.ntmps116;go_wp2;go_ret;exact ⟨rfl,rfl⟩
def splitP (p:ByteArray):ByteArray×ByteArray×Bool :=
 if p.size≤100 then (⟨#[]⟩,p,true) else
  if Lib.indexByte (p.extract (max 1 (p.size - 101)) p.size).data.toList 47 < 0∨((max 1 (p.size - 101):Nat):Int)+Lib.indexByte (p.extract (max 1 (p.size - 101)) p.size).data.toList 47 > 155∨((max 1 (p.size - 101):Nat):Int)+Lib.indexByte (p.extract (max 1 (p.size - 101)) p.size).data.toList 47=(p.size:Int) - 1
  then (⟨#[]⟩,⟨#[]⟩,false) else (p.extract 0 (((max 1 (p.size - 101):Nat):Int)+Lib.indexByte (p.extract (max 1 (p.size - 101)) p.size).data.toList 47).toNat,p.extract (((max 1 (p.size - 101):Nat):Int)+Lib.indexByte (p.extract (max 1 (p.size - 101)) p.size).data.toList 47+1).toNat p.size,true)
theorem index_below (l:List UInt8) (n:Int) (h:(l.length:Int)≤n):0 < n→Lib.indexByte l 47 < n:=by
 intro hn;rcases Int.lt_or_le (Lib.indexByte l 47) 0 with hc | hc
 ·omega
 ·have:=(comps_hit l (Lib.indexByte l 47).toNat (by omega)).1;omega
set_option maxHeartbeats 2000000 in
theorem split_calls (p:ByteArray) (hp:p.size≤65536) (w:World):Calls Tryz.prog 127 #[.string p] w fun e w'=>e=.returned (.tuple #[.string (splitP p).1,.string (splitP p).2.1,.bool (splitP p).2.2])∧Drawn0 w w':=by
 by_cases h:p.size≤100
 ·
  have h1:(p.size:Int)≤100:=by omega
  have hs:splitP p=(⟨#[]⟩,p,true):=by rw [splitP,if_pos h]
  rw [hs];clear hs h;go_enter Tryz.func127,Tryz.ntmps127;go_wp2
  go_ret3
  exact ⟨rfl,by first | exact Drawn0.refl _ | exact ⟨⟨_,rfl⟩⟩⟩
 have h1:¬ (p.size:Int)≤100:=by omega
 by_cases h2:p.size≤102
 ·
  have hmax:max 1 (p.size - 101)=1:=by omega
  have hm:¬ 1 < (p.size:Int) - 100 - 1:=by omega
  have IC:=hid (Tryz.strings_Index_one (p.extract 1 p.size) 47 w);obtain ⟨i,hi⟩:∃ i:Int,Lib.indexByte (p.extract 1 p.size).data.toList 47=i:=⟨_,rfl⟩;have hg:=Lib.indexByte_ge (p.extract 1 p.size).data.toList 47;rw [hi] at IC hg;have hil:i < (p.size:Int) - 1:=by rw [← hi];exact index_below _ _ (by simp;omega) (by omega)
  have HS:splitP p=if i < 0∨(1:Int)+i > 155∨(1:Int)+i=(p.size:Int) - 1 then (⟨#[]⟩,⟨#[]⟩,false) else (p.extract 0 ((1:Int)+i).toNat,p.extract ((1:Int)+i+1).toNat p.size,true):=by
   rw [splitP,if_neg h];simp only [hmax,hi]
   try rfl
  clear hi hmax;by_cases c1:i < 0
  ·
   rw [if_pos (.inl c1)] at HS;rw [HS];clear HS h;go_enter Tryz.func127,Tryz.ntmps127
   go_wp2_with fail
   refine IC.out.mono ?_;rintro e w' ⟨rfl,rfl⟩;go_wp2
   go_ret3
   exact ⟨rfl,by first | exact Drawn0.refl _ | exact ⟨⟨_,rfl⟩⟩⟩
  obtain ⟨k,rfl⟩:∃ k:Nat,i=(k:Int):=⟨i.toNat,by omega⟩;have d1:¬ (k:Int) < 0:=c1;by_cases c2:(1:Int)+(k:Int) > 155
  ·
   rw [if_pos (.inr (.inl c2))] at HS;have d2:155 < (1:Int)+(k:Int):=c2;rw [HS];clear HS h;go_enter Tryz.func127,Tryz.ntmps127
   go_wp2_with fail
   refine IC.out.mono ?_;rintro e w' ⟨rfl,rfl⟩;go_wp2
   go_ret3
   exact ⟨rfl,by first | exact Drawn0.refl _ | exact ⟨⟨_,rfl⟩⟩⟩
  have d2:¬ 155 < (1:Int)+(k:Int):=c2;by_cases c3:(1:Int)+(k:Int)=(p.size:Int) - 1
  ·
   rw [if_pos (.inr (.inr c3))] at HS;rw [HS];clear HS h;go_enter Tryz.func127,Tryz.ntmps127
   go_wp2_with fail
   refine IC.out.mono ?_;rintro e w' ⟨rfl,rfl⟩;go_wp2
   go_ret3
   exact ⟨rfl,by first | exact Drawn0.refl _ | exact ⟨⟨_,rfl⟩⟩⟩
  ·
   rw [if_neg (by omega),show ((1:Int)+(k:Int)).toNat=1+k by omega,show ((1:Int)+(k:Int)+1).toNat=1+k+1 by omega] at HS;rw [HS];clear HS h;go_enter Tryz.func127,Tryz.ntmps127
   go_wp2_with fail
   refine IC.out.mono ?_;rintro e w' ⟨rfl,rfl⟩
   go_wp2_with fail
   ·rename_i hh;exfalso;simp only [beq_iff_eq] at hh;omega
   repeat (go_quiet (fail);try go_wp2)
   all_goals first | (go_ret3;exact ⟨rfl,by first | exact Drawn0.refl _ | exact ⟨⟨_,rfl⟩⟩⟩)
 ·
  obtain ⟨f,hf⟩:∃ f:Nat,p.size=f+101:=⟨p.size - 101,by omega⟩;have hmax:max 1 (p.size - 101)=f:=by omega
  have hf1:(p.size:Int) - 100 - 1=f:=by omega
  have hf2:1 < (f:Int):=by omega
  have HF:=hid hf;have IC:=hid (Tryz.strings_Index_one (p.extract f p.size) 47 w);obtain ⟨i,hi⟩:∃ i:Int,Lib.indexByte (p.extract f p.size).data.toList 47=i:=⟨_,rfl⟩;have hg:=Lib.indexByte_ge (p.extract f p.size).data.toList 47;rw [hi] at IC hg;have hil:i < (p.size:Int) - f:=by rw [← hi];exact index_below _ _ (by simp;omega) (by omega)
  have HS:splitP p=if i < 0∨(f:Int)+i > 155∨(f:Int)+i=(p.size:Int) - 1 then (⟨#[]⟩,⟨#[]⟩,false) else (p.extract 0 ((f:Int)+i).toNat,p.extract ((f:Int)+i+1).toNat p.size,true):=by
   rw [splitP,if_neg h];simp only [hmax,hi]
   try rfl
  clear hi hmax hf;by_cases c1:i < 0
  ·
   rw [if_pos (.inl c1)] at HS;rw [HS];clear HS h;go_enter Tryz.func127,Tryz.ntmps127
   go_wp2_with fail
   refine IC.out.mono ?_;rintro e w' ⟨rfl,rfl⟩;go_wp2
   go_ret3
   exact ⟨rfl,by first | exact Drawn0.refl _ | exact ⟨⟨_,rfl⟩⟩⟩
  obtain ⟨k,rfl⟩:∃ k:Nat,i=(k:Int):=⟨i.toNat,by omega⟩;have d1:¬ (k:Int) < 0:=c1;by_cases c2:(f:Int)+(k:Int) > 155
  ·
   rw [if_pos (.inr (.inl c2))] at HS;have d2:155 < (f:Int)+(k:Int):=c2;rw [HS];clear HS h;go_enter Tryz.func127,Tryz.ntmps127
   go_wp2_with fail
   refine IC.out.mono ?_;rintro e w' ⟨rfl,rfl⟩;go_wp2
   go_ret3
   exact ⟨rfl,by first | exact Drawn0.refl _ | exact ⟨⟨_,rfl⟩⟩⟩
  have d2:¬ 155 < (f:Int)+(k:Int):=c2;by_cases c3:(f:Int)+(k:Int)=(p.size:Int) - 1
  ·
   rw [if_pos (.inr (.inr c3))] at HS;rw [HS];clear HS h;go_enter Tryz.func127,Tryz.ntmps127
   go_wp2_with fail
   refine IC.out.mono ?_;rintro e w' ⟨rfl,rfl⟩;go_wp2
   go_ret3
   exact ⟨rfl,by first | exact Drawn0.refl _ | exact ⟨⟨_,rfl⟩⟩⟩
  ·
   rw [if_neg (by omega),show ((f:Int)+(k:Int)).toNat=f+k by omega,show ((f:Int)+(k:Int)+1).toNat=f+k+1 by omega] at HS;rw [HS];clear HS h;go_enter Tryz.func127,Tryz.ntmps127
   go_wp2_with fail
   refine IC.out.mono ?_;rintro e w' ⟨rfl,rfl⟩
   go_wp2_with fail
   ·rename_i hh;exfalso;simp only [beq_iff_eq] at hh;omega
   repeat (go_quiet (fail);try go_wp2)
   all_goals first | (go_ret3;exact ⟨rfl,by first | exact Drawn0.refl _ | exact ⟨⟨_,rfl⟩⟩⟩)
end ZPath
namespace ZRec
open ZPath
theorem quiet1 {f:FuncId} {args:Array Value} {W:World} {v:Value} (h:∀ X:World,X.heap=W.heap→Calls Tryz.prog f args X fun e w'=>e=.returned v∧X=w') (n:Nat):Calls Tryz.prog f args (W.drewN n) fun e w'=>e=.returned v∧∃ m,w'=W.drewN m :=
 (h (W.drewN n) rfl).mono fun _ _ ⟨he,hm⟩=>⟨he,n,hm.symm⟩
theorem quiet2 {f:FuncId} {args:Array Value} {W:World} {v:Value} (h:∀ X:World,X.heap=W.heap→Calls Tryz.prog f args X fun e w'=>e=.returned v∧X=w') (a n:Nat):Calls Tryz.prog f args (W.drewN (a+n)) fun e w'=>e=.returned v∧∃ m,w'=W.drewN (a+m) :=
 (h (W.drewN (a+n)) rfl).mono fun _ _ ⟨he,hm⟩=>⟨he,n,hm.symm⟩
structure Rec where
 key:ByteArray
 val:ByteArray
deriving DecidableEq
instance:Inhabited Rec:=⟨⟨⟨#[]⟩,⟨#[]⟩⟩⟩
def Rec.cells (r:Rec):Array Value:=#[.string r.key,.string r.val]
def valOk (v:ByteArray):Prop:=v.size≤65536∧v≠⟨#[]⟩∧Lib.indexByte v.data.toList 0 < 0
theorem contains_key (k:ByteArray) (hk:k=sLink∨k=sPath∨k=sSize) (w:World) (hG:VarIs w 13 #[.string sLink,.string sPath,.string sSize]):Calls Tryz.prog 158 #[.slice (some ⟨13,0,none⟩) 3 3,.string k] w fun e w'=>e=.returned (.bool true)∧w=w':=by
 refine (Tryz.slices_Contains_string 13 0 3 3 [sLink,sPath,sSize] k w (by decide) (by decide) ?_).mono ?_
 ·
  intro j hj;have hj:j < 3:=hj;rw [Nat.zero_add];refine VarIs.cell hG j _ ?_;obtain rfl | rfl | rfl:j=0∨j=1∨j=2:=by omega
  ·rfl
  ·rfl
  ·rfl
 ·
  rintro e w' ⟨rfl,rfl⟩;refine ⟨?_,rfl⟩;rcases hk with rfl | rfl | rfl
  ·rfl
  ·rfl
  ·rfl
set_option maxHeartbeats 2000000 in
theorem check_calls (k v:ByteArray) (hk:k=sLink∨k=sPath) (w:World) (hG:Gl w):Calls Tryz.prog 133 #[.agg #[.string k,.string v]] w fun e w'=>∃ x:Int,e=.returned (.int .i64 x)∧(x=0↔valOk v)∧Below w.heap.size w w':=by
 have hG1:∀ X:World,X.heap=(w.alloc (.cells #[.string k,.string v] 125)).heap→VarIs X 13 #[.string sLink,.string sPath,.string sSize]:=fun X hX=>by have:=hG.keys.below (below_alloc (Below.refl w.heap.size w) (.cells #[.string k,.string v] 125));exact VarIs.of this (by rw [hX])
 have CN:=hid (fun X hX=>contains_key k (hk.elim .inl fun h=>.inr (.inl h)) X (hG1 X hX));have IB:=hid (fun W=>Tryz.strings_IndexByte v 0 W);have hs2:(k.toList == [115,105,122,101])=false:=str_no [115,105,122,101] (by
  rcases hk with rfl | rfl
  ·intro h;have:=congrArg (fun x:ByteArray=>x.data.size) h;cases this
  ·intro h;have:=congrArg (fun x:ByteArray=>x.data[0]!) h;cases this)
 have e0:(0:Int).toNat.toUInt8=0:=rfl;rw [e0] at IB;clear hk hG hG1;have BL:=hid (pw_below_drewN (below_alloc (Below.refl w.heap.size w) (.cells #[.string k,.string v] 125)));go_enter Tryz.func133,Tryz.ntmps133
 go_wp2_with fail
 go_quiet (first | exact quiet1 CN.out _ | exact quiet2 CN.out _ _)
 by_cases h1:v.size≤65536
 ·
  have h1z:¬ (65536:Int) < (v.size:Int):=by omega
  by_cases h2:v=⟨#[]⟩
  ·
   have hb:=emp_yes h2;have H2:=hid h2;clear h2
   go_wp2_with fail
   go_ret;exact ⟨6,rfl,⟨fun h=>by omega,fun h=>absurd H2.out h.2.1⟩,BL.out _⟩
  ·
   have hb:=emp_no h2;have H2:=hid h2;clear h2;by_cases h3:0≤Lib.indexByte v.data.toList 0
   ·
    go_wp2_with fail
    refine (IB.out _).mono ?_;rintro e w' ⟨rfl,rfl⟩;go_wp2;go_ret;exact ⟨6,rfl,⟨fun h=>by omega,fun h=>by have:=h.2.2;omega⟩,BL.out _⟩
   ·
    go_wp2_with fail
    refine (IB.out _).mono ?_;rintro e w' ⟨rfl,rfl⟩;go_wp2;go_ret;exact ⟨0,rfl,⟨fun _=>⟨h1,H2.out,by omega⟩,fun _=>rfl⟩,BL.out _⟩
 ·
  have h1z:(65536:Int) < (v.size:Int):=by omega
  go_wp2_with fail
  go_ret;exact ⟨7,rfl,⟨fun h=>by omega,fun h=>absurd h.1 h1⟩,BL.out _⟩
end ZRec
namespace ZFit
open ZPath ZRec
structure Ent where
 kind:Int
 path:ByteArray
 mode:Int
 target:ByteArray
 size:Int
deriving DecidableEq
instance:Inhabited Ent:=⟨⟨0,⟨#[]⟩,0,⟨#[]⟩,0⟩⟩
def Ent.cells (e:Ent):Array Value:=#[.int .i64 e.kind,.string e.path,.int .i64 e.mode,.string e.target,.int .i64 e.size]
def Ent.val (e:Ent):Value:=.agg e.cells
def targetOk (kind:Int) (target:ByteArray):Prop:=if kind=3 then okPath target else if kind=2 then valOk target else target=⟨#[]⟩
def sizeOk (kind size:Int):Prop:=if kind=1 then 0≤size∧size≤1099511627776 else size=0
structure Ent.Ok (e:Ent):Prop where
 kind:0≤e.kind∧e.kind≤3
 path:okPath e.path
 mode:0≤e.mode∧e.mode≤4095
 link:e.kind=2→e.mode=0
 target:targetOk e.kind e.target
 size:sizeOk e.kind e.size
theorem after1 {w w2:World} {o:Obj} (hb:Below (w.alloc o).heap.size (w.alloc o) w2):Below w.heap.size w w2:=(below_alloc (Below.refl _ w) o).trans (hb.mono (by simp))
theorem gl1 {w:World} (h:Gl w) (o:Obj):Gl (w.alloc o):=h.below (below_alloc (Below.refl _ _) o)
theorem cellb {w w1:World} (hb:Below w.heap.size w w1) (b o:Nat) (h:b < w.heap.size):w1.cell? ⟨b,o,none⟩=w.cell? ⟨b,o,none⟩:=hb.cell (p:=⟨b,o,none⟩) h
set_option maxHeartbeats 2000000 in
theorem target_calls (e:Ent) (w:World) (hG:Gl w):Calls Tryz.prog 122 #[e.val] w fun r w'=>∃ x:Int,r=.returned (.int .i64 x)∧(x=0↔targetOk e.kind e.target)∧Below w.heap.size w w':=by
 obtain ⟨kind,path,mode,target,size⟩:=e;have PC:=hid (fun W hW=>ZPath.check_calls target W hW);have RC:=hid (fun W hW=>ZRec.check_calls sLink target (.inl rfl) W hW);have G:=hid (gl1 hG (.cells #[.int .i64 kind,.string path,.int .i64 mode,.string target,.int .i64 size] 54));have BL:=hid (below_alloc (Below.refl w.heap.size w) (.cells #[.int .i64 kind,.string path,.int .i64 mode,.string target,.int .i64 size] 54));unfold Ent.val Ent.cells;dsimp only;unfold sLink at RC;clear hG;by_cases h3:kind=3
 ·
  have H3:=hid h3;have b3:(kind == 3)=true:=beq_iff_eq.2 h3;clear h3;go_enter Tryz.func122,Tryz.ntmps122
  go_wp2_with fail
  refine (PC.out _ G.out).mono ?_;rintro r w1 ⟨x,rfl,hx,hb⟩;have T:=hid (And.intro hx (after1 hb));clear hx hb;go_wp2;go_ret;refine ⟨x,rfl,?_,T.out.2⟩;rw [targetOk,if_pos H3.out];exact T.out.1
 ·
  have H3:=hid h3;have b3:(kind == 3)=false:=beq_eq_false_iff_ne.2 h3;clear h3;by_cases h2:kind=2
  ·
   have H2:=hid h2;have b2:(kind == 2)=true:=beq_iff_eq.2 h2;clear h2;go_enter Tryz.func122,Tryz.ntmps122
   go_wp2_with fail
   refine (RC.out _ G.out).mono ?_;rintro r w1 ⟨x,rfl,hx,hb⟩;have T:=hid (And.intro hx (after1 hb));clear hx hb;go_wp2;go_ret;refine ⟨x,rfl,?_,T.out.2⟩;rw [targetOk,if_neg H3.out,if_pos H2.out];exact T.out.1
  ·
   have H2:=hid h2;have b2:(kind == 2)=false:=beq_eq_false_iff_ne.2 h2;clear h2;by_cases ht:target=⟨#[]⟩
   ·
    have hb:=emp_yes ht;have HT:=hid ht;clear ht;go_enter Tryz.func122,Tryz.ntmps122
    go_wp2_with fail
    go_ret;refine ⟨0,rfl,?_,BL.out⟩;rw [targetOk,if_neg H3.out,if_neg H2.out];exact ⟨fun _=>HT.out,fun _=>rfl⟩
   ·
    have hb:=emp_no ht;have HT:=hid ht;clear ht;go_enter Tryz.func122,Tryz.ntmps122
    go_wp2_with fail
    go_ret;refine ⟨2,rfl,?_,BL.out⟩;rw [targetOk,if_neg H3.out,if_neg H2.out];exact ⟨fun h=>by omega,fun h=>absurd h HT.out⟩
set_option maxHeartbeats 2000000 in
theorem size_calls (e:Ent) (w:World):Calls Tryz.prog 123 #[e.val] w fun r w'=>∃ x:Int,r=.returned (.int .i64 x)∧(x=0↔sizeOk e.kind e.size)∧Below w.heap.size w w':=by
 obtain ⟨kind,path,mode,target,size⟩:=e;have BL:=hid (below_alloc (Below.refl w.heap.size w) (.cells #[.int .i64 kind,.string path,.int .i64 mode,.string target,.int .i64 size] 54));unfold Ent.val Ent.cells;dsimp only;by_cases h1:kind=1
 ·
  have H1:=hid h1;have b1:(kind == 1)=true:=beq_iff_eq.2 h1;have b2:(kind != 1)=false:=by rw [h1];rfl
  clear h1;by_cases h2:size < 0
  ·
   go_enter Tryz.func123,Tryz.ntmps123
   go_wp2_with fail
   go_ret;refine ⟨3,rfl,?_,BL.out⟩;rw [sizeOk,if_pos H1.out];omega
  ·
   by_cases h3:1099511627776 < size
   ·
    go_enter Tryz.func123,Tryz.ntmps123
    go_wp2_with fail
    go_ret;refine ⟨3,rfl,?_,BL.out⟩;rw [sizeOk,if_pos H1.out];omega
   ·
    go_enter Tryz.func123,Tryz.ntmps123
    go_wp2_with fail
    go_ret;refine ⟨0,rfl,?_,BL.out⟩;rw [sizeOk,if_pos H1.out];omega
 ·
  have H1:=hid h1;have b1:(kind == 1)=false:=beq_eq_false_iff_ne.2 h1;have b2:(kind != 1)=true:=by rw [bne_iff_ne];exact h1
  clear h1;by_cases h2:size=0
  ·
   have H2:=hid h2;have b3:(size != 0)=false:=by rw [h2];rfl
   clear h2;go_enter Tryz.func123,Tryz.ntmps123
   go_wp2_with fail
   go_ret;refine ⟨0,rfl,?_,BL.out⟩;rw [sizeOk,if_neg H1.out];exact ⟨fun _=>H2.out,fun _=>rfl⟩
  ·
   have H2:=hid h2;have b3:(size != 0)=true:=by rw [bne_iff_ne];exact h2
   clear h2;go_enter Tryz.func123,Tryz.ntmps123
   go_wp2_with fail
   go_ret;refine ⟨2,rfl,?_,BL.out⟩;rw [sizeOk,if_neg H1.out];exact ⟨fun h=>by omega,fun h=>absurd h H2.out⟩
theorem box_cells {X:World} {b:Nat} {kind mode size:Int} {path target:ByteArray} (h:X.heap[b]?=some (.cells #[.int .i64 kind,.string path,.int .i64 mode,.string target,.int .i64 size] 54 (0,0))): X.cell? ⟨b,0,none⟩=some (.int .i64 kind)∧X.cell? ⟨b,1,none⟩=some (.string path)∧X.cell? ⟨b,2,none⟩=some (.int .i64 mode)∧X.cell? ⟨b,3,none⟩=some (.string target)∧X.cell? ⟨b,4,none⟩=some (.int .i64 size):=by
 simp [World.cell?,h]
theorem Ent.Ok.iff (kind mode size:Int) (path target:ByteArray) (hk:0≤kind∧kind≤3) (hp:okPath path) (hm:0≤mode∧mode≤4095) (hl:kind=2→mode=0) (ht:targetOk kind target):sizeOk kind size↔(⟨kind,path,mode,target,size⟩:Ent).Ok :=
 ⟨fun h=>⟨hk,hp,hm,hl,ht,h⟩,fun h=>h.size⟩
set_option maxHeartbeats 4000000 in
theorem check_calls (e:Ent) (w:World) (hG:Gl w):Calls Tryz.prog 80 #[e.val] w fun r w'=>∃ x:Int,r=.returned (.int .i64 x)∧(x=0↔e.Ok)∧Below w.heap.size w w':=by
 obtain ⟨kind,path,mode,target,size⟩:=e;have PC:=hid (fun W hW=>ZPath.check_calls path W hW);have TC:=hid (fun W hW=>target_calls ⟨kind,path,mode,target,size⟩ W hW);have SC:=hid (fun W=>size_calls ⟨kind,path,mode,target,size⟩ W);have G:=hid (gl1 hG (.cells #[.int .i64 kind,.string path,.int .i64 mode,.string target,.int .i64 size] 54));have BL:=hid (below_alloc (Below.refl w.heap.size w) (.cells #[.int .i64 kind,.string path,.int .i64 mode,.string target,.int .i64 size] 54));have HB:=hid (heap_alloc_new w (.cells #[.int .i64 kind,.string path,.int .i64 mode,.string target,.int .i64 size] 54));unfold Ent.val Ent.cells at *;dsimp only at *;clear hG;by_cases h1:kind < 0
 ·
  go_enter Tryz.func80,Tryz.ntmps80
  go_wp2_with fail
  go_ret;exact ⟨8,rfl,⟨fun h=>by omega,fun h=>by have:=h.kind;dsimp only at this;omega⟩,BL.out⟩
 by_cases h2:4≤kind
 ·
  go_enter Tryz.func80,Tryz.ntmps80
  go_wp2_with fail
  go_ret;exact ⟨8,rfl,⟨fun h=>by omega,fun h=>by have:=h.kind;dsimp only at this;omega⟩,BL.out⟩
 have b2:(kind == 2)=true∨(kind == 2)=false:=by cases (kind == 2) <;> simp
 go_enter Tryz.func80,Tryz.ntmps80
 go_wp2_with fail
 refine (PC.out _ G.out).mono ?_;rintro r w1 ⟨x,rfl,hx,hb⟩;have B1:=hid (after1 hb);have H1:Hid (w1.heap[w.heap.size]?=some (.cells #[.int .i64 kind,.string path,.int .i64 mode,.string target,.int .i64 size] 54 (0,0))):=hid ((hb.block _ (by simp)).trans HB.out);have G1:=hid (G.out.below hb);have HX:=hid hx;obtain ⟨c0,c1,c2,c3,c4⟩:=box_cells H1.out;clear hx hb;by_cases hx0:x=0;rotate_left
 ·
  have bx:(x != 0)=true:=by rw [bne_iff_ne];exact hx0
  have HX0:=hid hx0;clear hx0
  go_wp2_with fail
  go_ret;exact ⟨x,rfl,⟨fun h=>absurd h HX0.out,fun h=>absurd (HX.out.2 h.path) HX0.out⟩,B1.out⟩
 have HP:=hid (HX.out.1 hx0);subst hx0;clear HX;have bx:((0:Int) != 0)=false:=rfl;by_cases hm1:mode < 0
 ·
  go_wp2_with fail
  go_ret;exact ⟨16,rfl,⟨fun h=>by omega,fun h=>by have:=h.mode;dsimp only at this;omega⟩,B1.out⟩
 by_cases hm2:4095 < mode
 ·
  go_wp2_with fail
  go_ret;exact ⟨16,rfl,⟨fun h=>by omega,fun h=>by have:=h.mode;dsimp only at this;omega⟩,B1.out⟩
 by_cases hl:kind=2∧mode≠0
 ·
  have b3:(kind == 2)=true:=beq_iff_eq.2 hl.1;have b4:(mode != 0)=true:=by rw [bne_iff_ne];exact hl.2
  have HL:=hid hl;clear hl b2
  go_wp2_with fail
  go_ret;exact ⟨16,rfl,⟨fun h=>by omega,fun h=>absurd (h.link HL.out.1) HL.out.2⟩,B1.out⟩
 have HL:Hid (kind=2→mode=0):=hid (fun h=>by
  rcases Int.lt_trichotomy mode 0 with h5 | h5 | h5
  ·exact absurd ⟨h,by omega⟩ hl
  ·exact h5
  ·exact absurd ⟨h,by omega⟩ hl)
 have bl:((kind == 2)=true∧(mode != 0)=false)∨(kind == 2)=false:=by
  rcases b2 with h | h
  ·have:=HL.out (beq_iff_eq.1 h);exact .inl ⟨h,by rw [this];rfl⟩
  ·exact .inr h
 clear hl b2;rcases bl with ⟨b3,b4⟩ | b3
 all_goals
  go_wp2_with fail
  refine (TC.out _ G1.out).mono ?_;rintro r w2 ⟨x,rfl,hx,hb⟩;have B2:=hid (below_step B1.out hb);have H2:Hid (w2.heap[w.heap.size]?=some (.cells #[.int .i64 kind,.string path,.int .i64 mode,.string target,.int .i64 size] 54 (0,0))):=hid ((hb.block _ (blk_lt H1.out)).trans H1.out);have HX:=hid hx;obtain ⟨d0,d1,d2,d3,d4⟩:=box_cells H2.out;clear hx hb c0 c1 c2 c3 c4;by_cases hx0:x=0
  ·
   have HT:=hid (HX.out.1 hx0);subst hx0
   go_wp2_with fail
   refine (SC.out _).mono ?_;rintro r w3 ⟨x,rfl,hx,hb⟩;have B3:=hid (below_step B2.out hb);have HX2:=hid hx;clear hx hb
   go_wp2_with fail
   go_ret;exact ⟨x,rfl,HX2.out.trans (Ent.Ok.iff kind mode size path target (by omega) HP.out (by omega) HL.out HT.out),B3.out⟩
  ·
   have bx2:(x != 0)=true:=by rw [bne_iff_ne];exact hx0
   have HX0:=hid hx0;clear hx0
   go_wp2_with fail
   go_ret;exact ⟨x,rfl,⟨fun h=>absurd h HX0.out,fun h=>absurd (HX.out.2 h.target) HX0.out⟩,B2.out⟩
end ZFit
end
end Go.Proofs.YteikiojmcipkmaaGreatDoor
