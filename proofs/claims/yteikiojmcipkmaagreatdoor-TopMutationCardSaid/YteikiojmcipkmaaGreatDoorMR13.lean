/- Parts of the proof, gathered by a program: what calls of the functions answer, and what follows in plain lists. Conditions: those that each theorem states. -/
import Derived.Test.YteikiojmcipkmaaGreatDoorMR10
import Derived.Test.YteikiojmcipkmaaGreatDoorMR11
import Derived.Test.YteikiojmcipkmaaGreatDoorMR12
set_option linter.unusedVariables false
set_option linter.unusedSimpArgs false
namespace Go.Proofs.YteikiojmcipkmaaGreatDoor
open Go.Lib (hid)
open Go.RowKit YteikiojmcipkmaaGreatDoorW.PrintWords YteikiojmcipkmaaGreatDoorW.PrintLast YteikiojmcipkmaaGreatDoorW.PrintMore Oct ZBase ZNod
set_option maxRecDepth 100000
section
namespace ZTree
open ZGlob ZMo ZPath ZRec ZFit
def Reads (w:World) (x:NV):Prop:=Kd.C (Kd.int .u8) w x.addr x.data.length x.data∧x.data.length≤x.cap
theorem Reads.below {w w1:World} {x:NV} (h:Reads w x) (hb:Below w.heap.size w w1):Reads w1 x:=⟨Kd.C_below h.1 hb,h.2⟩
structure NodesAt (w:World) (A:Option Addr) (l:List NV):Prop where
 row:l≠[]→∃ b o,A=some ⟨b,o,none⟩∧b < w.heap.size∧∀ (i:Nat) (x:NV),l[i]?=some x→∀ (j:Nat) (v:Value),x.cells[j]?=some v→w.cell? ⟨b,o+i * 6+j,none⟩=some v
 data:∀ x∈l,Reads w x
theorem NodesAt.below {w w1:World} {A:Option Addr} {l:List NV} (h:NodesAt w A l) (hb:Below w.heap.size w w1):NodesAt w1 A l:=by refine ⟨fun hl=>?_,fun x hx=>(h.data x hx).below hb⟩;obtain ⟨b,o,rfl,hlt,hc⟩:=h.row hl;exact ⟨b,o,rfl,Nat.lt_of_lt_of_le hlt hb.size,fun i x hi j v hv=>(hb.cell (p:=⟨b,o+i * 6+j,none⟩) hlt).trans (hc i x hi j v hv)⟩
theorem NodesAt.cells {w:World} {b o:Nat} {l:List NV} (h:NodesAt w (some ⟨b,o,none⟩) l) (i:Nat) (x:NV) (hi:l[i]?=some x): w.cell? ⟨b,o+i * 6,none⟩=some (.int .i64 x.kind)∧w.cell? ⟨b,o+i * 6+1,none⟩=some (.string x.path)∧w.cell? ⟨b,o+i * 6+2,none⟩=some (.int .i64 x.mode)∧w.cell? ⟨b,o+i * 6+3,none⟩=some (.string x.target)∧w.cell? ⟨b,o+i * 6+4,none⟩=some (.slice x.addr x.data.length x.cap)∧w.cell? ⟨b,o+i * 6+5,none⟩=some (.int .i64 x.cls):=by
 obtain ⟨b',o',e,_,hc⟩:=h.row (fun e=>by rw [e] at hi;cases hi);cases e;have:=hc i x hi;exact ⟨this 0 _ rfl,this 1 _ rfl,this 2 _ rfl,this 3 _ rfl,this 4 _ rfl,this 5 _ rfl⟩
def entOf (x:NV):Ent:={ kind:=x.kind,path:=x.path,mode:=x.mode,target:=x.target,size:=if x.kind=1 then x.data.length else 0 }
structure NodeOk (x:NV):Prop where
 kind:x.kind=0∨x.kind=1∨x.kind=2
 ent:(entOf x).Ok
 data:x.kind≠1→x.data=[]
 cls:0≤x.cls∧(x.kind≠1→x.cls=0)
set_option maxHeartbeats 4000000 in
theorem check_calls (x:NV) (hd:x.data.length≤1000000) (w:World) (hG:Gl w):Calls Tryz.prog 126 #[.agg x.cells.toArray] w fun r w'=>∃ e:Int,r=.returned (.int .i64 e)∧(e=0↔NodeOk x)∧Below w.heap.size w w':=by
 obtain ⟨kind,path,mode,target,addr,cap,data,cls⟩:=x;have CC:=hid (fun W hW=>ZFit.check_calls ⟨kind,path,mode,target,if kind=1 then data.length else 0⟩ W hW);have BL:=hid (below_alloc (Below.refl w.heap.size w) (.cells #[.int .i64 kind,.string path,.int .i64 mode,.string target,.slice addr data.length cap,.int .i64 cls] 46));have HB:=hid (heap_alloc_new w (.cells #[.int .i64 kind,.string path,.int .i64 mode,.string target,.slice addr data.length cap,.int .i64 cls] 46));have HG:=hid hG;unfold NV.cells Ent.val Ent.cells at *;dsimp only at *;obtain ⟨m,hm⟩:∃ m,data.length=m:=⟨_,rfl⟩;have HM:=hid hm;rw [hm] at CC hd BL HB ⊢;clear hG hm;have q2:∀ size:Int,Below w.heap.size w ((w.alloc (.cells #[.int .i64 kind,.string path,.int .i64 mode,.string target,.slice addr m cap,.int .i64 cls] 46)).alloc (.cells #[.int .i64 kind,.string path,.int .i64 mode,.string target,.int .i64 size] 54)):=fun size=>((Below.refl _ _).alloc (Nat.le_refl _) _).alloc (by simp) _;have Q2:=hid q2;clear q2;have BC:∀ w1:World,(∃ s:Int,Below ((w.alloc (.cells #[.int .i64 kind,.string path,.int .i64 mode,.string target,.slice addr m cap,.int .i64 cls] 46)).alloc (.cells #[.int .i64 kind,.string path,.int .i64 mode,.string target,.int .i64 s] 54)).heap.size ((w.alloc (.cells #[.int .i64 kind,.string path,.int .i64 mode,.string target,.slice addr m cap,.int .i64 cls] 46)).alloc (.cells #[.int .i64 kind,.string path,.int .i64 mode,.string target,.int .i64 s] 54)) w1) →
   w1.cell? ⟨w.heap.size,0,none⟩=some (.int .i64 kind)∧w1.cell? ⟨w.heap.size,4,none⟩=some (.slice addr m cap)∧w1.cell? ⟨w.heap.size,5,none⟩=some (.int .i64 cls)∧Below w.heap.size w w1:=by
  rintro w1 ⟨s,hb⟩;have h1:=(hb.block w.heap.size (by simp;omega)).trans (heap_alloc2_old w (.cells #[.int .i64 kind,.string path,.int .i64 mode,.string target,.slice addr m cap,.int .i64 cls] 46) (.cells #[.int .i64 kind,.string path,.int .i64 mode,.string target,.int .i64 s] 54));exact ⟨by simp [World.cell?,h1],by simp [World.cell?,h1],by simp [World.cell?,h1],below_step (Q2.out s) hb⟩
 replace BC:=hid BC;by_cases hk:kind=1
 ·
  have HK:=hid hk;have hif:(if kind=1 then (m:Int) else 0)=m:=if_pos hk;rw [hif] at CC;have k0:(kind != 0)=true:=by rw [hk];rfl
  have k1:(kind != 1)=false:=by rw [hk];rfl
  have k2:(kind == 1)=true:=by rw [hk];rfl
  have FIN:Hid (NodeOk ⟨kind,path,mode,target,addr,cap,data,cls⟩↔(⟨kind,path,mode,target,(m:Int)⟩:Ent).Ok∧0≤cls):=hid (by
   have e:entOf ⟨kind,path,mode,target,addr,cap,data,cls⟩=⟨kind,path,mode,target,(m:Int)⟩:=by unfold entOf;dsimp only;rw [if_pos hk,HM.out]
   constructor
   ·intro h;refine ⟨?_,h.cls.1⟩;rw [← e];exact h.ent
   ·rintro ⟨h1,h2⟩;exact ⟨.inr (.inl hk),by rw [e];exact h1,fun h=>absurd hk h,h2,fun h=>absurd hk h⟩)
  clear hif hk;go_enter Tryz.func126,Tryz.ntmps126
  go_wp2_with fail
  refine (CC.out _ (HG.out.below (Q2.out _))).mono ?_;rintro r w1 ⟨e1,rfl,he1,hb1⟩;obtain ⟨d0,d4,d5,hB1⟩:=BC.out w1 ⟨_,hb1⟩;have B1:=hid hB1;have HE:=hid he1;clear hB1 he1 hb1;by_cases hx0:e1=0
  ·
   have HOK:=hid (HE.out.1 hx0);subst hx0;have bx:((0:Int) != 0)=false:=rfl;by_cases hc:cls < 0
   ·
    go_wp2_with fail
    go_ret;exact ⟨15,rfl,⟨fun h=>by omega,fun h=>by have:=(FIN.out.1 h).2;omega⟩,B1.out⟩
   ·
    have hc2:0≤cls:=by omega
    go_wp2_with fail
    go_ret;exact ⟨0,rfl,⟨fun _=>FIN.out.2 ⟨HOK.out,hc2⟩,fun _=>rfl⟩,B1.out⟩
  ·
   have bx:(e1 != 0)=true:=by rw [bne_iff_ne];exact hx0
   have HX0:=hid hx0;clear hx0
   go_wp2_with fail
   go_ret;exact ⟨e1,rfl,⟨fun h=>absurd h HX0.out,fun h=>absurd (HE.out.2 (FIN.out.1 h).1) HX0.out⟩,B1.out⟩
 ·
  have HK:=hid hk;have k1:(kind != 1)=true:=by rw [bne_iff_ne];exact hk
  have k2:(kind == 1)=false:=beq_eq_false_iff_ne.2 hk;have hif:(if kind=1 then (m:Int) else 0)=0:=if_neg hk;rw [hif] at CC;have FIN:Hid (NodeOk ⟨kind,path,mode,target,addr,cap,data,cls⟩↔(kind=0∨kind=2)∧(⟨kind,path,mode,target,0⟩:Ent).Ok∧m=0∧cls=0):=hid (by
   have e:entOf ⟨kind,path,mode,target,addr,cap,data,cls⟩=⟨kind,path,mode,target,0⟩:=by unfold entOf;dsimp only;rw [if_neg hk]
   constructor
   ·
    intro h;refine ⟨?_,?_,?_,h.cls.2 hk⟩
    ·have:=h.kind;dsimp only at this;omega
    ·rw [← e];exact h.ent
    ·have:=h.data hk;dsimp only at this;rw [← HM.out,this];rfl
   ·rintro ⟨h0,h1,h2,h3⟩;exact ⟨by dsimp only;omega,by rw [e];exact h1,fun _=>List.eq_nil_of_length_eq_zero (by rw [HM.out];exact h2),by dsimp only;omega,fun _=>h3⟩)
  clear hif hk;by_cases h02:kind=0∨kind=2
  ·
   have H02:=hid h02;have kb:((kind != 0)=false)∨((kind != 0)=true∧(kind != 2)=false):=by
    rcases h02 with h | h
    ·exact .inl (by rw [h];rfl)
    ·exact .inr ⟨by rw [h];rfl,by rw [h];rfl⟩
   clear h02;rcases kb with k0 | ⟨k0,k3⟩
   all_goals
    go_enter Tryz.func126,Tryz.ntmps126
    go_wp2_with fail
    refine (CC.out _ (HG.out.below (Q2.out _))).mono ?_;rintro r w1 ⟨e1,rfl,he1,hb1⟩;obtain ⟨d0,d4,d5,hB1⟩:=BC.out w1 ⟨_,hb1⟩;have B1:=hid hB1;have HE:=hid he1;clear hB1 he1 hb1;by_cases hx0:e1=0
    ·
     have HOK:=hid (HE.out.1 hx0);subst hx0;have bx:((0:Int) != 0)=false:=rfl;by_cases hm0:0 < m
     ·
      have hmz:(0:Int) < (m:Int):=by omega
      go_wp2_with fail
      go_ret;exact ⟨2,rfl,⟨fun h=>by omega,fun h=>by have:=(FIN.out.1 h).2.2.1;omega⟩,B1.out⟩
     ·
      have hmz:¬ (0:Int) < (m:Int):=by omega
      by_cases hc:cls < 0
      ·
       go_wp2_with fail
       go_ret;exact ⟨15,rfl,⟨fun h=>by omega,fun h=>by have:=(FIN.out.1 h).2.2.2;omega⟩,B1.out⟩
      ·
       by_cases hc2:cls=0
       ·
        have HC2:=hid hc2;have bc:(cls != 0)=false:=by rw [hc2];rfl
        clear hc2
        go_wp2_with fail
        go_ret;exact ⟨0,rfl,⟨fun _=>FIN.out.2 ⟨H02.out,HOK.out,by omega,HC2.out⟩,fun _=>rfl⟩,B1.out⟩
       ·
        have HC2:=hid hc2;have bc:(cls != 0)=true:=by rw [bne_iff_ne];exact hc2
        clear hc2
        go_wp2_with fail
        go_ret;exact ⟨15,rfl,⟨fun h=>by omega,fun h=>absurd (FIN.out.1 h).2.2.2 HC2.out⟩,B1.out⟩
    ·
     have bx:(e1 != 0)=true:=by rw [bne_iff_ne];exact hx0
     have HX0:=hid hx0;clear hx0
     go_wp2_with fail
     go_ret;exact ⟨e1,rfl,⟨fun h=>absurd h HX0.out,fun h=>absurd (HE.out.2 (FIN.out.1 h).2.1) HX0.out⟩,B1.out⟩
  ·
   have H02:=hid h02;have k0:(kind != 0)=true:=by rw [bne_iff_ne];omega
   have k3:(kind != 2)=true:=by rw [bne_iff_ne];omega
   clear h02;go_enter Tryz.func126,Tryz.ntmps126
   go_wp2_with fail
   go_ret;exact ⟨8,rfl,⟨fun h=>by omega,fun h=>absurd (FIN.out.1 h).1 H02.out⟩,BL.out⟩
end ZTree
namespace ZTCheck
open ZGlob ZMo ZPath ZRec ZFit ZMap ZTree
def dirsOf (l:List NV):List (ByteArray×Bool):=l.foldl (fun m x=>if x.kind=0 then ZMap.put m x.path true else m) [(⟨#[]⟩,true)]
def seenOf (l:List NV):List (ByteArray×Bool):=l.foldl (fun m x=>ZMap.put m x.path true) []
def firstStep (m:List (Int×NV)) (x:NV):List (Int×NV):=if x.cls=0 then m else match ZMap.get m x.cls with | some _=>m | none=>ZMap.put m x.cls x
def firstOf (l:List NV):List (Int×NV):=l.foldl firstStep []
def has (m:List (ByteArray×Bool)) (p:ByteArray):Bool:=(ZMap.get m p).getD false
structure StepOk (l:List NV) (j:Nat) (x:NV):Prop where
 seen:has (seenOf (l.take j)) x.path=false
 dir:has (dirsOf l) (parentP x.path)=true
 same:x.cls≠0→∀ m,ZMap.get (firstOf (l.take j)) x.cls=some m→m.mode=x.mode∧m.data=x.data
structure TreeOk (l:List NV):Prop where
 node:∀ x∈l,NodeOk x
 step:∀ (j:Nat) (x:NV),l[j]?=some x→StepOk l j x
theorem cell_of {W:World} {b:Nat} {cs:Array Value} {t:TypeId} {fr:Nat×Nat} (h:W.heap[b]?=some (.cells cs t fr)) (i:Nat) (v:Value) (hv:cs[i]?=some v):W.cell? ⟨b,i,none⟩=some v:=by simp [World.cell?,h,hv]
theorem take_snoc {l:List NV} {j:Nat} {x:NV} (h:l[j]?=some x):l.take (j+1)=l.take j++[x]:=by rw [List.take_add_one,h];rfl
theorem bool_get (o:Option Bool):(o.map Value.bool).getD (.bool false)=.bool (o.getD false):=by cases o <;> rfl
theorem zero4 (w:World):(zeroValue 4).run Tryz.prog w=.ok (.bool false) w:=by kernel_rfl
theorem zero46 (w:World):(zeroValue 46).run Tryz.prog w=.ok (.agg #[.int .i64 0,.string ⟨#[]⟩,.int .i64 0,.string ⟨#[]⟩,.slice none 0 0,.int .i64 0]) w:=by kernel_rfl
theorem map95:Tryz.prog.underlying 95=some (.map 9 4):=Tryz.underlying95
theorem map198:Tryz.prog.underlying 198=some (.map 3 46):=Tryz.underlying198
theorem skeys:Keys Tryz.prog 9 .string (Value.string:ByteArray→Value):=string_keys Tryz.underlying9
theorem ikeys:Keys Tryz.prog 3 (.int .i64) (fun n:Int=>Value.int .i64 n):=int_keys Tryz.underlying3
abbrev nval (x:NV):Value:=.agg x.cells.toArray
structure C1 (w wr:World) (db:Nat) (m:List (ByteArray×Bool)):Prop where
 bel:Below w.heap.size w wr
 dirs:MapAt wr Value.string Value.bool db m
 lo:w.heap.size≤db
theorem C1.step {w wr w2:World} {db:Nat} {m:List (ByteArray×Bool)} (h:C1 w wr db m) (hb:Below wr.heap.size wr w2):C1 w w2 db m :=
 ⟨below_step h.bel hb,MapAt.of h.dirs (hb.block _ h.dirs.lt),h.lo⟩
theorem C1.put {w wr:World} {db:Nat} {m:List (ByteArray×Bool)} (h:C1 w wr db m) (m2:List (ByteArray×Bool)):C1 w (wr.putObj db (.map (ents Value.string Value.bool 0 m2).toArray m2.length)) db m2 :=
 ⟨below_put h.bel h.lo _,MapAt.put h.dirs m2,h.lo⟩
structure C2 (w wr:World) (db sb fb:Nat) (md ms:List (ByteArray×Bool)) (mf:List (Int×NV)):Prop where
 bel:Below w.heap.size w wr
 dirs:MapAt wr Value.string Value.bool db md
 seen:MapAt wr Value.string Value.bool sb ms
 first:MapAt wr (fun n:Int=>Value.int .i64 n) nval fb mf
 lo:w.heap.size≤db∧db < sb∧sb < fb
theorem C2.step {w wr w2:World} {db sb fb:Nat} {md ms:List (ByteArray×Bool)} {mf:List (Int×NV)} (h:C2 w wr db sb fb md ms mf) (hb:Below wr.heap.size wr w2):C2 w w2 db sb fb md ms mf :=
 ⟨below_step h.bel hb,MapAt.of h.dirs (hb.block _ h.dirs.lt),MapAt.of h.seen (hb.block _ h.seen.lt),MapAt.of h.first (hb.block _ h.first.lt),h.lo⟩
theorem C2.putSeen {w wr:World} {db sb fb:Nat} {md ms:List (ByteArray×Bool)} {mf:List (Int×NV)} (h:C2 w wr db sb fb md ms mf) (m2:List (ByteArray×Bool)):C2 w (wr.putObj sb (.map (ents Value.string Value.bool 0 m2).toArray m2.length)) db sb fb md m2 mf:=by have hl:=h.lo;exact ⟨below_put h.bel (by omega) _,MapAt.of h.dirs (World.putObj_heap_other (by omega)),MapAt.put h.seen m2,MapAt.of h.first (World.putObj_heap_other (by omega)),h.lo⟩
theorem C2.putFirst {w wr:World} {db sb fb:Nat} {md ms:List (ByteArray×Bool)} {mf:List (Int×NV)} (h:C2 w wr db sb fb md ms mf) (m2:List (Int×NV)):C2 w (wr.putObj fb (.map (ents (fun n:Int=>Value.int .i64 n) nval 0 m2).toArray m2.length)) db sb fb md ms m2:=by have hl:=h.lo;exact ⟨below_put h.bel (by omega) _,MapAt.of h.dirs (World.putObj_heap_other (by omega)),MapAt.of h.seen (World.putObj_heap_other (by omega)),MapAt.put h.first m2,h.lo⟩
theorem seenOf_snoc (l:List NV) (x:NV):seenOf (l++[x])=ZMap.put (seenOf l) x.path true:=by unfold seenOf;rw [List.foldl_append];rfl
theorem firstOf_snoc (l:List NV) (x:NV):firstOf (l++[x])=firstStep (firstOf l) x:=by unfold firstOf;rw [List.foldl_append];rfl
theorem firstOf_mem (l:List NV) (c:Int) (m:NV) (h:ZMap.get (firstOf l) c=some m):m∈l:=by
 have key:∀ n,∀ l:List NV,l.length=n→∀ c m,ZMap.get (firstOf l) c=some m→m∈l:=by
  intro n
  induction n with
  | zero =>intro l hl c m h;obtain rfl:=List.eq_nil_of_length_eq_zero hl;simp [firstOf,ZMap.get] at h
  | succ n ih =>
   intro l hl c m h;obtain ⟨l0,x,rfl⟩:∃ l0 x,l=l0++[x]:=⟨l.dropLast,l.getLast (by intro e;rw [e] at hl;cases hl),(List.dropLast_concat_getLast _).symm⟩;rw [firstOf_snoc] at h;unfold firstStep at h;have hl0:l0.length=n:=by simpa using hl
   split at h
   ·exact List.mem_append_left _ (ih l0 hl0 c m h)
   ·
    split at h
    ·exact List.mem_append_left _ (ih l0 hl0 c m h)
    ·
     rw [get_put] at h;split at h
     ·simp only [Option.some.injEq] at h;exact List.mem_append_right _ (by simp [h])
     ·exact List.mem_append_left _ (ih l0 hl0 c m h)
 exact key _ l rfl c m h
set_option maxHeartbeats 8000000 in
theorem check_calls (A:Option Addr) (cap:Nat) (l:List NV) (hd:∀ x∈l,x.data.length≤1000000) (hp:∀ x∈l,x.path.size≤1000000) (hn:l.length≤1000) (w:World) (hG:Gl w) (hl:NodesAt w A l) (hc:l.length≤cap): Calls Tryz.prog 90 #[.slice A l.length cap] w fun r w'=>∃ i e:Int,r=.returned (.tuple #[.int .i64 i,.int .i64 e])∧(e=0↔TreeOk l)∧Below w.heap.size w w':=by
 have HN:=hid hl;have HG:=hid hG;have HD:=hid hd;have HP:=hid hp;have CC:=hid ZTree.check_calls;have hmm:=@run_makeMap Tryz.prog;have P1:Hid (C1 w (w.alloc (.map #[] 0)) w.heap.size []):=hid ⟨below_alloc (Below.refl _ _) _,MapAt.new w,Nat.le_refl _⟩;have hput:=run_put map95 skeys P1.out.dirs ⟨#[]⟩ true;obtain ⟨W1,hW1⟩:∃ X,(w.alloc (.map #[] 0)).putObj w.heap.size (.map (ents Value.string Value.bool 0 (ZMap.put ([]:List (ByteArray×Bool)) ⟨#[]⟩ true)).toArray (ZMap.put ([]:List (ByteArray×Bool)) ⟨#[]⟩ true).length)=X:=⟨_,rfl⟩;have S1:Hid (C1 w W1 w.heap.size (dirsOf (l.take 0))):=hid (by rw [← hW1];exact P1.out.put _);rw [hW1] at hput;clear hl hG hd hp hW1 P1;go_enter Tryz.func90,Tryz.ntmps90
 go_wp2_with fail
 clear hput
 go_loopw [18] (fun i wr=>∃ j:Nat,j≤l.length∧i=.int .i64 j∧Hid (C1 w wr w.heap.size (dirsOf (l.take j))∧∀ x∈l.take j,NodeOk x)) (fun i _=>l.length - (intOf i).toNat)
 case atStart=>exact ⟨0,Nat.zero_le _,rfl,S1.out,by simp⟩
 case round =>
  clear S1;obtain ⟨j,hj,rfl,HS⟩:=hrel;by_cases hlt:j < l.length
  ·
   have hltz:(j:Int) < (l.length:Int):=by omega
   obtain ⟨x,hx⟩:∃ x,l[j]?=some x:=⟨_,List.getElem?_eq_getElem hlt⟩;have hm:x∈l:=List.mem_of_getElem? hx;obtain ⟨b,o,hA,_,_⟩:=HN.out.row (fun e=>by rw [e] at hlt;simp at hlt);subst hA;obtain ⟨c0,c1,c2,c3,c4,c5⟩:=(HN.out.below HS.out.1.bel).cells j x hx;have C:=hid (CC.out x (HD.out x hm) (wr.alloc (.cells x.cells.toArray 46)) (HG.out.below (below_step HS.out.1.bel (below_alloc (Below.refl _ wr) _))));have HX:=hid (And.intro hx hm);have HB:=hid (heap_alloc_new wr (.cells x.cells.toArray 46));clear hx hm;obtain ⟨kind,path,mode,target,addr,xcap,data,cls⟩:=x;unfold NV.cells at C HB;dsimp only at C HB c0 c1 c2 c3 c4 c5
   go_wp2_with fail
   refine C.out.mono ?_;rintro r w2 ⟨e,rfl,he,hb⟩;have S2:=hid (HS.out.1.step (after1 hb));have HB2:=hid ((hb.block _ (by simp)).trans HB.out);obtain ⟨d0,d1⟩:w2.cell? ⟨wr.heap.size,0,none⟩=some (.int .i64 kind)∧w2.cell? ⟨wr.heap.size,1,none⟩=some (.string path):=by simp [World.cell?,HB2.out]
   have HE:=hid he;clear he hb c0 c1 c2 c3 c4 c5;by_cases hx0:e=0
   ·
    have HOK:=hid (HE.out.1 hx0);subst hx0;have bx:((0:Int) != 0)=false:=rfl;have HN2:Hid (∀ y∈l.take (j+1),NodeOk y):=hid (by
     rw [take_snoc HX.out.1];intro y hy;rcases List.mem_append.1 hy with h | h
     ·exact HS.out.2 y h
     ·obtain rfl:=List.mem_singleton.1 h;exact HOK.out)
    by_cases hk:kind=0
    ·
     have hk0:(kind == 0)=true:=beq_iff_eq.2 hk;have HD2:Hid (dirsOf (l.take (j+1))=ZMap.put (dirsOf (l.take j)) path true):=hid (by
      rw [take_snoc HX.out.1];unfold dirsOf;rw [List.foldl_append];simp only [List.foldl_cons,List.foldl_nil];rw [if_pos hk])
     have hput:=run_put map95 skeys S2.out.dirs path true;have S3:=hid (S2.out.put (ZMap.put (dirsOf (l.take j)) path true));obtain ⟨W3,hW3⟩:∃ X,w2.putObj w.heap.size (.map (ents Value.string Value.bool 0 (ZMap.put (dirsOf (l.take j)) path true)).toArray (ZMap.put (dirsOf (l.take j)) path true).length)=X:=⟨_,rfl⟩;rw [hW3] at hput S3;rw [← HD2.out] at S3;clear hW3 hk
     go_wp2_with fail
     go_roundw
     case rel=>exact ⟨j+1,by omega,by go_num,S3.out,HN2.out⟩
     case measure=>simp [intOf];omega
    ·
     have hk0:(kind == 0)=false:=beq_eq_false_iff_ne.2 hk;have HD2:Hid (dirsOf (l.take (j+1))=dirsOf (l.take j)):=hid (by
      rw [take_snoc HX.out.1];unfold dirsOf;rw [List.foldl_append];simp only [List.foldl_cons,List.foldl_nil];rw [if_neg hk])
     have S3:=hid S2.out;rw [← HD2.out] at S3;clear hk
     go_wp2_with fail
     go_roundw
     case rel=>exact ⟨j+1,by omega,by go_num,S3.out,HN2.out⟩
     case measure=>simp [intOf];omega
   ·
    have bx:(e != 0)=true:=by rw [bne_iff_ne];exact hx0
    have HX0:=hid hx0;clear hx0
    go_wp2_with fail
    go_ret2
    exact ⟨_,e,rfl,⟨fun h=>absurd h HX0.out,fun h=>absurd (HE.out.2 (h.node _ HX.out.2)) HX0.out⟩,S2.out.bel⟩
  ·
   obtain rfl:j=l.length:=by omega
   rw [List.take_length] at HS;have S0:Hid (C2 w ((wr.alloc (.map #[] 0)).alloc (.map #[] 0)) w.heap.size wr.heap.size (wr.heap.size+1) (dirsOf l) (seenOf (l.take 0)) (firstOf (l.take 0))):=hid (by
    have s1:=HS.out.1;have h2:((wr.alloc (.map #[] 0)).alloc (.map #[] 0)).heap[wr.heap.size]?=some (.map #[] 0):=heap_alloc2_old _ _ _;have h3:((wr.alloc (.map #[] 0)).alloc (.map #[] 0)).heap[wr.heap.size+1]?=some (.map #[] 0):=heap_alloc2_new _ _ _;have hb2:Below wr.heap.size wr ((wr.alloc (.map #[] 0)).alloc (.map #[] 0)):=((Below.refl _ _).alloc (Nat.le_refl _) _).alloc (by simp) _;exact ⟨below_step s1.bel hb2,MapAt.of s1.dirs (hb2.block _ s1.dirs.lt),h2,h3,Nat.le_refl _,s1.dirs.lt,by omega⟩)
   have NOK:=hid HS.out.2;clear HS hlt
   go_wp2_with fail
   obtain ⟨sb,hsb⟩:∃ n,wr.heap.size=n:=⟨_,rfl⟩;rw [hsb] at S0 ⊢;obtain ⟨W0,hW0⟩:∃ X,(wr.alloc (.map #[] 0)).alloc (.map #[] 0)=X:=⟨_,rfl⟩;rw [hW0] at S0 ⊢;clear hW0 hsb
   go_loopw [40] (fun i wr=>∃ j:Nat,j≤l.length∧i=.int .i64 j∧Hid (C2 w wr w.heap.size sb (sb+1) (dirsOf l) (seenOf (l.take j)) (firstOf (l.take j))∧∀ i x,i < j→l[i]?=some x→StepOk l i x)) (fun i _=>l.length - (intOf i).toNat)
   case atStart=>exact ⟨0,Nat.zero_le _,rfl,S0.out,fun i x h=>by omega⟩
   case round =>
    clear S0;obtain ⟨j,hj,rfl,HS⟩:=hrel;by_cases hlt:j < l.length
    ·
     have hltz:(j:Int) < (l.length:Int):=by omega
     obtain ⟨x,hx⟩:∃ x,l[j]?=some x:=⟨_,List.getElem?_eq_getElem hlt⟩;have hm:x∈l:=List.mem_of_getElem? hx;obtain ⟨b,o,hA,_,_⟩:=HN.out.row (fun e=>by rw [e] at hlt;simp at hlt);subst hA;obtain ⟨c0,c1,c2,c3,c4,c5⟩:=(HN.out.below HS.out.1.bel).cells j x hx;have HX:=hid (And.intro hx hm);have HB:=hid (heap_alloc_new wr (.cells x.cells.toArray 46));have S1:=hid (HS.out.1.step (below_alloc (Below.refl _ wr) (.cells x.cells.toArray 46)));have hps:=HP.out x hm;have hseen:=run_get map95 skeys S1.out.seen x.path (.bool false) (zero4 _);have hdir:=run_get map95 skeys S1.out.dirs (parentP x.path) (.bool false) (zero4 _);rw [bool_get] at hseen hdir;have PC:=hid (parent_calls x.path (by omega));have SN:=hid (fun h:TreeOk l=>h.step j x hx);have FINR:Hid (StepOk l j x→∀ i y,i < j+1→l[i]?=some y→StepOk l i y):=hid (fun h i y hi hy=>by
      rcases Nat.lt_or_ge i j with h2 | h2
      ·exact HS.out.2 i y h2 hy
      ·
       obtain rfl:i=j:=by omega
       rw [hx] at hy;cases hy;exact h)
     have SS:=hid (seenOf_snoc (l.take j) x);have SF:=hid (firstOf_snoc (l.take j) x);rw [← take_snoc hx] at SS SF;have hput:=run_put map95 skeys S1.out.seen x.path true;have S2:=hid (S1.out.putSeen (ZMap.put (seenOf (l.take j)) x.path true));obtain ⟨W2,hW2⟩:∃ X,(wr.alloc (.cells x.cells.toArray 46)).putObj sb (.map (ents Value.string Value.bool 0 (ZMap.put (seenOf (l.take j)) x.path true)).toArray (ZMap.put (seenOf (l.take j)) x.path true).length)=X:=⟨_,rfl⟩;have hsw:sb < wr.heap.size:=HS.out.1.seen.lt;have HB2:Hid (W2.heap[wr.heap.size]?=some (.cells x.cells.toArray 46 (0,0))):=hid (by
      rw [← hW2,World.putObj_heap_other (by omega)];exact HB.out)
     have hWs:W2.heap.size=wr.heap.size+1:=by rw [← hW2];simp
     have HWS:=hid hWs;rw [hW2] at hput S2;rw [← SS.out] at S2;clear hx hm hps hW2 hWs hsw;have hget:=run_get_ok map198 ikeys S2.out.first x.cls _ (zero46 _);obtain ⟨kind,path,mode,target,addr,xcap,data,cls⟩:=x;unfold nval NV.cells at *;dsimp only at *;obtain ⟨d1,d5⟩:(wr.alloc (.cells #[.int .i64 kind,.string path,.int .i64 mode,.string target,.slice addr data.length xcap,.int .i64 cls] 46)).cell? ⟨wr.heap.size,1,none⟩=some (.string path)∧(wr.alloc (.cells #[.int .i64 kind,.string path,.int .i64 mode,.string target,.slice addr data.length xcap,.int .i64 cls] 46)).cell? ⟨wr.heap.size,5,none⟩=some (.int .i64 cls):=⟨cell_of HB.out 1 _ rfl,cell_of HB.out 5 _ rfl⟩;obtain ⟨v0,hv0⟩:∃ b,has (seenOf (l.take j)) path=b:=⟨_,rfl⟩;have e0:(ZMap.get (seenOf (l.take j)) path).getD false=v0:=hv0;rw [e0] at hseen;have HV0:=hid hv0;clear hv0 e0;cases v0 with
     | true =>
      clear hput
      go_wp2_with fail
      go_ret2
      exact ⟨_,14,rfl,⟨fun h=>by omega,fun h=>by have:=(SN.out h).seen;rw [HV0.out] at this;cases this⟩,S1.out.bel⟩
     | false =>
      obtain ⟨v1,hv1⟩:∃ b,has (dirsOf l) (parentP path)=b:=⟨_,rfl⟩;have e1:(ZMap.get (dirsOf l) (parentP path)).getD false=v1:=hv1;rw [e1] at hdir;have HV1:=hid hv1;clear hv1 e1;cases v1 with
      | false =>
       clear hput
       go_wp2_with fail
       refine (PC.out _).mono ?_;rintro r w3 ⟨rfl,rfl⟩
       go_wp2_with fail
       go_ret2
       exact ⟨_,13,rfl,⟨fun h=>by omega,fun h=>by have:=(SN.out h).dir;rw [HV1.out] at this;cases this⟩,S1.out.bel⟩
      | true =>
       go_wp2_with fail
       refine (PC.out _).mono ?_;rintro r w3 ⟨rfl,rfl⟩;obtain ⟨f0,f1,f2,f3,f4,f5⟩:W2.cell? ⟨wr.heap.size,0,none⟩=some (.int .i64 kind)∧W2.cell? ⟨wr.heap.size,1,none⟩=some (.string path)∧W2.cell? ⟨wr.heap.size,2,none⟩=some (.int .i64 mode)∧W2.cell? ⟨wr.heap.size,3,none⟩=some (.string target)∧W2.cell? ⟨wr.heap.size,4,none⟩=some (.slice addr data.length xcap)∧W2.cell? ⟨wr.heap.size,5,none⟩=some (.int .i64 cls):=by simp [World.cell?,HB2.out]
       by_cases hc0:cls=0
       ·
        have bc:(cls == 0)=true:=beq_iff_eq.2 hc0;have HC0:=hid hc0;clear hc0
        go_wp2_with fail
        go_roundw
        case rel =>refine ⟨j+1,by omega,by go_num,?_,FINR.out ⟨HV0.out,HV1.out,fun h=>absurd HC0.out h⟩⟩;rw [SF.out];unfold firstStep;rw [if_pos HC0.out];exact S2.out
        case measure=>simp [intOf];omega
       ·
        have bc:(cls == 0)=false:=beq_eq_false_iff_ne.2 hc0;have HC0:=hid hc0;clear hc0;cases hg:ZMap.get (firstOf (l.take j)) cls with
        | none =>
         rw [hg] at hget;have S3:=hid (S2.out.step (below_alloc (Below.refl _ W2) (.cells #[.int .i64 0,.string ⟨#[]⟩,.int .i64 0,.string ⟨#[]⟩,.slice none 0 0,.int .i64 0] 46)));have hput2:=run_put map198 ikeys S3.out.first cls ⟨kind,path,mode,target,addr,xcap,data,cls⟩;have S4:=hid (S3.out.putFirst (ZMap.put (firstOf (l.take j)) cls ⟨kind,path,mode,target,addr,xcap,data,cls⟩));obtain ⟨W4,hW4⟩:∃ X,(W2.alloc (.cells #[.int .i64 0,.string ⟨#[]⟩,.int .i64 0,.string ⟨#[]⟩,.slice none 0 0,.int .i64 0] 46)).putObj (sb+1) (.map (ents (fun n:Int=>Value.int .i64 n) nval 0 (ZMap.put (firstOf (l.take j)) cls ⟨kind,path,mode,target,addr,xcap,data,cls⟩)).toArray (ZMap.put (firstOf (l.take j)) cls ⟨kind,path,mode,target,addr,xcap,data,cls⟩).length)=X:=⟨_,rfl⟩;unfold nval NV.cells at *;dsimp only at *;rw [hW4] at hput2 S4;clear hW4;have HGG:=hid hg;clear hg;have HB3:Hid ((W2.alloc (.cells #[.int .i64 0,.string ⟨#[]⟩,.int .i64 0,.string ⟨#[]⟩,.slice none 0 0,.int .i64 0] 46)).heap[wr.heap.size]?=some (.cells #[.int .i64 kind,.string path,.int .i64 mode,.string target,.slice addr data.length xcap,.int .i64 cls] 46 (0,0))):=hid ((heap_alloc_old W2 _ (by rw [HWS.out];omega)).trans HB2.out);obtain ⟨g0,g1,g2,g3,g4,g5⟩:(W2.alloc (.cells #[.int .i64 0,.string ⟨#[]⟩,.int .i64 0,.string ⟨#[]⟩,.slice none 0 0,.int .i64 0] 46)).cell? ⟨wr.heap.size,0,none⟩=some (.int .i64 kind)∧(W2.alloc (.cells #[.int .i64 0,.string ⟨#[]⟩,.int .i64 0,.string ⟨#[]⟩,.slice none 0 0,.int .i64 0] 46)).cell? ⟨wr.heap.size,1,none⟩=some (.string path)∧(W2.alloc (.cells #[.int .i64 0,.string ⟨#[]⟩,.int .i64 0,.string ⟨#[]⟩,.slice none 0 0,.int .i64 0] 46)).cell? ⟨wr.heap.size,2,none⟩=some (.int .i64 mode)∧(W2.alloc (.cells #[.int .i64 0,.string ⟨#[]⟩,.int .i64 0,.string ⟨#[]⟩,.slice none 0 0,.int .i64 0] 46)).cell? ⟨wr.heap.size,3,none⟩=some (.string target)∧(W2.alloc (.cells #[.int .i64 0,.string ⟨#[]⟩,.int .i64 0,.string ⟨#[]⟩,.slice none 0 0,.int .i64 0] 46)).cell? ⟨wr.heap.size,4,none⟩=some (.slice addr data.length xcap)∧(W2.alloc (.cells #[.int .i64 0,.string ⟨#[]⟩,.int .i64 0,.string ⟨#[]⟩,.slice none 0 0,.int .i64 0] 46)).cell? ⟨wr.heap.size,5,none⟩=some (.int .i64 cls):=⟨cell_of HB3.out 0 _ rfl,cell_of HB3.out 1 _ rfl,cell_of HB3.out 2 _ rfl,cell_of HB3.out 3 _ rfl,cell_of HB3.out 4 _ rfl,cell_of HB3.out 5 _ rfl⟩
         go_wp2_with fail
         go_roundw
         case rel =>
          refine ⟨j+1,by omega,by go_num,?_,FINR.out ⟨HV0.out,HV1.out,fun _ m hm=>?_⟩⟩
          ·rw [SF.out];unfold firstStep;rw [if_neg HC0.out];dsimp only;rw [HGG.out];exact S4.out
          ·dsimp only at hm;rw [HGG.out] at hm;cases hm
         case measure=>simp [intOf];omega
        | some m =>
         rw [hg] at hget;have HM:=hid (SF.out);have HGG:=hid hg;have HMM:=hid (List.mem_of_mem_take (firstOf_mem _ _ _ hg));clear hg;obtain ⟨mkind,mpath,mmode,mtarget,maddr,mcap,mdata,mcls⟩:=m;simp only [Option.map_some,Option.getD_some,Option.isSome_some,nval,NV.cells] at hget;have S3:=hid (S2.out.step (below_alloc (Below.refl _ W2) (.cells #[.int .i64 mkind,.string mpath,.int .i64 mmode,.string mtarget,.slice maddr mdata.length mcap,.int .i64 mcls] 46)));have HB3:Hid ((W2.alloc (.cells #[.int .i64 mkind,.string mpath,.int .i64 mmode,.string mtarget,.slice maddr mdata.length mcap,.int .i64 mcls] 46)).heap[wr.heap.size]?=some (.cells #[.int .i64 kind,.string path,.int .i64 mode,.string target,.slice addr data.length xcap,.int .i64 cls] 46 (0,0))):=hid ((heap_alloc_old W2 _ (by rw [HWS.out];omega)).trans HB2.out);have HB4:=hid (heap_alloc_new W2 (.cells #[.int .i64 mkind,.string mpath,.int .i64 mmode,.string mtarget,.slice maddr mdata.length mcap,.int .i64 mcls] 46));obtain ⟨g0,g1,g2,g3,g4,g5⟩:(W2.alloc (.cells #[.int .i64 mkind,.string mpath,.int .i64 mmode,.string mtarget,.slice maddr mdata.length mcap,.int .i64 mcls] 46)).cell? ⟨wr.heap.size,0,none⟩=some (.int .i64 kind)∧(W2.alloc (.cells #[.int .i64 mkind,.string mpath,.int .i64 mmode,.string mtarget,.slice maddr mdata.length mcap,.int .i64 mcls] 46)).cell? ⟨wr.heap.size,1,none⟩=some (.string path)∧(W2.alloc (.cells #[.int .i64 mkind,.string mpath,.int .i64 mmode,.string mtarget,.slice maddr mdata.length mcap,.int .i64 mcls] 46)).cell? ⟨wr.heap.size,2,none⟩=some (.int .i64 mode)∧(W2.alloc (.cells #[.int .i64 mkind,.string mpath,.int .i64 mmode,.string mtarget,.slice maddr mdata.length mcap,.int .i64 mcls] 46)).cell? ⟨wr.heap.size,3,none⟩=some (.string target)∧(W2.alloc (.cells #[.int .i64 mkind,.string mpath,.int .i64 mmode,.string mtarget,.slice maddr mdata.length mcap,.int .i64 mcls] 46)).cell? ⟨wr.heap.size,4,none⟩=some (.slice addr data.length xcap)∧(W2.alloc (.cells #[.int .i64 mkind,.string mpath,.int .i64 mmode,.string mtarget,.slice maddr mdata.length mcap,.int .i64 mcls] 46)).cell? ⟨wr.heap.size,5,none⟩=some (.int .i64 cls):=⟨cell_of HB3.out 0 _ rfl,cell_of HB3.out 1 _ rfl,cell_of HB3.out 2 _ rfl,cell_of HB3.out 3 _ rfl,cell_of HB3.out 4 _ rfl,cell_of HB3.out 5 _ rfl⟩;obtain ⟨h0,h1,h2,h3,h4,h5⟩:(W2.alloc (.cells #[.int .i64 mkind,.string mpath,.int .i64 mmode,.string mtarget,.slice maddr mdata.length mcap,.int .i64 mcls] 46)).cell? ⟨W2.heap.size,0,none⟩=some (.int .i64 mkind)∧(W2.alloc (.cells #[.int .i64 mkind,.string mpath,.int .i64 mmode,.string mtarget,.slice maddr mdata.length mcap,.int .i64 mcls] 46)).cell? ⟨W2.heap.size,1,none⟩=some (.string mpath)∧(W2.alloc (.cells #[.int .i64 mkind,.string mpath,.int .i64 mmode,.string mtarget,.slice maddr mdata.length mcap,.int .i64 mcls] 46)).cell? ⟨W2.heap.size,2,none⟩=some (.int .i64 mmode)∧(W2.alloc (.cells #[.int .i64 mkind,.string mpath,.int .i64 mmode,.string mtarget,.slice maddr mdata.length mcap,.int .i64 mcls] 46)).cell? ⟨W2.heap.size,3,none⟩=some (.string mtarget)∧(W2.alloc (.cells #[.int .i64 mkind,.string mpath,.int .i64 mmode,.string mtarget,.slice maddr mdata.length mcap,.int .i64 mcls] 46)).cell? ⟨W2.heap.size,4,none⟩=some (.slice maddr mdata.length mcap)∧(W2.alloc (.cells #[.int .i64 mkind,.string mpath,.int .i64 mmode,.string mtarget,.slice maddr mdata.length mcap,.int .i64 mcls] 46)).cell? ⟨W2.heap.size,5,none⟩=some (.int .i64 mcls):=⟨cell_of HB4.out 0 _ rfl,cell_of HB4.out 1 _ rfl,cell_of HB4.out 2 _ rfl,cell_of HB4.out 3 _ rfl,cell_of HB4.out 4 _ rfl,cell_of HB4.out 5 _ rfl⟩;have BL2:=hid S3.out.bel;have K1:=hid ((HN.out.below BL2.out).data _ HMM.out).1;have K2:=hid ((HN.out.below BL2.out).data _ HX.out.2).1;have EQ:=hid (ZSum.equal_calls maddr addr mdata.length data.length mcap xcap mdata data _ K1.out K2.out);by_cases hmo:mmode=mode
         ·
          have bm:(mmode != mode)=false:=by rw [hmo];simp
          have HMO:=hid hmo;clear hmo;by_cases hda:mdata=data
          ·
           have bd:decide (mdata=data)=true:=by simp [hda]
           have HDA:=hid hda;clear hda;rw [bd] at EQ
           go_wp2_with fail
           refine EQ.out.mono ?_;rintro r w3 ⟨rfl,hdr⟩;have S4:=hid (S3.out.step (hdr.below));clear hdr
           go_wp2_with fail
           go_roundw
           case rel =>
            refine ⟨j+1,by omega,by go_num,?_,FINR.out ⟨HV0.out,HV1.out,fun _ m hm=>?_⟩⟩
            ·rw [SF.out];unfold firstStep;rw [if_neg HC0.out];dsimp only;rw [HGG.out];exact S4.out
            ·dsimp only at hm;rw [HGG.out] at hm;cases hm;exact ⟨HMO.out,HDA.out⟩
           case measure=>simp [intOf];omega
          ·
           have bd:decide (mdata=data)=false:=by simp [hda]
           have HDA:=hid hda;clear hda;rw [bd] at EQ
           go_wp2_with fail
           refine EQ.out.mono ?_;rintro r w3 ⟨rfl,hdr⟩;have S4:=hid (S3.out.step (hdr.below));clear hdr
           go_wp2_with fail
           go_ret2
           exact ⟨_,15,rfl,⟨fun h=>by omega,fun h=>absurd ((SN.out h).same HC0.out _ HGG.out).2 HDA.out⟩,S4.out.bel⟩
         ·
          have bm:(mmode != mode)=true:=by rw [bne_iff_ne];exact hmo
          have HMO:=hid hmo;clear hmo
          go_wp2_with fail
          go_ret2
          exact ⟨_,15,rfl,⟨fun h=>by omega,fun h=>absurd ((SN.out h).same HC0.out _ HGG.out).1 HMO.out⟩,S3.out.bel⟩
    ·
     obtain rfl:j=l.length:=by omega
     go_wp2_with fail
     go_ret2
     exact ⟨_,0,rfl,⟨fun _=>⟨NOK.out,fun i x hi=>HS.out.2 i x (List.getElem?_eq_some_iff.1 hi).1 hi⟩,fun _=>rfl⟩,HS.out.1.bel⟩
end ZTCheck
namespace ZCount
open ZGlob ZMo ZRec ZFit ZMap ZPath ZTree ZTCheck
def num (m:List (Int×Int)) (c:Int):Int:=(ZMap.get m c).getD 0
def countsOf (l:List Int):List (Int×Int):=l.foldl (fun m c=>ZMap.put m c (num m c+1)) []
theorem countsOf_snoc (l:List Int) (c:Int):countsOf (l++[c])=ZMap.put (countsOf l) c (num (countsOf l) c+1):=by unfold countsOf;rw [List.foldl_append];rfl
theorem num_counts (l:List Int) (c:Int):num (countsOf l) c=(l.count c:Nat):=by
 have key:∀ n,∀ l:List Int,l.length=n→∀ c,num (countsOf l) c=(l.count c:Nat):=by
  intro n
  induction n with
  | zero =>intro l hl c;obtain rfl:=List.eq_nil_of_length_eq_zero hl;rfl
  | succ n ih =>
   intro l hl c;obtain ⟨l0,x,rfl⟩:∃ l0 x,l=l0++[x]:=⟨l.dropLast,l.getLast (by intro e;rw [e] at hl;cases hl),(List.dropLast_concat_getLast _).symm⟩;have hl0:l0.length=n:=by simpa using hl
   rw [countsOf_snoc,List.count_append];unfold num;rw [get_put];by_cases h:c=x
   ·subst h;rw [if_pos rfl];have:=ih l0 hl0 c;unfold num at this;simp [num,this]
   ·rw [if_neg h];have:=ih l0 hl0 c;unfold num at this;rw [this];simp [List.count_cons,List.count_nil,Ne.symm h]
 exact key _ l rfl c
theorem int_get (o:Option Int):(o.map (fun n:Int=>Value.int .i64 n)).getD (.int .i64 0)=.int .i64 (o.getD 0):=by cases o <;> rfl
theorem zero3 (w:World):(zeroValue 3).run Tryz.prog w=.ok (.int .i64 0) w:=by kernel_rfl
theorem map74:Tryz.prog.underlying 74=some (.map 3 3):=Tryz.underlying74
abbrev ival (n:Int):Value:=.int .i64 n
structure C3 (w wr:World) (cb:Nat) (m:List (Int×Int)):Prop where
 bel:Below w.heap.size w wr
 row:MapAt wr ival ival cb m
 lo:w.heap.size≤cb
theorem C3.step {w wr w2:World} {cb:Nat} {m:List (Int×Int)} (h:C3 w wr cb m) (hb:Below wr.heap.size wr w2):C3 w w2 cb m :=
 ⟨below_step h.bel hb,MapAt.of h.row (hb.block _ h.row.lt),h.lo⟩
theorem C3.put {w wr:World} {cb:Nat} {m:List (Int×Int)} (h:C3 w wr cb m) (m2:List (Int×Int)):C3 w (wr.putObj cb (.map (ents ival ival 0 m2).toArray m2.length)) cb m2 :=
 ⟨below_put h.bel h.lo _,MapAt.put h.row m2,h.lo⟩
set_option maxHeartbeats 4000000 in
theorem key_calls (x:NV) (w:World):Calls Tryz.prog 33 #[.agg x.cells.toArray] w fun r w'=>r=.returned (.int .i64 x.cls)∧Below w.heap.size w w':=by
 obtain ⟨kind,path,mode,target,addr,xcap,data,cls⟩:=x;unfold NV.cells;dsimp only;go_enter Tryz.func33,Tryz.ntmps33
 go_wp2_with fail
 go_ret;exact ⟨rfl,below_alloc (Below.refl _ _) _⟩
set_option maxHeartbeats 8000000 in
theorem counts_calls (A:Option Addr) (cap:Nat) (l:List NV) (hn:l.length≤1000) (w:World) (hl:NodesAt w A l) (hc:l.length≤cap): Calls Tryz.prog 32 #[.slice A l.length cap,.func (.func 33) #[] #[]] w fun r w'=>∃ cb,r=.returned (.map (some cb))∧C3 w w' cb (countsOf (l.map (·.cls))):=by
 have HN:=hid hl;have hmm:=@run_makeMap Tryz.prog;have KC:=hid key_calls;have S1:Hid (C3 w (w.alloc (.map #[] 0)) w.heap.size (countsOf ((l.take 0).map (·.cls)))):=hid ⟨below_alloc (Below.refl _ _) _,MapAt.new w,Nat.le_refl _⟩;clear hl;go_enter Tryz.func32,Tryz.ntmps32
 go_wp2_with fail
 go_loopw [11] (fun i wr=>∃ j:Nat,j≤l.length∧i=.int .i64 j∧Hid (C3 w wr w.heap.size (countsOf ((l.take j).map (·.cls))))) (fun i _=>l.length - (intOf i).toNat)
 case atStart=>exact ⟨0,Nat.zero_le _,rfl,S1⟩
 case round =>
  clear S1;obtain ⟨j,hj,rfl,HS⟩:=hrel;by_cases hlt:j < l.length
  ·
   have hltz:(j:Int) < (l.length:Int):=by omega
   obtain ⟨x,hx⟩:∃ x,l[j]?=some x:=⟨_,List.getElem?_eq_getElem hlt⟩;obtain ⟨b,o,hA,_,_⟩:=HN.out.row (fun e=>by rw [e] at hlt;simp at hlt);subst hA;obtain ⟨c0,c1,c2,c3,c4,c5⟩:=(HN.out.below HS.out.bel).cells j x hx;have C:=hid (KC.out x);have HX:=hid hx;have S2:=hid (HS.out.step (below_alloc (Below.refl _ wr) (.cells x.cells.toArray 46)));have TS:=hid (take_snoc hx);have hcount:(0:Int)≤num (countsOf ((l.take j).map (·.cls))) x.cls∧num (countsOf ((l.take j).map (·.cls))) x.cls≤1000:=by rw [num_counts];have:=List.count_le_length (a:=x.cls) (l:=(l.take j).map (·.cls));simp only [List.length_map,List.length_take] at this;omega
   clear hx;obtain ⟨kind,path,mode,target,addr,xcap,data,cls⟩:=x;unfold NV.cells at C S2;dsimp only at C S2 c0 c1 c2 c3 c4 c5 hcount TS;obtain ⟨q,hq⟩:∃ q,num (countsOf ((l.take j).map (·.cls))) cls=q:=⟨_,rfl⟩;rw [hq] at hcount;obtain ⟨q0,q1⟩:=hcount
   go_wp2_with fail
   refine (C.out _).mono ?_;rintro r w2 ⟨rfl,hb⟩;have S3:=hid (S2.out.step hb);clear hb;have hget:=run_get map74 (ikeys) S3.out.row cls (.int .i64 0) (zero3 _);have hput:=run_put map74 (ikeys) S3.out.row cls (q+1);have S4:=hid (S3.out.put (ZMap.put (countsOf ((l.take j).map (·.cls))) cls (q+1)));obtain ⟨W4,hW4⟩:∃ X,w2.putObj w.heap.size (.map (ents ival ival 0 (ZMap.put (countsOf ((l.take j).map (·.cls))) cls (q+1))).toArray (ZMap.put (countsOf ((l.take j).map (·.cls))) cls (q+1)).length)=X:=⟨_,rfl⟩;rw [int_get] at hget;have hq2:(ZMap.get (countsOf ((l.take j).map (·.cls))) cls).getD 0=q:=hq;rw [hq2] at hget;rw [hW4] at hput S4;have HQ:=hid hq;clear hq hq2 hW4
   go_wp2_with fail
   go_roundw
   case rel =>refine ⟨j+1,by omega,by go_num,?_⟩;rw [TS.out,List.map_append,List.map_cons,List.map_nil,countsOf_snoc,HQ.out];exact S4
   case measure=>simp [intOf];omega
  ·
   obtain rfl:j=l.length:=by omega
   go_wp2_with fail
   go_ret;rw [List.take_length] at HS;exact ⟨_,rfl,HS.out⟩
end ZCount
namespace ZSame
open ZTree
set_option maxHeartbeats 4000000 in
theorem same_calls (x y:NV) (h0:y.kind=x.kind) (h1:y.path=x.path) (h2:y.mode=x.mode) (h3:y.target=x.target) (h4:y.data=x.data) (h5:y.cls=x.cls) (w:World) (hx:Reads w x) (hy:Reads w y): Calls Tryz.prog 31 #[.agg x.cells.toArray,.agg y.cells.toArray] w fun e w'=>e=.returned (.bool true)∧Below w.heap.size w w':=by
 obtain ⟨kind,path,mode,target,addr,cap,data,cls⟩:=x;obtain ⟨kind2,path2,mode2,target2,addr2,cap2,data2,cls2⟩:=y;dsimp only at h0 h1 h2 h3 h4 h5;subst h0 h1 h2 h3 h4 h5;obtain ⟨r1,r2⟩:=hx;obtain ⟨r3,r4⟩:=hy;dsimp only at r1 r2 r3 r4;have B2:=hid (((Below.refl w.heap.size w).alloc (Nat.le_refl _) (.cells #[.int .i64 kind2,.string path2,.int .i64 mode2,.string target2,.slice addr data2.length cap,.int .i64 cls2] 46)).alloc (by simp) (.cells #[.int .i64 kind2,.string path2,.int .i64 mode2,.string target2,.slice addr2 data2.length cap2,.int .i64 cls2] 46));have EQ:=hid (ZSum.equal_calls addr addr2 data2.length data2.length cap cap2 data2 data2 _ (Kd.C_below r1 B2.out) (Kd.C_below r3 B2.out));have bd:decide (data2=data2)=true:=by simp
 rw [bd] at EQ;clear r1 r2 r3 r4 bd;unfold NV.cells;dsimp only;go_enter Tryz.func31,Tryz.ntmps31
 go_wp2_with fail
 refine EQ.out.mono ?_;rintro e w3 ⟨rfl,hd⟩;have B3:=hid (below_step B2.out hd.below);clear hd
 go_wp2_with fail
 go_ret;exact ⟨rfl,B3.out⟩
structure Alike (x y:NV):Prop where
 kind:y.kind=x.kind
 path:y.path=x.path
 mode:y.mode=x.mode
 target:y.target=x.target
 data:y.data=x.data
 cls:y.cls=x.cls
set_option maxHeartbeats 4000000 in
theorem equalFunc_calls (A A2:Option Addr) (c cb:Nat) (l l2:List NV) (hl:l2.length=l.length) (hn:l.length≤1000) (ha:∀ (i:Nat) (x y:NV),l[i]?=some x→l2[i]?=some y→Alike x y) (w:World) (h1:NodesAt w A l) (h2:NodesAt w A2 l2) (hc:l.length≤c) (hc2:l.length≤cb): Calls Tryz.prog 30 #[.slice A l.length c,.slice A2 l.length cb,.func (.func 31) #[] #[]] w fun e w'=>e=.returned (.bool true)∧Below w.heap.size w w':=by
 have H:=hid (And.intro h1 (And.intro h2 (And.intro ha hl)));have bn:((l.length:Int) != (l.length:Int))=false:=by simp
 clear h1 h2 ha hl;go_enter Tryz.func30,Tryz.ntmps30
 go_wp2_with fail
 go_loopw [17] (fun i wr=>∃ j:Nat,j≤l.length∧i=.int .i64 j∧Hid (Below w.heap.size w wr)) (fun i _=>l.length - (intOf i).toNat)
 case atStart=>exact ⟨0,Nat.zero_le _,rfl,hid (Below.refl _ _)⟩
 case round =>
  obtain ⟨j,hj,rfl,HB⟩:=hrel;by_cases hlt:j < l.length
  ·
   have hltz:(j:Int) < (l.length:Int):=by omega
   obtain ⟨h1,h2,ha,hl⟩:=H.out;obtain ⟨x,hx⟩:∃ x,l[j]?=some x:=⟨_,List.getElem?_eq_getElem hlt⟩;obtain ⟨y,hy⟩:∃ y,l2[j]?=some y:=⟨_,List.getElem?_eq_getElem (by omega)⟩;obtain ⟨b,o,hA,_,_⟩:=h1.row (fun e=>by rw [e] at hlt;simp at hlt);obtain ⟨b2,o2,hA2,_,_⟩:=h2.row (fun e=>by rw [e] at hy;simp at hy);subst hA hA2;obtain ⟨c0,c1,c2,c3,c4,c5⟩:=(h1.below HB.out).cells j x hx;have AL:=ha j x y hx hy;have BX:=hid (below_alloc (Below.refl _ wr) (.cells x.cells.toArray 46));obtain ⟨e0,e1,e2,e3,e4,e5⟩:=(h2.below (below_step HB.out BX.out)).cells j y hy;have BY:=hid (BX.out.alloc BX.out.size (.cells y.cells.toArray 46));have SC:=hid (same_calls x y AL.kind AL.path AL.mode AL.target AL.data AL.cls ((wr.alloc (.cells x.cells.toArray 46)).alloc (.cells y.cells.toArray 46)) (((h1.data x (List.mem_of_getElem? hx)).below HB.out).below BY.out) (((h2.data y (List.mem_of_getElem? hy)).below HB.out).below BY.out));have HB2:=hid (below_step HB.out BY.out);clear h1 h2 ha hl hx hy AL BX;obtain ⟨kind,path,mode,target,addr,cap,data,cls⟩:=x;obtain ⟨kind2,path2,mode2,target2,addr2,cap2,data2,cls2⟩:=y;unfold NV.cells at SC HB2 e0 e1 e2 e3 e4 e5;dsimp only at SC HB2 c0 c1 c2 c3 c4 c5 e0 e1 e2 e3 e4 e5
   go_wp2_with fail
   refine SC.out.mono ?_;rintro e w3 ⟨rfl,hb⟩;have HB3:=hid (below_step HB2.out hb);clear hb
   go_wp2_with fail
   go_roundw
   case rel=>exact ⟨j+1,by omega,by go_num,HB3⟩
   case measure=>simp [intOf];omega
  ·
   obtain rfl:j=l.length:=by omega
   go_wp2_with fail
   go_ret;exact ⟨rfl,HB.out⟩
end ZSame
end
end Go.Proofs.YteikiojmcipkmaaGreatDoor
