/- Parts of the proof, gathered by a program: what calls of the functions answer, and what follows in plain lists. Conditions: those that each theorem states. -/
import Derived.Test.YteikiojmcipkmaaGreatDoorMR18
set_option linter.unusedVariables false
set_option linter.unusedSimpArgs false
namespace Go.Proofs.YteikiojmcipkmaaGreatDoor
open Go.Lib (hid)
set_option maxRecDepth 100000
section
namespace ZSink
open Go.RowKit YteikiojmcipkmaaGreatDoorW.PrintWords YteikiojmcipkmaaGreatDoorW.PrintLast YteikiojmcipkmaaGreatDoorW.PrintMore Oct ZBase ZGlob ZMo ZApp
open ZFmt (OwnB)
attribute [local go_sem] max2_int min2_int max_two min_two max_three min_three
structure Snk (w:World) (sb base:Nat) (v:Value) (l:List Int) (n:Int):Prop where
 blk:w.heap[sb]?=some (.cells #[.slice none 0 0,.int .i64 (-1),v,.int .i64 n] 109 (0,0))
 own:OwnB w base v l
 bound:0≤n∧n≤l.length
theorem Snk.cells {w:World} {sb base:Nat} {v:Value} {l:List Int} {n:Int} (h:Snk w sb base v l n):w.cell? ⟨sb,0,none⟩=some (.slice none 0 0)∧w.cell? ⟨sb,1,none⟩=some (.int .i64 (-1))∧w.cell? ⟨sb,2,none⟩=some v∧w.cell? ⟨sb,3,none⟩=some (.int .i64 n):=by simp [World.cell?,h.blk]
theorem Snk.free {w:World} {sb base:Nat} {v:Value} {l:List Int} {n:Int} (h:Snk w sb base v l n):w.frozen? ⟨sb,2,none⟩=false∧w.frozen? ⟨sb,3,none⟩=false:=by simp [World.frozen?,h.blk]
set_option maxHeartbeats 1000000 in
theorem room_calls (w:World) (sb base:Nat) (v:Value) (l:List Int) (n:Int) (h:Snk w sb base v l n):Calls Tryz.prog 137 #[.pointer (some ⟨sb,0,none⟩)] w fun e w'=>e=.returned (.int .i64 1048576)∧w=w':=by
 obtain ⟨c0,c1,c2,c3⟩:=h.cells;clear h;go_enter Tryz.func137,Tryz.ntmps137
 go_wp2_with fail
 go_ret;exact ⟨rfl,rfl⟩
set_option maxHeartbeats 1000000 in
theorem newWriter_calls (w:World) (sb:Nat):Calls Tryz.prog 52 #[.pointer (some ⟨sb,0,none⟩)] w fun e w'=>e=.returned (.pointer (some ⟨w.heap.size,0,none⟩))∧w'=w.alloc (.cells #[.int .i64 0,.int .i64 0,.pointer (some ⟨sb,0,none⟩)] 159):=by
 go_enter Tryz.func52,Tryz.ntmps52
 go_wp2_with fail
 go_ret;exact ⟨rfl,rfl⟩
set_option maxHeartbeats 2000000 in
theorem new_calls (w:World):Calls Tryz.prog 27 #[.agg #[.slice none 0 0,.int .i64 (-1)]] w fun e w'=>∃ sb,e=.returned (.pointer (some ⟨sb,0,none⟩))∧w.heap.size≤sb∧Snk w' sb w.heap.size (.slice none 0 0) [] 0∧Below w.heap.size w w':=by
 have CL:=hid (fun W=>Tryz.slices_Clone_int_nil 0 0 W);go_enter Tryz.func27,Tryz.ntmps27
 go_wp2_with fail
 go_region_with (go_at_call 26;refine (CL.out _).mono ?_;rintro e w' ⟨rfl,rfl⟩)
 all_goals
  go_wp2;go_ret;refine ⟨_,rfl,?_,⟨heap_alloc2_new _ _ _,own_nil _ _ _ _,by simp⟩,?_⟩
  ·simp
  ·exact below_drew (((Below.refl _ _).alloc (Nat.le_refl _) _).alloc (by simp) _)
def ob (v:Value):List Nat:=v.ownBlock.toList
theorem step_append_own {ops:Array Oper} {o:Oper} {a:Act} {K:Act→World→Prop} {Q:Exit→Act→World→Prop} {E:Prop} (W:World) (base:Nat) (hgd:o.guard=none) (s x:Operand) (ho:o.op=.call { callee:=.builtin .append,args:=#[s,x],argTypes:=#[30,30] }) (v:Value) (xs:List Int) (ad:Addr) (m c:Nat) (ys:List Int) (hs:a.eval s=v) (hx:a.eval x=.slice (some ad) m c) (HO:OwnB W base v xs) (HR:Kd.C (Kd.int .u8) W (some ad) m ys) (hm0:0 < m) (hbase:base≤W.heap.size) (hl:xs.length+m≤140737488355328) (h:∀ g cap w1,OwnB w1 base (.slice (some ⟨g,0,none⟩) (xs.length+m) cap) (xs++ys)→W.grownBy w1 v.ownBlock→(v.ownBlock=some g∨g=W.heap.size)→K (a.put o.dst (.slice (some ⟨g,0,none⟩) (xs.length+m) cap)) w1): if Region.wanted o (yielded ops a.tmps)=true then Oper.wp Tryz.prog o a W K Q else E:=by
 obtain ⟨i,hi,hz⟩:=Option.map_eq_some_iff.1 info5;simp only [Prod.mk.injEq] at hz;have hlen:=Kd.C_len HR;refine step_append_lies W hgd s x 30 ho base 5 i (.int .u8 0) 1 1 Tryz.underlying30 hi hz.1 hz.2.1 hz.2.2 rfl (by decide) v xs.length (nums .u8 xs) hs HO ad m c (nums .u8 ys) hx (by simp [nums,hlen]) ?_ ?_ hm0 (by unfold maxLen;omega) (by omega) hbase W.heap.size rfl ?_
 ·
  intro j u hu;have hj:j < ys.length:=by have:=(List.getElem?_eq_some_iff.1 hu).1;simpa [nums] using this
  obtain ⟨ad',e,hc⟩:=Kd.at_int HR (j:Int) (by omega) (by omega);cases e;rw [Int.toNat_natCast] at hc;rw [hc];simp only [nums,List.getElem?_map] at hu;rw [List.getElem?_eq_getElem hj] at hu;simp only [Option.map_some,Option.some.injEq] at hu;rw [← hu];simp [rd,List.getD_eq_getElem?_getD,List.getElem?_eq_getElem hj]
 ·intro u hu;simp only [nums,List.mem_map] at hu;obtain ⟨z,_,rfl⟩:=hu;rfl
 ·intro g cap w1 h1 h2 h3 _;refine h g cap w1 ?_ h2 h3;unfold OwnB;rw [nums_append,List.length_append,hlen];exact h1
theorem Snk.after {w w1:World} {sb base:Nat} {v:Value} {l data:List Int} {n:Int} {g cap m:Nat} (h:Snk w sb base v l n) (hlt:sb < base) (hb:base≤w.heap.size) (ho:OwnB w1 base (.slice (some ⟨g,0,none⟩) (l.length+m) cap) (l++data)) (hm:data.length=m) (hm0:0 < m) (hg:w.grownBy w1 v.ownBlock) (hat:v.ownBlock=some g∨g=w.heap.size) : Snk ((w1.setCell ⟨sb,2,none⟩ (.slice (some ⟨g,0,none⟩) (l.length+m) cap)).setCell ⟨sb,3,none⟩ (.int .i64 (n+1))) sb base (.slice (some ⟨g,0,none⟩) (l.length+m) cap) (l++data) (n+1) ∧ Mo (sb :: ob v) w ((w1.setCell ⟨sb,2,none⟩ (.slice (some ⟨g,0,none⟩) (l.length+m) cap)).setCell ⟨sb,3,none⟩ (.int .i64 (n+1)))∧(g∈ob v∨w.heap.size≤g):=by
 have hv:∀ k,v.ownBlock=some k→base≤k:=fun k hk=>own_base h.own k hk;have hne:some sb≠v.ownBlock:=fun e=>by have:=hv sb e.symm;omega
 have hb1:w1.heap[sb]?=some (.cells #[.slice none 0 0,.int .i64 (-1),v,.int .i64 n] 109 (0,0)):=(hg.block sb (blk_lt h.blk) hne).trans h.blk;have hge:base≤g:=own_base ho g rfl;have hm1:Mo (sb :: ob v) w w1:=⟨hg.os,hg.tape,hg.output,hg.size,fun k hk hS=>hg.block k hk (fun e=>hS (by simp [ob,← e]))⟩;refine ⟨⟨?_,?_,?_⟩,(hm1.set (.inl (by simp)) _).set (.inl (by simp)) _,?_⟩
 ·have e1:=heap_setCell_same w1 sb 2 _ _ (.slice (some ⟨g,0,none⟩) (l.length+m) cap) hb1;have e2:=heap_setCell_same _ sb 3 _ _ (.int .i64 (n+1)) e1;rw [e2];rfl
 ·
  refine own_move ho fun k hk=>?_;have hk':g=k:=by simpa [Value.ownBlock] using hk
  rw [Below.heap_setCell _ _ _ _ (by show k≠sb;omega),Below.heap_setCell _ _ _ _ (by show k≠sb;omega)]
 ·have:=h.bound;rw [List.length_append];omega
 ·
  rcases hat with e | e
  ·exact .inl (by simp [ob,e])
  ·exact .inr (by omega)
set_option maxHeartbeats 4000000 in
theorem write_calls (w:World) (sb base:Nat) (v:Value) (l:List Int) (n:Int) (A:Option Addr) (m c:Nat) (data:List Int) (h:Snk w sb base v l n) (hlt:sb < base) (hb:base≤w.heap.size) (hd:Kd.C (Kd.int .u8) w A m data) (hm0:0 < m) (hm:m≤1000000) (hmc:m≤c) (hl:l.length≤100000000) : Calls Tryz.prog 96 #[.pointer (some ⟨sb,0,none⟩),.slice A m c] w fun e w'=>e=.returned (.tuple #[.int .i64 m,.int .i64 0])∧∃ g cap,Snk w' sb base (.slice (some ⟨g,0,none⟩) (l.length+m) cap) (l++data) (n+1)∧Mo (sb :: ob v) w w'∧(g∈ob v∨w.heap.size≤g):=by
 have hlen:=Kd.C_len hd;obtain ⟨ad,rfl,_⟩:=hd.2.2 hm0;have RC:=hid (room_calls w sb base v l n h);obtain ⟨c0,c1,c2,c3⟩:=h.cells;obtain ⟨f2,f3⟩:=h.free;have hbd:=h.bound;have AF:=hid (fun g cap w1 ho hg hat=>h.after (w1:=w1) (g:=g) (cap:=cap) (data:=data) hlt hb ho hlen hm0 hg hat);have HS:=hid h;have FX:∀ w1,w.grownBy w1 v.ownBlock→w1.cell? ⟨sb,2,none⟩=some v∧w1.cell? ⟨sb,3,none⟩=some (.int .i64 n)∧w1.frozen? ⟨sb,2,none⟩=false∧w1.frozen? ⟨sb,3,none⟩=false:=fun w1 hg=>by
  have hne:some sb≠v.ownBlock:=fun e=>by have:=own_base h.own sb e.symm;omega
  have hb1:w1.heap[sb]?=some (.cells #[.slice none 0 0,.int .i64 (-1),v,.int .i64 n] 109 (0,0)):=(hg.block sb (blk_lt h.blk) hne).trans h.blk;simp [World.cell?,World.frozen?,hb1]
 have FXH:=hid FX;have HL:=hid hlen;have HD:=hid hd;have hmz:((m:Int) == 0)=false:=by rw [beq_eq_false_iff_ne];omega
 have hmn:¬ (1048576:Int) < (m:Int):=by omega
 have hmz2:0 < m:=hm0;clear h FX hlen hd;go_enter Tryz.func96,Tryz.ntmps96
 go_wp2_with fail
 refine RC.out.mono ?_;rintro e w' ⟨rfl,rfl⟩
 go_wp2_with fail
 go_region_law ((refine step_append_own _ base rfl (.tmp 23) (.tmp 26) rfl v l ad m c data (by rfl) (by rfl) HS.out.own HD.out hm0 hb (by omega) ?_;intro g cap w1 ho hg hat;have hg2:w.grownBy w1 v.ownBlock:=⟨hg.os,hg.tape,hg.output,hg.size,hg.block⟩;obtain ⟨x2,x3,y2,y3⟩:=FXH.out w1 hg2))
 have T:=hid (AF.out g cap w1 ho hg2 hat);clear ho hg hg2 hat;have hl2:n≤100000000:=by have:=HS.out.bound;omega
 go_wp2_with fail
 go_ret2
 exact ⟨rfl,g,cap,T.out.1,T.out.2.1,T.out.2.2⟩
structure Wtr (w:World) (wb sb base:Nat) (v:Value) (l:List Int) (n:Int):Prop where
 blk:w.heap[wb]?=some (.cells #[.int .i64 l.length,.int .i64 0,.pointer (some ⟨sb,0,none⟩)] 159 (0,0))
 snk:Snk w sb base v l n
 ord:sb < wb∧wb < base∧base≤w.heap.size
def Wrote (w w':World) (wb sb base:Nat) (v:Value) (l:List Int):Prop:=∃ v' n',Wtr w' wb sb base v' l n'∧Mo (wb :: sb :: ob v) w w'∧∀ k∈ob v',k∈ob v∨w.heap.size≤k
theorem Wtr.cells {w:World} {wb sb base:Nat} {v:Value} {l:List Int} {n:Int} (h:Wtr w wb sb base v l n):w.cell? ⟨wb,0,none⟩=some (.int .i64 l.length)∧w.cell? ⟨wb,1,none⟩=some (.int .i64 0)∧w.cell? ⟨wb,2,none⟩=some (.pointer (some ⟨sb,0,none⟩))∧w.frozen? ⟨wb,0,none⟩=false:=by simp [World.cell?,World.frozen?,h.blk]
theorem Wtr.step {w w1:World} {wb sb base:Nat} {v:Value} {l:List Int} {n:Int} (h:Wtr w wb sb base v l n) (hk:∀ k,k=wb∨k=sb∨k∈ob v→w1.heap[k]?=w.heap[k]?) (hs:w.heap.size≤w1.heap.size):Wtr w1 wb sb base v l n :=
 ⟨(hk wb (.inl rfl)).trans h.blk,⟨(hk sb (.inr (.inl rfl))).trans h.snk.blk,own_move h.snk.own fun k hk2=>hk k (.inr (.inr (by simp [ob,hk2]))),h.snk.bound⟩,h.ord.1,h.ord.2.1,Nat.le_trans h.ord.2.2 hs⟩
theorem Wtr.below {w w1:World} {wb sb base:Nat} {v:Value} {l:List Int} {n:Int} (h:Wtr w wb sb base v l n) (hb:Below w.heap.size w w1):Wtr w1 wb sb base v l n:=by
 refine h.step (fun k hk=>hb.block k ?_) hb.size;rcases hk with rfl | rfl | hk
 ·exact blk_lt h.blk
 ·exact blk_lt h.snk.blk
 ·exact own_lt h.snk.own k (by simpa [ob] using hk)
theorem Wrote.of {w w1:World} {wb sb base:Nat} {v:Value} {l data:List Int} {n:Int} {g cap m:Nat} (h:Wtr w wb sb base v l n) (hs:Snk w1 sb base (.slice (some ⟨g,0,none⟩) (l.length+m) cap) (l++data) (n+1)) (hlen:data.length=m) (hm:Mo (sb :: ob v) w w1) (hg:g∈ob v∨w.heap.size≤g) : Wrote w (w1.setCell ⟨wb,0,none⟩ (.int .i64 (l.length+m))) wb sb base v (l++data)∧w1.cell? ⟨wb,0,none⟩=some (.int .i64 l.length)∧w1.frozen? ⟨wb,0,none⟩=false:=by
 have ho:=h.ord;have hob:∀ k∈ob v,base≤k:=fun k hk=>own_base h.snk.own k (by simpa [ob] using hk);have hge:base≤g:=own_base hs.own g rfl;have hw:w1.heap[wb]?=some (.cells #[.int .i64 l.length,.int .i64 0,.pointer (some ⟨sb,0,none⟩)] 159 (0,0)):=(hm.keep wb (blk_lt h.blk) (by
  intro hk;rcases List.mem_cons.1 hk with e | e
  ·omega
  ·have:=hob wb e;omega)).trans h.blk
 refine ⟨⟨.slice (some ⟨g,0,none⟩) (l.length+m) cap,n+1,⟨?_,⟨?_,?_,hs.bound⟩,ho.1,ho.2.1,?_⟩,?_,?_⟩,by simp [World.cell?,hw],by simp [World.frozen?,hw]⟩
 ·rw [heap_setCell_same w1 wb 0 _ _ (.int .i64 (l.length+m)) hw,List.length_append,hlen];rfl
 ·rw [Below.heap_setCell _ _ _ _ (by show sb≠wb;omega)];exact hs.blk
 ·
  refine own_move hs.own fun k hk=>?_;have hk':g=k:=by simpa [Value.ownBlock] using hk
  rw [Below.heap_setCell _ _ _ _ (by show k≠wb;omega)]
 ·have:=hm.size;simp;omega
 ·exact (hm.more fun k hk=>List.mem_cons_of_mem _ hk).set (.inl (by simp)) _
 ·
  intro k hk;have hk':k=g:=by simpa [ob,Value.ownBlock] using hk
  rw [hk'];exact hg
set_option maxHeartbeats 4000000 in
theorem wwrite_calls (w:World) (wb sb base:Nat) (v:Value) (l:List Int) (n:Int) (A:Option Addr) (m c:Nat) (data:List Int) (h:Wtr w wb sb base v l n) (hd:Kd.C (Kd.int .u8) w A m data) (hm:m≤1000000) (hmc:m≤c) (hl:l.length≤100000000): Calls Tryz.prog 56 #[.pointer (some ⟨wb,0,none⟩),.slice A m c] w fun e w'=>e=.returned (.int .i64 0)∧Wrote w w' wb sb base v (l++data):=by
 have hlen:=Kd.C_len hd;obtain ⟨c0,c1,c2,f0⟩:=h.cells;rcases Nat.eq_zero_or_pos m with h0 | h0
 ·
  have T:Hid (Wrote w w wb sb base v (l++data)):=hid (by
   have e:data=[]:=List.eq_nil_of_length_eq_zero (by omega);rw [e,List.append_nil];exact ⟨v,n,h,Mo.refl _ _,fun k hk=>.inl hk⟩)
  subst h0;clear h hd hlen;go_enter Tryz.func56,Tryz.ntmps56
  go_wp2_with fail
  refine wp_loop_rounds 1 ?_;rw [rounds_succ]
  go_wp2_with fail
  go_ret;exact ⟨rfl,T.out⟩
 ·
  have WC:=hid (write_calls w sb base v l n A m c data h.snk (by have:=h.ord;omega) h.ord.2.2 hd h0 hm hmc hl);have OF:=hid (fun w1 g cap hs hm hg=>Wrote.of (w1:=w1) (g:=g) (cap:=cap) h hs hlen hm hg);obtain ⟨A1,k1,hs2,_,_⟩:=ZSource.from_run A m c m (Nat.le_refl _);rw [Nat.sub_self] at hs2;have h0z:(0:Int) < (m:Int):=by omega
  clear h hd hlen;go_enter Tryz.func56,Tryz.ntmps56
  go_wp2_with fail
  refine wp_loop_rounds 2 ?_;rw [rounds_succ]
  go_wp2_with fail
  refine WC.out.mono ?_;rintro e w1 ⟨rfl,g,cap,hs,hm1,hg⟩;obtain ⟨T,d0,g0⟩:=OF.out w1 g cap hs hm1 hg;have T:=hid T;clear hs hm1 hg c0 c1 c2 f0
  go_wp2_with fail
  all_goals
   rw [rounds_succ]
   go_wp2_with fail
   go_ret;exact ⟨rfl,T.out⟩
def pad5 (n:Nat):Nat:=(512 - n % 512) % 512
theorem neg_mask (n:Nat) (hn:n≤1000000000):Go.bits .and .i64 (-(n:Int)) 511=((pad5 n:Nat):Int):=by
 have e1:(BitVec.ofInt 64 511).toNat=2 ^ 9 - 1:=by decide
 have e2:(BitVec.ofInt 64 (-(n:Int))).toNat=((-(n:Int)) % 18446744073709551616).toNat:=by rw [BitVec.toNat_ofInt];rfl
 have e3:(BitVec.ofInt 64 (-(n:Int)) &&& BitVec.ofInt 64 511).toNat=pad5 n:=by rw [BitVec.toNat_and,e1,e2,Nat.and_two_pow_sub_one_eq_mod];unfold pad5;omega
 have e4:Go.bits .and .i64 (-(n:Int)) 511=IntKind.i64.wrap ((BitVec.ofInt 64 (-(n:Int)) &&& BitVec.ofInt 64 511).toNat:Int):=rfl;rw [e4,e3,IntKind.wrap_i64];unfold pad5;omega
set_option maxHeartbeats 2000000 in
theorem pad_calls (w:World) (wb sb base:Nat) (v:Value) (l:List Int) (n:Int) (h:Wtr w wb sb base v l n) (hl:l.length≤100000000): Calls Tryz.prog 97 #[.pointer (some ⟨wb,0,none⟩)] w fun e w'=>e=.returned (.int .i64 0)∧Wrote w w' wb sb base v (l++List.replicate (pad5 l.length) 0):=by
 obtain ⟨c0,c1,c2,f0⟩:=h.cells;have hm:=neg_mask l.length (by omega);have hp:pad5 l.length < 512:=by unfold pad5;omega
 have MK:=ZOctal.make_bytes (pad5 l.length) (by omega);have hz:=ZOctal.own_zeros w (pad5 l.length) (by omega);have b1:=below_alloc (Below.refl w.heap.size w) (.cells (madeCells #[.int .u8 0] (pad5 l.length)) 5);have WC:=hid (wwrite_calls _ wb sb base v l n _ _ _ _ (h.below b1) hz.reads (by omega) (Nat.le_refl _) hl);have FIN:=hid (fun w2 l2 (hw:Wrote (w.alloc (.cells (madeCells #[.int .u8 0] (pad5 l.length)) 5)) w2 wb sb base v l2)=>(show Wrote w w2 wb sb base v l2 from by
  obtain ⟨v',n',h1,h2,h3⟩:=hw;refine ⟨v',n',h1,(Mo.of_below b1).trans h2,fun k hk=>?_⟩;rcases h3 k hk with h4 | h4
  ·exact .inl h4
  ·simp at h4;exact .inr (by omega)))
 obtain ⟨pd,hpd⟩:∃ x,pad5 l.length=x:=⟨_,rfl⟩;rw [hpd] at hm hp MK WC FIN ⊢;clear h hz b1 hpd;go_enter Tryz.func97,Tryz.ntmps97
 go_wp2_with fail
 refine WC.out.mono ?_;rintro e w2 ⟨rfl,hw⟩;have T:=hid (FIN.out _ _ hw);clear hw
 go_wp2_with fail
 go_ret;exact ⟨rfl,T.out⟩
set_option maxHeartbeats 2000000 in
theorem zeros_calls (w:World) (wb sb base:Nat) (v:Value) (l:List Int) (n:Int) (h:Wtr w wb sb base v l n) (hl:l.length≤100000000): Calls Tryz.prog 60 #[.pointer (some ⟨wb,0,none⟩),.int .i64 2] w fun e w'=>e=.returned (.int .i64 0)∧Wrote w w' wb sb base v (l++List.replicate 1024 0):=by
 have MK:∀ W:World,(Instr.makeSlice 30 (.int .i64 1024) (.int .i64 1024)).run Tryz.prog W=.ok (.slice (some ⟨W.heap.size,0,none⟩) 1024 1024) (W.alloc (.cells (madeCells #[.int .u8 0] 1024) 5)):=ZOctal.make_bytes 1024 (by omega);have hz:=ZOctal.own_zeros w 1024 (by omega);have b1:=below_alloc (Below.refl w.heap.size w) (.cells (madeCells #[.int .u8 0] 1024) 5);have WC:=hid (wwrite_calls _ wb sb base v l n _ _ _ _ (h.below b1) hz.reads (by omega) (Nat.le_refl _) hl);have FIN:=hid (fun w2 l2 (hw:Wrote (w.alloc (.cells (madeCells #[.int .u8 0] 1024) 5)) w2 wb sb base v l2)=>(show Wrote w w2 wb sb base v l2 from by
  obtain ⟨v',n',h1,h2,h3⟩:=hw;refine ⟨v',n',h1,(Mo.of_below b1).trans h2,fun k hk=>?_⟩;rcases h3 k hk with h4 | h4
  ·exact .inl h4
  ·simp at h4;exact .inr (by omega)))
 obtain ⟨mc,hmc⟩:∃ x,madeCells #[.int .u8 0] 1024=x:=⟨_,rfl⟩;rw [hmc] at MK WC FIN;obtain ⟨zs,hzs⟩:∃ x,List.replicate 1024 (0:Int)=x:=⟨_,rfl⟩;rw [hzs] at WC ⊢;clear h hz b1 hmc hzs;go_enter Tryz.func60,Tryz.ntmps60
 go_wp2_with fail
 refine WC.out.mono ?_;rintro e w2 ⟨rfl,hw⟩;have T:=hid (FIN.out _ _ hw);clear hw
 go_wp2_with fail
 go_ret;exact ⟨rfl,T.out⟩
set_option maxHeartbeats 2000000 in
theorem payload_calls (w:World) (wb sb base:Nat) (v:Value) (l:List Int) (n:Int) (A:Option Addr) (m c:Nat) (data:List Int) (h:Wtr w wb sb base v l n) (hd:Kd.C (Kd.int .u8) w A m data) (hm:m≤1000000) (hmc:m≤c) (hl:l.length≤50000000): Calls Tryz.prog 58 #[.pointer (some ⟨wb,0,none⟩),.slice A m c] w fun e w'=>e=.returned (.int .i64 0)∧Wrote w w' wb sb base v (l++(data++List.replicate (pad5 (l.length+data.length)) 0)):=by
 have hlen:=Kd.C_len hd;have WC:=hid (wwrite_calls w wb sb base v l n A m c data h hd hm hmc (by omega));have H:=hid h;clear h hd;go_enter Tryz.func58,Tryz.ntmps58
 go_wp2_with fail
 refine WC.out.mono ?_;rintro e w2 ⟨rfl,v2,n2,h1,h2,h3⟩;have PC:=hid (pad_calls w2 wb sb base v2 (l++data) n2 h1 (by rw [List.length_append];omega));have T2:=hid (And.intro h2 h3);have bx:((0:Int) != 0)=false:=rfl;clear h1 h2 h3
 go_wp2_with fail
 refine PC.out.mono ?_;rintro e w3 ⟨rfl,v3,n3,h4,h5,h6⟩;have T:Hid (Wrote w w3 wb sb base v (l++(data++List.replicate (pad5 (l.length+data.length)) 0))):=hid (by
  rw [List.length_append,List.append_assoc] at h4;refine ⟨v3,n3,h4,T2.out.1.then_ h5 ?_,fun k hk=>?_⟩
  ·
   intro k hk;rcases List.mem_cons.1 hk with e | hk
   ·exact .inl (by simp [e])
   ·
    rcases List.mem_cons.1 hk with e | hk
    ·exact .inl (by simp [e])
    ·
     rcases T2.out.2 k hk with h7 | h7
     ·exact .inl (by simp [h7])
     ·exact .inr h7
  ·
   rcases h6 k hk with h7 | h7
   ·exact T2.out.2 k h7
   ·exact .inr (Nat.le_trans T2.out.1.size h7))
 clear h4 h5 h6
 go_wp2_with fail
 go_ret;exact ⟨rfl,T.out⟩
set_option maxHeartbeats 1000000 in
theorem bytes_calls (w:World) (sb base:Nat) (v:Value) (l:List Int) (n:Int) (h:Snk w sb base v l n) (hl0:0 < l.length) (hl:l.length≤100000000): Calls Tryz.prog 29 #[.pointer (some ⟨sb,0,none⟩)] w fun e w'=>∃ g cap,e=.returned (.slice (some ⟨g,0,none⟩) l.length cap)∧ZBase.Own w' w.heap.size g cap l.length l∧Below w.heap.size w w':=by
 obtain ⟨c0,c1,c2,c3⟩:=h.cells;obtain ⟨g0,cap0,rfl,ho⟩:=ZFmt.OwnB.own h.own hl0;have CC:=hid (ZSum.clone_calls ⟨g0,0,none⟩ l.length cap0 l w ho.reads hl0 (by omega));clear h ho;go_enter Tryz.func29,Tryz.ntmps29
 go_wp2_with fail
 refine CC.out.mono ?_;rintro e w1 ⟨g,cap,rfl,ho,hb⟩;have T:=hid (And.intro ho hb);clear ho hb
 go_wp2_with fail
 go_ret;exact ⟨g,cap,rfl,T.out.1,T.out.2⟩
end ZSink
end
end Go.Proofs.YteikiojmcipkmaaGreatDoor
