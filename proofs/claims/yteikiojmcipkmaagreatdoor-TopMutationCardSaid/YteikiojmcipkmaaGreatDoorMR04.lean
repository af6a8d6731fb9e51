/- Parts of the proof, gathered by a program: what calls of the functions answer, and what follows in plain lists. Conditions: those that each theorem states. -/
import Derived.Test.YteikiojmcipkmaaGreatDoorMR00
import Derived.Test.YteikiojmcipkmaaGreatDoorMR01
import Derived.Test.YteikiojmcipkmaaGreatDoorMR02
import Derived.Test.YteikiojmcipkmaaGreatDoorProg
import Derived.WalkSpells
import Derived.WalkLawsBesides
import Derived.Lib.Hide
import Derived.Laws.CopyOwn
import Derived.Test.YteikiojmcipkmaaGreatDoorMR03
set_option linter.unusedVariables false
set_option linter.unusedSimpArgs false
namespace Go.Proofs.YteikiojmcipkmaaGreatDoor
open Go.Lib (hid)
open Go.RowKit YteikiojmcipkmaaGreatDoorW.PrintWords YteikiojmcipkmaaGreatDoorW.PrintLast YteikiojmcipkmaaGreatDoorW.PrintMore Oct
set_option maxRecDepth 100000
section
namespace ZBase
structure Own (w:World) (base g cap n:Nat) (l:List Int):Prop where
 row:w.ownsRow base 5 1 (.slice (some ⟨g,0,none⟩) n cap) n (nums .u8 l)
section
variable {w w1:World} {base g cap n:Nat} {l:List Int}
theorem Own.le (h:Own w base g cap n l):n≤cap:=by
 rcases h.row.2 with ⟨h',_⟩ | ⟨g',cap',cur,h',_,_,hn,_⟩
 ·cases h'
 ·
  injection h' with _ _ h3
  omega
theorem Own.reads (h:Own w base g cap n l):Kd.C (Kd.int .u8) w (some ⟨g,0,none⟩) n l:=Kd.C_of_reads (d:=(0:Int)) (h1:=fun _=>rfl) (own_reads' h.row)
theorem Own.from_ (h:Own w base g cap n l):base≤g:=own_base h.row g rfl
theorem Own.lt (h:Own w base g cap n l):g < w.heap.size:=own_lt h.row g rfl
theorem Own.below (h:Own w base g cap n l) (hb:Below w.heap.size w w1):Own w1 base g cap n l:=⟨pw_own_below h.row hb⟩
theorem Own.drewN (h:Own w base g cap n l) (m:Nat):Own (w.drewN m) base g cap n l:=⟨h.row⟩
theorem Own.lower {b:Nat} (h:Own w base g cap n l) (hb:b≤base):Own w b g cap n l:=⟨own_less h.row hb⟩
theorem Own.len (h:Own w base g cap n l):l.length=n:=by have:=h.row.1;simpa [nums] using this
theorem Own.cell (h:Own w base g cap n l) (i:Nat) (hi:i < n):w.cell? ⟨g,i,none⟩=some (.int .u8 (l.getD i 0))∧w.frozen? ⟨g,i,none⟩=false:=by have:=own_at h.row (i:Int) (by omega) (by omega);simpa [rd] using this
theorem Own.set (h:Own w base g cap n l) (i:Nat) (x:Int):Own (w.setCell ⟨g,i,none⟩ (.int .u8 x)) base g cap n (l.set i x):=by have:=(own_store h.row (i:Int) x).1;rw [Int.toNat_natCast] at this;exact ⟨this⟩
theorem Own.far (h:Own w base g cap n l) {p:Addr} (hp:g≠p.block) (u:Value):Own (w.setCell p u) base g cap n l :=
 ⟨own_setCell h.row (by simp [Value.ownBlock];exact fun e=>hp e.symm) u⟩
end
theorem info5:(Tryz.prog.info? 5).map (fun i=>(i.zero,i.size,i.bytes))=some (some (.int .u8 0),1,1):=by kernel_rfl
theorem size5:(Tryz.prog.info? 5).map (·.size)=some 1:=by kernel_rfl
theorem append_new {ops:Array Oper} {rest:List Oper} {o:Oper} {a:Act} {Q:Exit→Act→World→Prop} (W:World) (hgd:o.guard=none) (s x:Operand) (ho:o.op=.call { callee:=.builtin .append,args:=#[s,x],argTypes:=#[30,30] }) (A:Option Addr) (m c:Nat) (ys:List Int) (hs:a.eval s=.slice (some ⟨W.heap.size,0,none⟩) 0 0) (hx:a.eval x=.slice A m c) (HR:Kd.C (Kd.int .u8) W A m ys) (hm:0 < m) (hl:m≤140737488355328) (h:∀ g cap w1,Own w1 W.heap.size g cap m ys→Below W.heap.size W w1→wpList Tryz.prog ops Q rest (a.put o.dst (.slice (some ⟨g,0,none⟩) m cap)) w1) : wpList Tryz.prog ops Q (o :: rest) a (W.alloc (.cells #[] 5)):=by
 refine print_append_row (w0:=W) W.heap.size hgd s x 30 5 .u8 1 ho Tryz.underlying30 info5 (by decide) (.slice (some ⟨W.heap.size,0,none⟩) 0 0) [] ys A m c hs hx
  (own_lit W W.heap.size 5 .u8 [] (Nat.le_refl _) (Nat.zero_le _)) (Kd.reads_of_C (enc:=Value.int .u8) (d:=(0:Int)) (h1:=fun _=>rfl) (Kd.C_alloc HR _)) (below_alloc (Below.refl _ _) _) (by simp) (by simpa using hl) ?_
 intro v1 w1 hown hB _ _;have hlen:=Kd.C_len HR;rw [List.nil_append,hlen] at hown;obtain ⟨g,cap,rfl,_,_⟩:=World.ownsRow.form hown hm;exact h g cap w1 ⟨hown⟩ hB
end ZBase
namespace ZOctal
open ZBase
theorem valid_calls (n:Int) (h0:2≤n) (h1:n≤22) (w:World):Calls Tryz.prog 145 #[.int .i64 n] w fun e w'=>e=.returned (.bool true)∧w=w':=by go_enter Tryz.func145,Tryz.ntmps145;go_wp2;go_ret;exact ⟨rfl,rfl⟩
theorem max_at (d:Nat) (hd:d=6∨d=7∨d=11) (w:World):Calls Tryz.prog 179 #[.int .i64 ((d:Int)+1)] w fun e w'=>e=.returned (.int .i64 (8 ^ d - 1))∧w=w':=by
 rcases hd with rfl | rfl | rfl
 all_goals
  go_enter Tryz.func179,Tryz.ntmps179
  go_wp2_with (go_at_call 145;refine (valid_calls _ (by omega) (by omega) _).mono ?_;rintro e w' ⟨rfl,rfl⟩)
  go_ret;exact ⟨by simp,rfl⟩
theorem make_bytes (m:Nat) (hm:m≤281474976710656):∀ W:World,(Instr.makeSlice 30 (.int .i64 (m:Int)) (.int .i64 (m:Int))).run Tryz.prog W=.ok (.slice (some ⟨W.heap.size,0,none⟩) m m) (W.alloc (.cells (madeCells #[.int .u8 0] m) 5)) :=
 print_make 30 5 .u8 1 Tryz.underlying30 info5 (by decide) m (by omega)
theorem own_zeros (W:World) (m:Nat) (hm:m≤281474976710656):Own (W.alloc (.cells (madeCells #[.int .u8 0] m) 5)) W.heap.size W.heap.size m m (List.replicate m 0) :=
 ⟨own_made W W.heap.size 5 .u8 m (Nat.le_refl _) (by omega)⟩
structure At (d:Nat) (n:Int) (i:Nat) (m:Int) (t:List Int):Prop where
 len:t.length=i+1
 eq:digs (d - i) m++t=fld d n
 low:0≤m
 high:m < 8 ^ (d - i)
theorem At.start {d:Nat} {n:Int} (h0:0≤n) (h1:n < 8 ^ d):At d n 0 n [0]:=⟨rfl,rfl,h0,h1⟩
theorem At.next {d i:Nat} {n m:Int} {t:List Int} (h:At d n i m t) (hi:i < d):At d n (i+1) (m / 8) ((48+m % 8) :: t):=by
 obtain ⟨r,hr⟩:∃ r,d - i=r+1:=⟨d - i - 1,by omega⟩;have e:d - (i+1)=r:=by omega
 have h1:=h.eq;have h2:=h.high;rw [hr] at h1 h2;have h8:(8:Int) ^ (r+1)=8 ^ r * 8:=Int.pow_succ _ _;have:=h.low;refine ⟨by simp [h.len],?_,by omega,by rw [e];omega⟩;rw [e,← h1];simp [digs]
theorem At.small {d i:Nat} {n m:Int} {t:List Int} (h:At d n i m t) (hd:d≤20):m < 9223372036854775808:=by have:=h.high;have h1:=pow_le (d - i) (by omega);omega
theorem At.done {d:Nat} {n m:Int} {t:List Int} (h:At d n d m t):t=fld d n:=by have:=h.eq;rw [Nat.sub_self] at this;simpa [digs] using this
theorem row_next (r:Nat) (t:List Int) (x:Int):(List.replicate (r+1) 0++t).set r x=List.replicate r 0++(x :: t):=by rw [List.replicate_succ',List.append_assoc,List.set_append_right _ _ (by simp)];simp
set_option maxHeartbeats 1000000 in
theorem format_calls (d:Nat) (hd:d=6∨d=7∨d=11) (n:Int) (h0:0≤n) (h1:n < 8 ^ d) (w:World): Calls Tryz.prog 156 #[.int .i64 n,.int .i64 ((d:Int)+1)] w fun e w'=>∃ g cap,e=.returned (.tuple #[.slice (some ⟨g,0,none⟩) (d+1) cap,.int .i64 0])∧Own w' w.heap.size g cap (d+1) (fld d n)∧Below w.heap.size w w':=by
 have hd1:2≤d∧d≤20:=by omega
 have VC:=hid (valid_calls ((d:Int)+1) (by omega) (by omega));have MC:=hid (max_at d hd);have hmk:=make_bytes (d+1) (by omega);have hn1:¬ n < 0:=by omega
 have hn2:¬ (8:Int) ^ d - 1 < n:=by omega
 have hcast:((d+1:Nat):Int)=(d:Int)+1:=by omega
 rw [hcast] at hmk;have OW:=hid (own_zeros w (d+1) (by omega));have A0:=hid (At.start h0 h1);have q0:=hid (below_alloc (Below.refl w.heap.size w) (.cells (madeCells #[.int .u8 0] (d+1)) 5));clear h0 h1 hd hcast;go_enter Tryz.func156,Tryz.ntmps156
 go_wp2_with (first | (go_at_call 145;refine (VC.out _).mono ?_;rintro e w' ⟨rfl,rfl⟩) | (go_at_call 179;refine (MC.out _).mono ?_;rintro e w' ⟨rfl,rfl⟩))
 go_loopw [0,25] (fun nn i wr=>∃ (k:Nat) (m:Int) (t:List Int),k≤d∧i=.int .i64 k∧nn=.int .i64 m∧At d n k m t∧Own wr w.heap.size w.heap.size (d+1) (d+1) (List.replicate (d - k) 0++t)∧Below w.heap.size w wr) (fun _ i _=>d - (intOf i).toNat)
 case atStart=>exact ⟨0,n,[0],Nat.zero_le _,rfl,rfl,A0.out,by have:=OW.out;rwa [List.replicate_succ'] at this,q0.out⟩
 case round =>
  clear A0 OW q0;obtain ⟨k,m,t,hk,rfl,rfl,hA,ho,hbe⟩:=hrel;by_cases hlt:k < d
  ·
   obtain ⟨r,hr⟩:∃ r,d - k=r+1:=⟨d - k - 1,by omega⟩;have hri:(d:Int)+1 - 2 - k=(r:Int):=by omega
   obtain ⟨hc1,hc2⟩:=ho.cell r (by omega);have hsm:=hA.small (by omega);have hlo:=hA.low;have h7:=and7 m hlo hsm;have T:=hid (And.intro (hA.next hlt) (And.intro (ho.set r (48+m % 8)) (hbe.setCell (p:=⟨w.heap.size,r,none⟩) (Nat.le_refl _) (.int .u8 (48+m % 8)))));clear hA ho hbe;go_wp2;have e2:d - (k+1)=r:=by omega
   refine ⟨⟨k+1,m / 8,(48+m % 8) :: t,by omega,by go_num,rfl,T.out.1,?_,T.out.2.2⟩,by simp [intOf];omega⟩;have:=T.out.2.1;rw [hr,row_next] at this;rw [e2];exact this
  ·
   obtain rfl:k=d:=by omega
   have ht:=hA.done;subst ht;rw [Nat.sub_self] at ho;have T:=hid (And.intro ho hbe);clear hA ho hbe hlt;go_wp2
   go_ret2
   exact ⟨_,_,rfl,T.out.1,T.out.2⟩
end ZOctal
namespace ZSealed
open ZBase ZOctal ZSumPlain
def cellsOf (l:List Int):Array Value:=(nums .u8 l).toArray
def setN (l:List Int) (k:Nat):List Int:=l.take 148++(List.replicate (k - 148) 32++l.drop k)
theorem setN_start (l:List Int):setN l 148=l:=by simp [setN]
theorem setN_next (l:List Int) (k:Nat) (h0:148≤k) (h1:k < l.length):(setN l k).set k 32=setN l (k+1):=by
 unfold setN;have e:k+1 - 148=(k - 148)+1:=by omega
 rw [List.drop_eq_getElem_cons h1,List.set_append_right _ _ (by simp;omega),List.set_append_right _ _ (by simp;omega),e,List.replicate_succ'];have e2:k - (List.take 148 l).length - (List.replicate (k - 148) (32:Int)).length=0:=by simp;omega
 rw [e2,List.set_cons_zero];simp
theorem setN_len (l:List Int) (k:Nat) (h0:148≤k) (h1:k≤l.length):(setN l k).length=l.length:=by simp [setN];omega
theorem cellsOf_get (l:List Int) (k:Nat) (h:k < l.length):(cellsOf l)[k]?=some (.int .u8 (l.getD k 0)):=by simp [cellsOf,nums,List.getD_eq_getElem?_getD,List.getElem?_eq_getElem h]
theorem cellsOf_set (l:List Int) (k:Nat) (x:Int):(cellsOf l).setIfInBounds k (.int .u8 x)=cellsOf (l.set k x):=by simp [cellsOf,nums,List.map_set]
structure St (w wr:World) (m:List Int):Prop where
 below:Below w.heap.size w wr
 blk:wr.heap[w.heap.size]?=some (.cells (cellsOf m) 233 (0,0))
 res:wr.heap[w.heap.size+1]?=some (.cells (cellsOf (List.replicate 512 0)) 233 (0,0))
theorem St.start (w:World) (l:List Int):St w ((w.alloc (.cells (cellsOf l) 233)).alloc (.cells (cellsOf (List.replicate 512 0)) 233)) l :=
 ⟨((Below.refl _ _).alloc (Nat.le_refl _) _).alloc (by simp) _,heap_alloc2_old _ _ _,heap_alloc2_new _ _ _⟩
theorem St.cell {w wr:World} {m:List Int} (h:St w wr m) (k:Nat) (hk:k < m.length):wr.cell? ⟨w.heap.size,k,none⟩=some (.int .u8 (m.getD k 0))∧wr.frozen? ⟨w.heap.size,k,none⟩=false:=by rw [blk_cell h.blk,cellsOf_get m k hk];exact ⟨rfl,blk_frozen h.blk k⟩
theorem St.set {w wr:World} {m:List Int} (h:St w wr m) (k:Nat) (x:Int):St w (wr.setCell ⟨w.heap.size,k,none⟩ (.int .u8 x)) (m.set k x) :=
 ⟨h.below.setCell (Nat.le_refl _) _,by rw [blk_set h.blk,cellsOf_set],blk_far h.res (by simp) _⟩
theorem St.step {w wr w2:World} {m:List Int} (h:St w wr m) (hb:Below wr.heap.size wr w2):St w w2 m:=by have h1:=blk_lt h.blk;have h2:=blk_lt h.res;exact ⟨below_then h.below h.below.size hb,(hb.block _ h1).trans h.blk,(hb.block _ h2).trans h.res⟩
theorem cells_splice (F s:List Int) (k n:Nat) (hs:s.length=n):((cellsOf F).toList.take k++(nums .u8 s++(cellsOf F).toList.drop (k+(nums .u8 s).length))).toArray=cellsOf (F.take k++(s++F.drop (k+n))):=by subst hs;simp [cellsOf,nums]
theorem St.row {w wr:World} {m:List Int} (h:St w wr m) (m2:List Int):St w (wr.setRow w.heap.size (cellsOf m2)) m2 :=
 ⟨h.below.trans ⟨rfl,rfl,rfl,by simp,fun k hk=>setRow_other wr w.heap.size k _ (by omega)⟩,setRow_heap wr _ _ _ _ _ h.blk,(setRow_other wr w.heap.size _ _ (by omega)).trans h.res⟩
theorem read_cells {W:World} {A:Option Addr} {n:Nat} {xs:List Int} (h:Kd.C (Kd.int .u8) W A n xs) (hn:0 < n):∃ ad,A=some ad∧∀ (j:Nat) (v:Value),(nums .u8 xs)[j]?=some v→W.cell? (ad.add j)=some v:=by
 obtain ⟨ad,rfl,_⟩:=Kd.at_int h 0 (by omega) (by omega);have hl:=Kd.C_len h;refine ⟨ad,rfl,fun j v hv=>?_⟩;have hj:j < xs.length:=by have:=(List.getElem?_eq_some_iff.1 hv).1;simpa [nums] using this
 obtain ⟨ad',e,hc⟩:=Kd.at_int h (j:Int) (by omega) (by omega);injection e with e
 subst e;rw [Int.toNat_natCast] at hc;rw [hc];simp [nums,List.getElem?_eq_getElem hj] at hv;rw [← hv];simp [rd,List.getD_eq_getElem?_getD,List.getElem?_eq_getElem hj]
theorem nums_one (xs:List Int):∀ v∈nums .u8 xs,v.oneCell'=true:=by intro v hv;simp only [nums,List.mem_map] at hv;obtain ⟨q,_,rfl⟩:=hv;rfl
theorem wpList_store_row {P:Program} {ops:Array Oper} {rest:List Oper} {o:Oper} {a:Act} {w:World} {Q:Exit→Act→World→Prop} (hgd:o.guard=none) (ty:TypeId) (x y:Operand) (ho:o.op=.store ty x y) (g:Nat) (cells:Array Value) (hx:a.eval x=.pointer (some ⟨g,0,none⟩)) (hy:a.eval y=.agg cells) (t:TypeId) (old:Array Value) (hg:w.heap[g]?=some (.cells old t (0,0))) (hi:(P.info? ty).map (·.size)=some cells.size) (hold:old.size=cells.size) (h1:cells.all (·.oneCell')=true) (h:wpList P ops Q rest (a.put o.dst undef) (w.setRow g cells)):wpList P ops Q (o :: rest) a w :=
 wpList_plain hgd fun _ hK=>wp_store_row ty x y ho g cells hx hy t old hg hi hold h1 (hK _ _ h)
theorem St.result {w wr:World} {m:List Int} (h:St w wr m) (m2:List Int):Below w.heap.size w (wr.setRow (w.heap.size+1) (cellsOf m2))∧(wr.setRow (w.heap.size+1) (cellsOf m2)).heap[w.heap.size+1]?=some (.cells (cellsOf m2) 233 (0,0)) :=
 ⟨h.below.trans ⟨rfl,rfl,rfl,by simp,fun k hk=>setRow_other wr (w.heap.size+1) k _ (by omega)⟩,setRow_heap wr _ _ _ _ _ h.res⟩
theorem seal_of (l F:List Int) (h:F=fill l) (hl:l.length=512):F.take 148++(fld 6 (sumL l)++F.drop (148+7))=sealL l:=by
 subst h;have e1:(fill l).take 148=l.take 148:=by unfold fill;rw [List.take_left' (by simp [hl])]
 have e2:(fill l).drop (148+7)=32 :: l.drop 156:=by
  have e3:fill l=(l.take 148++List.replicate 7 32)++(32 :: l.drop 156):=by unfold fill;rw [List.replicate_succ' (n:=7)];simp
  rw [e3,List.drop_left' (by simp [hl])]
 rw [e1,e2];unfold sealL field;simp
theorem cellsOf_size (l:List Int):(cellsOf l).size=l.length:=by simp [cellsOf,nums]
theorem cellsOf_one (l:List Int):∀ u∈cellsOf l,u.oneCell'=true:=by intro u hu;simp only [cellsOf,nums,List.mem_toArray,List.mem_map] at hu;obtain ⟨x,_,rfl⟩:=hu;rfl
theorem info233 (m:List Int) (hm:m.length=512):(Tryz.prog.info? 233).map (·.size)=some (cellsOf m).size:=by rw [cellsOf_size,hm];kernel_rfl
theorem run_index_cells (m:List Int) (hm:m.length=512) (k:Nat) (hk:k < 512) (w:World):(Instr.index 233 (.agg (cellsOf m)) (.int .i64 (k:Int))).run Tryz.prog w=.ok (.int .u8 (m.getD k 0)) w:=by
 have h5:(Tryz.prog.info? 5).map (·.size)=some 1:=by kernel_rfl
 obtain ⟨i5,hi5,hs5⟩:=Option.map_eq_some_iff.1 h5;have hg:=cellsOf_get m k (by omega);have hag:(isAgg 5).run Tryz.prog w=.ok false w:=by unfold isAgg;rw [Sem.run_bind,run_underlying Tryz.underlying5 w];rfl
 simp [Instr.index,asIntOf,run_underlying Tryz.underlying233,part,hag,sizeOf,typeInfo,hi5,hs5,hg,hk,Result.andThen]
def zeros:List Int:=List.replicate 512 0
theorem zero233 (w:World):(zeroValue 233).run Tryz.prog w=.ok (.agg (cellsOf zeros)) w:=by kernel_rfl
set_option maxHeartbeats 1000000 in
theorem sealed_calls (l:List Int) (hl:l.length=512) (hb:∀ x∈l,0≤x∧x < 256) (w:World): Calls Tryz.prog 157 #[.agg (cellsOf l)] w fun e w'=>e=.returned (.tuple #[.agg (cellsOf (sealL l)),.int .i64 (sumL l)])∧Below w.heap.size w w':=by
 have HL:=hid hl;clear hl;have hz:=zero233;go_enter Tryz.func157,Tryz.ntmps157
 go_wp2_with fail
 go_loopw [4] (fun i wr=>∃ k:Nat,148≤k∧k≤156∧i=.int .i64 k∧St w wr (setN l k)) (fun i _=>156 - (intOf i).toNat)
 case atStart=>exact ⟨148,Nat.le_refl _,by decide,rfl,by rw [setN_start];exact St.start w l⟩
 case round =>
  obtain ⟨k,hk0,hk1,rfl,hS⟩:=hrel;by_cases hlt:k < 156
  ·
   have hlen:k < (setN l k).length:=by have:=HL.out;rw [setN_len l k hk0 (by omega)];omega
   obtain ⟨hc1,hc2⟩:=hS.cell k hlen;have T:=hid (hS.set k 32);rw [setN_next l k hk0 (by have:=HL.out;omega)] at T;clear hS hlen;go_wp2
   go_roundw
   case rel=>exact ⟨k+1,by omega,by omega,by go_num,T.out⟩
   case measure=>simp [intOf];omega
  ·
   obtain rfl:k=156:=by omega
   have HS:=hid hS;have hblk:=hS.blk;clear hS;have hlen:(setN l 156).length=512:=by rw [setN_len l 156 (by omega) (by have:=HL.out;omega)];exact HL.out
   have hi233:=info233 (setN l 156) hlen;have hix:=run_index_cells (setN l 156) hlen;have hbF:Bytes (setN l 156):=fill_bytes l hb;have hst:sumL l=tot (setN l 156):=rfl;have HF:Hid (setN l 156=fill l):=hid rfl;generalize setN l 156=F at *;have HLF:=hid hlen;clear hlen
   go_wp2_with (refine wpList_load_row rfl 233 (.tmp 1) rfl w.heap.size rfl 233 _ (0,0) _ hblk Tryz.underlying233 rfl hi233 ?_)
   go_loop [5,7,17] (fun n _ i=>∃ k:Nat,k≤512∧i=.int .i64 k∧n=.int .i64 (tot (F.take k))) (fun _ _ i=>512 - (intOf i).toNat)
   case atStart=>exact ⟨0,Nat.zero_le _,rfl,rfl⟩
   case round =>
    obtain ⟨k,hk,rfl,rfl⟩:=hrel;by_cases hlt:k < 512
    ·
     have hx:=hix k hlt;have hbk:=hbF.getD k;have htk:=tot_bound _ (hbF.take k);have hmin:(F.take k).length≤512:=by have:=List.length_take_le k F;omega
     have T:=hid (tot_snoc F k (by have:=HLF.out;omega));clear hix;generalize F.getD k 0=c at hx hbk T;generalize tot (F.take k)=s at htk T;go_wp2
     go_round
     case rel=>exact ⟨k+1,by omega,by go_num,by rw [T.out]⟩
     case measure=>simp [intOf];omega
    ·
     obtain rfl:k=512:=by omega
     have hF:F.take 512=F:=by rw [List.take_of_length_le (by have:=HLF.out;omega)]
     rw [hF,← hst];clear hF hix;obtain ⟨hs0,hs1⟩:=sum_small l HL.out hb;have FC:=hid (format_calls 6 (.inl rfl) (sumL l) hs0 hs1);have HST:=hid hst;clear hst hs1
     go_wp2_with fail
     refine (FC.out _).mono ?_;rintro e w2 ⟨g2,c2,rfl,ho2,hb2⟩;have hC2:=hid ho2.reads;have hc2:=ho2.le;have hblk2:=(HS.out.step hb2).blk;obtain ⟨ad,ead,hsrc⟩:=read_cells hC2.out (by decide);injection ead with ead
     subst ead;have hn7:(nums .u8 (fld 6 (sumL l))).length=Nat.min 7 7:=by rw [nums_length,fld_len];rfl
     have hfit:148+(nums .u8 (fld 6 (sumL l))).length≤(cellsOf F).size:=by rw [nums_length,fld_len,cellsOf_size,HLF.out];decide
     have h1c:=nums_one (fld 6 (sumL l));have h5:(Tryz.prog.info? 5).map (·.size)=some 1:=by kernel_rfl
     have hi3:=info233 (sealL l) (seal_len l HL.out);have hold:(cellsOf (List.replicate 512 0)).size=(cellsOf (sealL l)).size:=by rw [cellsOf_size,cellsOf_size,seal_len l HL.out];simp
     have hone:(cellsOf (sealL l)).all (·.oneCell')=true:=Array.all_eq_true_iff_forall_mem.2 (cellsOf_one _)
     go_wp2_with (first | (refine wpList_copy_own rfl (.tmp 30) (.tmp 31) 30 30 rfl 5 Tryz.underlying30 h5 w.heap.size 148 7 364 ⟨g2,0,none⟩ 7 c2 rfl rfl (cellsOf F) 233 hblk2 (nums .u8 (fld 6 (sumL l))) hn7 hsrc hfit h1c ?_;rw [cells_splice F (fld 6 (sumL l)) 148 7 (fld_len 6 _),seal_of l F HF.out HL.out,nums_length,fld_len];generalize hw3:w2.setRow w.heap.size (cellsOf (sealL l))=w3;have HS3:=hid (hw3 ▸ (HS.out.step hb2).row (sealL l));clear hw3;have hblk3:=HS3.out.blk;have hres3:=HS3.out.res;simp only [Act.put,List.setIfInBounds_toArray,List.set_cons_succ,List.set_cons_zero,goInt]) | (refine wpList_load_row rfl 233 (.tmp 1) rfl w.heap.size rfl 233 _ (0,0) _ hblk3 Tryz.underlying233 rfl hi3 ?_) | (refine wpList_store_row rfl 233 (.tmp 2) (.tmp 33) rfl (w.heap.size+1) (cellsOf (sealL l)) rfl rfl 233 _ hres3 hi3 hold hone ?_))
     refine bodyPost_ret (v:=.tuple #[.agg (cellsOf (sealL l)),.int .i64 (sumL l)]) ?_ rfl ⟨rfl,(HS3.out.result (sealL l)).1⟩;rw [results_cell_tmp Tryz.results157];simp [asAddr,run_loadVar_row _ (w.heap.size+1) 233 233 (cellsOf (sealL l)) (0,0) _ (HS3.out.result (sealL l)).2 Tryz.underlying233 rfl hi3,Result.andThen]
end ZSealed
namespace ZSum
open ZBase ZOctal ZSumPlain ZSealed
theorem append_bytes {ops:Array Oper} {rest:List Oper} {o:Oper} {a:Act} {Q:Exit→Act→World→Prop} {w0 W:World} (base:Nat) (hgd:o.guard=none) (s x:Operand) (ho:o.op=.call { callee:=.builtin .append,args:=#[s,x],argTypes:=#[30,30] }) (v:Value) (xs:List Int) (A:Option Addr) (m c:Nat) (ys:List Int) (hs:a.eval s=v) (hx:a.eval x=.slice A m c) (HO:W.ownsRow base 5 1 v xs.length (nums .u8 xs)) (HR:Kd.C (Kd.int .u8) W A m ys) (HB:Below base w0 W) (hbase:base≤W.heap.size) (hl:xs.length+m≤140737488355328) (h:∀ v1 w1,w1.ownsRow base 5 1 v1 (xs.length+m) (nums .u8 (xs++ys))→Below base w0 w1→W.grownBy w1 v.ownBlock→(v1.ownBlock=v.ownBlock∨∃ b,v1.ownBlock=some b∧W.heap.size≤b)→wpList Tryz.prog ops Q rest (a.put o.dst v1) w1) : wpList Tryz.prog ops Q (o :: rest) a W:=by
 have hm:=Kd.C_len HR;refine print_append_row (w0:=w0) base hgd s x 30 5 .u8 1 ho Tryz.underlying30 info5 (by decide) v xs ys A m c hs hx HO (Kd.reads_of_C (enc:=Value.int .u8) (d:=(0:Int)) (h1:=fun _=>rfl) HR) HB hbase (by simpa using hl) ?_;intro v1 w1 h1 h2 h3 h4;rw [List.length_append,hm] at h1;exact h v1 w1 h1 h2 h3 h4
theorem own_empty (w:World):(w.alloc (.cells #[] 5)).ownsRow w.heap.size 5 1 (.slice (some ⟨w.heap.size,0,none⟩) 0 0) ([]:List Int).length (nums .u8 []) :=
 own_lit w w.heap.size 5 .u8 [] (Nat.le_refl _) (Nat.zero_le _)
set_option maxHeartbeats 1000000 in
theorem clone_row (A:Option Addr) (n c:Nat) (l:List Int) (w:World) (hr:Kd.C (Kd.int .u8) w A n l) (hm:n≤140737488355328): Calls Tryz.prog 25 #[.slice A n c] w fun e w'=>∃ v,e=.returned v∧w'.ownsRow w.heap.size 5 1 v n (nums .u8 l)∧Below w.heap.size w w':=by
 cases A with
 | none =>
  have h0:n=0:=by
   rcases Nat.eq_zero_or_pos n with h | h
   ·exact h
   ·obtain ⟨ad,h',_⟩:=hr.2.2 h;cases h'
  subst h0;obtain rfl:l=[]:=List.eq_nil_of_length_eq_zero (Kd.C_len hr);have hq:=fun W:World=>Lib.run_eql_slice_nil (P:=Tryz.prog) W 30 5 none 0 c 0 0 Tryz.underlying30;go_enter Tryz.func25,Tryz.ntmps25;go_wp2;go_ret;exact ⟨_,rfl,own_nil _ _ _ _,Below.refl _ _⟩
 | some ad =>
  have hq:=fun W:World=>Lib.run_eql_slice_nil (P:=Tryz.prog) W 30 5 (some ad) n c 0 0 Tryz.underlying30;have hl:([]:List Int).length+n≤140737488355328:=by simpa using hm
  go_enter Tryz.func25,Tryz.ntmps25
  go_wp2_with (at_builtin;refine append_bytes (w0:=w) w.heap.size rfl (.tmp 5) (.tmp 6) rfl (.slice (some ⟨w.heap.size,0,none⟩) 0 0) [] (some ad) n c l rfl rfl (own_empty w) (Kd.C_alloc hr _) (below_alloc (Below.refl _ _) _) (below_alloc (Below.refl _ _) _).size hl ?_;intro v1 w1 ho hb _ _)
  go_ret;exact ⟨v1,rfl,by simpa using ho,hb⟩
theorem clone_calls (ad:Addr) (n c:Nat) (l:List Int) (w:World) (hr:Kd.C (Kd.int .u8) w (some ad) n l) (hn:0 < n) (hm:n≤140737488355328): Calls Tryz.prog 25 #[.slice (some ad) n c] w fun e w'=>∃ g cap,e=.returned (.slice (some ⟨g,0,none⟩) n cap)∧Own w' w.heap.size g cap n l∧Below w.heap.size w w':=by
 refine (clone_row (some ad) n c l w hr hm).mono ?_;rintro e w1 ⟨v,rfl,ho,hb⟩;obtain ⟨g,cap,rfl,_,_⟩:=World.ownsRow.form ho hn;exact ⟨g,cap,rfl,⟨ho⟩,hb⟩
set_option maxHeartbeats 1000000 in
theorem equal_calls (A0 A1:Option Addr) (n m c0 c1:Nat) (l k:List Int) (w:World) (h0:Kd.C (Kd.int .u8) w A0 n l) (h1:Kd.C (Kd.int .u8) w A1 m k): Calls Tryz.prog 61 #[.slice A0 n c0,.slice A1 m c1] w fun e w'=>e=.returned (.bool (decide (l=k)))∧Drawn0 w w':=by
 have e0:=Kd.C_len h0;have e1:=Kd.C_len h1;have m0:=Kd.C_max h0;have m1:=Kd.C_max h1;by_cases hnm:n=m
 ·
  subst hnm;have H0:=hid h0;have H1:=hid h1;have E0:=hid e0;have E1:=hid e1;clear h0 h1 e0 e1;go_enter Tryz.func61,Tryz.ntmps61;go_wp2
  go_loopw [13] (fun i wr=>∃ k0:Nat,k0≤n∧i=.int .i64 k0∧(∀ j,j < k0→l.getD j 0=k.getD j 0)∧Drawn0 w wr) (fun i _=>n - (intOf i).toNat)
  case atStart=>exact ⟨0,Nat.zero_le _,rfl,fun j hj=>absurd hj (Nat.not_lt_zero j),Drawn0.refl _⟩
  case round =>
   obtain ⟨k0,hk,rfl,he,hb⟩:=hrel;by_cases hlt:k0 < n
   ·
    obtain ⟨a0,rfl,x0⟩:=Kd.at_int (Kd.C_below H0.out hb.below) (k0:Int) (by omega) (by omega);obtain ⟨a1,rfl,x1⟩:=Kd.at_int (Kd.C_below H1.out hb.below) (k0:Int) (by omega) (by omega);have r0:rd l (k0:Int)=l.getD k0 0:=by simp [rd]
    have r1:rd k (k0:Int)=k.getD k0 0:=by simp [rd]
    rw [Int.toNat_natCast,r0] at x0;rw [Int.toNat_natCast,r1] at x1;have HE:=hid he;have HB:=hid hb;clear he hb r0 r1;by_cases hx:l.getD k0 0=k.getD k0 0
    ·
     have HX:Hid (∀ j,j < k0+1→l.getD j 0=k.getD j 0):=hid (fun j hj=>by
      by_cases hj2:j=k0
      ·subst hj2;exact hx
      ·exact HE.out j (by omega))
     rw [hx] at x0;clear hx;generalize k.getD k0 0=x at x0 x1;go_wp2
     repeat (go_quiet (fail);try go_wp2)
     go_roundw
     case rel=>exact ⟨k0+1,by omega,by go_num,HX.out,by first | exact HB.out | exact HB.out.step _⟩
     case measure=>simp [intOf];omega
    ·
     have D:Hid (decide (l=k)=false):=hid (by simp;intro e;exact hx (by rw [e]));generalize k.getD k0 0=y at x1 hx;generalize l.getD k0 0=x at x0 hx;have hxy:(x != y)=true:=by simpa using hx
     go_wp2
     repeat (go_quiet (fail);try go_wp2)
     go_ret;exact ⟨by rw [D.out];rfl,by first | exact HB.out | exact HB.out.step _⟩
   ·
    have D:Hid (decide (l=k)=true):=hid (by
     have h1:=E0.out;have h2:=E1.out;simp only [decide_eq_true_eq];apply List.ext_getElem (by omega);intro j h3 h4;have:=he j (by omega);simpa [List.getD_eq_getElem?_getD,List.getElem?_eq_getElem h3,List.getElem?_eq_getElem h4] using this)
    clear he;go_wp2;go_ret;exact ⟨by rw [D.out];rfl,hb⟩
 ·
  have hd:decide (l=k)=false:=by simp;intro e;exact hnm (by rw [← e0,← e1,e])
  have hn:((n:Int) != (m:Int))=true:=by simp;omega
  rw [hd];clear e0 e1;go_enter Tryz.func61,Tryz.ntmps61;go_wp2;go_ret;exact ⟨rfl,Drawn0.refl _⟩
theorem wpList_load_cells {ops:Array Oper} {rest:List Oper} {o:Oper} {a:Act} {w:World} {Q:Exit→Act→World→Prop} (hgd:o.guard=none) (x:Operand) (ho:o.op=.load 233 x) (ad:Addr) (l:List Int) (hx:a.eval x=.pointer (some ad)) (hr:Kd.C (Kd.int .u8) w (some ad) 512 l) (h:wpList Tryz.prog ops Q rest (a.put o.dst (.agg (cellsOf l))) w):wpList Tryz.prog ops Q (o :: rest) a w:=by
 have hlen:=Kd.C_len hr;obtain ⟨ad',e,hc⟩:=read_cells hr (by decide);injection e with e
 subst e;have hl:(loadCells ad 512).run Tryz.prog w=.ok (cellsOf l) w:=by have:=run_loadCells_list (P:=Tryz.prog) w ad (nums .u8 l) (fun j v hj=>hc j v hj);rw [nums_length,hlen] at this;exact this
 obtain ⟨i233,hi,hs⟩:=Option.map_eq_some_iff.1 (info233 l hlen);rw [cellsOf_size,hlen] at hs;have hagg:(isAgg 233).run Tryz.prog w=.ok true w:=by unfold isAgg;rw [Sem.run_bind,run_underlying Tryz.underlying233 w];rfl
 have hlv:(loadVar 233 ad).run Tryz.prog w=.ok (.agg (cellsOf l)) w:=by simp [loadVar,Sem.run_bind,hagg,sizeOf,typeInfo,hi,hs,hl]
 refine wpList_plain hgd fun K hK=>?_;unfold Oper.wp execOp;simp only [ho,hx,Instr.loadAt,Instr.sureAddr,Sem.run_bind,Sem.run_pure,Result.andThen_ok,hlv];exact hK _ _ h
theorem run_array (ad:Addr) (c:Nat) (W:World):(Instr.arrayAt 233 (.slice (some ad) 512 c)).run Tryz.prog W=.ok (.pointer (some ad)) W:=by simp [Instr.arrayAt,run_underlying Tryz.underlying233]
theorem below_var {w w1:World} (hb:Below w.heap.size w w1) (o:Obj) (cs:Array Value):Below w.heap.size w ((w1.alloc o).setRow w1.heap.size cs) :=
 (hb.alloc hb.size o).trans ⟨rfl,rfl,rfl,by simp,fun k hk=>setRow_other _ _ _ _ (by have:=hb.size;omega)⟩
theorem var_cells (w1:World) (m:List Int) (cs:Array Value):((w1.alloc (.cells cs 233)).setRow w1.heap.size (cellsOf m)).heap[w1.heap.size]?=some (.cells (cellsOf m) 233 (0,0)) :=
 setRow_heap _ _ _ _ _ _ (heap_alloc_new _ _)
theorem block_reads {W:World} {g:Nat} {m:List Int} {t:TypeId} (h:W.heap[g]?=some (.cells (cellsOf m) t (0,0))) (hm:m.length≤9223372036854775807):Kd.C (Kd.int .u8) W (some ⟨g,0,none⟩) m.length m:=by refine Kd.C_of_reads (enc:=Value.int .u8) (d:=(0:Int)) (h1:=fun _=>rfl) ⟨rfl,hm,fun _=>⟨_,rfl,fun j hj=>?_⟩⟩;rw [add_plain,blk_cell h,cellsOf_get m j hj]
theorem zeros_size (l:List Int) (h:l.length=512):(cellsOf zeros).size=(cellsOf l).size:=by rw [cellsOf_size,cellsOf_size,h];unfold zeros;rw [List.length_replicate]
theorem cellsOf_all (l:List Int):(cellsOf l).all (·.oneCell')=true:=Array.all_eq_true_iff_forall_mem.2 (cellsOf_one _)
set_option maxHeartbeats 1000000 in
theorem seal_calls (ad:Addr) (c:Nat) (l:List Int) (w:World) (hr:Kd.C (Kd.int .u8) w (some ad) 512 l) (hb:Bytes l): Calls Tryz.prog 132 #[.slice (some ad) 512 c] w fun e w'=>∃ g cap,e=.returned (.tuple #[.slice (some ⟨g,0,none⟩) 512 cap,.int .i64 0])∧Own w' w.heap.size g cap 512 (sealL l)∧Below w.heap.size w w':=by
 have hlen:=Kd.C_len hr;have hsl:=seal_len l hlen;have S:=hid (sealed_calls l hlen hb);have hz:=zero233;have ha:=run_array ad c;have hi:=info233 (sealL l) hsl;have hold:=zeros_size (sealL l) hsl;have hone:=cellsOf_all (sealL l);have HSL:=hid hsl;clear hlen hsl;go_enter Tryz.func132,Tryz.ntmps132
 go_wp2_with (refine wpList_load_cells rfl (.tmp 11) rfl ad l rfl hr ?_)
 refine (S.out _).mono ?_;rintro e w1 ⟨rfl,hb1⟩
 go_wp2_with (refine wpList_store_row rfl 233 (.tmp 4) (.tmp 14) rfl w1.heap.size (cellsOf (sealL l)) rfl rfl 233 _ (heap_alloc_new _ _) hi hold hone ?_)
 have hv:=var_cells w1 (sealL l) (cellsOf zeros);have hbv:=below_var hb1 (.cells (cellsOf zeros) 233) (cellsOf (sealL l));have hC:=block_reads hv (by rw [HSL.out];decide);rw [HSL.out] at hC;refine (clone_calls _ 512 512 _ _ hC (by decide) (by decide)).mono ?_;rintro e w2 ⟨g,cap,rfl,ho,hb2⟩;go_wp2
 go_ret2
 exact ⟨g,cap,rfl,ho.lower hbv.size,below_step hbv hb2⟩
set_option maxHeartbeats 1000000 in
theorem verify_calls (ad:Addr) (c:Nat) (l:List Int) (w:World) (hr:Kd.C (Kd.int .u8) w (some ad) 512 l) (hb:Bytes l): Calls Tryz.prog 109 #[.slice (some ad) 512 c] w fun e w'=>e=.returned (.int .i64 (vfy l))∧Below w.heap.size w w':=by
 have HR:=Aside0.mk hr;have S:=hid (seal_calls ad c l w hr hb);clear hr hb;go_enter Tryz.func109,Tryz.ntmps109
 go_wp2_with fail
 refine S.out.mono ?_;rintro e w1 ⟨g,cap,rfl,ho,hb1⟩;have E:=hid (equal_calls (some ⟨g,0,none⟩) (some ad) 512 512 cap c (sealL l) l w1 ho.reads (Kd.C_below HR.out hb1));by_cases hv:sealL l=l
 ·
  have V:Hid (vfy l=0):=hid (by unfold vfy;rw [if_pos hv]);have hd:decide (sealL l=l)=true:=by simp [hv]
  rw [hd] at E;clear hv hd
  go_wp2_with fail
  refine E.out.mono ?_;rintro e w2 ⟨rfl,⟨n2,rfl⟩⟩;go_wp2;go_ret;exact ⟨by rw [V.out];rfl,pw_below_drewN hb1 _⟩
 ·
  have V:Hid (vfy l=9):=hid (by unfold vfy;rw [if_neg hv]);have hd:decide (sealL l=l)=false:=by simp [hv]
  rw [hd] at E;clear hv hd
  go_wp2_with fail
  refine E.out.mono ?_;rintro e w2 ⟨rfl,⟨n2,rfl⟩⟩;go_wp2;go_ret;exact ⟨by rw [V.out];rfl,pw_below_drewN hb1 _⟩
end ZSum
namespace ZParse
open ZBase
theorem valid_calls (n:Int) (h0:2≤n) (h1:n≤22) (w:World):Calls Tryz.prog 145 #[.int .i64 n] w fun e w'=>e=.returned (.bool true)∧w=w':=ZOctal.valid_calls n h0 h1 w
theorem low_calls (n:Int) (h:n < 2) (w:World):Calls Tryz.prog 145 #[.int .i64 n] w fun e w'=>e=.returned (.bool false)∧w=w':=by go_enter Tryz.func145,Tryz.ntmps145;go_wp2;go_ret;exact ⟨rfl,rfl⟩
theorem high_calls (n:Int) (h:22 < n) (w:World):Calls Tryz.prog 145 #[.int .i64 n] w fun e w'=>e=.returned (.bool false)∧w=w':=by
 have h1:¬ n≤22:=by omega
 have h2:2≤n:=by omega
 have h3:decide (n≤22)=false:=by simp;omega
 go_enter Tryz.func145,Tryz.ntmps145;go_wp2;go_ret;exact ⟨by simp [h3],rfl⟩
theorem invalid_calls (n:Int) (h:n < 2∨22 < n) (w:World):Calls Tryz.prog 145 #[.int .i64 n] w fun e w'=>e=.returned (.bool false)∧w=w':=by
 rcases h with h | h
 ·exact low_calls n h w
 ·exact high_calls n h w
def told:Option Int→Int×Int
 | some v=>(v,0)
 | none=>(0,6)
structure At (l:List Int) (k:Nat) (m:Int):Prop where
 rest:prs m (l.drop k)=prs 0 l
 low:0≤m
 high:m < 8 ^ k
theorem At.zero (l:List Int):At l 0 0:=⟨rfl,by omega,by simp⟩
theorem At.done {l:List Int} {m:Int} (h:At l l.length m):told (prs 0 l)=(m,0):=by have:=h.rest;rw [List.drop_length] at this;rw [← this];rfl
theorem drop_at (l:List Int) (k:Nat) (h:k < l.length):l.drop k=l.getD k 0 :: l.drop (k+1):=by rw [List.drop_eq_getElem_cons h];simp [List.getD_eq_getElem?_getD,List.getElem?_eq_getElem h]
theorem At.low_sign {l:List Int} {k:Nat} {m:Int} (h:At l k m) (hk:k < l.length) (hc:l.getD k 0 < 48):told (prs 0 l)=(0,6):=by rw [← h.rest,drop_at l k hk];simp only [prs];rw [if_pos hc];rfl
theorem At.high_sign {l:List Int} {k:Nat} {m:Int} (h:At l k m) (hk:k < l.length) (hc:55 < l.getD k 0):told (prs 0 l)=(0,6):=by rw [← h.rest,drop_at l k hk];simp only [prs];rw [if_neg (by omega),if_pos hc];rfl
theorem At.next {l:List Int} {k:Nat} {m:Int} (h:At l k m) (hk:k < l.length) (h0:¬ l.getD k 0 < 48) (h1:¬ 55 < l.getD k 0):At l (k+1) (m * 8+(l.getD k 0 - 48)):=by have h8:(8:Int) ^ (k+1)=8 ^ k * 8:=Int.pow_succ _ _;have:=h.low;have:=h.high;refine ⟨?_,by omega,by omega⟩;rw [← h.rest,drop_at l k hk];simp only [prs];rw [if_neg h0,if_neg h1]
theorem At.small {l:List Int} {k:Nat} {m:Int} (h:At l k m) (hk:k < 21):0≤m∧m * 8+8≤9223372036854775808:=by have h8:(8:Int) ^ (k+1)=8 ^ k * 8:=Int.pow_succ _ _;have:=pow_le (k+1) (by omega);have:=h.low;have:=h.high;omega
def pars (t:List Int) (c:Int):Int×Int:=if c=0 then told (prs 0 t) else (0,6)
set_option maxHeartbeats 1000000 in
theorem parse_loop (x:Addr) (d c0:Nat) (l:List Int) (w:World) (h1:1≤d) (h2:d≤21) (hc:d+1≤c0) (hl:l.length=d) (hcell:∀ i,i < d→w.cell? (x.add i)=some (.int .u8 (l.getD i 0))) (hlast:w.cell? (x.add d)=some (.int .u8 0)) (hb:∀ i,0≤l.getD i 0∧l.getD i 0 < 256): Calls Tryz.prog 113 #[.slice (some x) (d+1) c0] w fun e w'=>e=.returned (.tuple #[.int .i64 (told (prs 0 l)).1,.int .i64 (told (prs 0 l)).2])∧Drawn0 w w':=by
 have HL:=hid hl;have HC:=hid hcell;have HB:=hid hb;clear hl hcell hb;go_enter Tryz.func113,Tryz.ntmps113
 go_wp2_with (go_at_call 145;refine (valid_calls _ (by omega) (by omega) _).mono ?_;rintro e w' ⟨rfl,rfl⟩)
 go_loop [5,24] (fun n i=>∃ (k:Nat) (m:Int),k≤d∧i=.int .i64 k∧n=.int .i64 m∧At l k m) (fun _ i=>d - (intOf i).toNat)
 case atStart=>exact ⟨0,0,Nat.zero_le _,rfl,rfl,At.zero l⟩
 case round =>
  obtain ⟨k,m,hk,rfl,rfl,hA⟩:=hrel;by_cases hlt:k < d
  ·
   have hx:=HC.out k hlt;have hbk:=HB.out k;have hcl:k < l.length:=by have:=HL.out;omega
   have hsm:=hA.small (by omega);by_cases hlo:l.getD k 0 < 48
   ·
    have T:=hid (hA.low_sign hcl hlo);generalize l.getD k 0=c at hx hbk hlo;go_wp2
    go_ret2
    exact ⟨by rw [T.out];rfl,Drawn0.refl _⟩
   ·
    by_cases hhi:55 < l.getD k 0
    ·
     have T:=hid (hA.high_sign hcl hhi);generalize l.getD k 0=c at hx hbk hlo hhi;go_wp2
     go_ret2
     exact ⟨by rw [T.out];rfl,Drawn0.refl _⟩
    ·
     have T:=hid (hA.next hcl hlo hhi);generalize l.getD k 0=c at hx hbk hlo hhi T;go_wp2
     go_round
     case rel=>exact ⟨k+1,m * 8+(c - 48),by omega,by go_num,by rw [or3 (m * 8) (c - 48) (by omega) (by omega) (by omega) (by omega) (by omega)],T.out⟩
     case measure=>simp [intOf];omega
  ·
   have hkd:k=l.length:=by have:=HL.out;omega
   have T:=hid (At.done (hkd ▸ hA));clear hkd;go_wp2
   go_ret2
   exact ⟨by rw [T.out];rfl,Drawn0.refl _⟩
theorem parse_last (x:Addr) (d c0:Nat) (c:Int) (w:World) (h1:1≤d) (h2:d≤21) (_hc:d+1≤c0) (hlast:w.cell? (x.add d)=some (.int .u8 c)) (hne:c≠0): Calls Tryz.prog 113 #[.slice (some x) (d+1) c0] w fun e w'=>e=.returned (.tuple #[.int .i64 0,.int .i64 6])∧Drawn0 w w':=by
 have hb:(c != 0)=true:=bne_iff_ne.mpr hne;go_enter Tryz.func113,Tryz.ntmps113
 go_wp2_with (go_at_call 145;refine (valid_calls _ (by omega) (by omega) _).mono ?_;rintro e w' ⟨rfl,rfl⟩)
 go_ret2
 exact ⟨rfl,Drawn0.refl _⟩
theorem parse_width (A:Option Addr) (n c0:Nat) (w:World) (h:n < 2∨22 < n): Calls Tryz.prog 113 #[.slice A n c0] w fun e w'=>e=.returned (.tuple #[.int .i64 0,.int .i64 2])∧Drawn0 w w':=by
 go_enter Tryz.func113,Tryz.ntmps113
 go_wp2_with (go_at_call 145;refine (invalid_calls _ (by omega) _).mono ?_;rintro e w' ⟨rfl,rfl⟩)
 go_ret2
 exact ⟨rfl,Drawn0.refl _⟩
def answer (l:List Int):Int×Int:=if l.length < 2∨22 < l.length then (0,2) else pars l.dropLast (l.getLastD 0)
theorem answer_snoc (t:List Int) (c:Int) (h1:1≤t.length) (h2:t.length≤21):answer (t++[c])=pars t c:=by unfold answer;rw [if_neg (by simp;omega)];simp
theorem answer_width (l:List Int) (h:l.length < 2∨22 < l.length):answer l=(0,2):=by unfold answer;rw [if_pos h]
theorem parse_calls (A:Option Addr) (c0:Nat) (l:List Int) (w:World) (hr:Kd.C (Kd.int .u8) w A l.length l) (hc:l.length≤c0) (hb:∀ x∈l,0≤x∧x < 256): Calls Tryz.prog 113 #[.slice A l.length c0] w fun e w'=>e=.returned (.tuple #[.int .i64 (answer l).1,.int .i64 (answer l).2])∧Drawn0 w w':=by
 by_cases hv:l.length < 2∨22 < l.length
 ·rw [answer_width l hv];exact parse_width A l.length c0 w hv
 ·
  obtain ⟨t,c,rfl⟩:∃ t c,l=t++[c]:=⟨l.dropLast,l.getLast (by intro h;subst h;simp at hv),(List.dropLast_concat_getLast _).symm⟩;have hlen:(t++[c]).length=t.length+1:=by simp
  rw [hlen] at hv hr hc ⊢;have cell:∀ i:Nat,i < t.length+1→∃ ad,A=some ad∧w.cell? (ad.add i)=some (.int .u8 ((t++[c]).getD i 0)):=fun i hi=>by obtain ⟨ad,h0,h1⟩:=Kd.at_int hr (i:Int) (by omega) (by omega);exact ⟨ad,h0,by simpa [rd] using h1⟩
  obtain ⟨x,rfl,hx⟩:=cell t.length (by omega);rw [getD_behind t [] t.length c rfl] at hx;rw [answer_snoc t c (by omega) (by omega)];unfold pars;by_cases h0:c=0
  ·
   subst h0;rw [if_pos rfl];refine parse_loop x t.length c0 t w (by omega) (by omega) hc rfl (fun i hi=>?_) hx (fun i=>?_)
   ·
    obtain ⟨ad,h0,h1⟩:=cell i (by omega);obtain rfl:x=ad:=by injection h0
    rw [getD_before t [0] i hi] at h1;exact h1
   ·
    by_cases hi:i < t.length
    ·rw [List.getD_eq_getElem?_getD,List.getElem?_eq_getElem hi];exact hb _ (by simp)
    ·rw [List.getD_eq_getElem?_getD,List.getElem?_eq_none (by omega)];simp
  ·rw [if_neg h0];exact parse_last x t.length c0 c w (by omega) (by omega) hc hx h0
end ZParse
namespace ZRa
open ZBase
structure MaxAt (k:Nat) (n:Int):Prop where mk :: (out:n+1=8 ^ k)
theorem MaxAt.next {k:Nat} {n:Int} (h:MaxAt k n):MaxAt (k+1) (8 * n+7):=⟨by have:=h.out;rw [Int.pow_succ];omega⟩
theorem MaxAt.bound {k:Nat} {n:Int} (h:MaxAt k n) (hk:k < 21):0≤n∧8 * n+7 < 9223372036854775808:=by have h8:(8:Int) ^ (k+1)=8 ^ k * 8:=Int.pow_succ _ _;have:=pow_le (k+1) (by omega);have:=pow_pos k;have:=h.out;omega
structure FmtAt (d:Nat) (n:Int) (k:Nat) (m:Int) (s:ByteArray):Prop where mk ::
 (out:∃ tl:List Int,fld d n=digs (d - k) m++tl∧s=strOfNums tl∧tl.length=k+1∧0≤m∧m < 9223372036854775808)
theorem FmtAt.zero (d:Nat) (n:Int) (h:0≤n) (h':n < 9223372036854775808):FmtAt d n 0 n ⟨#[0]⟩:=⟨[0],rfl,rfl,rfl,h,h'⟩
theorem FmtAt.next {d:Nat} {n:Int} {k:Nat} {m:Int} {s:ByteArray} (h:FmtAt d n k m s) (hk:k < d):FmtAt d n (k+1) (m / 8) (strOfNums [48+m % 8]++s):=by
 obtain ⟨tl,h1,rfl,h3,h4⟩:=h.out;refine ⟨(48+m % 8) :: tl,?_,?_,by simp [h3],by omega,by omega⟩
 ·rw [h1,show d - k=(d - (k+1))+1 by omega];simp [digs]
 ·simp only [strOfNums];rw [ByteArray.mk_append_mk];rfl
theorem FmtAt.size {d:Nat} {n:Int} {k:Nat} {m:Int} {s:ByteArray} (h:FmtAt d n k m s):s.size=k+1:=by obtain ⟨tl,h1,rfl,h3,h4⟩:=h.out;rw [strOfNums_size,h3]
theorem FmtAt.done {d:Nat} {n:Int} {m:Int} {s:ByteArray} (h:FmtAt d n d m s):s=strOfNums (fld d n):=by obtain ⟨tl,h1,rfl,h3,h4⟩:=h.out;rw [h1,Nat.sub_self];rfl
end ZRa
namespace ZRb
open ZBase ZSumPlain
end ZRb
end
end Go.Proofs.YteikiojmcipkmaaGreatDoor
