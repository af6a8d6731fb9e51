/- Parts of the proof, gathered by a program: what calls of the functions answer, and what follows in plain lists. Conditions: those that each theorem states. -/
import Derived.Test.YteikiojmcipkmaaGreatDoorMR04
import Derived.Test.YteikiojmcipkmaaGreatDoorMR08
set_option linter.unusedVariables false
set_option linter.unusedSimpArgs false
namespace Go.Proofs.YteikiojmcipkmaaGreatDoor
open Go.Lib (hid)
open Go.RowKit YteikiojmcipkmaaGreatDoorW.PrintWords YteikiojmcipkmaaGreatDoorW.PrintLast YteikiojmcipkmaaGreatDoorW.PrintMore
set_option maxRecDepth 100000
section
namespace ZGlob
open Oct ZBase
def VarIs (w:World) (g:Nat) (cs:Array Value):Prop:=∃ t fr,w.heap[g]?=some (.cells cs t fr)
theorem VarIs.lt {w:World} {g:Nat} {cs:Array Value} (h:VarIs w g cs):g < w.heap.size:=by obtain ⟨t,fr,h⟩:=h;exact (Array.getElem?_eq_some_iff.1 h).1
theorem VarIs.below {w w1:World} {g:Nat} {cs:Array Value} (h:VarIs w g cs) (hb:Below w.heap.size w w1):VarIs w1 g cs:=by have hl:=h.lt;obtain ⟨t,fr,h⟩:=h;exact ⟨t,fr,(hb.block g hl).trans h⟩
theorem VarIs.cell {w:World} {g:Nat} {cs:Array Value} (h:VarIs w g cs) (j:Nat) (v:Value) (hv:cs[j]?=some v):w.cell? ⟨g,j,none⟩=some v:=by obtain ⟨t,fr,h⟩:=h;simp [World.cell?,h,hv]
def fieldIs (w:World) (g:Nat) (off len:Int):Prop:=VarIs w g #[.int .i64 off,.int .i64 len]
theorem fieldIs.c0 {w:World} {g:Nat} {off len:Int} (h:fieldIs w g off len):w.cell? ⟨g,0,none⟩=some (.int .i64 off):=VarIs.cell h 0 _ rfl
theorem fieldIs.c1 {w:World} {g:Nat} {off len:Int} (h:fieldIs w g off len):w.cell? ⟨g,1,none⟩=some (.int .i64 len):=VarIs.cell h 1 _ rfl
def sLink:ByteArray:=⟨#[108,105,110,107,112,97,116,104]⟩
def sPath:ByteArray:=⟨#[112,97,116,104]⟩
def sSize:ByteArray:=⟨#[115,105,122,101]⟩
structure Gl (w:World):Prop where
 fType:fieldIs w 0 156 1
 fName:fieldIs w 1 0 100
 fLink:fieldIs w 2 157 100
 fPrefix:fieldIs w 3 345 155
 fMode:fieldIs w 4 100 8
 fSize:fieldIs w 5 124 12
 types:VarIs w 6 #[.int .u8 53,.int .u8 48,.int .u8 50,.int .u8 49]
 fMagic:fieldIs w 7 257 8
 fUid:fieldIs w 8 108 8
 fGid:fieldIs w 9 116 8
 fMtime:fieldIs w 10 136 12
 fMajor:fieldIs w 11 329 8
 fMinor:fieldIs w 12 337 8
 keys:VarIs w 13 #[.string sLink,.string sPath,.string sSize]
 maxLen:∃ m:Int,VarIs w 14 #[.int .i64 m]
 pow10:Lib.TabIs Tryz.prog w "internal/strconv.uint64pow10" .u64 Lib.pow10Tab
 errSyntax:∃ t p,VarIs w 16 #[.iface t p]
 errRange:∃ t p,VarIs w 17 #[.iface t p]
theorem pow10_below {w w1:World} (h:Lib.TabIs Tryz.prog w "internal/strconv.uint64pow10" .u64 Lib.pow10Tab) (hb:Below w.heap.size w w1):Lib.TabIs Tryz.prog w1 "internal/strconv.uint64pow10" .u64 Lib.pow10Tab :=
 Lib.tabBelow_of_tabIs h w1 hb
theorem Gl.below {w w1:World} (h:Gl w) (hb:Below w.heap.size w w1):Gl w1:=by obtain ⟨m,hm⟩:=h.maxLen;obtain ⟨t1,p1,h1⟩:=h.errSyntax;obtain ⟨t2,p2,h2⟩:=h.errRange;exact ⟨h.fType.below hb,h.fName.below hb,h.fLink.below hb,h.fPrefix.below hb,h.fMode.below hb,h.fSize.below hb,h.types.below hb,h.fMagic.below hb,h.fUid.below hb,h.fGid.below hb,h.fMtime.below hb,h.fMajor.below hb,h.fMinor.below hb,h.keys.below hb,⟨m,hm.below hb⟩,pow10_below h.pow10 hb,⟨t1,p1,h1.below hb⟩,⟨t2,p2,h2.below hb⟩⟩
theorem Gl.max {w:World} (h:Gl w):∃ m:Int,w.cell? ⟨14,0,none⟩=some (.int .i64 m):=by obtain ⟨m,hm⟩:=h.maxLen;exact ⟨m,hm.cell 0 _ rfl⟩
end ZGlob
namespace ZMo
open Oct ZBase ZGlob
structure Mo (S:List Nat) (w w':World):Prop where
 os:w'.os=w.os
 tape:w'.tape=w.tape
 output:w'.output=w.output
 size:w.heap.size≤w'.heap.size
 keep:∀ k,k < w.heap.size→k∉S→w'.heap[k]?=w.heap[k]?
section
variable {S T:List Nat} {a b c w w1:World}
theorem Mo.refl (S:List Nat) (w:World):Mo S w w:=⟨rfl,rfl,rfl,Nat.le_refl _,fun _ _ _=>rfl⟩
theorem Mo.of_below (h:Below w.heap.size w w1):Mo S w w1:=⟨h.os,h.tape,h.output,h.size,fun k hk _=>h.block k hk⟩
theorem Mo.then_ (h:Mo S a b) (k:Mo T b c) (ht:∀ t∈T,t∈S∨a.heap.size≤t):Mo S a c :=
 ⟨k.os.trans h.os,k.tape.trans h.tape,k.output.trans h.output,Nat.le_trans h.size k.size,fun j hj hS=>(k.keep j (by have:=h.size;omega) (fun hT=>by
  rcases ht j hT with h1 | h1
  ·exact hS h1
  ·omega)).trans (h.keep j hj hS)⟩
theorem Mo.trans (h:Mo S a b) (k:Mo S b c):Mo S a c:=h.then_ k fun _ ht=>.inl ht
theorem Mo.more (h:Mo S a b) (hs:∀ s∈S,s∈T):Mo T a b:=⟨h.os,h.tape,h.output,h.size,fun k hk hT=>h.keep k hk fun hS=>hT (hs k hS)⟩
theorem Mo.step (h:Mo S a b) (k:Below b.heap.size b c):Mo S a c:=h.trans (Mo.of_below k)
theorem Mo.set (h:Mo S a b) {p:Addr} (hp:p.block∈S∨a.heap.size≤p.block) (v:Value):Mo S a (b.setCell p v):=by
 have e:(b.setCell p v).heap.size=b.heap.size:=by simp
 have hb:=Below.refl b.heap.size b;refine ⟨?_,?_,?_,by rw [e];exact h.size,fun k hk hS=>?_⟩
 ·exact (((Below.refl p.block b).setCell (Nat.le_refl _) v).os).trans h.os
 ·exact (((Below.refl p.block b).setCell (Nat.le_refl _) v).tape).trans h.tape
 ·exact (((Below.refl p.block b).setCell (Nat.le_refl _) v).output).trans h.output
 ·rw [Below.heap_setCell b p v k (by rintro rfl;rcases hp with h1 | h1;exact hS h1;omega)];exact h.keep k hk hS
theorem Mo.alloc (h:Mo S a b) (o:Obj):Mo S a (b.alloc o):=h.step (below_alloc (Below.refl _ _) o)
theorem Mo.drewN (h:Mo S a b) (n:Nat):Mo S a (b.drewN n):=h.step (pw_below_drewN (Below.refl _ _) n)
theorem Mo.blk (h:Mo S w w1) {g:Nat} {o:Obj} (hg:w.heap[g]?=some o) (hS:g∉S):w1.heap[g]?=some o:=(h.keep g (blk_lt hg) hS).trans hg
theorem Mo.below (h:Mo S w w1) {B:Nat} (hB:B≤w.heap.size) (hS:∀ s∈S,B≤s):Below B w w1 :=
 ⟨h.os,h.tape,h.output,h.size,fun k hk=>h.keep k (by omega) fun hs=>by have:=hS k hs;omega⟩
theorem Mo.new (h:Mo S w w1) (hS:∀ s∈S,w.heap.size≤s):Below w.heap.size w w1:=h.below (Nat.le_refl _) hS
end
def Und (B:Nat) (w:World) (P:World→Prop):Prop:=∀ W:World,(∀ k,k < B→W.heap[k]?=w.heap[k]?)→P W
theorem Und.here {w:World} {B:Nat} {P:World→Prop} (h:Und B w P):P w:=h w fun _ _=>rfl
theorem Und.step {w w1:World} {B:Nat} {P:World→Prop} (h:Und B w P) (hk:∀ k,k < B→w1.heap[k]?=w.heap[k]?):Und B w1 P:=fun W hW=>h W fun k h1=>(hW k h1).trans (hk k h1)
theorem Und.imp {w:World} {B:Nat} {P Q:World→Prop} (h:Und B w P) (hi:∀ W,P W→Q W):Und B w Q:=fun W hW=>hi W (h W hW)
theorem Und.more {w:World} {B C:Nat} {P:World→Prop} (h:Und B w P) (hBC:B≤C):Und C w P:=fun W hW=>h W fun k hk=>hW k (by omega)
theorem add_block (ad:Addr) (m:Nat):(ad.add m).block=ad.block:=by unfold Addr.add;split <;> rfl
theorem cell_of_heap {w W:World} {p:Addr} (h:W.heap[p.block]?=w.heap[p.block]?):W.cell? p=w.cell? p:=by simp only [World.cell?,h]
theorem Und.row {w:World} {B:Nat} {k:IntKind} {A:Option Addr} {n:Nat} {l:List Int} (h:Kd.C (Kd.int k) w A n l) (hA:∀ ad,A=some ad→0 < n→ad.block < B):Und B w fun W=>Kd.C (Kd.int k) W A n l:=by
 intro W hW;refine ⟨h.1,h.2.1,fun hn=>?_⟩;obtain ⟨ad,e,hc⟩:=h.2.2 hn;refine ⟨ad,e,fun j p hj=>?_⟩;have hb:=hW _ (hA ad e hn);obtain ⟨c,hl,hk,hv⟩:=hc j p hj;refine ⟨c,hl,hk,fun i u hi=>?_⟩;have hb2:W.heap[(ad.add (j * (Kd.int k).sz+i)).block]?=w.heap[(ad.add (j * (Kd.int k).sz+i)).block]?:=by rw [add_block];exact hb
 rw [cell_of_heap hb2];exact hv i u hi
theorem _root_.Go.Proofs.YteikiojmcipkmaaGreatDoor.ZBase.Own.mo {S:List Nat} {w w1:World} {base g cap n:Nat} {l:List Int} (h:Own w base g cap n l) (hm:Mo S w w1) (hg:g∉S):Own w1 base g cap n l :=
 ⟨own_move h.row fun k hk=>by
  obtain rfl:g=k:=by simpa [Value.ownBlock] using hk
  exact hm.keep g h.lt hg⟩
theorem _root_.Go.Proofs.YteikiojmcipkmaaGreatDoor.ZBase.Own.blk {w w1:World} {base g cap n:Nat} {l:List Int} (h:Own w base g cap n l) (hm:w1.heap[g]?=w.heap[g]?):Own w1 base g cap n l :=
 ⟨own_move h.row fun k hk=>by
  obtain rfl:g=k:=by simpa [Value.ownBlock] using hk
  exact hm⟩
theorem _root_.Go.Proofs.YteikiojmcipkmaaGreatDoor.ZGlob.VarIs.of {w w1:World} {g:Nat} {cs:Array Value} (h:VarIs w g cs) (hb:w1.heap[g]?=w.heap[g]?):VarIs w1 g cs:=by obtain ⟨t,fr,h⟩:=h;exact ⟨t,fr,hb.trans h⟩
theorem pow10_at:Tryz.prog.globalNamed "internal/strconv.uint64pow10" = some 15:=by kernel_rfl
theorem _root_.Go.Proofs.YteikiojmcipkmaaGreatDoor.ZGlob.Gl.und {w w1:World} (h:Gl w) (hb:∀ k,k < 20→w1.heap[k]?=w.heap[k]?):Gl w1:=by obtain ⟨m,hm⟩:=h.maxLen;obtain ⟨t1,p1,h1⟩:=h.errSyntax;obtain ⟨t2,p2,h2⟩:=h.errRange;refine ⟨VarIs.of h.fType (hb _ (by decide)),VarIs.of h.fName (hb _ (by decide)),VarIs.of h.fLink (hb _ (by decide)),VarIs.of h.fPrefix (hb _ (by decide)),VarIs.of h.fMode (hb _ (by decide)),VarIs.of h.fSize (hb _ (by decide)),VarIs.of h.types (hb _ (by decide)),VarIs.of h.fMagic (hb _ (by decide)),VarIs.of h.fUid (hb _ (by decide)),VarIs.of h.fGid (hb _ (by decide)),VarIs.of h.fMtime (hb _ (by decide)),VarIs.of h.fMajor (hb _ (by decide)),VarIs.of h.fMinor (hb _ (by decide)),VarIs.of h.keys (hb _ (by decide)),⟨m,VarIs.of hm (hb _ (by decide))⟩,?_,⟨t1,p1,VarIs.of h1 (hb _ (by decide))⟩,⟨t2,p2,VarIs.of h2 (hb _ (by decide))⟩⟩;have:=h.pow10;unfold Lib.TabIs World.var? at *;rw [pow10_at] at *;simp only [Option.bind_some] at *;rw [hb 15 (by decide)];exact this
theorem _root_.Go.Proofs.YteikiojmcipkmaaGreatDoor.ZGlob.Gl.lt {w:World} (h:Gl w):18≤w.heap.size:=by obtain ⟨t2,p2,h2⟩:=h.errRange;exact h2.lt
theorem _root_.Go.Proofs.YteikiojmcipkmaaGreatDoor.ZGlob.Gl.mo {S:List Nat} {w w1:World} (h:Gl w) (hm:Mo S w w1) (hw:20≤w.heap.size) (hS:∀ s∈S,20≤s):Gl w1 :=
 h.und (hm.below hw hS).block
end ZMo
namespace ZStr
def lt (x y:ByteArray):Bool:=Op.bytesLess x.toList y.toList
theorem less_irrefl (x:List UInt8):Op.bytesLess x x=false:=by
 induction x with
 | nil=>rfl
 | cons a x ih=>simp [Op.bytesLess,ih]
theorem less_total:∀ (x y:List UInt8),Op.bytesLess x y=false→Op.bytesLess y x=false→x=y
 | [],[],_,_=>rfl
 | [],_ :: _,h,_=>by simp [Op.bytesLess] at h
 | _ :: _,[],_,h=>by simp [Op.bytesLess] at h
 | a :: x,b :: y,h,h'=>by
  simp only [Op.bytesLess,Bool.or_eq_false_iff,Bool.and_eq_false_iff,decide_eq_false_iff_not,beq_eq_false_iff_ne] at h h';have e:a=b:=UInt8.le_antisymm (UInt8.not_lt.1 h'.1) (UInt8.not_lt.1 h.1);subst e;have h1:Op.bytesLess x y=false:=by
   rcases h.2 with h | h
   ·exact absurd rfl h
   ·exact h
  have h2:Op.bytesLess y x=false:=by
   rcases h'.2 with h | h
   ·exact absurd rfl h
   ·exact h
  rw [less_total x y h1 h2]
theorem less_trans:∀ (x y z:List UInt8),Op.bytesLess x y=true→Op.bytesLess y z=true→Op.bytesLess x z=true
 | _,[],_,h,_=>by simp [Op.bytesLess] at h
 | _,_ :: _,[],_,h=>by simp [Op.bytesLess] at h
 | [],_ :: _,_ :: _,_,_=>rfl
 | a :: x,b :: y,c :: z,h,h'=>by
  simp only [Op.bytesLess,Bool.or_eq_true,Bool.and_eq_true,decide_eq_true_eq,beq_iff_eq] at h h' ⊢;rcases h with h | ⟨rfl,h⟩
  ·
   rcases h' with h' | ⟨rfl,h'⟩
   ·exact .inl (UInt8.lt_trans h h')
   ·exact .inl h
  ·
   rcases h' with h' | ⟨rfl,h'⟩
   ·exact .inl h'
   ·exact .inr ⟨rfl,less_trans x y z h h'⟩
theorem lt_irrefl (x:ByteArray):lt x x=false:=less_irrefl _
theorem lt_trans {x y z:ByteArray} (h:lt x y=true) (h':lt y z=true):lt x z=true:=less_trans _ _ _ h h'
theorem lt_asymm {x y:ByteArray} (h:lt x y=true):lt y x=false:=by
 cases e:lt y x with
 | false=>rfl
 | true =>have:=lt_trans h e;rw [lt_irrefl] at this;cases this
theorem toList_inj {x y:ByteArray} (h:x.toList=y.toList):x=y:=by rw [ByteArray.toList_eq,ByteArray.toList_eq] at h;cases x;cases y;congr 1;exact Array.ext' h
theorem eq_of_le {x y:ByteArray} (h:lt x y=false) (h':lt y x=false):x=y:=toList_inj (less_total _ _ h h')
theorem le_trans {x y z:ByteArray} (h:lt x y=false) (h':lt y z=false):lt x z=false:=by
 cases e:lt x z with
 | false=>rfl
 | true =>
  cases e2:lt z y with
  | true =>have:=lt_trans e e2;rw [h] at this;cases this
  | false =>have:=eq_of_le h' e2;subst this;rw [h] at e;cases e
def cmpV (a b:ByteArray):Int:=if lt a b then -1 else if lt b a then 1 else 0
set_option maxHeartbeats 1000000 in
theorem isNaN_calls (x:ByteArray) (w:World):Calls Tryz.prog 63 #[.string x] w fun e w'=>e=.returned (.bool false)∧w=w':=by go_enter Tryz.func63,Tryz.ntmps63;go_wp2;go_ret;exact ⟨by simp,rfl⟩
set_option maxHeartbeats 1000000 in
theorem compare_calls (a b:ByteArray) (w:World):Calls Tryz.prog 36 #[.string a,.string b] w fun e w'=>e=.returned (.int .i64 (cmpV a b))∧w=w':=by
 have CA:=hid (isNaN_calls a w);have CB:=hid (isNaN_calls b w);go_enter Tryz.func36,Tryz.ntmps36
 go_wp2_with fail
 refine CA.out.mono ?_;rintro e w' ⟨rfl,rfl⟩
 go_wp2_with fail
 refine CB.out.mono ?_;rintro e w' ⟨rfl,rfl⟩;cases h1:lt a b with
 | true =>have h2:Op.bytesLess a.toList b.toList=true:=h1;go_wp2;go_ret;exact ⟨by simp [cmpV,h1],rfl⟩
 | false =>
  have h2:Op.bytesLess a.toList b.toList=false:=h1;cases h3:lt b a with
  | true =>
   have h4:Op.bytesLess b.toList a.toList=true:=h3;have h5:(a.toList == b.toList)=false:=by rw [beq_eq_false_iff_ne];intro e;rw [e,less_irrefl] at h4;cases h4
   go_wp2;go_ret;exact ⟨by simp [cmpV,h1,h3],rfl⟩
  | false =>
   have h4:Op.bytesLess b.toList a.toList=false:=h3;have h5:(a.toList == b.toList)=true:=by rw [beq_iff_eq];exact less_total _ _ h2 h4
   go_wp2;go_ret;exact ⟨by simp [cmpV,h1,h3],rfl⟩
end ZStr
namespace ZApp
open Oct ZBase ZGlob ZMo
theorem Mo.of_grown {W w1:World} {g:Nat} (h:W.grownBy w1 (some g)):Mo [g] W w1:=⟨h.os,h.tape,h.output,h.size,fun k hk hS=>h.block k hk (by simpa using hS)⟩
theorem Below.of_grown {W w1:World} (h:W.grownBy w1 none):Below W.heap.size W w1:=⟨h.os,h.tape,h.output,h.size,fun k hk=>h.block k hk (by simp)⟩
section
variable {ops:Array Oper} {rest:List Oper} {o:Oper} {a:Act} {Q:Exit→Act→World→Prop}
theorem append_own (W:World) (base:Nat) (hgd:o.guard=none) (s x:Operand) (ho:o.op=.call { callee:=.builtin .append,args:=#[s,x],argTypes:=#[30,30] }) (g cap n:Nat) (xs:List Int) (A:Option Addr) (m c:Nat) (ys:List Int) (hs:a.eval s=.slice (some ⟨g,0,none⟩) n cap) (hx:a.eval x=.slice A m c) (HO:Own W base g cap n xs) (HR:Kd.C (Kd.int .u8) W A m ys) (hbase:base≤W.heap.size) (hl:n+m≤140737488355328) (h:∀ g' cap' w1,Own w1 base g' cap' (n+m) (xs++ys)→Mo [g] W w1→(g'=g∨W.heap.size≤g')→wpList Tryz.prog ops Q rest (a.put o.dst (.slice (some ⟨g',0,none⟩) (n+m) cap')) w1) : wpList Tryz.prog ops Q (o :: rest) a W:=by
 have hn:=HO.len;have hm:=Kd.C_len HR;refine print_append_row (w0:=W) base hgd s x 30 5 .u8 1 ho Tryz.underlying30 info5 (by decide) _ xs ys A m c hs hx (by rw [hn];exact HO.row) (Kd.reads_of_C (enc:=Value.int .u8) (d:=(0:Int)) (h1:=fun _=>rfl) HR) (Below.refl _ _) hbase (by omega) ?_;intro v1 w1 hown _ hg hat;have hv:∃ g',v1.ownBlock=some g'∧(g'=g∨W.heap.size≤g'):=by
  rcases hat with e | ⟨b,e,hb⟩
  ·exact ⟨g,e,.inl rfl⟩
  ·exact ⟨b,e,.inr hb⟩
 obtain ⟨g',e',hor⟩:=hv;rw [List.length_append,hn,hm] at hown;have hown2:=hown;rcases hown.2 with ⟨rfl,_⟩ | ⟨g2,cap,cur,rfl,_⟩
 ·cases e'
 ·
  obtain rfl:g2=g':=by simpa [Value.ownBlock] using e'
  exact h g2 cap w1 ⟨hown2⟩ (Mo.of_grown hg) hor
end
end ZApp
namespace ZSource
open Oct ZBase ZSum ZMo
attribute [local go_sem] max2_int min2_int max_two min_two max_three min_three
structure Src (w:World) (sb:Nat) (rest chunks:List Int) (failAt off rds:Int):Prop where
 blk:∃ A c B d,w.heap[sb]?=some (.cells #[.slice A rest.length c,.slice B chunks.length d,.int .i64 failAt,.int .i64 off,.int .i64 rds] 67 (0,0))∧rest.length≤c∧Und sb w (fun W=>Kd.C (Kd.int .u8) W A rest.length rest)∧Und sb w (fun W=>Kd.C (Kd.int .i64) W B chunks.length chunks)
 rds0:0≤rds
 offs:0≤off∧rds≤off∧off+rest.length≤4611686018427387904
 fail:-4611686018427387904≤failAt∧failAt≤4611686018427387904
 bytes:∀ x∈rest,0≤x∧x < 256
def chunkV (chunks:List Int) (rds:Int):Int:=if chunks.length=0 then 1048576 else (if 1 < rd chunks (rds % (chunks.length:Int)) then rd chunks (rds % (chunks.length:Int)) else 1)
theorem chunkV_pos (chunks:List Int) (rds:Int):1≤chunkV chunks rds:=by
 unfold chunkV;split
 ·decide
 ·
  split
  ·omega
  ·decide
set_option maxHeartbeats 1000000 in
theorem chunk_calls (w:World) (sb:Nat) (rest chunks:List Int) (failAt off rds:Int) (h:Src w sb rest chunks failAt off rds) (hch:∀ x∈chunks,-9223372036854775808≤x∧x≤9223372036854775807): Calls Tryz.prog 125 #[.pointer (some ⟨sb,0,none⟩)] w fun e w'=>e=.returned (.int .i64 (chunkV chunks rds))∧∃ q,w'=w.drewN q:=by
 obtain ⟨A,c,B,d,hb,_,_,hC⟩:=h.blk;have hC:=hC.here;have k1:w.cell? ⟨sb,1,none⟩=some (.slice B chunks.length d):=by simp [World.cell?,hb]
 have k4:w.cell? ⟨sb,4,none⟩=some (.int .i64 rds):=by simp [World.cell?,hb]
 have h0:=h.rds0;by_cases hn:chunks.length=0
 ·
  have V:Hid (chunkV chunks rds=1048576):=hid (by unfold chunkV;rw [if_pos hn]);have hn0:(chunks.length:Int)=0:=by omega
  rw [hn] at k1;clear hC hb h hn0 hn hch;go_enter Tryz.func125,Tryz.ntmps125;go_wp2;go_ret;exact ⟨by rw [V.out];rfl,0,rfl⟩
 ·
  obtain ⟨q,rfl⟩:∃ q:Nat,rds=(q:Int):=⟨rds.toNat,by omega⟩;have hl:=Kd.C_len hC;have hpos:0 < chunks.length:=by omega
  obtain ⟨X,hX,hXl⟩:∃ X:Nat,(q:Int) % (chunks.length:Int)=(X:Int)∧X < chunks.length:=⟨q % chunks.length,by omega,Nat.mod_lt _ hpos⟩;obtain ⟨ad,rfl,hx⟩:=Kd.at_int hC (X:Int) (by omega) (by omega);rw [Int.toNat_natCast] at hx;have hr:∃ z:Int,rd chunks (X:Int)=z∧-9223372036854775808≤z∧z≤9223372036854775807:=by
   refine ⟨_,rfl,?_⟩;have e:rd chunks (X:Int)=chunks[X]:=by simp [rd,List.getD_eq_getElem?_getD,List.getElem?_eq_getElem hXl]
   rw [e];exact hch _ (List.getElem_mem hXl)
  obtain ⟨z,hz,hz1⟩:=hr;have V:Hid (chunkV chunks (q:Int)=if 1 < z then z else 1):=hid (by unfold chunkV;rw [if_neg hn,hX,hz]);rw [hz] at hx;have hn0:¬ (chunks.length:Int)=0:=by omega
  have m1:=Kd.C_max hC;clear hC hb h hch hz hl;go_enter Tryz.func125,Tryz.ntmps125;go_wp2
  repeat (go_quiet (fail);try go_wp2)
  all_goals
   go_ret;rw [V.out];refine ⟨?_,_,rfl⟩;show Ending.returned (.int .i64 _)=_;congr 2;split <;> omega
theorem clone_bytes (A:Option Addr) (n c:Nat) (l:List Int) (w:World) (hr:Kd.C (Kd.int .u8) w A n l) (hn:0 < n) (hm:n≤140737488355328): Calls Tryz.prog 25 #[.slice A n c] w fun e w'=>∃ g cap,e=.returned (.slice (some ⟨g,0,none⟩) n cap)∧Own w' w.heap.size g cap n l∧Below w.heap.size w w':=by
 obtain ⟨ad,rfl,_⟩:=hr.2.2 hn;exact clone_calls ad n c l w hr hn hm
theorem Src.drewN {w:World} {sb:Nat} {rest chunks:List Int} {failAt off rds:Int} (h:Src w sb rest chunks failAt off rds) (q:Nat):Src (w.drewN q) sb rest chunks failAt off rds :=
 ⟨h.blk,h.rds0,h.offs,h.fail,h.bytes⟩
structure Mv (w w':World) (sb:Nat):Prop where
 bel:Below sb w w'
 keep:∀ k,k < w.heap.size→k≠sb→w'.heap[k]?=w.heap[k]?
 size:w.heap.size≤w'.heap.size
theorem Mv.of_below {w w':World} {sb:Nat} (h:Below w.heap.size w w') (hs:sb≤w.heap.size):Mv w w' sb:=⟨h.mono hs,fun k hk _=>h.block k hk,h.size⟩
theorem Mv.trans {a b c:World} {sb:Nat} (h:Mv a b sb) (k:Mv b c sb):Mv a c sb :=
 ⟨h.bel.trans k.bel,fun j hj hne=>(k.keep j (by have:=h.size;omega) hne).trans (h.keep j hj hne),Nat.le_trans h.size k.size⟩
theorem Mv.set {w w':World} {sb:Nat} (h:Mv w w' sb) (i:Nat) (v:Value):Mv w (w'.setCell ⟨sb,i,none⟩ v) sb :=
 ⟨h.bel.setCell (p:=⟨sb,i,none⟩) (Nat.le_refl _) v,fun k hk hne=>(Below.heap_setCell _ _ _ _ hne).trans (h.keep k hk hne),by have:=h.size;simpa using this⟩
theorem Mv.mo {w w':World} {sb:Nat} (h:Mv w w' sb):Mo [sb] w w':=⟨h.bel.os,h.bel.tape,h.bel.output,h.size,fun k hk hS=>h.keep k hk (by simpa using hS)⟩
theorem chunk_calls' (w:World) (sb:Nat) (rest chunks:List Int) (failAt off rds:Int) (h:Src w sb rest chunks failAt off rds) (hch:∀ x∈chunks,-9223372036854775808≤x∧x≤9223372036854775807) (a b:Nat) : Calls Tryz.prog 125 #[.pointer (some ⟨sb,0,none⟩)] (w.drewN (a+b)) fun e w'=>e=.returned (.int .i64 (chunkV chunks rds))∧∃ n,w'=w.drewN (a+n) :=
 (chunk_calls _ sb rest chunks failAt off rds (h.drewN (a+b)) hch).mono fun _ _ ⟨he,m,hm⟩=>⟨he,b+m,by rw [hm,World.drewN_drewN,Nat.add_assoc]⟩
theorem C_from {W:World} {A:Option Addr} {n c:Nat} {xs:List Int} (h:Kd.C (Kd.int .u8) W A n xs) (m:Nat) (hm:m≤n) (hc:n≤c):Kd.C (Kd.int .u8) W (if c=m then A else A.map (·.add m)) (n - m) (xs.drop m):=by
 have hl:=Kd.C_len h;subst hl;have:=Kd.C_drop h hm hc;rw [List.length_drop] at this;have e:m * (Kd.int .u8).sz=m:=Nat.mul_one m
 rwa [e] at this
theorem C_to {W:World} {A:Option Addr} {n:Nat} {xs:List Int} (h:Kd.C (Kd.int .u8) W A n xs) (m:Nat) (hm:m≤n):Kd.C (Kd.int .u8) W A m (xs.take m):=by have hl:=Kd.C_len h;have h2:=h.2.1;refine ⟨by rw [List.length_take];omega,by omega,fun h0=>?_⟩;obtain ⟨ad,e,hc⟩:=h.2.2 (by omega);refine ⟨ad,e,fun j p hj=>hc j p ?_⟩;have hj1:=(List.getElem?_eq_some_iff.1 hj).1;rw [List.length_take] at hj1;rw [List.getElem?_take_of_lt (by omega)] at hj;exact hj
theorem from_run (A:Option Addr) (n c k:Nat) (hk:k≤n):∃ A1 c1,(∀ W:World,(Instr.slice 30 (.slice A n c) (some (.int .i64 k)) none none).run Tryz.prog W=.ok (.slice A1 (n - k) c1) W)∧A1=(if c=k then A else A.map (·.add k))∧c1=c - k:=by obtain ⟨i5,hi5,hzz⟩:=Option.map_eq_some_iff.1 info5;simp only [Prod.mk.injEq] at hzz;refine ⟨_,_,fun W=>?_,rfl,rfl⟩;have:=cut_from (P:=Tryz.prog) 30 5 .i64 Tryz.underlying30 hi5 1 hzz.2.1 A n c (k:Int) (by omega) (by omega);simpa using this W
theorem Src.after {w w1:World} {sb:Nat} {rest chunks:List Int} {failAt off rds:Int} (h:Src w sb rest chunks failAt off rds) {A B:Option Addr} {c d k:Nat} (hb:w.heap[sb]?=some (.cells #[.slice A rest.length c,.slice B chunks.length d,.int .i64 failAt,.int .i64 off,.int .i64 rds] 67 (0,0))) (hc:rest.length≤c) (hA:Und sb w (fun W=>Kd.C (Kd.int .u8) W A rest.length rest)) (hB:Und sb w (fun W=>Kd.C (Kd.int .i64) W B chunks.length chunks)) (hk:k≤rest.length) (h1:1≤k) (hbl:Below w.heap.size w w1): Src (((w1.setCell ⟨sb,0,none⟩ (.slice (if c=k then A else A.map (·.add k)) (rest.length - k) (c - k))).setCell ⟨sb,3,none⟩ (.int .i64 (off+k))).setCell ⟨sb,4,none⟩ (.int .i64 (rds+1))) sb (rest.drop k) chunks failAt (off+k) (rds+1) ∧ Mv w (((w1.setCell ⟨sb,0,none⟩ (.slice (if c=k then A else A.map (·.add k)) (rest.length - k) (c - k))).setCell ⟨sb,3,none⟩ (.int .i64 (off+k))).setCell ⟨sb,4,none⟩ (.int .i64 (rds+1))) sb:=by
 have hl:=(Array.getElem?_eq_some_iff.1 hb).1;have hb1:=(hbl.block sb hl).trans hb;have hm:Mv w (((w1.setCell ⟨sb,0,none⟩ (.slice (if c=k then A else A.map (·.add k)) (rest.length - k) (c - k))).setCell ⟨sb,3,none⟩ (.int .i64 (off+k))).setCell ⟨sb,4,none⟩ (.int .i64 (rds+1))) sb :=
  (((Mv.of_below hbl (Nat.le_of_lt hl)).set 0 _).set 3 _).set 4 _
 refine ⟨⟨⟨(if c=k then A else A.map (·.add k)),c - k,B,d,?_,?_,?_,?_⟩,?_,?_,h.fail,fun x hx=>h.bytes x (List.mem_of_mem_drop hx)⟩,hm⟩
 ·have e1:=heap_setCell_same w1 sb 0 _ _ (.slice (if c=k then A else A.map (·.add k)) (rest.length - k) (c - k)) hb1;have e2:=heap_setCell_same _ sb 3 _ _ (.int .i64 (off+k)) e1;have e3:=heap_setCell_same _ sb 4 _ _ (.int .i64 (rds+1)) e2;rw [e3,List.length_drop];rfl
 ·rw [List.length_drop];omega
 ·intro W hW;rw [List.length_drop];exact C_from ((hA.step hm.bel.block) W hW) k hk hc
 ·exact hB.step hm.bel.block
 ·have:=h.rds0;omega
 ·have:=h.offs;rw [List.length_drop];omega
set_option maxHeartbeats 4000000 in
theorem read_some (w:World) (sb n:Nat) (rest chunks:List Int) (failAt off rds:Int) (h:Src w sb rest chunks failAt off rds) (hch:∀ x∈chunks,-9223372036854775808≤x∧x≤9223372036854775807) (hn:1≤n) (hn2:n≤512) (hf:off≠failAt) (hr:0 < rest.length): Calls Tryz.prog 86 #[.pointer (some ⟨sb,0,none⟩),.int .i64 n] w fun e w'=>∃ k g cap,1≤k∧k≤n∧k≤rest.length∧(off < failAt→(k:Int)≤failAt - off)∧e=.returned (.tuple #[.slice (some ⟨g,0,none⟩) k cap,.int .i64 0])∧Own w' w.heap.size g cap k (rest.take k)∧Src w' sb (rest.drop k) chunks failAt (off+k) (rds+1)∧Mv w w' sb:=by
 have CH:=hid (chunk_calls' w sb rest chunks failAt off rds h hch);have hm1:=chunkV_pos chunks rds;obtain ⟨m,hm⟩:∃ m,chunkV chunks rds=m:=⟨_,rfl⟩;rw [hm] at CH hm1;clear hm;obtain ⟨A,c,B,d,hb,hc,hA,hB⟩:=h.blk;have k0:w.cell? ⟨sb,0,none⟩=some (.slice A rest.length c):=by simp [World.cell?,hb]
 have k2:w.cell? ⟨sb,2,none⟩=some (.int .i64 failAt):=by simp [World.cell?,hb]
 have k3:w.cell? ⟨sb,3,none⟩=some (.int .i64 off):=by simp [World.cell?,hb]
 have k4:w.cell? ⟨sb,4,none⟩=some (.int .i64 rds):=by simp [World.cell?,hb]
 have f0:w.frozen? ⟨sb,0,none⟩=false:=by simp [World.frozen?,hb]
 have f3:w.frozen? ⟨sb,3,none⟩=false:=by simp [World.frozen?,hb]
 have f4:w.frozen? ⟨sb,4,none⟩=false:=by simp [World.frozen?,hb]
 have ho:=h.offs;have hfa:=h.fail;have hr0:¬ (rest.length:Int)=0:=by omega
 have hn1:¬ (n:Int) < 1:=by omega
 have H:=hid h;have HB:=hid hb;have HA:=hid hA;have HB2:=hid hB;clear h hb hA hB hch;go_enter Tryz.func86,Tryz.ntmps86
 go_wp2_with fail
 repeat (go_quiet (fail);try go_wp2)
 go_quiet (exact CH.out _ _)
 obtain ⟨k0,hk,h1,h2,h3⟩:∃ k:Nat,(if (rest.length:Int) < if m < (n:Int) then m else n then (rest.length:Int) else if m < (n:Int) then m else n)=(k:Int)∧1≤k∧k≤n∧k≤rest.length:=by refine ⟨(if (rest.length:Int) < if m < (n:Int) then m else n then (rest.length:Int) else if m < (n:Int) then m else n).toNat,?_,?_,?_,?_⟩ <;> (repeat' split) <;> omega
 rw [hk];clear hk CH;have hw1:wrap64 (rds+1)=rds+1:=w64s (by have:=H.out.rds0;omega) (by omega);by_cases hA0:0 < failAt - off
 ·
  by_cases hB0:failAt - off < (k0:Int)
  ·
   obtain ⟨k,hkk⟩:∃ k:Nat,failAt - off=(k:Int):=⟨(failAt - off).toNat,by omega⟩;have hk1:1≤k:=by omega
   have hkr:k≤rest.length:=by omega
   have hlim:k≤n∧(off < failAt→(k:Int)≤failAt - off):=by omega
   have CL:=hid (fun q=>clone_bytes A k c (rest.take k) (w.drewN q) (Kd.C_drewN (C_to HA.out.here k hkr) q) (by omega) (by omega));obtain ⟨A1,c1,hs2,eA,ec⟩:=from_run A rest.length c k hkr;have EA:=hid (And.intro eA ec);clear eA ec
   go_wp2_with fail
   repeat (go_quiet (fail);try go_wp2_with fail)
   refine (CL.out _).mono ?_;rintro e w1 ⟨g,cap,rfl,ho,hbl⟩;have hl:=(Array.getElem?_eq_some_iff.1 HB.out).1;have hb1:=(hbl.block sb hl).trans HB.out;have j0:w1.cell? ⟨sb,0,none⟩=some (.slice A rest.length c):=by simp [World.cell?,hb1]
   have j3:w1.cell? ⟨sb,3,none⟩=some (.int .i64 off):=by simp [World.cell?,hb1]
   have j4:w1.cell? ⟨sb,4,none⟩=some (.int .i64 rds):=by simp [World.cell?,hb1]
   have g0:w1.frozen? ⟨sb,0,none⟩=false:=by simp [World.frozen?,hb1]
   have g3:w1.frozen? ⟨sb,3,none⟩=false:=by simp [World.frozen?,hb1]
   have g4:w1.frozen? ⟨sb,4,none⟩=false:=by simp [World.frozen?,hb1]
   have T:=hid (H.out.after (k:=k) HB.out hc HA.out HB2.out hkr hk1 (show Below w.heap.size w w1 from (pw_below_drewN (Below.refl _ _) _).trans hbl));have HO:=hid (show Own w1 w.heap.size g cap k (rest.take k) from ho);have hne:w.heap.size≤g:=ho.from_;rw [← EA.out.1,← EA.out.2] at T;clear hb1 ho hbl CL
   go_wp2_with fail
   rw [hw1]
   go_ret2
   exact ⟨k,g,cap,hk1,hlim.1,hkr,hlim.2,rfl,((HO.out.far (p:=⟨sb,0,none⟩) (by simp;omega) _).far (p:=⟨sb,3,none⟩) (by simp;omega) _).far (p:=⟨sb,4,none⟩) (by simp;omega) _,T.out.1,T.out.2⟩
  ·
   have hk1:=h1;have hkr:=h3;have hlim:k0≤n∧(off < failAt→(k0:Int)≤failAt - off):=by omega
   obtain ⟨k,rfl⟩:∃ k,k=k0:=⟨_,rfl⟩;have CL:=hid (fun q=>clone_bytes A k c (rest.take k) (w.drewN q) (Kd.C_drewN (C_to HA.out.here k hkr) q) (by omega) (by omega));obtain ⟨A1,c1,hs2,eA,ec⟩:=from_run A rest.length c k hkr;have EA:=hid (And.intro eA ec);clear eA ec
   go_wp2_with fail
   repeat (go_quiet (fail);try go_wp2_with fail)
   refine (CL.out _).mono ?_;rintro e w1 ⟨g,cap,rfl,ho,hbl⟩;have hl:=(Array.getElem?_eq_some_iff.1 HB.out).1;have hb1:=(hbl.block sb hl).trans HB.out;have j0:w1.cell? ⟨sb,0,none⟩=some (.slice A rest.length c):=by simp [World.cell?,hb1]
   have j3:w1.cell? ⟨sb,3,none⟩=some (.int .i64 off):=by simp [World.cell?,hb1]
   have j4:w1.cell? ⟨sb,4,none⟩=some (.int .i64 rds):=by simp [World.cell?,hb1]
   have g0:w1.frozen? ⟨sb,0,none⟩=false:=by simp [World.frozen?,hb1]
   have g3:w1.frozen? ⟨sb,3,none⟩=false:=by simp [World.frozen?,hb1]
   have g4:w1.frozen? ⟨sb,4,none⟩=false:=by simp [World.frozen?,hb1]
   have T:=hid (H.out.after (k:=k) HB.out hc HA.out HB2.out hkr hk1 (show Below w.heap.size w w1 from (pw_below_drewN (Below.refl _ _) _).trans hbl));have HO:=hid (show Own w1 w.heap.size g cap k (rest.take k) from ho);have hne:w.heap.size≤g:=ho.from_;rw [← EA.out.1,← EA.out.2] at T;clear hb1 ho hbl CL
   go_wp2_with fail
   rw [hw1]
   go_ret2
   exact ⟨k,g,cap,hk1,hlim.1,hkr,hlim.2,rfl,((HO.out.far (p:=⟨sb,0,none⟩) (by simp;omega) _).far (p:=⟨sb,3,none⟩) (by simp;omega) _).far (p:=⟨sb,4,none⟩) (by simp;omega) _,T.out.1,T.out.2⟩
 ·
  have hk1:=h1;have hkr:=h3;have hlim:k0≤n∧(off < failAt→(k0:Int)≤failAt - off):=by omega
  obtain ⟨k,rfl⟩:∃ k,k=k0:=⟨_,rfl⟩;have CL:=hid (fun q=>clone_bytes A k c (rest.take k) (w.drewN q) (Kd.C_drewN (C_to HA.out.here k hkr) q) (by omega) (by omega));obtain ⟨A1,c1,hs2,eA,ec⟩:=from_run A rest.length c k hkr;have EA:=hid (And.intro eA ec);clear eA ec
  go_wp2_with fail
  repeat (go_quiet (fail);try go_wp2_with fail)
  refine (CL.out _).mono ?_;rintro e w1 ⟨g,cap,rfl,ho,hbl⟩;have hl:=(Array.getElem?_eq_some_iff.1 HB.out).1;have hb1:=(hbl.block sb hl).trans HB.out;have j0:w1.cell? ⟨sb,0,none⟩=some (.slice A rest.length c):=by simp [World.cell?,hb1]
  have j3:w1.cell? ⟨sb,3,none⟩=some (.int .i64 off):=by simp [World.cell?,hb1]
  have j4:w1.cell? ⟨sb,4,none⟩=some (.int .i64 rds):=by simp [World.cell?,hb1]
  have g0:w1.frozen? ⟨sb,0,none⟩=false:=by simp [World.frozen?,hb1]
  have g3:w1.frozen? ⟨sb,3,none⟩=false:=by simp [World.frozen?,hb1]
  have g4:w1.frozen? ⟨sb,4,none⟩=false:=by simp [World.frozen?,hb1]
  have T:=hid (H.out.after (k:=k) HB.out hc HA.out HB2.out hkr hk1 (show Below w.heap.size w w1 from (pw_below_drewN (Below.refl _ _) _).trans hbl));have HO:=hid (show Own w1 w.heap.size g cap k (rest.take k) from ho);have hne:w.heap.size≤g:=ho.from_;rw [← EA.out.1,← EA.out.2] at T;clear hb1 ho hbl CL
  go_wp2_with fail
  rw [hw1]
  go_ret2
  exact ⟨k,g,cap,hk1,hlim.1,hkr,hlim.2,rfl,((HO.out.far (p:=⟨sb,0,none⟩) (by simp;omega) _).far (p:=⟨sb,3,none⟩) (by simp;omega) _).far (p:=⟨sb,4,none⟩) (by simp;omega) _,T.out.1,T.out.2⟩
set_option maxHeartbeats 1000000 in
theorem read_fails (w:World) (sb n:Nat) (rest chunks:List Int) (off rds:Int) (h:Src w sb rest chunks off off rds) (hn:1≤n) (hn2:n≤512): Calls Tryz.prog 86 #[.pointer (some ⟨sb,0,none⟩),.int .i64 n] w fun e w'=>e=.returned (.tuple #[.slice none 0 0,.int .i64 11])∧Drawn0 w w':=by
 obtain ⟨A,c,B,d,hb,hc,hA,hB⟩:=h.blk;have k2:w.cell? ⟨sb,2,none⟩=some (.int .i64 off):=by simp [World.cell?,hb]
 have k3:w.cell? ⟨sb,3,none⟩=some (.int .i64 off):=by simp [World.cell?,hb]
 have hn1:¬ (n:Int) < 1:=by omega
 clear h hb hA hB;go_enter Tryz.func86,Tryz.ntmps86
 go_wp2_with fail
 repeat (go_quiet (fail);try go_wp2)
 go_ret2
 exact ⟨rfl,⟨⟨_,rfl⟩⟩⟩
set_option maxHeartbeats 1000000 in
theorem read_eof (w:World) (sb n:Nat) (chunks:List Int) (failAt off rds:Int) (h:Src w sb [] chunks failAt off rds) (hf:off≠failAt) (hn:1≤n) (hn2:n≤512): Calls Tryz.prog 86 #[.pointer (some ⟨sb,0,none⟩),.int .i64 n] w fun e w'=>e=.returned (.tuple #[.slice none 0 0,.int .i64 4])∧Drawn0 w w':=by
 obtain ⟨A,c,B,d,hb,hc,hA,hB⟩:=h.blk;have k0:w.cell? ⟨sb,0,none⟩=some (.slice A 0 c):=by simp [World.cell?,hb]
 have k2:w.cell? ⟨sb,2,none⟩=some (.int .i64 failAt):=by simp [World.cell?,hb]
 have k3:w.cell? ⟨sb,3,none⟩=some (.int .i64 off):=by simp [World.cell?,hb]
 have hn1:¬ (n:Int) < 1:=by omega
 clear h hb hA hB;go_enter Tryz.func86,Tryz.ntmps86
 go_wp2_with fail
 repeat (go_quiet (fail);try go_wp2)
 go_ret2
 exact ⟨rfl,⟨⟨_,rfl⟩⟩⟩
end ZSource
namespace ZBlock
open Oct ZBase ZGlob ZMo ZSum ZApp ZSource
attribute [local go_sem] max2_int min2_int max_two min_two max_three min_three
def okChunks (chunks:List Int):Prop:=∀ x∈chunks,-9223372036854775808≤x∧x≤9223372036854775807
def Str (w:World) (sb:Nat) (off:Int) (av:List Int) (ε:Int):Prop :=
 ∃ rest chunks failAt rds,Src w sb rest chunks failAt off rds∧okChunks chunks ∧
  ((ε=4∧av=rest∧(failAt < off∨off+rest.length < failAt))∨(ε=11∧off≤failAt∧failAt≤off+rest.length∧av=rest.take (failAt - off).toNat))
theorem read_more (w:World) (sb n:Nat) (off:Int) (av:List Int) (ε:Int) (h:Str w sb off av ε) (hn:1≤n) (hn2:n≤512) (ha:0 < av.length): Calls Tryz.prog 86 #[.pointer (some ⟨sb,0,none⟩),.int .i64 n] w fun e w'=>∃ k g cap,1≤k∧k≤n∧k≤av.length∧e=.returned (.tuple #[.slice (some ⟨g,0,none⟩) k cap,.int .i64 0])∧Own w' w.heap.size g cap k (av.take k)∧Str w' sb (off+k) (av.drop k) ε∧Mo [sb] w w':=by
 obtain ⟨rest,chunks,failAt,rds,hs,hc,hcase⟩:=h;have hf:off≠failAt:=by
  rcases hcase with ⟨_,rfl,h⟩ | ⟨_,h1,h2,rfl⟩
  ·omega
  ·rw [List.length_take] at ha;omega
 have hr:0 < rest.length:=by
  rcases hcase with ⟨_,rfl,h⟩ | ⟨_,h1,h2,rfl⟩
  ·exact ha
  ·rw [List.length_take] at ha;omega
 refine (read_some w sb n rest chunks failAt off rds hs hc hn hn2 hf hr).mono ?_;rintro e w' ⟨k,g,cap,h1,h2,h3,h4,rfl,ho,hs',hm⟩;rcases hcase with ⟨rfl,rfl,h⟩ | ⟨rfl,h5,h6,rfl⟩
 ·exact ⟨k,g,cap,h1,h2,h3,rfl,ho,⟨_,_,_,_,hs',hc,.inl ⟨rfl,rfl,by rw [List.length_drop];omega⟩⟩,hm.mo⟩
 ·
  have h7:=h4 (by omega);refine ⟨k,g,cap,h1,h2,by rw [List.length_take];omega,rfl,?_,⟨_,_,_,_,hs',hc,.inr ⟨rfl,by omega,by rw [List.length_drop];omega,?_⟩⟩,hm.mo⟩
  ·rw [List.take_take,Nat.min_eq_left (by omega)];exact ho
  ·rw [List.drop_take];congr 1;omega
theorem read_done (w:World) (sb n:Nat) (off:Int) (ε:Int) (h:Str w sb off [] ε) (hn:1≤n) (hn2:n≤512): Calls Tryz.prog 86 #[.pointer (some ⟨sb,0,none⟩),.int .i64 n] w fun e w'=>e=.returned (.tuple #[.slice none 0 0,.int .i64 ε])∧Drawn0 w w':=by
 obtain ⟨rest,chunks,failAt,rds,hs,hc,⟨rfl,rfl,h⟩ | ⟨rfl,h1,h2,h3⟩⟩:=h
 ·exact read_eof w sb n chunks failAt off rds hs (by simp at h;omega) hn hn2
 ·
  have h4:failAt=off:=by have:=congrArg List.length h3;rw [List.length_take] at this;simp at this;omega
  subst h4;exact read_fails w sb n rest chunks failAt rds hs hn hn2
structure Rdr (w:World) (rb sb:Nat) (off:Int) (err:Int):Prop where
 blk:w.heap[rb]?=some (.cells #[.int .i64 off,.int .i64 err,.pointer (some ⟨sb,0,none⟩)] 94 (0,0))
structure Rd (w:World) (rb sb:Nat) (off:Int) (av:List Int) (ε:Int):Prop where
 rdr:Rdr w rb sb off 0
 str:Str w sb off av ε
 ord:sb < rb
theorem Str.step {w w':World} {sb:Nat} {off:Int} {av:List Int} {ε:Int} (h:Str w sb off av ε) (hk:∀ k,k≤sb→w'.heap[k]?=w.heap[k]?):Str w' sb off av ε:=by obtain ⟨rest,chunks,failAt,rds,hs,hc,hcase⟩:=h;obtain ⟨A,c,B,d,hb,h1,h2,h3⟩:=hs.blk;exact ⟨rest,chunks,failAt,rds,⟨⟨A,c,B,d,(hk sb (Nat.le_refl _)).trans hb,h1,h2.step fun k h=>hk k (by omega),h3.step fun k h=>hk k (by omega)⟩,hs.rds0,hs.offs,hs.fail,hs.bytes⟩,hc,hcase⟩
theorem Str.lt {w:World} {sb:Nat} {off:Int} {av:List Int} {ε:Int} (h:Str w sb off av ε):sb < w.heap.size:=by obtain ⟨rest,chunks,failAt,rds,hs,hc,hcase⟩:=h;obtain ⟨A,c,B,d,hb,h1,h2,h3⟩:=hs.blk;exact blk_lt hb
theorem Rd.step {w w':World} {rb sb:Nat} {off:Int} {av:List Int} {ε:Int} (h:Rd w rb sb off av ε) (hk:∀ k,k≤rb→w'.heap[k]?=w.heap[k]?):Rd w' rb sb off av ε :=
 ⟨⟨(hk rb (Nat.le_refl _)).trans h.rdr.blk⟩,h.str.step fun k hk2=>hk k (by have:=h.ord;omega),h.ord⟩
theorem Rd.below {w w':World} {rb sb:Nat} {off:Int} {av:List Int} {ε:Int} (h:Rd w rb sb off av ε) (hb:Below w.heap.size w w'):Rd w' rb sb off av ε :=
 h.step fun k hk=>hb.block k (by have:=blk_lt h.rdr.blk;omega)
set_option maxHeartbeats 1000000 in
theorem offset_calls (w:World) (rb sb:Nat) (off err:Int) (h:Rdr w rb sb off err):Calls Tryz.prog 48 #[.pointer (some ⟨rb,0,none⟩)] w fun e w'=>e=.returned (.int .i64 off)∧w=w':=by
 have k0:w.cell? ⟨rb,0,none⟩=some (.int .i64 off):=by simp [World.cell?,h.blk]
 go_enter Tryz.func48,Tryz.ntmps48;go_wp2;go_ret;exact ⟨rfl,rfl⟩
set_option maxHeartbeats 1000000 in
theorem fail_calls (w:World) (rb sb:Nat) (off err x:Int) (h:Rdr w rb sb off err):Calls Tryz.prog 87 #[.pointer (some ⟨rb,0,none⟩),.int .i64 x] w fun e w'=>e=.returned (.int .i64 x)∧w'=w.setCell ⟨rb,1,none⟩ (.int .i64 x):=by
 have k0:w.cell? ⟨rb,1,none⟩=some (.int .i64 err):=by simp [World.cell?,h.blk]
 have f0:w.frozen? ⟨rb,1,none⟩=false:=by simp [World.frozen?,h.blk]
 go_enter Tryz.func87,Tryz.ntmps87;go_wp2;go_ret;exact ⟨rfl,rfl⟩
set_option maxHeartbeats 1000000 in
theorem newReader_calls (w:World) (sb:Nat) (off:Int):Calls Tryz.prog 20 #[.pointer (some ⟨sb,0,none⟩)] w fun e w'=>e=.returned (.pointer (some ⟨w.heap.size,0,none⟩))∧w'=w.alloc (.cells #[.int .i64 0,.int .i64 0,.pointer (some ⟨sb,0,none⟩)] 94):=by go_enter Tryz.func20,Tryz.ntmps20;go_wp2;go_ret;exact ⟨rfl,rfl⟩
theorem make0 (w:World):∃ w1,(Instr.makeSlice 30 (.int .i64 0) (.int .i64 512)).run Tryz.prog w=.ok (.slice (some ⟨w.heap.size,0,none⟩) 0 512) w1∧Own w1 w.heap.size w.heap.size 512 0 []∧Below w.heap.size w w1:=by obtain ⟨i,hi,hz⟩:=Option.map_eq_some_iff.1 info5;simp only [Prod.mk.injEq] at hz;obtain ⟨w1,h1,h2,h3⟩:=run_makeSlice_owned (w:=w) (P:=Tryz.prog) w.heap.size 30 5 i (.int .u8 0) 1 Tryz.underlying30 hi hz.1 hz.2.1 .i64 .i64 512 (by decide) (by rw [hz.2.2];decide) (by decide) (Nat.le_refl _);exact ⟨w1,h1,⟨h2⟩,Below.of_grown h3⟩
theorem Rdr.ne {w:World} {rb sb:Nat} {off err:Int} {av:List Int} {ε:Int} (h:Rdr w rb sb off err) (s:Str w sb off av ε):rb≠sb:=by rintro rfl;obtain ⟨rest,chunks,failAt,rds,hs,_⟩:=s;obtain ⟨A,c,B,d,hb,_⟩:=hs.blk;rw [h.blk] at hb;cases hb
structure Nx (w wr:World) (rb sb:Nat) (off:Int) (av:List Int) (ε:Int) (g cap j:Nat):Prop where
 row:Own wr w.heap.size g cap j (av.take j)
 rd:Rd wr rb sb (off+j) (av.drop j) ε
 mo:Mo [sb,rb] w wr
 le:j≤512∧j≤av.length
 lt:rb < w.heap.size
theorem Str.offs {w:World} {sb:Nat} {off:Int} {av:List Int} {ε:Int} (h:Str w sb off av ε):0≤off∧off+av.length≤4611686018427387904:=by
 obtain ⟨rest,chunks,failAt,rds,hs,hc,hcase⟩:=h;have:=hs.offs;rcases hcase with ⟨_,rfl,_⟩ | ⟨_,_,_,rfl⟩
 ·omega
 ·rw [List.length_take];omega
theorem Nx.step {w wr w2 w3:World} {rb sb:Nat} {off:Int} {av:List Int} {ε:Int} {g cap j k g2 cap2 g3 cap3:Nat} (h:Nx w wr rb sb off av ε g cap j) (h1:1≤k) (h2:j+k≤512) (h3:k≤(av.drop j).length) (hs2:Str w2 sb (off+j+k) ((av.drop j).drop k) ε) (hm2:Mo [sb] wr w2) (ho2:Own w2 wr.heap.size g2 cap2 k ((av.drop j).take k)) (ho3:Own w3 w.heap.size g3 cap3 (j+k) (av.take j++(av.drop j).take k)) (hm3:Mo [g] w2 w3) (hg3:g3=g∨w2.heap.size≤g3): Nx w (w3.setCell ⟨rb,0,none⟩ (.int .i64 (off+j+k))) rb sb off av ε g3 cap3 (j+k):=by
 have hlt:=h.lt;have hgw:=h.row.from_;have hsr:=h.rd.ord;have h2s:=hm2.size;have hws:=h.mo.size;have h3w:w.heap.size≤g3:=ho3.from_;have b2:=hm2.blk h.rd.rdr.blk (by simp;omega);have b3:=hm3.blk b2 (by simp;omega);have b4:=blk_set b3 0 (.int .i64 (off+j+k));refine ⟨?_,⟨⟨by simpa [Int.add_assoc] using b4⟩,?_,hsr⟩,?_,?_,hlt⟩
 ·have e:av.take (j+k)=av.take j++(av.drop j).take k:=List.take_add;rw [e];exact ho3.far (p:=⟨rb,0,none⟩) (by show g3≠rb;omega) _
 ·
  have e:av.drop (j+k)=(av.drop j).drop k:=by rw [List.drop_drop]
  rw [e,Int.natCast_add,← Int.add_assoc];refine (hs2.step fun x hx=>hm3.keep x (by omega) (by simp;omega)).step fun x hx=>Below.heap_setCell _ _ _ _ (by show x≠rb;omega)
 ·
  refine Mo.set ((h.mo.then_ hm2 (by simp)).then_ hm3 ?_) (.inl (by simp)) _;intro t ht;obtain rfl:t=g:=by simpa using ht
  exact .inr hgw
 ·rw [List.length_drop] at h3;omega
set_option maxHeartbeats 4000000 in
theorem next_ok (w:World) (rb sb:Nat) (off:Int) (av:List Int) (ε:Int) (h:Rd w rb sb off av ε) (ha:512≤av.length): Calls Tryz.prog 49 #[.pointer (some ⟨rb,0,none⟩)] w fun e w'=>∃ g cap,e=.returned (.tuple #[.slice (some ⟨g,0,none⟩) 512 cap,.int .i64 0])∧Own w' w.heap.size g cap 512 (av.take 512)∧Rd w' rb sb (off+512) (av.drop 512) ε∧Mo [sb,rb] w w':=by
 have k1:w.cell? ⟨rb,1,none⟩=some (.int .i64 0):=by simp [World.cell?,h.rdr.blk]
 obtain ⟨w1,hmk,ho1,hb1⟩:=make0 w;have S0:=hid (show Nx w w1 rb sb off av ε w.heap.size 512 0 from ⟨by simpa using ho1,by simpa using h.below hb1,Mo.of_below hb1,by omega,blk_lt h.rdr.blk⟩);clear h ho1 hb1;go_enter Tryz.func49,Tryz.ntmps49
 go_wp2_with fail
 go_loopw [4] (fun v wr=>∃ g cap j,v=.slice (some ⟨g,0,none⟩) j cap∧Nx w wr rb sb off av ε g cap j) (fun v _=>512 - (match v with | .slice _ n _=>n | _=>0))
 case atStart=>exact ⟨_,_,0,rfl,S0.out⟩
 case round =>
  clear S0;obtain ⟨g,cap,j,rfl,hS⟩:=hrel;have hle:=hS.le;by_cases hj:j < 512
  ·
   have hj1:(j:Int) < 512:=by omega
   obtain ⟨n,hn⟩:∃ n:Nat,(512:Int) - j=n:=⟨512 - j,by omega⟩;have k2:wr.cell? ⟨rb,2,none⟩=some (.pointer (some ⟨sb,0,none⟩)):=by simp [World.cell?,hS.rd.rdr.blk]
   have RC:=hid (read_more wr sb n (off+j) (av.drop j) ε hS.rd.str (by omega) (by omega) (by rw [List.length_drop];omega));have S:=hid hS;clear hS
   go_wp2_with fail
   refine RC.out.mono ?_;rintro e w2 ⟨k,g2,cap2,h1,h2,h3,rfl,ho2,hs2,hm2⟩;have HM:=hid (And.intro hm2 (And.intro hs2 ho2));have hg:g≠sb:=by have:=S.out.lt;have:=S.out.row.from_;have:=S.out.rd.ord;omega
   have hrow:=S.out.row.mo hm2 (by simpa using hg);have hrd2:=ho2.reads;have hr3:∀ g' cap' w3,Own w3 w.heap.size g' cap' (j+k) (av.take j++(av.drop j).take k)→Mo [g] w2 w3→(g'=g∨w2.heap.size≤g')→w3.cell? ⟨rb,0,none⟩=some (.int .i64 (off+j))∧w3.frozen? ⟨rb,0,none⟩=false∧wrap64 (off+j+k)=off+j+k∧Nx w (w3.setCell ⟨rb,0,none⟩ (.int .i64 (off+j+k))) rb sb off av ε g' cap' (j+k):=by intro g' cap' w3 ho3 hm3 hor;have hlt:=S.out.lt;have hgw:=S.out.row.from_;have hsr:=S.out.rd.ord;have b2:=HM.out.1.blk S.out.rd.rdr.blk (by simp;omega);have b3:=hm3.blk b2 (by simp;omega);have ho:=HM.out.2.1.offs;have hn2:=hn;refine ⟨by simp [World.cell?,b3],by simp [World.frozen?,b3],w64s (by omega) (by omega),S.out.step h1 (by omega) h3 HM.out.2.1 HM.out.1 HM.out.2.2 ho3 hm3 hor⟩
   have hl:j+k≤140737488355328:=by omega
   have hb3:w.heap.size≤w2.heap.size:=Nat.le_trans S.out.mo.size HM.out.1.size;replace hr3:=hid hr3;replace hrow:=hid hrow;replace hrd2:=hid hrd2;replace hl:=hid hl;replace hb3:=hid hb3;have hjk:=hid (show j+k≤512∧1≤k by omega);clear hs2 hm2 ho2 h1 h2 h3 hg hle
   go_wp2_with (at_builtin;refine append_own w2 w.heap.size rfl (.tmp 57) (.tmp 58) rfl g cap j (av.take j) (some ⟨g2,0,none⟩) k cap2 ((av.drop j).take k) rfl rfl hrow.out hrd2.out hb3.out hl.out ?_;intro g3 cap3 w3 ho3 hm3 hg3;obtain ⟨c3,f3,hw3,hN⟩:=hr3.out _ _ _ ho3 hm3 hg3;replace hN:=hid hN;clear ho3 hm3 hg3)
   exact ⟨⟨g3,cap3,j+k,rfl,hN.out⟩,by show 512 - (j+k) < 512 - j;have:=hjk.out;omega⟩
  ·
   obtain rfl:j=512:=by omega
   have S:=hid hS;clear hS hle hj;go_wp2
   go_ret2
   exact ⟨g,cap,rfl,S.out.row,by simpa using S.out.rd,S.out.mo⟩
theorem Nx.ends {w wr:World} {rb sb:Nat} {off:Int} {av:List Int} {ε:Int} {g cap:Nat} (h:Nx w wr rb sb off av ε g cap av.length) (q:Nat) (x:Int): Rdr ((wr.drewN q).setCell ⟨rb,1,none⟩ (.int .i64 x)) rb sb (off+av.length) x∧Mo [sb,rb] w ((wr.drewN q).setCell ⟨rb,1,none⟩ (.int .i64 x)):=by
 have b:=blk_set (w:=wr.drewN q) h.rd.rdr.blk 1 (.int .i64 x);exact ⟨⟨by simpa using b⟩,(h.mo.drewN q).set (.inl (by simp)) _⟩
def endE (n:Nat) (ε:Int):Int:=if ε=4∧0 < n then 5 else ε
set_option maxHeartbeats 4000000 in
theorem next_end (w:World) (rb sb:Nat) (off:Int) (av:List Int) (ε:Int) (h:Rd w rb sb off av ε) (ha:av.length < 512): Calls Tryz.prog 49 #[.pointer (some ⟨rb,0,none⟩)] w fun e w'=>e=.returned (.tuple #[.slice none 0 0,.int .i64 (endE av.length ε)])∧Rdr w' rb sb (off+av.length) (endE av.length ε)∧Mo [sb,rb] w w':=by
 have k1:w.cell? ⟨rb,1,none⟩=some (.int .i64 0):=by simp [World.cell?,h.rdr.blk]
 obtain ⟨w1,hmk,ho1,hb1⟩:=make0 w;have S0:=hid (show Nx w w1 rb sb off av ε w.heap.size 512 0 from ⟨by simpa using ho1,by simpa using h.below hb1,Mo.of_below hb1,by omega,blk_lt h.rdr.blk⟩);have HA:=hid ha;clear h ho1 hb1 ha;go_enter Tryz.func49,Tryz.ntmps49
 go_wp2_with fail
 go_loopw [4] (fun v wr=>∃ g cap j,v=.slice (some ⟨g,0,none⟩) j cap∧Nx w wr rb sb off av ε g cap j) (fun v _=>512 - (match v with | .slice _ n _=>n | _=>0))
 case atStart=>exact ⟨_,_,0,rfl,S0.out⟩
 case round =>
  clear S0;obtain ⟨g,cap,j,rfl,hS⟩:=hrel;have hle:=hS.le;have hj1:(j:Int) < 512:=by have:=HA.out;omega
  obtain ⟨n,hn⟩:∃ n:Nat,(512:Int) - j=n:=⟨512 - j,by omega⟩;have k2:wr.cell? ⟨rb,2,none⟩=some (.pointer (some ⟨sb,0,none⟩)):=by simp [World.cell?,hS.rd.rdr.blk]
  by_cases hj:j < av.length
  ·
   have RC:=hid (read_more wr sb n (off+j) (av.drop j) ε hS.rd.str (by omega) (by omega) (by rw [List.length_drop];omega));have S:=hid hS;clear hS
   go_wp2_with fail
   refine RC.out.mono ?_;rintro e w2 ⟨k,g2,cap2,h1,h2,h3,rfl,ho2,hs2,hm2⟩;have HM:=hid (And.intro hm2 (And.intro hs2 ho2));have hg:g≠sb:=by have:=S.out.lt;have:=S.out.row.from_;have:=S.out.rd.ord;omega
   have hrow:=S.out.row.mo hm2 (by simpa using hg);have hrd2:=ho2.reads;have hr3:∀ g' cap' w3,Own w3 w.heap.size g' cap' (j+k) (av.take j++(av.drop j).take k)→Mo [g] w2 w3→(g'=g∨w2.heap.size≤g')→w3.cell? ⟨rb,0,none⟩=some (.int .i64 (off+j))∧w3.frozen? ⟨rb,0,none⟩=false∧wrap64 (off+j+k)=off+j+k∧Nx w (w3.setCell ⟨rb,0,none⟩ (.int .i64 (off+j+k))) rb sb off av ε g' cap' (j+k):=by intro g' cap' w3 ho3 hm3 hor;have hlt:=S.out.lt;have hgw:=S.out.row.from_;have hsr:=S.out.rd.ord;have b2:=HM.out.1.blk S.out.rd.rdr.blk (by simp;omega);have b3:=hm3.blk b2 (by simp;omega);have ho:=HM.out.2.1.offs;have hn2:=hn;refine ⟨by simp [World.cell?,b3],by simp [World.frozen?,b3],w64s (by omega) (by omega),S.out.step h1 (by omega) h3 HM.out.2.1 HM.out.1 HM.out.2.2 ho3 hm3 hor⟩
   have hl:j+k≤140737488355328:=by omega
   have hb3:w.heap.size≤w2.heap.size:=Nat.le_trans S.out.mo.size HM.out.1.size;replace hr3:=hid hr3;replace hrow:=hid hrow;replace hrd2:=hid hrd2;replace hl:=hid hl;replace hb3:=hid hb3;have hjk:=hid (show j+k≤512∧1≤k by omega);clear hs2 hm2 ho2 h1 h2 h3 hg hle
   go_wp2_with (at_builtin;refine append_own w2 w.heap.size rfl (.tmp 57) (.tmp 58) rfl g cap j (av.take j) (some ⟨g2,0,none⟩) k cap2 ((av.drop j).take k) rfl rfl hrow.out hrd2.out hb3.out hl.out ?_;intro g3 cap3 w3 ho3 hm3 hg3;obtain ⟨c3,f3,hw3,hN⟩:=hr3.out _ _ _ ho3 hm3 hg3;replace hN:=hid hN;clear ho3 hm3 hg3)
   exact ⟨⟨g3,cap3,j+k,rfl,hN.out⟩,by show 512 - (j+k) < 512 - j;have:=hjk.out;omega⟩
  ·
   obtain rfl:j=av.length:=by omega
   have hs0:=hS.rd.str;rw [List.drop_length] at hs0;have RC:=hid (read_done wr sb n (off+av.length) ε hs0 (by omega) (by omega));have HE:Hid (ε=4∨ε=11):=hid (by
    obtain ⟨_,_,_,_,_,_,⟨h,_⟩ | ⟨h,_⟩⟩:=hs0
    ·exact .inl h
    ·exact .inr h)
   have S:=hid hS;clear hS hs0;rcases HE.out with rfl | rfl
   ·
    by_cases hz:av.length=0
    ·
     have HV:=hid (show endE av.length 4=4 by rw [endE,if_neg (by omega)]);have HZ:=hid hz;clear hz
     go_wp2_with fail
     refine RC.out.mono ?_;rintro e w2 ⟨rfl,⟨q,rfl⟩⟩;have hz1:¬ 0 < (av.length:Int):=by have:=HZ.out;omega
     have FC:=hid (fail_calls (wr.drewN q) rb sb (off+av.length) 0 4 ⟨S.out.rd.rdr.blk⟩);have T:=hid (S.out.ends q 4);clear RC
     go_wp2_with fail
     refine FC.out.mono ?_;rintro e w3 ⟨rfl,rfl⟩;go_wp2
     go_ret2
     rw [HV.out];exact ⟨rfl,T.out⟩
    ·
     have HV:=hid (show endE av.length 4=5 by rw [endE,if_pos (by omega)]);have hz1:0 < (av.length:Int):=by omega
     clear hz
     go_wp2_with fail
     refine RC.out.mono ?_;rintro e w2 ⟨rfl,⟨q,rfl⟩⟩;have FC:=hid (fail_calls (wr.drewN q) rb sb (off+av.length) 0 5 ⟨S.out.rd.rdr.blk⟩);have T:=hid (S.out.ends q 5);clear RC
     go_wp2_with fail
     refine FC.out.mono ?_;rintro e w3 ⟨rfl,rfl⟩;go_wp2
     go_ret2
     rw [HV.out];exact ⟨rfl,T.out⟩
   ·
    have HV:=hid (show endE av.length 11=11 by rw [endE,if_neg (by omega)])
    go_wp2_with fail
    refine RC.out.mono ?_;rintro e w2 ⟨rfl,⟨q,rfl⟩⟩;have FC:=hid (fail_calls (wr.drewN q) rb sb (off+av.length) 0 11 ⟨S.out.rd.rdr.blk⟩);have T:=hid (S.out.ends q 11);clear RC
    go_wp2_with fail
    refine FC.out.mono ?_;rintro e w3 ⟨rfl,rfl⟩;go_wp2
    go_ret2
    rw [HV.out];exact ⟨rfl,T.out⟩
theorem clone_ints (B:Option Addr) (m d:Nat) (ch:List Int) (w:World) (hr:Kd.C (Kd.int .i64) w B m ch) (hm:m≤17592186044416): Calls Tryz.prog 26 #[.slice B m d] w fun e w'=>∃ v,e=.returned v∧w'.ownsRow w.heap.size 3 1 v m (nums .i64 ch)∧Below w.heap.size w w':=by
 have hlen:=Kd.C_len hr;cases B with
 | none =>
  have h0:m=0:=by
   rcases Nat.eq_zero_or_pos m with h | h
   ·exact h
   ·obtain ⟨ad,h',_⟩:=hr.2.2 h;cases h'
  subst h0;obtain rfl:ch=[]:=List.eq_nil_of_length_eq_zero hlen;refine (Tryz.slices_Clone_int_nil 0 d w).mono ?_;rintro e w' ⟨rfl,rfl⟩;exact ⟨_,rfl,own_nil _ _ _ _,Below.refl _ _⟩
 | some ad =>
  rcases Nat.eq_zero_or_pos m with h | h
  ·subst h;obtain rfl:ch=[]:=List.eq_nil_of_length_eq_zero hlen;refine (Tryz.slices_Clone_int_zero ad d w).mono ?_;rintro e w' ⟨v,rfl,ho,_,hb⟩;exact ⟨v,rfl,ho,hb⟩
  ·
   have hcell:∀ i,i < m→w.cell? (ad.add i)=some (.int .i64 (ch.getD i 0)):=fun i hi=>by obtain ⟨ad',e,hc⟩:=Kd.at_int hr (i:Int) (by omega) (by omega);cases e;simpa [rd] using hc
   obtain ⟨b,o,s⟩:=ad;obtain rfl:s=none:=by simpa [Addr.add] using World.cell?_spot (hcell 0 h)
   refine (Tryz.slices_Clone_int b o m d ch w (by omega) (by omega) (fun j hj=>by rw [← Go.WideShapes.add_plain];exact hcell j (by omega))).mono ?_
   rintro e w' ⟨v,rfl,ho,_,hb⟩;rw [List.take_of_length_le (by omega)] at ho;exact ⟨v,rfl,ho,hb⟩
theorem own_und {W:World} {base e n:Nat} {k:IntKind} {v:Value} {l:List Int} (h:W.ownsRow base e 1 v n (nums k l)) (o:Obj):∃ A c,v=.slice A n c∧n≤c∧Und W.heap.size (W.alloc o) (fun X=>Kd.C (Kd.int k) X A n l):=by obtain ⟨A,c,rfl,hr⟩:=own_reads h;refine ⟨A,c,rfl,own_le h,Und.row (Kd.C_alloc (Kd.C_of_reads (d:=(0:Int)) (h1:=fun _=>rfl) hr) _) fun ad e _=>?_⟩;subst e;exact own_lt h _ rfl
theorem new_src {W:World} {base n m:Nat} {v1 v2:Value} {l ch:List Int} (h1:W.ownsRow base 5 1 v1 n (nums .u8 l)) (h2:W.ownsRow base 3 1 v2 m (nums .i64 ch)) (failAt:Int) (hf:-4611686018427387904≤failAt∧failAt≤4611686018427387904) (hl:l.length≤4611686018427387904) (hb:∀ x∈l,0≤x∧x < 256): Src (W.alloc (.cells #[v1,v2,.int .i64 failAt,.int .i64 0,.int .i64 0] 67)) W.heap.size l ch failAt 0 0:=by
 obtain ⟨A,c,rfl,hc,hA⟩:=own_und h1 (.cells #[v1,v2,.int .i64 failAt,.int .i64 0,.int .i64 0] 67);obtain ⟨B,d,rfl,_,hB⟩:=own_und h2 (.cells #[.slice A n c,v2,.int .i64 failAt,.int .i64 0,.int .i64 0] 67);have e1:l.length=n:=by simpa [nums] using h1.1
 have e2:ch.length=m:=by simpa [nums] using h2.1
 subst e1 e2;exact ⟨⟨A,c,B,d,blk_new _ _,hc,hA,hB⟩,by omega,by omega,hf,hb⟩
structure Bx (w W:World) (B:Option Addr) (m d:Nat) (failAt:Int):Prop where
 bel:Below w.heap.size w W
 box:W.heap[w.heap.size]?=some (.cells #[.slice B m d,.int .i64 failAt] 25 (0,0))
theorem Bx.drew {w W:World} {B:Option Addr} {m d:Nat} {failAt:Int} (h:Bx w W B m d failAt):Bx w W.drew B m d failAt:=⟨below_drew h.bel,h.box⟩
theorem Bx.step {w W W1:World} {B:Option Addr} {m d:Nat} {failAt:Int} (h:Bx w W B m d failAt) (hb:Below W.heap.size W W1):Bx w W1 B m d failAt:=⟨below_step h.bel hb,(hb.block _ (blk_lt h.box)).trans h.box⟩
theorem Bx.cells {w W:World} {B:Option Addr} {m d:Nat} {failAt:Int} (h:Bx w W B m d failAt):W.cell? ⟨w.heap.size,0,none⟩=some (.slice B m d)∧W.cell? ⟨w.heap.size,1,none⟩=some (.int .i64 failAt) :=
 ⟨by simp [World.cell?,h.box],by simp [World.cell?,h.box]⟩
set_option maxHeartbeats 4000000 in
theorem new_calls (A B:Option Addr) (n c m d:Nat) (l ch:List Int) (failAt:Int) (w:World) (hA:Kd.C (Kd.int .u8) w A n l) (hB:Kd.C (Kd.int .i64) w B m ch) (hn:n≤140737488355328) (hm:m≤17592186044416) (hf:-4611686018427387904≤failAt∧failAt≤4611686018427387904) (hb:∀ x∈l,0≤x∧x < 256): Calls Tryz.prog 11 #[.slice A n c,.agg #[.slice B m d,.int .i64 failAt]] w fun e w'=>∃ sb,e=.returned (.pointer (some ⟨sb,0,none⟩))∧w.heap.size≤sb∧Src w' sb l ch failAt 0 0∧Below w.heap.size w w':=by
 have C1:∀ W:World,Bx w W B m d failAt→Calls Tryz.prog 25 #[.slice A n c] W fun e w1=>∃ A1 c1,e=.returned (.slice A1 n c1)∧w1.ownsRow w.heap.size 5 1 (.slice A1 n c1) n (nums .u8 l)∧Below W.heap.size W w1∧Hid (Bx w w1 B m d failAt)∧w1.cell? ⟨w.heap.size,0,none⟩=some (.slice B m d)∧w1.cell? ⟨w.heap.size,1,none⟩=some (.int .i64 failAt):=fun W hW=>by refine (clone_row A n c l W (Kd.C_below hA hW.bel) hn).mono ?_;rintro e w1 ⟨v,rfl,ho,hb⟩;obtain ⟨A1,c1,rfl⟩:=own_slice ho;exact ⟨A1,c1,rfl,own_less ho hW.bel.size,hb,hid (hW.step hb),(hW.step hb).cells.1,(hW.step hb).cells.2⟩
 have C2:∀ W:World,Bx w W B m d failAt→Calls Tryz.prog 26 #[.slice B m d] W fun e w1=>∃ A1 c1,e=.returned (.slice A1 m c1)∧w1.ownsRow w.heap.size 3 1 (.slice A1 m c1) m (nums .i64 ch)∧Below W.heap.size W w1∧Hid (Bx w w1 B m d failAt)∧w1.cell? ⟨w.heap.size,0,none⟩=some (.slice B m d)∧w1.cell? ⟨w.heap.size,1,none⟩=some (.int .i64 failAt):=fun W hW=>by refine (clone_ints B m d ch W (Kd.C_below hB hW.bel) hm).mono ?_;rintro e w1 ⟨v,rfl,ho,hb⟩;obtain ⟨A1,c1,rfl⟩:=own_slice ho;exact ⟨A1,c1,rfl,own_less ho hW.bel.size,hb,hid (hW.step hb),(hW.step hb).cells.1,(hW.step hb).cells.2⟩
 replace C1:=hid C1;replace C2:=hid C2;have S0:=hid (show Bx w (w.alloc (.cells #[.slice B m d,.int .i64 failAt] 25)).drew B m d failAt from Bx.drew ⟨below_alloc (Below.refl _ _) _,blk_new _ _⟩);have c0:=S0.out.cells.1;have c1:=S0.out.cells.2;have HF:=hid hf;have HB:=hid hb;have HL:=hid (show l.length≤4611686018427387904 by have:=Kd.C_len hA;omega);clear hA hB hn hm hf hb;go_enter Tryz.func11,Tryz.ntmps11
 go_wp2_with fail
 go_region_with (first
  | (go_at_call 25;refine (C1.out _ ?_).mono ?_;(first | exact S0.out | exact s2.out);rintro e w1 ⟨A1,k1,rfl,ho1,hb1,s1,d0,d1⟩;replace ho1:=hid ho1;replace hb1:=hid hb1)
  | (go_at_call 26;refine (C2.out _ ?_).mono ?_;(first | exact S0.out | exact s1.out);rintro e w2 ⟨A2,k2,rfl,ho2,hb2,s2,d2,d3⟩;replace ho2:=hid ho2;replace hb2:=hid hb2))
 all_goals
  go_wp2;go_ret;refine ⟨_,rfl,?_,new_src (base:=w.heap.size) (n:=n) (m:=m) ?_ ?_ failAt HF.out HL.out HB.out,?_⟩
  ·first | exact s1.out.bel.size | exact s2.out.bel.size
  ·first | exact ho1.out | exact pw_own_below ho1.out hb2.out
  ·first | exact ho2.out | exact pw_own_below ho2.out hb1.out
  ·first | exact below_alloc s1.out.bel _ | exact below_alloc s2.out.bel _
end ZBlock
namespace ZZero
open Oct ZBase ZGlob ZMo
theorem pred89 (x:Int) (w:World):Calls Tryz.prog 89 #[.int .u8 x] w fun e w'=>e=.returned (.bool (x != 0))∧w=w':=by
 go_enter Tryz.func89,Tryz.ntmps89
 go_wp2_with fail
 go_ret;exact ⟨rfl,rfl⟩
set_option maxHeartbeats 2000000 in
theorem index89 (A:Option Addr) (n c:Nat) (l:List Int) (w:World) (hr:Kd.C (Kd.int .u8) w A n l) (hn:n≤4611686018427387904): Calls Tryz.prog 84 #[.slice A n c,.func (.func 89) #[] #[]] w fun e w'=>∃ r:Int,e=.returned (.int .i64 r)∧(0≤r↔∃ x∈l,x≠0)∧w=w':=by
 have hlen:=Kd.C_len hr;have PC:=hid pred89;have HR:=hid (And.intro hr hlen);clear hr hlen;go_enter Tryz.func84,Tryz.ntmps84
 go_wp2_with fail
 go_loop [8] (fun i=>∃ j:Nat,j≤n∧i=.int .i64 j∧Hid (∀ x∈l.take j,x=0)) (fun i=>n - (intOf i).toNat)
 case atStart=>exact ⟨0,Nat.zero_le _,rfl,hid (by simp)⟩
 case round =>
  obtain ⟨j,hj,rfl,HZ⟩:=hrel;by_cases hlt:j < n
  ·
   have hltz:(j:Int) < (n:Int):=by omega
   obtain ⟨x,hx⟩:∃ x,l[j]?=some x:=⟨_,List.getElem?_eq_getElem (by rw [HR.out.2];exact hlt)⟩;obtain ⟨a0,rfl,x0⟩:=Kd.at_int HR.out.1 (j:Int) (by omega) (by omega);have r0:rd l (j:Int)=x:=by simp [rd,List.getD_eq_getElem?_getD,hx]
   rw [Int.toNat_natCast,r0] at x0;have HX:=hid hx;have P1:=hid (PC.out x);clear r0 hx
   go_wp2_with fail
   refine (P1.out _).mono ?_;rintro r w2 ⟨rfl,rfl⟩;by_cases hz:x=0
   ·
    have bz:(x != 0)=false:=by simp [hz]
    have HXZ:=hid hz;clear hz
    go_wp2_with fail
    go_round
    case rel =>
     refine ⟨j+1,by omega,by go_num,hid fun y hy=>?_⟩;rw [List.take_add_one,HX.out] at hy;rcases List.mem_append.1 hy with h | h
     ·exact HZ.out y h
     ·
      have:y=x:=by simpa using h
      rw [this,HXZ.out]
    case measure=>simp [intOf];omega
   ·
    have bz:(x != 0)=true:=by rw [bne_iff_ne];exact hz
    have HXZ:=hid hz;clear hz
    go_wp2_with fail
    go_ret;exact ⟨_,rfl,⟨fun _=>⟨x,List.mem_of_getElem? HX.out,HXZ.out⟩,fun _=>by omega⟩,rfl⟩
  ·
   obtain rfl:j=n:=by omega
   go_wp2_with fail
   go_ret;refine ⟨-1,rfl,⟨fun h=>by omega,fun ⟨x,h1,h2⟩=>?_⟩,rfl⟩;have h3:=HZ.out x (by rw [← HR.out.2,List.take_length];exact h1);exact absurd h3 h2
theorem pred85 (x:Int) (w:World):Calls Tryz.prog 85 #[.int .u8 x] w fun e w'=>e=.returned (.bool (x != 0))∧w=w':=by
 go_enter Tryz.func85,Tryz.ntmps85
 go_wp2_with fail
 go_ret;exact ⟨rfl,rfl⟩
set_option maxHeartbeats 2000000 in
theorem index85 (A:Option Addr) (n c:Nat) (l:List Int) (w:World) (hr:Kd.C (Kd.int .u8) w A n l) (hn:n≤4611686018427387904): Calls Tryz.prog 84 #[.slice A n c,.func (.func 85) #[] #[]] w fun e w'=>∃ r:Int,e=.returned (.int .i64 r)∧(0≤r↔∃ x∈l,x≠0)∧w=w':=by
 have hlen:=Kd.C_len hr;have PC:=hid pred85;have HR:=hid (And.intro hr hlen);clear hr hlen;go_enter Tryz.func84,Tryz.ntmps84
 go_wp2_with fail
 go_loop [8] (fun i=>∃ j:Nat,j≤n∧i=.int .i64 j∧Hid (∀ x∈l.take j,x=0)) (fun i=>n - (intOf i).toNat)
 case atStart=>exact ⟨0,Nat.zero_le _,rfl,hid (by simp)⟩
 case round =>
  obtain ⟨j,hj,rfl,HZ⟩:=hrel;by_cases hlt:j < n
  ·
   have hltz:(j:Int) < (n:Int):=by omega
   obtain ⟨x,hx⟩:∃ x,l[j]?=some x:=⟨_,List.getElem?_eq_getElem (by rw [HR.out.2];exact hlt)⟩;obtain ⟨a0,rfl,x0⟩:=Kd.at_int HR.out.1 (j:Int) (by omega) (by omega);have r0:rd l (j:Int)=x:=by simp [rd,List.getD_eq_getElem?_getD,hx]
   rw [Int.toNat_natCast,r0] at x0;have HX:=hid hx;have P1:=hid (PC.out x);clear r0 hx
   go_wp2_with fail
   refine (P1.out _).mono ?_;rintro r w2 ⟨rfl,rfl⟩;by_cases hz:x=0
   ·
    have bz:(x != 0)=false:=by simp [hz]
    have HXZ:=hid hz;clear hz
    go_wp2_with fail
    go_round
    case rel =>
     refine ⟨j+1,by omega,by go_num,hid fun y hy=>?_⟩;rw [List.take_add_one,HX.out] at hy;rcases List.mem_append.1 hy with h | h
     ·exact HZ.out y h
     ·
      have:y=x:=by simpa using h
      rw [this,HXZ.out]
    case measure=>simp [intOf];omega
   ·
    have bz:(x != 0)=true:=by rw [bne_iff_ne];exact hz
    have HXZ:=hid hz;clear hz
    go_wp2_with fail
    go_ret;exact ⟨_,rfl,⟨fun _=>⟨x,List.mem_of_getElem? HX.out,HXZ.out⟩,fun _=>by omega⟩,rfl⟩
  ·
   obtain rfl:j=n:=by omega
   go_wp2_with fail
   go_ret;refine ⟨-1,rfl,⟨fun h=>by omega,fun ⟨x,h1,h2⟩=>?_⟩,rfl⟩;have h3:=HZ.out x (by rw [← HR.out.2,List.take_length];exact h1);exact absurd h3 h2
theorem contains_calls (A:Option Addr) (n c:Nat) (l:List Int) (w:World) (hr:Kd.C (Kd.int .u8) w A n l) (hn:n≤4611686018427387904): Calls Tryz.prog 88 #[.slice A n c,.func (.func 89) #[] #[]] w fun e w'=>∃ b:Bool,e=.returned (.bool b)∧(b=true↔∃ x∈l,x≠0)∧w=w':=by
 have IC:=hid (index89 A n c l w hr hn);clear hr;go_enter Tryz.func88,Tryz.ntmps88
 go_wp2_with fail
 refine IC.out.mono ?_;rintro e w2 ⟨r,rfl,h,rfl⟩;have H:=hid h;clear h
 go_wp2_with fail
 go_ret;exact ⟨_,rfl,by simpa using H.out,rfl⟩
theorem zero_calls (A:Option Addr) (n c:Nat) (l:List Int) (w:World) (hr:Kd.C (Kd.int .u8) w A n l) (hn:n≤4611686018427387904): Calls Tryz.prog 50 #[.slice A n c] w fun e w'=>∃ b:Bool,e=.returned (.bool b)∧(b=true↔∀ x∈l,x=0)∧w=w':=by
 have IC:=hid (contains_calls A n c l w hr hn);clear hr;go_enter Tryz.func50,Tryz.ntmps50
 go_wp2_with fail
 refine IC.out.mono ?_;rintro e w2 ⟨b,rfl,h,rfl⟩;have H:=hid h;clear h
 go_wp2_with fail
 go_ret;refine ⟨!b,rfl,?_,rfl⟩;have h:=H.out;cases b with
 | true =>obtain ⟨x,h1,h2⟩:=h.1 rfl;exact ⟨fun h=>by simp at h,fun h3=>absurd (h3 x h1) h2⟩
 | false =>
  refine ⟨fun _ x hx=>?_,fun _=>rfl⟩;by_cases h0:x=0
  ·exact h0
  ·exact absurd (h.2 ⟨x,hx,h0⟩) (by simp)
end ZZero
namespace ZSmall
open Oct ZBase
end ZSmall
end
end Go.Proofs.YteikiojmcipkmaaGreatDoor
