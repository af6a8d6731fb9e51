/- Parts of the proof, gathered by a program: what calls of the functions answer, and what follows in plain lists. Conditions: those that each theorem states. -/
import Derived.Test.YteikiojmcipkmaaGreatDoorMR09
set_option linter.unusedVariables false
set_option linter.unusedSimpArgs false
namespace Go.Proofs.YteikiojmcipkmaaGreatDoor
open Go.Lib (hid)
open Go.RowKit YteikiojmcipkmaaGreatDoorW.PrintWords YteikiojmcipkmaaGreatDoorW.PrintLast YteikiojmcipkmaaGreatDoorW.PrintMore Oct ZBase ZOctal ZGlob
set_option maxRecDepth 100000
section
namespace ZCstr
theorem valid_calls (n:Int) (h0:1≤n) (h1:n≤256) (w:World):Calls Tryz.prog 143 #[.int .i64 n] w fun e w'=>e=.returned (.bool true)∧w=w':=by go_enter Tryz.func143,Tryz.ntmps143;go_wp2;go_ret;exact ⟨rfl,rfl⟩
def noNul (s:ByteArray):Prop:=Lib.indexByte s.data.toList 0=-1
theorem nul_calls (s:ByteArray) (h:noNul s) (w:World):Calls Tryz.prog 111 #[.string s,.int .u8 0] w fun e w'=>e=.returned (.int .i64 (-1))∧w=w':=by refine (Tryz.strings_IndexByte s 0 w).mono ?_;rintro e w' ⟨rfl,rfl⟩;have:Lib.indexByte s.data.toList (Int.toNat 0).toUInt8=-1:=h;exact ⟨by rw [this],rfl⟩
theorem check_calls (s:ByteArray) (n:Nat) (h:noNul s) (hs:s.size≤n) (h0:1≤n) (h1:n≤256) (w:World):Calls Tryz.prog 178 #[.string s,.int .i64 n] w fun e w'=>e=.returned (.int .i64 0)∧w=w':=by
 go_enter Tryz.func178,Tryz.ntmps178
 go_wp2_with (first | (go_at_call 143;refine (valid_calls _ (by omega) (by omega) _).mono ?_;rintro e w' ⟨rfl,rfl⟩) | (go_at_call 111;refine (nul_calls s h _).mono ?_;rintro e w' ⟨rfl,rfl⟩))
 go_ret;exact ⟨rfl,rfl⟩
def put (L:List Int) (o:Nat) (x:List Int):List Int:=L.take o++(x++L.drop (o+x.length))
theorem put_len (L:List Int) (o:Nat) (x:List Int) (h:o+x.length≤L.length):(put L o x).length=L.length:=by simp [put];omega
theorem byteCells_nums (s:ByteArray):Lib.byteCells s.data.toList=nums .u8 (bytesOf s):=by simp [Lib.byteCells,nums,bytesOf]
theorem cells_put (L:List Int) (o:Nat) (x:List Int):((ZSealed.cellsOf L).toList.take o++nums .u8 x++(ZSealed.cellsOf L).toList.drop (o+x.length)).toArray=ZSealed.cellsOf (put L o x):=by simp [ZSealed.cellsOf,nums,put]
theorem copy_str_run (W:World) (g o n c:Nat) (s:ByteArray) (L:List Int) (ty:TypeId) (hb:W.heap[g]?=some (.cells (ZSealed.cellsOf L) 5 (0,0))) (hle:s.size≤n) (hfit:o+s.size≤L.length): (Builtin.copy_ #[30,9] ty #[.slice (some ⟨g,o,none⟩) n c,.string s]).run Tryz.prog W=.ok (goInt s.size) (W.setRow g (ZSealed.cellsOf (put L o (bytesOf s)))):=by
 have:=Lib.run_copy_row_string (P:=Tryz.prog) W 30 9 ty 5 g o n c s _ 5 Tryz.underlying30 size5 hb hle (by rw [ZSealed.cellsOf_size];exact hfit);rw [this];have e:(o+s.size)=o+(bytesOf s).length:=by rw [bytesOf_length]
 rw [byteCells_nums,e,cells_put]
theorem made_cells (n:Nat):madeCells #[.int .u8 0] n=ZSealed.cellsOf (List.replicate n 0):=by
 apply Array.ext';apply List.ext_getElem
 ·simp [madeCells,ZSealed.cellsOf,nums]
 ·intro i h1 h2;simp [madeCells,ZSealed.cellsOf,nums,Nat.mod_one]
theorem setRow_below {w W:World} (h:Below w.heap.size w W) (g:Nat) (hg:w.heap.size≤g) (cs:Array Value):Below w.heap.size w (W.setRow g cs) :=
 h.trans ⟨rfl,rfl,rfl,by simp,fun k hk=>setRow_other W g k _ (by omega)⟩
set_option maxHeartbeats 1000000 in
theorem format_calls (s:ByteArray) (n:Nat) (h:noNul s) (hs:s.size≤n) (h0:1≤n) (h1:n≤256) (w:World):Calls Tryz.prog 155 #[.string s,.int .i64 n] w fun e w'=>∃ v,e=.returned (.tuple #[v,.int .i64 0])∧Below w.heap.size w w':=by
 have CC:=hid (check_calls s n h hs h0 h1);have hmk:=make_bytes n (by omega);rw [made_cells] at hmk;have hcp:=copy_str_run (w.alloc (.cells (ZSealed.cellsOf (List.replicate n 0)) 5)) w.heap.size 0 n n s (List.replicate n 0) 3 (heap_alloc_new _ _) hs (by simpa using hs);have q:=hid (setRow_below (below_alloc (Below.refl w.heap.size w) (.cells (ZSealed.cellsOf (List.replicate n 0)) 5)) w.heap.size (Nat.le_refl _) (ZSealed.cellsOf (put (List.replicate n 0) 0 (bytesOf s))));clear h;go_enter Tryz.func155,Tryz.ntmps155
 go_wp2_with (go_at_call 178;refine (CC.out _).mono ?_;rintro e w' ⟨rfl,rfl⟩)
 go_ret2
 exact ⟨_,rfl,q.out⟩
set_option maxHeartbeats 1000000 in
theorem of_calls (g n c off len:Nat) (h:off+len≤n) (hc:n≤c) (ho:off < c) (hm:c≤9223372036854775807) (w:World): Calls Tryz.prog 110 #[.agg #[.int .i64 off,.int .i64 len],.slice (some ⟨g,0,none⟩) n c] w fun e w'=>e=.returned (.slice (some ⟨g,off,none⟩) len (c - off))∧w'=w.alloc (.cells #[.int .i64 off,.int .i64 len] 176):=by
 go_enter Tryz.func110,Tryz.ntmps110;go_wp2;go_ret;exact ⟨by simp,rfl⟩
def Blk (w:World) (g:Nat) (L:List Int):Prop:=w.heap[g]?=some (.cells (ZSealed.cellsOf L) 5 (0,0))
theorem Blk.lt {w:World} {g:Nat} {L:List Int} (h:Blk w g L):g < w.heap.size:=(Array.getElem?_eq_some_iff.1 h).1
theorem Blk.below {w w1:World} {g:Nat} {L:List Int} (h:Blk w g L) (hb:Below w.heap.size w w1):Blk w1 g L:=(hb.block g h.lt).trans h
theorem Blk.put {w:World} {g:Nat} {L:List Int} (h:Blk w g L) (L2:List Int):Blk (w.setRow g (ZSealed.cellsOf L2)) g L2:=setRow_heap w _ _ _ _ _ h
theorem setRow_belowB {B g:Nat} {w W:World} (h:Below B w W) (hg:B≤g) (cs:Array Value):Below B w (W.setRow g cs) :=
 h.trans ⟨rfl,rfl,rfl,by simp,fun k hk=>setRow_other W g k _ (by omega)⟩
theorem box_cells {W:World} {b:Nat} {u v:Value} {t:TypeId} {fr:Nat×Nat} (h:W.heap[b]?=some (.cells #[u,v] t fr)):W.cell? ⟨b,0,none⟩=some u∧W.cell? ⟨b,1,none⟩=some v:=by simp [World.cell?,h]
theorem alloc_old {w w2:World} {o:Obj} (hb:Below (w.alloc o).heap.size (w.alloc o) w2):w2.heap[w.heap.size]?=some o:=(hb.block _ (by simp)).trans (heap_alloc_new w o)
theorem copy_run (W:World) (g o n c:Nat) (A:Option Addr) (m c2:Nat) (x L:List Int) (ty:TypeId) (hb:Blk W g L) (hx:Kd.C (Kd.int .u8) W A m x) (h0:0 < m) (hle:m≤n) (hfit:o+m≤L.length): (Builtin.copy_ #[30,30] ty #[.slice (some ⟨g,o,none⟩) n c,.slice A m c2]).run Tryz.prog W=.ok (goInt m) (W.setRow g (ZSealed.cellsOf (put L o x))):=by
 have hm:=Kd.C_len hx;obtain ⟨ad,rfl,hsrc⟩:=ZSealed.read_cells hx h0;have hn:(nums .u8 x).length=m:=by rw [nums_length,hm]
 have:=run_copy_row (P:=Tryz.prog) W 30 30 ty 5 g o n c ad m c2 _ 5 (nums .u8 x) Tryz.underlying30 size5 hb (by rw [hn];exact (Nat.min_eq_left hle).symm) hsrc (by rw [hn,ZSealed.cellsOf_size];exact hfit) (ZSealed.nums_one x);rw [this,hn];have e:=cells_put L o x;rw [hm] at e;rw [e]
structure Wrote (w w':World) (g:Nat) (L:List Int):Prop where
 blk:Blk w' g L
 bel:Below g w w'
 keep:∀ k,k < w.heap.size→k≠g→w'.heap[k]?=w.heap[k]?
 size:w.heap.size≤w'.heap.size
theorem Wrote.of {w W:World} {g:Nat} {L L2:List Int} (hb:Below w.heap.size w W) (hg:Blk W g L) (hl:g≤w.heap.size):Wrote w (W.setRow g (ZSealed.cellsOf L2)) g L2 :=
 ⟨hg.put L2,setRow_belowB (hb.mono hl) (Nat.le_refl g) _,fun k hk hne=>(setRow_other W g k _ hne).trans (hb.block k hk),by have:=hb.size;simpa [World.setRow] using this⟩
set_option maxHeartbeats 1000000 in
theorem number_calls (g off d:Nat) (hd:d=6∨d=7∨d=11) (L:List Int) (hL:L.length=512) (ho:off+(d+1)≤512) (n:Int) (h0:0≤n) (h1:n < 8 ^ d) (w:World) (hb:Blk w g L): Calls Tryz.prog 131 #[.agg #[.int .i64 off,.int .i64 ((d:Int)+1)],.slice (some ⟨g,0,none⟩) 512 512,.int .i64 n] w fun e w'=>e=.returned (.tuple #[])∧Wrote w w' g (put L off (fld d n)):=by
 have FC:=hid (ZOctal.format_calls d hd n h0 h1);have OC:=hid (fun W=>of_calls g 512 512 off (d+1) ho (Nat.le_refl _) (by omega) (by decide) W);have hcast:((d+1:Nat):Int)=(d:Int)+1:=by omega
 rw [hcast] at OC;have HB:=hid hb;have hlt:=hb.lt;clear hcast hb h0 h1;go_enter Tryz.func131,Tryz.ntmps131
 go_wp2_with fail
 refine (FC.out _).mono ?_;rintro e w2 ⟨g2,c2,rfl,ho2,hb2⟩;obtain ⟨k0,k1⟩:=box_cells (alloc_old hb2);have q2:=hid ((below_alloc (Below.refl w.heap.size w) _).trans (hb2.mono (by simp)));have hb3:=hid ((HB.out.below (below_alloc (Below.refl w.heap.size w) _)).below hb2);have hl2:w.heap.size≤w2.heap.size:=by have:=hb2.size;simp at this;omega
 have hfd:=fld_len d n;have HO2:=hid ho2;have hle:=ho2.le;clear ho2 hb2;have hcp:=copy_run (w2.alloc (.cells #[.int .i64 off,.int .i64 ((d:Int)+1)] 176)) g off (d+1) (512 - off) (some ⟨g2,0,none⟩) (d+1) c2 (fld d n) L 3 (hb3.out.below (below_alloc (Below.refl _ _) _)) (HO2.out.below (below_alloc (Below.refl _ _) _)).reads (Nat.succ_pos d) (Nat.le_refl _) (by omega);have q3:=hid (Wrote.of (L2:=put L off (fld d n)) (q2.out.trans ((below_alloc (Below.refl w2.heap.size w2) (.cells #[.int .i64 off,.int .i64 ((d:Int)+1)] 176)).mono hl2)) (hb3.out.below (below_alloc (Below.refl w2.heap.size w2) _)) (Nat.le_of_lt hlt));clear hb3 q2 HO2
 go_wp2_with (go_at_call 110;refine (OC.out _).mono ?_;rintro e w' ⟨rfl,rfl⟩)
 go_end0
 exact ⟨rfl,q3.out⟩
end ZCstr
namespace ZCheck
open ZCstr
structure Hdr where
 typ:Int
 name:ByteArray
 pre:ByteArray
 link:ByteArray
 mode:Int
 size:Int
def Hdr.cells (h:Hdr):Array Value:=#[.int .u8 h.typ,.string h.name,.string h.pre,.string h.link,.int .i64 h.mode,.int .i64 h.size]
def Hdr.val (h:Hdr):Value:=.agg h.cells
structure Hdr.Ok (h:Hdr):Prop where
 typ:h.typ=48∨h.typ=49∨h.typ=50∨h.typ=53∨h.typ=120
 name:noNul h.name∧h.name.size≤100
 link:noNul h.link∧h.link.size≤100
 pre:noNul h.pre∧h.pre.size≤155
 mode:0≤h.mode∧h.mode≤4095
 size:0≤h.size∧h.size≤8589934591
theorem type_calls (t:Int) (h:t=48∨t=49∨t=50∨t=53∨t=120) (w:World):Calls Tryz.prog 111 #[.string ⟨#[48,49,50,53,120]⟩,.int .u8 t] w fun e w'=>(∃ k:Nat,e=.returned (.int .i64 k))∧w=w':=by
 refine (Tryz.strings_IndexByte _ t w).mono ?_;rintro e w' ⟨rfl,rfl⟩;refine ⟨?_,rfl⟩;rcases h with rfl | rfl | rfl | rfl | rfl
 ·exact ⟨0,rfl⟩
 ·exact ⟨1,rfl⟩
 ·exact ⟨2,rfl⟩
 ·exact ⟨3,rfl⟩
 ·exact ⟨4,rfl⟩
theorem row_cell {W:World} {b:Nat} {cs:Array Value} {t:TypeId} {fr:Nat×Nat} (h:W.heap[b]?=some (.cells cs t fr)) (i:Nat) (v:Value) (hv:cs[i]?=some v):W.cell? ⟨b,i,none⟩=some v:=by simp [World.cell?,h,hv]
structure St (w wr:World) (typ:Int) (name pre link:ByteArray) (mode size:Int):Prop where
 bel:Below w.heap.size w wr
 box:wr.heap[w.heap.size]?=some (.cells #[.int .u8 typ,.string name,.string pre,.string link,.int .i64 mode,.int .i64 size] 138 (0,0))
 row:wr.heap[w.heap.size+1]?=some (.cells #[.string name,.int .i64 0,.int .i64 100,.string link,.int .i64 157,.int .i64 100,.string pre,.int .i64 345,.int .i64 155] 229 (0,0))
theorem St.step {w wr w2:World} {typ:Int} {name pre link:ByteArray} {mode size:Int} (h:St w wr typ name pre link mode size) (hb:Below wr.heap.size wr w2):St w w2 typ name pre link mode size:=by have l1:=(Array.getElem?_eq_some_iff.1 h.box).1;have l2:=(Array.getElem?_eq_some_iff.1 h.row).1;exact ⟨below_step h.bel hb,(hb.block _ l1).trans h.box,(hb.block _ l2).trans h.row⟩
theorem St.start (w:World) (typ:Int) (name pre link:ByteArray) (mode size:Int):St w ((w.alloc (.cells #[.int .u8 typ,.string name,.string pre,.string link,.int .i64 mode,.int .i64 size] 138)).alloc (.cells #[.string name,.int .i64 0,.int .i64 100,.string link,.int .i64 157,.int .i64 100,.string pre,.int .i64 345,.int .i64 155] 229)) typ name pre link mode size :=
 ⟨((Below.refl _ _).alloc (Nat.le_refl _) _).alloc (by simp) _,heap_alloc2_old _ _ _,heap_alloc2_new _ _ _⟩
theorem after_alloc {wr w2:World} {o:Obj} (hb:Below (wr.alloc o).heap.size (wr.alloc o) w2):Below wr.heap.size wr w2:=(below_alloc (Below.refl wr.heap.size wr) o).trans (hb.mono (by simp))
set_option maxHeartbeats 2000000 in
theorem check_calls (h:Hdr) (hk:h.Ok) (w:World) (hG:Gl w):Calls Tryz.prog 130 #[h.val] w fun e w'=>e=.returned (.int .i64 0)∧Below w.heap.size w w':=by
 obtain ⟨typ,name,pre,link,mode,size⟩:=h;obtain ⟨h1,h2,h3,h4,h5,h6⟩:=hk;dsimp only at h1 h2 h3 h4 h5 h6;have TC:=hid (type_calls typ h1);have FN:=hid (ZCstr.format_calls name 100 h2.1 h2.2 (by decide) (by decide));have FL:=hid (ZCstr.format_calls link 100 h3.1 h3.2 (by decide) (by decide));have FP:=hid (ZCstr.format_calls pre 155 h4.1 h4.2 (by decide) (by decide));have G:=hid hG;clear h1 h2 h3 h4 hG;unfold Hdr.val Hdr.cells;dsimp only;have q1:=hid (below_alloc (Below.refl w.heap.size w) (.cells #[.int .u8 typ,.string name,.string pre,.string link,.int .i64 mode,.int .i64 size] 138));have G1:=G.out.below q1.out;have a0:=G1.fName.c0;have a1:=G1.fName.c1;have b0:=G1.fLink.c0;have b1:=G1.fLink.c1;have c0:=G1.fPrefix.c0;have c1:=G1.fPrefix.c1;clear G1;go_enter Tryz.func130,Tryz.ntmps130
 go_wp2_with (go_at_call 111;refine (TC.out _).mono ?_;rintro e w' ⟨⟨k,rfl⟩,rfl⟩;have hk:¬ (k:Int) < 0:=Int.not_lt.2 (Int.natCast_nonneg k))
 clear q1 G;have S0:=hid (St.start w typ name pre link mode size)
 go_loopw [25] (fun i wr=>∃ j:Nat,j≤3∧i=.int .i64 j∧St w wr typ name pre link mode size) (fun i _=>3 - (intOf i).toNat)
 case atStart=>exact ⟨0,by decide,rfl,S0.out⟩
 case round =>
  clear S0 a0 a1 b0 b1 c0 c1;obtain ⟨j,hj,rfl,hS⟩:=hrel;have hcell:=row_cell hS.row;have S:=hid hS;obtain rfl | rfl | rfl | rfl:j=0∨j=1∨j=2∨j=3:=by omega
  ·
   have k0:=hcell 0 _ rfl;have k1:=hcell 1 _ rfl;have k2:=hcell 2 _ rfl;clear hcell hS
   go_wp2_with fail
   refine (FN.out _).mono ?_;rintro e w3 ⟨v,rfl,hb3⟩;have S3:=hid (S.out.step (after_alloc hb3));clear hb3 S;go_wp2
   go_roundw
   case rel=>exact ⟨1,by decide,by go_num,S3.out⟩
   case measure=>simp [intOf]
  ·
   have k0:=hcell 3 _ rfl;have k1:=hcell 4 _ rfl;have k2:=hcell 5 _ rfl;clear hcell hS
   go_wp2_with fail
   refine (FL.out _).mono ?_;rintro e w3 ⟨v,rfl,hb3⟩;have S3:=hid (S.out.step (after_alloc hb3));clear hb3 S;go_wp2
   go_roundw
   case rel=>exact ⟨2,by decide,by go_num,S3.out⟩
   case measure=>simp [intOf]
  ·
   have k0:=hcell 6 _ rfl;have k1:=hcell 7 _ rfl;have k2:=hcell 8 _ rfl;clear hcell hS
   go_wp2_with fail
   refine (FP.out _).mono ?_;rintro e w3 ⟨v,rfl,hb3⟩;have S3:=hid (S.out.step (after_alloc hb3));clear hb3 S;go_wp2
   go_roundw
   case rel=>exact ⟨3,by decide,by go_num,S3.out⟩
   case measure=>simp [intOf]
  ·
   have k4:=row_cell hS.box 4 _ rfl;have k5:=row_cell hS.box 5 _ rfl;have h7:¬ mode < 0:=by omega
   have h8:¬ 4095 < mode:=by omega
   have h9:¬ size < 0:=by omega
   have h10:¬ 8589934591 < size:=by omega
   clear hcell hS;go_wp2;go_ret;exact ⟨rfl,S.out.bel⟩
end ZCheck
end
end Go.Proofs.YteikiojmcipkmaaGreatDoor
