/- Parts of the proof, gathered by a program: what calls of the functions answer, and what follows in plain lists. Conditions: those that each theorem states. -/
import Derived.Test.YteikiojmcipkmaaGreatDoorMR16
set_option linter.unusedVariables false
set_option linter.unusedSimpArgs false
namespace Go.Proofs.YteikiojmcipkmaaGreatDoor
open Go.Lib (hid)
set_option maxRecDepth 100000
section
namespace ZHead
open Go.RowKit YteikiojmcipkmaaGreatDoorW.PrintWords YteikiojmcipkmaaGreatDoorW.PrintLast YteikiojmcipkmaaGreatDoorW.PrintMore Oct ZBase ZOctal ZGlob ZCstr ZCheck ZSumPlain
def sMagic:ByteArray:=⟨#[117,115,116,97,114,0,48,48]⟩
structure En (w wr:World) (h:Hdr) (g:Nat) (L:List Int):Prop where
 bel:Below w.heap.size w wr
 box:wr.heap[w.heap.size]?=some (.cells #[.int .u8 h.typ,.string h.name,.string h.pre,.string h.link,.int .i64 h.mode,.int .i64 h.size] 138 (0,0))
 blk:Blk wr g L
 lt:w.heap.size < g
theorem En.start {w w1:World} (h:Hdr) (hb:Below (w.alloc (.cells #[.int .u8 h.typ,.string h.name,.string h.pre,.string h.link,.int .i64 h.mode,.int .i64 h.size] 138)).heap.size (w.alloc (.cells #[.int .u8 h.typ,.string h.name,.string h.pre,.string h.link,.int .i64 h.mode,.int .i64 h.size] 138)) w1): En w (w1.alloc (.cells (ZSealed.cellsOf (ZSealed.zeros)) 5)) h w1.heap.size (ZSealed.zeros):=by
 have hs:=hb.size;simp at hs;exact ⟨((after_alloc hb).alloc (by omega) _),(Below.heap_alloc _ _ _ (by omega)).trans (alloc_old hb),heap_alloc_new _ _,by omega⟩
theorem join {P:Program} {c:Code} {K:Act→World→Prop} {Q:Exit→Act→World→Prop} {a:Act} {w:World} (A:Act) (S:World→Prop) (h:c.wp P (Exit.then (fun a' w'=>a'=A∧S w') Q) a w) (k:∀ w',S w'→K A w'):c.wp P (Exit.then K Q) a w :=
 Code.wp_mono (fun e a' w' h=>by
  cases e with
  | normal =>obtain ⟨rfl,hS⟩:=h;exact k w' hS
  | _=>exact h) h
theorem En.wrote {w W:World} {h:Hdr} {g:Nat} {L:List Int} (hE:En w W h g L) (o:Obj) (q:Nat) (L2:List Int):En w ((W.alloc o).drewN q |>.setRow g (ZSealed.cellsOf L2)) h g L2:=by
 have l1:=(Array.getElem?_eq_some_iff.1 hE.box).1;have l2:=hE.blk.lt;have hb:=below_alloc (Below.refl W.heap.size W) o;refine ⟨setRow_belowB (pw_below_drewN (below_step hE.bel hb) q) (Nat.le_of_lt hE.lt) _,?_,Blk.put (L:=L) ?_ L2,hE.lt⟩
 ·rw [setRow_other _ _ _ _ (Nat.ne_of_lt hE.lt)];exact (hb.block _ l1).trans hE.box
 ·exact (hb.block _ l2).trans hE.blk
theorem make512 (W:World):(Instr.makeSlice 30 (.int .i64 512) (.int .i64 512)).run Tryz.prog W=.ok (.slice (some ⟨W.heap.size,0,none⟩) 512 512) (W.alloc (.cells (ZSealed.cellsOf (ZSealed.zeros)) 5)):=by have:=make_bytes 512 (by decide) W;rw [made_cells] at this;exact this
theorem En.copies {w W:World} {h:Hdr} {g:Nat} {L:List Int} (hE:En w W h g L) (hL:L.length=512) (o:Obj) (off len:Nat) (s:ByteArray) (hs:s.size≤len) (ho:off+len≤512) (c:Nat) (X:World) (hX:X.heap=(W.alloc o).heap): (Builtin.copy_ #[30,9] 3 #[.slice (some ⟨g,off,none⟩) len c,.string s]).run Tryz.prog X=.ok (goInt s.size) (X.setRow g (ZSealed.cellsOf (put L off (bytesOf s)))):=by
 have hb:Blk (W.alloc o) g L:=hE.blk.below (below_alloc (Below.refl _ _) o);unfold Blk at hb;rw [← hX] at hb;exact copy_str_run X g off len c s L 3 hb hs (by omega)
theorem En.gl {w W:World} {h:Hdr} {g:Nat} {L:List Int} (hE:En w W h g L) (hG:Gl w):Gl W:=hG.below hE.bel
theorem En.cell {w W:World} {h:Hdr} {g:Nat} {L:List Int} (hE:En w W h g L) (i:Nat) (v:Value) (hv:(#[.int .u8 h.typ,.string h.name,.string h.pre,.string h.link,.int .i64 h.mode,.int .i64 h.size]:Array Value)[i]?=some v) (o:Obj) : W.cell? ⟨w.heap.size,i,none⟩=some v∧(W.alloc o).cell? ⟨w.heap.size,i,none⟩=some v :=
 ⟨row_cell hE.box i v hv,pw_cell_below (below_alloc (Below.refl W.heap.size W) o) (row_cell hE.box i v hv)⟩
theorem zeros512:ZSealed.zeros.length=512:=List.length_replicate
def r1 (h:Hdr):List Int:=put ZSealed.zeros 0 (bytesOf h.name)
def r2 (h:Hdr):List Int:=put (r1 h) 157 (bytesOf h.link)
def r3 (h:Hdr):List Int:=put (r2 h) 345 (bytesOf h.pre)
def r4 (h:Hdr):List Int:=put (r3 h) 257 (bytesOf sMagic)
def r5 (h:Hdr):List Int:=put (r4 h) 156 [h.typ]
def r6 (h:Hdr):List Int:=put (r5 h) 100 (fld 7 h.mode)
def r7 (h:Hdr):List Int:=put (r6 h) 124 (fld 11 h.size)
def r8 (h:Hdr):List Int:=put (r7 h) 108 (fld 7 0)
def r9 (h:Hdr):List Int:=put (r8 h) 116 (fld 7 0)
def r10 (h:Hdr):List Int:=put (r9 h) 136 (fld 11 0)
def r11 (h:Hdr):List Int:=put (r10 h) 329 (fld 7 0)
def raw (h:Hdr):List Int:=put (r11 h) 337 (fld 7 0)
theorem put512 {L:List Int} (hL:L.length=512) (o:Nat) (x:List Int) (h:o+x.length≤512):(put L o x).length=512:=by rw [put_len _ _ _ (by omega),hL]
theorem l1 {h:Hdr} (hk:h.Ok):(r1 h).length=512:=put512 zeros512 _ _ (by rw [bytesOf_length];have:=hk.name.2;omega)
theorem l2 {h:Hdr} (hk:h.Ok):(r2 h).length=512:=put512 (l1 hk) _ _ (by rw [bytesOf_length];have:=hk.link.2;omega)
theorem l3 {h:Hdr} (hk:h.Ok):(r3 h).length=512:=put512 (l2 hk) _ _ (by rw [bytesOf_length];have:=hk.pre.2;omega)
theorem l4 {h:Hdr} (hk:h.Ok):(r4 h).length=512:=put512 (l3 hk) _ _ (by rw [bytesOf_length];decide)
theorem l5 {h:Hdr} (hk:h.Ok):(r5 h).length=512:=put512 (l4 hk) _ _ (by simp)
theorem l6 {h:Hdr} (hk:h.Ok):(r6 h).length=512:=put512 (l5 hk) _ _ (by rw [fld_len];decide)
theorem l7 {h:Hdr} (hk:h.Ok):(r7 h).length=512:=put512 (l6 hk) _ _ (by rw [fld_len];decide)
theorem l8 {h:Hdr} (hk:h.Ok):(r8 h).length=512:=put512 (l7 hk) _ _ (by rw [fld_len];decide)
theorem l9 {h:Hdr} (hk:h.Ok):(r9 h).length=512:=put512 (l8 hk) _ _ (by rw [fld_len];decide)
theorem l10 {h:Hdr} (hk:h.Ok):(r10 h).length=512:=put512 (l9 hk) _ _ (by rw [fld_len];decide)
theorem l11 {h:Hdr} (hk:h.Ok):(r11 h).length=512:=put512 (l10 hk) _ _ (by rw [fld_len];decide)
theorem raw_len {h:Hdr} (hk:h.Ok):(raw h).length=512:=put512 (l11 hk) _ _ (by rw [fld_len];decide)
theorem joinB {P:Program} {c:Code} {K:Act→World→Prop} {Q:Exit→Act→World→Prop} {a:Act} {w:World} (f:Act→Value→Act) (S:World→Prop) (h:c.wp P (Exit.then (fun a' w'=>(∃ v,a'=f a v)∧S w') Q) a w) (k:∀ v w',S w'→K (f a v) w'):c.wp P (Exit.then K Q) a w :=
 Code.wp_mono (fun e a' w' h=>by
  cases e with
  | normal =>obtain ⟨⟨v,rfl⟩,hS⟩:=h;exact k v w' hS
  | _=>exact h) h
theorem En.copiesb {w W:World} {h:Hdr} {g:Nat} {L:List Int} (hE:En w W h g L) (hL:L.length=512) (o1 o2:Obj) (b:Nat) (off len:Nat) (x:List Int) (hx:x.length=len) (h0:0 < len) (ho:off+len≤512) (c c2:Nat) (X:World) (hX:X.heap=((W.alloc o1).alloc o2).heap) (hb:X.heap[b]?=some (.cells (ZSealed.cellsOf x) 5 (0,0))): (Builtin.copy_ #[30,30] 3 #[.slice (some ⟨g,off,none⟩) len c,.slice (some ⟨b,0,none⟩) len c2]).run Tryz.prog X=.ok (goInt len) (X.setRow g (ZSealed.cellsOf (put L off x))):=by
 have hbk:Blk ((W.alloc o1).alloc o2) g L:=(hE.blk.below (below_alloc (Below.refl _ _) o1)).below (below_alloc (Below.refl _ _) o2);unfold Blk at hbk;rw [← hX] at hbk;have hr:=ZSum.block_reads hb (by omega);rw [hx] at hr;exact copy_run X g off len c _ len c2 x L 3 hbk hr h0 (Nat.le_refl _) (by omega)
theorem En.wrote2 {w W:World} {h:Hdr} {g:Nat} {L:List Int} (hE:En w W h g L) (o1 o2:Obj) (q:Nat) (L2:List Int):En w ((((W.alloc o1).alloc o2).drewN q).setRow g (ZSealed.cellsOf L2)) h g L2:=by
 have l1:=(Array.getElem?_eq_some_iff.1 hE.box).1;have l2:=hE.blk.lt;have hb:=below_alloc (below_alloc (Below.refl W.heap.size W) o1) o2;refine ⟨setRow_belowB (pw_below_drewN (below_step hE.bel hb) q) (Nat.le_of_lt hE.lt) _,?_,Blk.put (L:=L) ?_ L2,hE.lt⟩
 ·rw [setRow_other _ _ _ _ (Nat.ne_of_lt hE.lt)];exact (hb.block _ l1).trans hE.box
 ·exact (hb.block _ l2).trans hE.blk
theorem En.step {w W W2:World} {h:Hdr} {g:Nat} {L L2:List Int} (hE:En w W h g L) (hw:Wrote W W2 g L2):En w W2 h g L2 :=
 ⟨hE.bel.trans (hw.bel.mono (Nat.le_of_lt hE.lt)),(hw.keep _ (Array.getElem?_eq_some_iff.1 hE.box).1 (Nat.ne_of_lt hE.lt)).trans hE.box,hw.blk,hE.lt⟩
theorem number8 (g off:Nat) (L:List Int) (hL:L.length=512) (ho:off+8≤512) (n:Int) (h0:0≤n) (h1:n < 8 ^ 7) (w:World) (hb:Blk w g L) : Calls Tryz.prog 131 #[.agg #[.int .i64 off,.int .i64 8],.slice (some ⟨g,0,none⟩) 512 512,.int .i64 n] w fun e w'=>e=.returned (.tuple #[])∧Wrote w w' g (put L off (fld 7 n)) :=
 number_calls g off 7 (.inr (.inl rfl)) L hL ho n h0 h1 w hb
theorem number12 (g off:Nat) (L:List Int) (hL:L.length=512) (ho:off+12≤512) (n:Int) (h0:0≤n) (h1:n < 8 ^ 11) (w:World) (hb:Blk w g L) : Calls Tryz.prog 131 #[.agg #[.int .i64 off,.int .i64 12],.slice (some ⟨g,0,none⟩) 512 512,.int .i64 n] w fun e w'=>e=.returned (.tuple #[])∧Wrote w w' g (put L off (fld 11 n)) :=
 number_calls g off 11 (.inr (.inr rfl)) L hL ho n h0 h1 w hb
theorem fld_bytes (d:Nat) (n:Int):Bytes (fld d n):=by
 intro x hx;unfold fld at hx;rcases List.mem_append.1 hx with h | h
 ·have:=digs_mem d n x h;omega
 ·rw [List.mem_singleton.1 h];decide
theorem str_bytes (s:ByteArray):Bytes (bytesOf s):=by intro x hx;simp only [bytesOf,List.mem_map] at hx;obtain ⟨b,_,rfl⟩:=hx;have:=b.toNat_lt;omega
theorem put_bytes {L x:List Int} (hL:Bytes L) (hx:Bytes x) (o:Nat):Bytes (put L o x):=(hL.take o).append (hx.append (hL.drop _))
theorem zeros_bytes:Bytes ZSealed.zeros:=by intro x hx;rw [List.eq_of_mem_replicate hx];decide
theorem raw_bytes {h:Hdr} (hk:h.Ok):Bytes (raw h):=by
 have ht:Bytes [h.typ]:=by intro x hx;rw [List.mem_singleton.1 hx];have:=hk.typ;omega
 exact put_bytes (put_bytes (put_bytes (put_bytes (put_bytes (put_bytes (put_bytes (put_bytes (put_bytes (put_bytes (put_bytes (put_bytes zeros_bytes (str_bytes _) _) (str_bytes _) _) (str_bytes _) _) (str_bytes _) _) ht _) (fld_bytes _ _) _) (fld_bytes _ _) _) (fld_bytes _ _) _) (fld_bytes _ _) _) (fld_bytes _ _) _) (fld_bytes _ _) _) (fld_bytes _ _) _
def rr (h:Hdr):Nat→List Int
 | 0=>r7 h
 | 1=>r8 h
 | 2=>r9 h
 | 3=>r10 h
 | 4=>r11 h
 | _=>raw h
def fives:Array Value:=#[.int .i64 108,.int .i64 8,.int .i64 116,.int .i64 8,.int .i64 136,.int .i64 12,.int .i64 329,.int .i64 8,.int .i64 337,.int .i64 8]
theorem En.alloc {w W:World} {h:Hdr} {g:Nat} {L:List Int} (hE:En w W h g L) (o:Obj):En w (W.alloc o) h g L :=
 ⟨below_step hE.bel (below_alloc (Below.refl _ _) o),(Below.heap_alloc _ _ _ (Array.getElem?_eq_some_iff.1 hE.box).1).trans hE.box,hE.blk.below (below_alloc (Below.refl _ _) o),hE.lt⟩
structure Ew (w W:World) (h:Hdr) (g b:Nat) (L:List Int):Prop where
 en:En w W h g L
 row:W.heap[b]?=some (.cells fives 176 (0,0))
 ne:b≠g
theorem Ew.start {w W:World} {h:Hdr} {g:Nat} {L:List Int} (hE:En w W h g L):Ew w (W.alloc (.cells fives 176)) h g W.heap.size L :=
 ⟨hE.alloc _,heap_alloc_new _ _,fun e=>by have:=hE.blk.lt;omega⟩
theorem Ew.step {w W W2:World} {h:Hdr} {g b:Nat} {L L2:List Int} {o:Obj} (hE:Ew w W h g b L) (hw:Wrote (W.alloc o) W2 g L2):Ew w W2 h g b L2:=by have l1:=(Array.getElem?_eq_some_iff.1 hE.row).1;exact ⟨(hE.en.alloc o).step hw,(hw.keep b (by simp;omega) hE.ne).trans ((Below.heap_alloc _ _ _ l1).trans hE.row),hE.ne⟩
set_option maxHeartbeats 4000000 in
theorem encode_calls (h:Hdr) (hk:h.Ok) (w:World) (hG:Gl w):Calls Tryz.prog 92 #[h.val] w fun e w'=>∃ g cap,e=.returned (.tuple #[.slice (some ⟨g,0,none⟩) 512 cap,.int .i64 0])∧Own w' w.heap.size g cap 512 (sealL (raw h))∧Below w.heap.size w w':=by
 have q0:=hid (below_alloc (Below.refl w.heap.size w) (.cells #[.int .u8 h.typ,.string h.name,.string h.pre,.string h.link,.int .i64 h.mode,.int .i64 h.size] 138));have CC:=hid (ZCheck.check_calls h hk _ (hG.below q0.out));have G:=hid hG;have hmk:=make512;clear hG;unfold Hdr.val Hdr.cells at *;go_enter Tryz.func92,Tryz.ntmps92
 go_wp2_with fail
 refine CC.out.mono ?_;rintro e w1 ⟨rfl,hb1⟩;have E1:=hid (En.start h hb1);clear hb1 CC q0
 go_wp2_with fail
 obtain ⟨W1,hW⟩:∃ W,w1.alloc (.cells (ZSealed.cellsOf ZSealed.zeros) 5)=W:=⟨_,rfl⟩;obtain ⟨g,hg⟩:∃ g,w1.heap.size=g:=⟨_,rfl⟩;rw [hW] at E1 ⊢;rw [hg] at E1 ⊢;clear hW hg;have G1:=E1.out.gl G.out;have a0:=G1.fName.c0;have a1:=G1.fName.c1;obtain ⟨k1,k2⟩:=E1.out.cell 1 _ rfl (.cells #[.int .i64 0,.int .i64 100] 176);have hC:=hid (fun W=>of_calls g 512 512 0 100 (by decide) (Nat.le_refl _) (by decide) (by decide) W);have hcp:=E1.out.copies zeros512 (.cells #[.int .i64 0,.int .i64 100] 176) 0 100 h.name hk.name.2 (by decide) (512 - 0);have hcp0:=hcp _ rfl;have hcp1:=hcp (W1.alloc (.cells #[.int .i64 0,.int .i64 100] 176)).drew rfl;have hcp2:=hcp (W1.alloc (.cells #[.int .i64 0,.int .i64 100] 176)).drew.drew rfl;have hcp3:=hcp (W1.alloc (.cells #[.int .i64 0,.int .i64 100] 176)).drew.drew.drew rfl;clear G1 hcp;apply join (S:=fun W'=>En w W' h g (r1 h))
 ·
  go_region_with (go_at_call 110;refine (hC.out _).mono ?_;rintro e w' ⟨rfl,rfl⟩)
  all_goals exact ⟨rfl,E1.out.wrote _ _ _⟩
 clear a0 a1 k1 k2 hC hcp0 hcp1 hcp2 hcp3 E1;intro W2 E2;replace E2:=hid E2
 go_wp2_with fail
 have G1:=E2.out.gl G.out;have a0:=G1.fLink.c0;have a1:=G1.fLink.c1;obtain ⟨k1,k2⟩:=E2.out.cell 3 _ rfl (.cells #[.int .i64 157,.int .i64 100] 176);have hC:=hid (fun W=>of_calls g 512 512 157 100 (by decide) (Nat.le_refl _) (by decide) (by decide) W);have hcp:=E2.out.copies (l1 hk) (.cells #[.int .i64 157,.int .i64 100] 176) 157 100 h.link hk.link.2 (by decide) (512 - 157);have hcp0:=hcp _ rfl;have hcp1:=hcp (W2.alloc (.cells #[.int .i64 157,.int .i64 100] 176)).drew rfl;have hcp2:=hcp (W2.alloc (.cells #[.int .i64 157,.int .i64 100] 176)).drew.drew rfl;have hcp3:=hcp (W2.alloc (.cells #[.int .i64 157,.int .i64 100] 176)).drew.drew.drew rfl;clear G1 hcp;apply join (S:=fun W'=>En w W' h g (r2 h))
 ·
  go_region_with (go_at_call 110;refine (hC.out _).mono ?_;rintro e w' ⟨rfl,rfl⟩)
  all_goals exact ⟨rfl,E2.out.wrote _ _ _⟩
 clear a0 a1 k1 k2 hC hcp0 hcp1 hcp2 hcp3 E2;intro W3 E3;replace E3:=hid E3
 go_wp2_with fail
 have G1:=E3.out.gl G.out;have a0:=G1.fPrefix.c0;have a1:=G1.fPrefix.c1;obtain ⟨k1,k2⟩:=E3.out.cell 2 _ rfl (.cells #[.int .i64 345,.int .i64 155] 176);have hC:=hid (fun W=>of_calls g 512 512 345 155 (by decide) (Nat.le_refl _) (by decide) (by decide) W);have hcp:=E3.out.copies (l2 hk) (.cells #[.int .i64 345,.int .i64 155] 176) 345 155 h.pre hk.pre.2 (by decide) (512 - 345);have hcp0:=hcp _ rfl;have hcp1:=hcp (W3.alloc (.cells #[.int .i64 345,.int .i64 155] 176)).drew rfl;have hcp2:=hcp (W3.alloc (.cells #[.int .i64 345,.int .i64 155] 176)).drew.drew rfl;have hcp3:=hcp (W3.alloc (.cells #[.int .i64 345,.int .i64 155] 176)).drew.drew.drew rfl;clear G1 hcp;apply join (S:=fun W'=>En w W' h g (r3 h))
 ·
  go_region_with (go_at_call 110;refine (hC.out _).mono ?_;rintro e w' ⟨rfl,rfl⟩)
  all_goals exact ⟨rfl,E3.out.wrote _ _ _⟩
 clear a0 a1 k1 k2 hC hcp0 hcp1 hcp2 hcp3 E3;intro W4 E4;replace E4:=hid E4;have G1:=E4.out.gl G.out;have a0:=G1.fMagic.c0;have a1:=G1.fMagic.c1;have hC:=hid (fun W=>of_calls g 512 512 257 8 (by decide) (Nat.le_refl _) (by decide) (by decide) W);have hcp:=E4.out.copies (l3 hk) (.cells #[.int .i64 257,.int .i64 8] 176) 257 8 sMagic (by decide) (by decide) (512 - 257);have hcp0:=hcp _ rfl;clear G1 hcp
 go_wp2_with fail
 refine (hC.out _).mono ?_;rintro e w' ⟨rfl,rfl⟩;unfold sMagic at hcp0
 go_wp2_with fail
 have E5:En w ((W4.alloc (.cells #[.int .i64 257,.int .i64 8] 176)).setRow g (ZSealed.cellsOf (put (r3 h) 257 (bytesOf ⟨#[117,115,116,97,114,0,48,48]⟩)))) h g (r4 h):=E4.out.wrote _ 0 _;obtain ⟨W5,hW5⟩:∃ X,(W4.alloc (.cells #[.int .i64 257,.int .i64 8] 176)).setRow g (ZSealed.cellsOf (put (r3 h) 257 (bytesOf ⟨#[117,115,116,97,114,0,48,48]⟩)))=X:=⟨_,rfl⟩;rw [hW5] at E5 ⊢;clear hW5 hcp0 hC a0 a1 E4;replace E5:=hid E5;have G1:=E5.out.gl G.out;have a0:=G1.fType.c0;have a1:=G1.fType.c1;have a2:=pw_cell_below (below_alloc (Below.refl W5.heap.size W5) (.cells #[.int .u8 h.typ] 5)) a0;have a3:=pw_cell_below (below_alloc (Below.refl W5.heap.size W5) (.cells #[.int .u8 h.typ] 5)) a1;obtain ⟨k1,k2⟩:=E5.out.cell 0 _ rfl (.cells #[.int .i64 156,.int .i64 1] 176);have hC:=hid (fun W=>of_calls g 512 512 156 1 (by decide) (Nat.le_refl _) (by decide) (by decide) W);have hcp:=E5.out.copiesb (l4 hk) (.cells #[.int .i64 156,.int .i64 1] 176) (.cells #[.int .u8 h.typ] 5) (W5.heap.size+1) 156 1 [h.typ] rfl (by decide) (by decide) (512 - 156) 1;have hcq:=E5.out.copiesb (l4 hk) (.cells #[.int .u8 h.typ] 5) (.cells #[.int .i64 156,.int .i64 1] 176) W5.heap.size 156 1 [h.typ] rfl (by decide) (by decide) (512 - 156) 1;have hcp0:=hcp ((W5.alloc (.cells #[.int .i64 156,.int .i64 1] 176)).alloc (.cells #[.int .u8 h.typ] 5)) rfl (heap_alloc2_new _ _ _);have hcq0:=hcq ((W5.alloc (.cells #[.int .u8 h.typ] 5)).alloc (.cells #[.int .i64 156,.int .i64 1] 176)) rfl (heap_alloc2_old _ _ _);have hcp1:=hcp ((W5.alloc (.cells #[.int .i64 156,.int .i64 1] 176)).alloc (.cells #[.int .u8 h.typ] 5)).drew rfl (heap_alloc2_new _ _ _);have hcq1:=hcq ((W5.alloc (.cells #[.int .u8 h.typ] 5)).alloc (.cells #[.int .i64 156,.int .i64 1] 176)).drew rfl (heap_alloc2_old _ _ _);have hcp2:=hcp ((W5.alloc (.cells #[.int .i64 156,.int .i64 1] 176)).alloc (.cells #[.int .u8 h.typ] 5)).drew.drew rfl (heap_alloc2_new _ _ _);have hcq2:=hcq ((W5.alloc (.cells #[.int .u8 h.typ] 5)).alloc (.cells #[.int .i64 156,.int .i64 1] 176)).drew.drew rfl (heap_alloc2_old _ _ _);have hcp3:=hcp ((W5.alloc (.cells #[.int .i64 156,.int .i64 1] 176)).alloc (.cells #[.int .u8 h.typ] 5)).drew.drew.drew rfl (heap_alloc2_new _ _ _);have hcq3:=hcq ((W5.alloc (.cells #[.int .u8 h.typ] 5)).alloc (.cells #[.int .i64 156,.int .i64 1] 176)).drew.drew.drew rfl (heap_alloc2_old _ _ _);have hcp4:=hcp ((W5.alloc (.cells #[.int .i64 156,.int .i64 1] 176)).alloc (.cells #[.int .u8 h.typ] 5)).drew.drew.drew.drew rfl (heap_alloc2_new _ _ _);have hcq4:=hcq ((W5.alloc (.cells #[.int .u8 h.typ] 5)).alloc (.cells #[.int .i64 156,.int .i64 1] 176)).drew.drew.drew.drew rfl (heap_alloc2_old _ _ _);clear G1 hcp hcq;refine joinB (fun a v=>((((((((a.put (some 42) (.func (.func 110) #[] #[])).put (some 43) (.agg #[.int .i64 156,.int .i64 1])).put (some 44) (.slice (some ⟨g,0,none⟩) 512 512)).put (some 45) (.slice (some ⟨g,156,none⟩) 1 356)).put (some 46) (.pointer (some ⟨w.heap.size,0,none⟩))).put (some 47) (.int .u8 h.typ)).put (some 48) v).put (some 49) (.int .i64 1))) (fun W'=>En w W' h g (r5 h)) ?_ ?_
 ·
  go_region_with (go_at_call 110;refine (hC.out _).mono ?_;rintro e w' ⟨rfl,rfl⟩)
  all_goals first | (refine ⟨⟨.slice (some ⟨W5.heap.size+1,0,none⟩) 1 1,?_⟩,E5.out.wrote2 _ _ _ _⟩;simp only [Act.put,List.setIfInBounds_toArray,List.set_cons_succ,List.set_cons_zero];done) | (refine ⟨⟨.slice (some ⟨W5.heap.size,0,none⟩) 1 1,?_⟩,E5.out.wrote2 _ _ _ _⟩;simp only [Act.put,List.setIfInBounds_toArray,List.set_cons_succ,List.set_cons_zero];done)
 clear a0 a1 a2 a3 k1 k2 hC hcp0 hcp1 hcp2 hcp3 hcp4 hcq0 hcq1 hcq2 hcq3 hcq4 E5;intro v48 W6 E6;simp only [Act.put,List.setIfInBounds_toArray,List.set_cons_succ,List.set_cons_zero];replace E6:=hid E6;have G1:=E6.out.gl G.out;have a0:=G1.fMode.c0;have a1:=G1.fMode.c1;have k1:=(E6.out.cell 4 _ rfl (.cells #[] 5)).1;have N6:=hid (number8 g 100 (r5 h) (l5 hk) (by decide) h.mode hk.mode.1 (by have:=hk.mode.2;omega) W6 E6.out.blk);clear G1
 go_wp2_with fail
 refine N6.out.mono ?_;rintro e W7 ⟨rfl,hw⟩;have E7:=hid (show En w W7 h g (r6 h) from E6.out.step hw);clear hw N6 E6 a0 a1 k1;have G1:=E7.out.gl G.out;have a0:=G1.fSize.c0;have a1:=G1.fSize.c1;have k1:=(E7.out.cell 5 _ rfl (.cells #[] 5)).1;have N7:=hid (number12 g 124 (r6 h) (l6 hk) (by decide) h.size hk.size.1 (by have:=hk.size.2;omega) W7 E7.out.blk);clear G1
 go_wp2_with fail
 refine N7.out.mono ?_;rintro e W8 ⟨rfl,hw⟩;have E8:=hid (show En w W8 h g (r7 h) from E7.out.step hw);clear hw N7 E7 a0 a1 k1;have G1:=E8.out.gl G.out;have a0:=G1.fUid.c0;have a1:=G1.fUid.c1;have b0:=G1.fGid.c0;have b1:=G1.fGid.c1;have c0:=G1.fMtime.c0;have c1:=G1.fMtime.c1;have d0:=G1.fMajor.c0;have d1:=G1.fMajor.c1;have e0:=G1.fMinor.c0;have e1:=G1.fMinor.c1;clear G1
 go_wp2_with fail
 have S0:Ew w (W8.alloc (.cells #[.int .i64 108,.int .i64 8,.int .i64 116,.int .i64 8,.int .i64 136,.int .i64 12,.int .i64 329,.int .i64 8,.int .i64 337,.int .i64 8] 176)) h g W8.heap.size (rr h 0):=Ew.start E8.out;replace S0:=hid S0;clear a0 a1 b0 b1 c0 c1 d0 d1 e0 e1 E8
 go_loopw [69] (fun i wr=>∃ j:Nat,j≤5∧i=.int .i64 j∧Ew w wr h g W8.heap.size (rr h j)) (fun i _=>5 - (intOf i).toNat)
 case atStart=>exact ⟨0,by decide,rfl,S0.out⟩
 case round =>
  clear S0;obtain ⟨j,hj,rfl,hS⟩:=hrel;have hcell:=row_cell hS.row;have S:=hid hS;obtain rfl | rfl | rfl | rfl | rfl | rfl:j=0∨j=1∨j=2∨j=3∨j=4∨j=5:=by omega
  ·
   have k0:wr.cell? ⟨W8.heap.size,0,none⟩=some (.int .i64 108):=hcell 0 _ rfl;have k1:wr.cell? ⟨W8.heap.size,1,none⟩=some (.int .i64 8):=hcell 1 _ rfl;have NC:=hid (number8 g 108 (r7 h) (l7 hk) (by decide) 0 (by decide) (by decide) (wr.alloc (.cells #[.int .i64 108,.int .i64 8] 176)) (hS.en.alloc _).blk);clear hcell hS
   go_wp2_with fail
   refine NC.out.mono ?_;rintro e w3 ⟨rfl,hw⟩;have S3:=hid (show Ew w w3 h g W8.heap.size (rr h 1) from S.out.step hw);clear hw S NC;go_wp2
   go_roundw
   case rel=>exact ⟨1,by decide,by go_num,S3.out⟩
   case measure=>simp [intOf]
  ·
   have k0:wr.cell? ⟨W8.heap.size,2,none⟩=some (.int .i64 116):=hcell 2 _ rfl;have k1:wr.cell? ⟨W8.heap.size,3,none⟩=some (.int .i64 8):=hcell 3 _ rfl;have NC:=hid (number8 g 116 (r8 h) (l8 hk) (by decide) 0 (by decide) (by decide) (wr.alloc (.cells #[.int .i64 116,.int .i64 8] 176)) (hS.en.alloc _).blk);clear hcell hS
   go_wp2_with fail
   refine NC.out.mono ?_;rintro e w3 ⟨rfl,hw⟩;have S3:=hid (show Ew w w3 h g W8.heap.size (rr h 2) from S.out.step hw);clear hw S NC;go_wp2
   go_roundw
   case rel=>exact ⟨2,by decide,by go_num,S3.out⟩
   case measure=>simp [intOf]
  ·
   have k0:wr.cell? ⟨W8.heap.size,4,none⟩=some (.int .i64 136):=hcell 4 _ rfl;have k1:wr.cell? ⟨W8.heap.size,5,none⟩=some (.int .i64 12):=hcell 5 _ rfl;have NC:=hid (number12 g 136 (r9 h) (l9 hk) (by decide) 0 (by decide) (by decide) (wr.alloc (.cells #[.int .i64 136,.int .i64 12] 176)) (hS.en.alloc _).blk);clear hcell hS
   go_wp2_with fail
   refine NC.out.mono ?_;rintro e w3 ⟨rfl,hw⟩;have S3:=hid (show Ew w w3 h g W8.heap.size (rr h 3) from S.out.step hw);clear hw S NC;go_wp2
   go_roundw
   case rel=>exact ⟨3,by decide,by go_num,S3.out⟩
   case measure=>simp [intOf]
  ·
   have k0:wr.cell? ⟨W8.heap.size,6,none⟩=some (.int .i64 329):=hcell 6 _ rfl;have k1:wr.cell? ⟨W8.heap.size,7,none⟩=some (.int .i64 8):=hcell 7 _ rfl;have NC:=hid (number8 g 329 (r10 h) (l10 hk) (by decide) 0 (by decide) (by decide) (wr.alloc (.cells #[.int .i64 329,.int .i64 8] 176)) (hS.en.alloc _).blk);clear hcell hS
   go_wp2_with fail
   refine NC.out.mono ?_;rintro e w3 ⟨rfl,hw⟩;have S3:=hid (show Ew w w3 h g W8.heap.size (rr h 4) from S.out.step hw);clear hw S NC;go_wp2
   go_roundw
   case rel=>exact ⟨4,by decide,by go_num,S3.out⟩
   case measure=>simp [intOf]
  ·
   have k0:wr.cell? ⟨W8.heap.size,8,none⟩=some (.int .i64 337):=hcell 8 _ rfl;have k1:wr.cell? ⟨W8.heap.size,9,none⟩=some (.int .i64 8):=hcell 9 _ rfl;have NC:=hid (number8 g 337 (r11 h) (l11 hk) (by decide) 0 (by decide) (by decide) (wr.alloc (.cells #[.int .i64 337,.int .i64 8] 176)) (hS.en.alloc _).blk);clear hcell hS
   go_wp2_with fail
   refine NC.out.mono ?_;rintro e w3 ⟨rfl,hw⟩;have S3:=hid (show Ew w w3 h g W8.heap.size (rr h 5) from S.out.step hw);clear hw S NC;go_wp2
   go_roundw
   case rel=>exact ⟨5,by decide,by go_num,S3.out⟩
   case measure=>simp [intOf]
  ·
   have hb5:Blk wr g (raw h):=hS.en.blk;have hrd:=ZSum.block_reads hb5 (by rw [raw_len hk];decide);rw [raw_len hk] at hrd;have SC:=hid (ZSum.seal_calls ⟨g,0,none⟩ 512 (raw h) wr hrd (raw_bytes hk));clear hcell hS hb5 hrd
   go_wp2_with fail
   refine SC.out.mono ?_;rintro e w3 ⟨g2,cap,rfl,ho,hb3⟩;have T:=hid (And.intro (ho.lower S.out.en.bel.size) (below_step S.out.en.bel hb3));clear ho hb3 SC;go_wp2
   go_ret2
   exact ⟨_,_,rfl,T.out.1,T.out.2⟩
end ZHead
end
end Go.Proofs.YteikiojmcipkmaaGreatDoor
