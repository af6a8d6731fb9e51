/- Parts of the proof, gathered by a program: what calls of the functions answer, and what follows in plain lists. Conditions: those that each theorem states. -/
import Derived.Test.YteikiojmcipkmaaGreatDoorMR27
import Derived.Test.YteikiojmcipkmaaGreatDoorMR29
set_option linter.unusedVariables false
set_option linter.unusedSimpArgs false
namespace Go.Proofs.YteikiojmcipkmaaGreatDoor
open Go.Lib (hid)
set_option maxRecDepth 100000
section
namespace ZDHead
open Go.RowKit YteikiojmcipkmaaGreatDoorW.PrintWords YteikiojmcipkmaaGreatDoorW.PrintLast YteikiojmcipkmaaGreatDoorW.PrintMore Oct ZBase ZGlob ZMo ZBlock ZCheck ZPay
open ZEntry (blkB blkB_len)
open ZUDecA (zcells)
open ZUDec (zero_facts HdPost)
open ZSumPlain (Bytes)
theorem _root_.Go.Proofs.YteikiojmcipkmaaGreatDoor.ZBlock.Str.bytes {w:World} {sb:Nat} {off:Int} {av:List Int} {ε:Int} (h:Str w sb off av ε):Bytes av:=by
 obtain ⟨rest,chunks,failAt,rds,hs,hc,hcase⟩:=h;rcases hcase with ⟨_,rfl,_⟩ | ⟨_,_,_,rfl⟩
 ·exact hs.bytes
 ·exact fun x hx=>hs.bytes x (List.mem_of_mem_take hx)
theorem _root_.Go.Proofs.YteikiojmcipkmaaGreatDoor.ZBase.Own.max {w:World} {base g cap n:Nat} {l:List Int} (h:ZBase.Own w base g cap n l):cap≤9223372036854775807:=by
 rcases h.row.2 with ⟨h',_⟩ | ⟨g',cap',cur,h',_,_,_,hm,_⟩
 ·cases h'
 ·
  injection h' with _ _ h3
  rw [h3];exact hm
structure Dc (w:World) (db rb:Nat) (at_:Int):Prop where
 blk:w.heap[db]?=some (.cells #[.pointer (some ⟨rb,0,none⟩),.int .i64 at_] 137 (0,0))
theorem Dc.lt {w:World} {db rb:Nat} {at_:Int} (h:Dc w db rb at_):db < w.heap.size:=blk_lt h.blk
theorem Dc.facts {w:World} {db rb:Nat} {at_:Int} (h:Dc w db rb at_):w.cell? ⟨db,0,none⟩=some (.pointer (some ⟨rb,0,none⟩))∧w.cell? ⟨db,1,none⟩=some (.int .i64 at_)∧w.frozen? ⟨db,1,none⟩=false :=
 ⟨row_cell h.blk 0 _ rfl,row_cell h.blk 1 _ rfl,by simp [World.frozen?,h.blk]⟩
theorem Dc.of {w w1:World} {db rb:Nat} {at_:Int} (h:Dc w db rb at_) (hb:w1.heap[db]?=w.heap[db]?):Dc w1 db rb at_:=⟨hb.trans h.blk⟩
theorem Dc.set {w:World} {db rb:Nat} {at_:Int} (h:Dc w db rb at_) (n:Int):Dc (w.setCell ⟨db,1,none⟩ (.int .i64 n)) db rb n:=⟨by simpa using blk_set h.blk 1 (.int .i64 n)⟩
theorem _root_.Go.Proofs.YteikiojmcipkmaaGreatDoor.ZBlock.Rd.far {w:World} {rb sb:Nat} {off:Int} {av:List Int} {ε:Int} (h:Rd w rb sb off av ε) {p:Addr} (hp:rb < p.block) (v:Value):Rd (w.setCell p v) rb sb off av ε :=
 h.step fun k hk=>Below.heap_setCell _ _ _ _ (by omega)
theorem _root_.Go.Proofs.YteikiojmcipkmaaGreatDoor.ZBlock.Rdr.of {w w1:World} {rb sb:Nat} {off err:Int} (h:Rdr w rb sb off err) (hb:w1.heap[rb]?=w.heap[rb]?):Rdr w1 rb sb off err:=⟨hb.trans h.blk⟩
abbrev zhdr:Value:=(⟨0,⟨#[]⟩,⟨#[]⟩,⟨#[]⟩,0,0⟩:Hdr).val
def HeadPost (w:World) (db rb sb:Nat) (off:Int) (av:List Int) (ε:Int) (e:Ending) (w':World):Prop :=
 Mo [sb,rb,db] w w' ∧
  ((av.length < 512∧e=.returned (.tuple #[zhdr,.int .i64 (endE av.length ε)])∧Dc w' db rb (off+av.length)∧Rdr w' rb sb (off+av.length) (endE av.length ε))
  ∨ (512≤av.length∧(∃ h:Hdr,h.Ok∧av.take 512=blkB h∧e=.returned (.tuple #[h.val,.int .i64 0]))∧Dc w' db rb off∧Rd w' rb sb (off+512) (av.drop 512) ε)
  ∨ (512≤av.length∧(∀ h:Hdr,h.Ok→av.take 512≠blkB h)∧(∃ x:Int,(x=9∨x=8∨x=6)∧e=.returned (.tuple #[zhdr,.int .i64 x]))∧Dc w' db rb off∧Rd w' rb sb (off+512) (av.drop 512) ε))
theorem six_mo {S:List Nat} {w W:World} (h:Mo S w W) (k:Nat) (hk:w.heap.size≤k) (v0 v1 v2 v3 v4 v5:Value) : Mo S w ((((((W.setCell ⟨k,0,none⟩ v0).setCell ⟨k,1,none⟩ v1).setCell ⟨k,2,none⟩ v2).setCell ⟨k,3,none⟩ v3).setCell ⟨k,4,none⟩ v4).setCell ⟨k,5,none⟩ v5) :=
 (((((h.set (.inr hk) _).set (.inr hk) _).set (.inr hk) _).set (.inr hk) _).set (.inr hk) _).set (.inr hk) _
theorem six_keep (W:World) (k j:Nat) (hj:j≠k) (v0 v1 v2 v3 v4 v5:Value): ((((((W.setCell ⟨k,0,none⟩ v0).setCell ⟨k,1,none⟩ v1).setCell ⟨k,2,none⟩ v2).setCell ⟨k,3,none⟩ v3).setCell ⟨k,4,none⟩ v4).setCell ⟨k,5,none⟩ v5).heap[j]?=W.heap[j]?:=by
 rw [Below.heap_setCell _ _ _ _ hj,Below.heap_setCell _ _ _ _ hj,Below.heap_setCell _ _ _ _ hj,Below.heap_setCell _ _ _ _ hj,Below.heap_setCell _ _ _ _ hj,Below.heap_setCell _ _ _ _ hj]
set_option maxHeartbeats 4000000 in
theorem header_calls (w:World) (db rb sb:Nat) (off at0:Int) (av:List Int) (ε:Int) (h:Rd w rb sb off av ε) (hd:Dc w db rb at0) (hlt:rb < db) (hG:Gl w) (h20:20≤w.heap.size) (hsb:20≤sb): Calls Tryz.prog 78 #[.pointer (some ⟨db,0,none⟩)] w (HeadPost w db rb sb off av ε):=by
 have B1:=hid (below_alloc (Below.refl w.heap.size w) (.cells zcells 138));have N1:=hid (heap_alloc_new w (.cells zcells 138));have hsz:(w.alloc (.cells zcells 138)).heap.size=w.heap.size+1:=by simp
 have R1:=hid (h.below B1.out);have D1:=hid (hd.of (B1.out.block _ hd.lt));have HL:=hid (And.intro hd.lt (And.intro hlt (And.intro h.ord (And.intro h20 (And.intro hsb hsz)))));have OC:=hid (offset_calls (w.alloc (.cells zcells 138)) rb sb off 0 R1.out.rdr);have HB:=hid (Str.bytes h.str);have HG:=hid hG;obtain ⟨q0,q1,q2⟩:=D1.out.facts;clear h hd hlt hG h20 hsb hsz;go_enter Tryz.func78,Tryz.ntmps78
 go_wp2_with fail
 refine OC.out.mono ?_;rintro e w' ⟨rfl,rfl⟩;by_cases hl:512≤av.length
 ·
  have NC:=hid (next_ok (w.alloc (.cells zcells 138)) rb sb off av ε R1.out hl);have HLN:=hid hl;clear hl
  go_wp2_with fail
  refine NC.out.mono ?_;rintro e w2 ⟨g,cap,rfl,ho,hr,hm⟩;have M2:=hid ((Mo.of_below B1.out).then_ (S:=[sb,rb]) hm (by simp));have T2:=hid (And.intro ho hr);have D2:=hid (D1.out.of (hm.keep db (by have:=HL.out;omega) (by have:=HL.out;simp;omega)));have N2:=hid ((hm.keep w.heap.size (by have:=HL.out;omega) (by have:=HL.out;simp;omega)).trans N1.out);obtain ⟨q3,q4,q5⟩:=D2.out.facts;have D3:=hid (D2.out.set off);have M3:=hid (show Mo [sb,rb,db] w (w2.setCell ⟨db,1,none⟩ (.int .i64 off)) from (M2.out.more (by simp)).set (.inl (by simp)) _);have HD:=hid (ZUDec.decode_calls g cap (av.take 512) (w2.setCell ⟨db,1,none⟩ (.int .i64 off)) (T2.out.1.far (by
    have h1:=T2.out.1.from_;have h2:=HL.out;show g≠db;omega) _).reads (fun x hx=>HB.out x (List.mem_of_mem_take hx)) T2.out.1.le T2.out.1.max (HG.out.mo M3.out HL.out.2.2.2.1 (by
    have h2:=HL.out;simp;omega)))
  clear ho hr hm NC q0 q1 q2
  go_wp2_with fail
  refine HD.out.mono ?_;rintro e w4 ⟨hb4,hres⟩;have M4:=hid (M3.out.step hb4);have D4:=hid (D3.out.of (hb4.block db (by have:=D3.out.lt;omega)));have R4:=hid ((Rd.far T2.out.2 (p:=⟨db,1,none⟩) (by have:=HL.out;show rb < db;omega) (.int .i64 off)).below hb4);have N4:=(hb4.block w.heap.size (by have h1:=M3.out.size;have h2:=(Array.getElem?_eq_some_iff.1 N2.out).1;simpa using h2)).trans ((Below.heap_setCell _ _ _ _ (by have:=HL.out;show w.heap.size≠db;omega)).trans N2.out);obtain ⟨⟨y0,y1,y2,y3,y4,y5⟩,z0,z1,z2,z3,z4,z5⟩:=zero_facts N4;have HRES:=hid hres;clear hb4 hres HD N4;rcases HRES.out with ⟨hd,hk,hbl,rfl⟩ | ⟨hbad,x,hx,rfl⟩
  ·
   have HH:=hid (And.intro hk hbl);clear hk hbl HRES;obtain ⟨typ,name,pre,lk,mode,size⟩:=hd;unfold Hdr.val Hdr.cells;dsimp only
   go_wp2_with fail
   refine bodyPost_ret (v:=.tuple #[(⟨typ,name,pre,lk,mode,size⟩:Hdr).val,.int .i64 0]) (by simp [results,Tryz.results78,go_sem,Hdr.val,Hdr.cells,y0,y1,y2,y3,y4,y5,z0,z1,z2,z3,z4,z5]) rfl ⟨six_mo M4.out _ (Nat.le_refl _) _ _ _ _ _ _,.inr (.inl ⟨HLN.out,⟨_,HH.out.1,HH.out.2,rfl⟩,?_,?_⟩)⟩
   ·exact D4.out.of (six_keep _ _ _ (by have:=HL.out;omega) _ _ _ _ _ _)
   ·exact R4.out.step fun k hk=>six_keep _ _ _ (by have:=HL.out;omega) _ _ _ _ _ _
  ·
   have HH:=hid (And.intro hbad hx);clear hbad hx HRES;unfold Hdr.val Hdr.cells;dsimp only
   go_wp2_with fail
   refine bodyPost_ret (v:=.tuple #[zhdr,.int .i64 x]) (by simp [results,Tryz.results78,go_sem,Hdr.val,Hdr.cells,y0,y1,y2,y3,y4,y5,z0,z1,z2,z3,z4,z5]) rfl ⟨six_mo M4.out _ (Nat.le_refl _) _ _ _ _ _ _,.inr (.inr ⟨HLN.out,HH.out.1,⟨x,HH.out.2,rfl⟩,?_,?_⟩)⟩
   ·exact D4.out.of (six_keep _ _ _ (by have:=HL.out;omega) _ _ _ _ _ _)
   ·exact R4.out.step fun k hk=>six_keep _ _ _ (by have:=HL.out;omega) _ _ _ _ _ _
 ·
  have NC:=hid (next_end (w.alloc (.cells zcells 138)) rb sb off av ε R1.out (by omega));have HE:=hid (Str.eps R1.out.str);have HLN:=hid (show av.length < 512 by omega);obtain ⟨len,hlen⟩:∃ q,av.length=q:=⟨_,rfl⟩;rw [hlen] at NC HLN;have HLEN:=hid hlen;obtain ⟨x,hx⟩:∃ x,endE len ε=x:=⟨_,rfl⟩;have hx0:x≠0:=by
   rw [← hx];rcases HE.out with rfl | rfl
   ·unfold endE;split <;> decide
   ·unfold endE;split <;> decide
  have HX:=hid hx;rw [hx] at NC;have bx:(x != 0)=true:=by rw [bne_iff_ne];exact hx0
  clear hl hlen hx hx0
  go_wp2_with fail
  refine NC.out.mono ?_;rintro e w2 ⟨rfl,hr,hm⟩;have M2:=hid ((Mo.of_below B1.out).then_ (S:=[sb,rb]) hm (by simp));have D2:=hid (D1.out.of (hm.keep db (by have:=HL.out;omega) (by have:=HL.out;simp;omega)));have N2:=hid ((hm.keep w.heap.size (by have:=HL.out;omega) (by have:=HL.out;simp;omega)).trans N1.out);obtain ⟨q3,q4,q5⟩:=D2.out.facts;have OC2:=hid (offset_calls w2 rb sb _ _ hr);have HR:=hid hr;clear hr hm NC q0 q1 q2
  go_wp2_with fail
  refine OC2.out.mono ?_;rintro e w3 ⟨rfl,rfl⟩;have D3:=hid (D2.out.set (off+len));have M3:=hid (show Mo [sb,rb,db] w (w2.setCell ⟨db,1,none⟩ (.int .i64 (off+len))) from (M2.out.more (by simp)).set (.inl (by simp)) _);have N3:=(Below.heap_setCell w2 ⟨db,1,none⟩ (.int .i64 (off+len)) w.heap.size (by have:=HL.out;show w.heap.size≠db;omega)).trans N2.out;obtain ⟨⟨y0,y1,y2,y3,y4,y5⟩,z0,z1,z2,z3,z4,z5⟩:=zero_facts N3;have HR3:=hid (HR.out.of (Below.heap_setCell w2 ⟨db,1,none⟩ (.int .i64 (off+len)) rb (by have:=HL.out;show rb≠db;omega)));clear N3
  go_wp2_with fail
  refine bodyPost_ret (v:=.tuple #[zhdr,.int .i64 x]) (by simp [results,Tryz.results78,go_sem,Hdr.val,Hdr.cells,y0,y1,y2,y3,y4,y5,z0,z1,z2,z3,z4,z5]) rfl ⟨six_mo M3.out _ (Nat.le_refl _) _ _ _ _ _ _,.inl ⟨?_,?_,?_,?_⟩⟩
  ·rw [HLEN.out];exact HLN.out
  ·rw [HLEN.out,HX.out]
  ·rw [HLEN.out];exact D3.out.of (six_keep _ _ _ (by have:=HL.out;omega) _ _ _ _ _ _)
  ·rw [HLEN.out,HX.out];exact HR3.out.of (six_keep _ _ _ (by have:=HL.out;omega) _ _ _ _ _ _)
end ZDHead
end
end Go.Proofs.YteikiojmcipkmaaGreatDoor
