/- Parts of the proof, gathered by a program: what calls of the functions answer, and what follows in plain lists. Conditions: those that each theorem states. -/
import Derived.Test.YteikiojmcipkmaaGreatDoorMR31
import Derived.Test.YteikiojmcipkmaaGreatDoorMR34
import Derived.Test.YteikiojmcipkmaaGreatDoorMR35
import Derived.Test.YteikiojmcipkmaaGreatDoorMR36
set_option linter.unusedVariables false
set_option linter.unusedSimpArgs false
namespace Go.Proofs.YteikiojmcipkmaaGreatDoor
open Go.Lib (hid)
open ZBase
set_option maxRecDepth 100000
section
namespace ZMbr
open Go.RowKit YteikiojmcipkmaaGreatDoorW.PrintWords YteikiojmcipkmaaGreatDoorW.PrintLast YteikiojmcipkmaaGreatDoorW.PrintMore Oct ZGlob ZMo ZBlock ZCheck ZPay ZDHead ZRec ZMergeA ZDRecA ZFit
open ZEntry (blkB blkB_len extH sPax blocks extended_calls)
open ZDecA ZBld ZAdd ZNod ZCanon
open ZSink (ob)
open ZTCheck (cell_of)
def DecC (w:World) (rb sb:Nat) (off off2:Int) (av2:List Int) (ε:Int) (S:Ent→Prop) (T:Int→Int→Prop):Prop :=
 Calls Tryz.prog 44 #[.pointer (some ⟨rb,0,none⟩)] w fun e w'=>Mo [sb,rb] w w' ∧
  ((∃ x:Ent,S x∧x.Ok∧e=.returned (.tuple #[x.val,.int .i64 off,.int .i64 0])∧Rd w' rb sb off2 av2 ε) ∨
   (∃ o c:Int,T o c∧c≠0∧e=.returned (.tuple #[zent,.int .i64 o,.int .i64 c])∧(c=18→Rd w' rb sb off2 av2 ε)))
def takes (x:Ent):Nat:=if x.kind=1 then blocks x.size.toNat * 512 else 0
def dataOf (x:Ent) (av:List Int):List Int:=if x.kind=1 then av.take x.size.toNat else []
def L5 (rb sb db:Nat) (nv:Value):List Nat:=sb :: rb :: db :: (db+1) :: (db+2) :: ob nv
def MemPost (w:World) (rb sb db base:Nat) (nv:Value) (N:List NV) (dm:List (ByteArray×Bool)) (fm:List (ByteArray×Int)) (off off2:Int) (av2:List Int) (ε:Int) (S:Ent→Prop) (T:Int→Int→Prop) (e:Ending) (w':World):Prop :=
 Mo (L5 rb sb db nv) w w' ∧
  ((∃ o c:Int,T o c∧c≠0∧e=.returned (.tuple #[.int .i64 o,.int .i64 (if c=4 then 5 else c)])∧(c=18→Rd w' rb sb off2 av2 ε∧Mo [sb,rb] w w'))
  ∨ (∃ x c,S x∧¬ BOk N dm fm x∧(c=12∨c=13∨c=15)∧e=.returned (.tuple #[.int .i64 off,.int .i64 c]))
  ∨ (∃ x,S x∧BOk N dm fm x∧av2.length < takes x∧e=.returned (.tuple #[.int .i64 (off2+av2.length),.int .i64 (cutE ε)]))
  ∨ (∃ x a,S x∧BOk N dm fm x∧takes x≤av2.length∧(∃ z∈(av2.take (takes x)).drop x.size.toNat,z≠0)∧e=.returned (.tuple #[.int .i64 a,.int .i64 10]))
  ∨ (∃ x,S x∧x.Ok∧BOk N dm fm x∧takes x≤av2.length∧(∀ z∈(av2.take (takes x)).drop x.size.toNat,z=0)∧e=.returned (.tuple #[.int .i64 off,.int .i64 0]) ∧
    Rd w' rb sb (off2+takes x) (av2.drop (takes x)) ε∧∃ nv' y,strip y=addS N fm x (dataOf x av2)∧Bd w' db base nv' (N++[y]) (addD dm x) (addF fm x N.length)))
set_option maxHeartbeats 8000000 in
theorem member_calls (w:World) (rb sb:Nat) (off off2:Int) (av2:List Int) (ε:Int) (S:Ent→Prop) (T:Int→Int→Prop) (hD:DecC w rb sb off off2 av2 ε S T) (hrb:sb < rb) (db base:Nat) (nv:Value) (N:List NV) (dm:List (ByteArray×Bool)) (fm:List (ByteArray×Int)) (hB:Bd w db base nv N dm fm) (hdb:rb < db) (hG:Gl w) (h20:20≤w.heap.size) (hsb:20≤sb) (hn:N.length≤100000) (hfm:∀ k i,ZMap.get fm k=some i→0≤i∧i < N.length) (hav:av2.length≤1000000000) (hsz:∀ x,S x→x.kind=1→takes x≤av2.length→x.size≤1000000): Calls Tryz.prog 22 #[.pointer (some ⟨rb,0,none⟩),.pointer (some ⟨db+2,0,none⟩)] w (MemPost w rb sb db base nv N dm fm off off2 av2 ε S T):=by
 have DC:=hid (show DecC w rb sb off off2 av2 ε S T from hD);unfold DecC at DC;have HH:=hid (And.intro hrb (And.intro hB (And.intro hdb (And.intro hG (And.intro h20 (And.intro hsb (And.intro hn (And.intro hfm (And.intro hav hsz)))))))));clear hD hB hG h20 hsb hn hfm hav hsz;go_enter Tryz.func22,Tryz.ntmps22
 go_wp2_with fail
 refine DC.out.mono ?_;rintro e w1 ⟨hm1,⟨x,hS,hok,rfl,hr1⟩ | ⟨o,c,hT,hc0,rfl,h18⟩⟩;rotate_left
 ·
  have M1:Hid (Mo (L5 rb sb db nv) w w1):=hid (hm1.more fun k hk=>by simp only [L5,List.mem_cons,List.not_mem_nil,or_false] at hk ⊢;rcases hk with rfl | rfl <;> simp);have HT:=hid (And.intro hT (And.intro hc0 (And.intro h18 hm1)));have b0:(c == 0)=false:=beq_eq_false_iff_ne.2 hc0;clear hm1 hT hc0 h18;by_cases h4:c=4
  ·
   subst h4;have b4:((4:Int) == 4)=true:=rfl
   go_wp2_with fail
   refine bodyPost_ret (v:=.tuple #[.int .i64 o,.int .i64 5]) (by simp [results,Tryz.results22,go_sem]) rfl ⟨?_,.inl ⟨o,4,HT.out.1,HT.out.2.1,rfl,fun h=>⟨(HT.out.2.2.1 h).below (below_alloc (Below.refl _ _) _),HT.out.2.2.2.alloc _⟩⟩⟩;exact M1.out.alloc _
  ·
   have b4:(c == 4)=false:=beq_eq_false_iff_ne.2 h4;have H4:=hid h4;clear h4
   go_wp2_with fail
   refine bodyPost_ret (v:=.tuple #[.int .i64 o,.int .i64 c]) (by simp [results,Tryz.results22,go_sem]) rfl ⟨?_,.inl ⟨o,c,HT.out.1,HT.out.2.1,by rw [if_neg H4.out],fun h=>⟨(HT.out.2.2.1 h).below (below_alloc (Below.refl _ _) _),HT.out.2.2.2.alloc _⟩⟩⟩;exact M1.out.alloc _
 ·
  obtain ⟨kind,path,mode,tgt,size⟩:=x;have M1:=hid hm1;have HS:=hid (And.intro hS hok);have R1:=hid hr1;clear hm1 hS hok hr1;have b0:((0:Int) == 0)=true:=rfl;obtain ⟨Wa,hWa⟩:∃ X,w1.alloc (.cells #[.int .i64 kind,.string path,.int .i64 mode,.string tgt,.int .i64 size] 54)=X:=⟨_,rfl⟩;have LO:Hid (rb < w.heap.size∧sb < rb∧db+3≤base∧base≤w.heap.size∧rb < db∧∀ k∈ob nv,base≤k):=hid ⟨by have:=HH.out.2.1.lo;have:=HH.out.2.2.1;omega,HH.out.1,HH.out.2.1.lo.1,HH.out.2.1.lo.2,HH.out.2.2.1,fun k hk=>own_base HH.out.2.1.own k (by simpa [ob] using hk)⟩;have AA:Hid (Mo [sb,rb] w Wa∧Wa.heap[w1.heap.size]?=some (.cells #[.int .i64 kind,.string path,.int .i64 mode,.string tgt,.int .i64 size] 54 (0,0))∧Wa.heap.size=w1.heap.size+1∧Rd Wa rb sb off2 av2 ε):=hid (by
   rw [← hWa];exact ⟨M1.out.alloc _,heap_alloc_new _ _,by simp,R1.out.below (below_alloc (Below.refl _ _) _)⟩)
  have toBd:∀ (W:World),Mo [sb,rb] w W→Bd W db base nv N dm fm:=fun W hW=>by have h1:=LO.out;exact HH.out.2.1.step hW.size fun k hk hk2=>hW.keep k hk2 (by simp;omega)
  have toGl:∀ (W:World),Mo [sb,rb] w W→Gl W:=fun W hW=>by have h1:=LO.out;have h2:=HH.out.2.2.2.2.2.1;exact HH.out.2.2.2.1.mo hW HH.out.2.2.2.2.1 (by intro k hk;simp only [List.mem_cons,List.not_mem_nil,or_false] at hk;rcases hk with rfl | rfl <;> omega)
  have TO:=hid (And.intro toBd toGl);have CK:=hid (check_calls Wa db base nv N dm fm (toBd Wa AA.out.1) ⟨kind,path,mode,tgt,size⟩ HS.out.2 (toGl Wa AA.out.1) (by have:=HH.out.2.2.2.2.2.2.1;omega) HH.out.2.2.2.2.2.2.2.1);clear toBd toGl;unfold Ent.val Ent.cells at *;dsimp only at *;have a4:Wa.cell? ⟨w1.heap.size,0,none⟩=some (.int .i64 kind)∧Wa.cell? ⟨w1.heap.size,1,none⟩=some (.string path)∧Wa.cell? ⟨w1.heap.size,2,none⟩=some (.int .i64 mode)∧Wa.cell? ⟨w1.heap.size,3,none⟩=some (.string tgt)∧Wa.cell? ⟨w1.heap.size,4,none⟩=some (.int .i64 size):=⟨cell_of AA.out.2.1 0 _ rfl,cell_of AA.out.2.1 1 _ rfl,cell_of AA.out.2.1 2 _ rfl,cell_of AA.out.2.1 3 _ rfl,cell_of AA.out.2.1 4 _ rfl⟩;obtain ⟨z0,z1,z2,z3,z4⟩:=a4
  go_wp2_with fail
  refine CK.out.mono ?_;rintro r w2 ⟨hb2,⟨rfl,hbok⟩ | ⟨c,hc,rfl,hbn⟩⟩;rotate_left
  ·
   have M2:Hid (Mo (L5 rb sb db nv) w w2):=hid ((AA.out.1.step hb2).more fun k hk=>by simp only [L5,List.mem_cons,List.not_mem_nil,or_false] at hk ⊢;rcases hk with rfl | rfl <;> simp);have HC:=hid (And.intro hbn hc);have c0:(c != 0)=true:=by rw [bne_iff_ne];rintro rfl;rcases hc with h | h | h <;> cases h
   clear hb2 hc hbn z0 z1 z2 z3 z4
   go_wp2_with fail
   refine bodyPost_ret (v:=.tuple #[.int .i64 off,.int .i64 c]) (by simp [results,Tryz.results22,go_sem]) rfl ⟨M2.out,.inr (.inl ⟨_,c,HS.out.1,HC.out.1,HC.out.2,rfl⟩)⟩
  ·
   have M2:Hid (Mo [sb,rb] w w2):=hid (AA.out.1.step hb2);have HB:=hid hbok;have R2:Hid (Rd w2 rb sb off2 av2 ε):=hid (AA.out.2.2.2.below hb2);have X2:Hid (w2.heap[w1.heap.size]?=some (.cells #[.int .i64 kind,.string path,.int .i64 mode,.string tgt,.int .i64 size] 54 (0,0))∧w.heap.size≤w1.heap.size∧w1.heap.size < w2.heap.size):=hid ⟨(hb2.block _ (by have:=AA.out.2.2.1;omega)).trans AA.out.2.1,M1.out.size,by have:=AA.out.2.2.1;have:=hb2.size;omega⟩;clear hb2 hbok z0 z1 z2 z3 z4;obtain ⟨z0,z1,z2,z3,z4⟩:w2.cell? ⟨w1.heap.size,0,none⟩=some (.int .i64 kind)∧w2.cell? ⟨w1.heap.size,1,none⟩=some (.string path)∧w2.cell? ⟨w1.heap.size,2,none⟩=some (.int .i64 mode)∧w2.cell? ⟨w1.heap.size,3,none⟩=some (.string tgt)∧w2.cell? ⟨w1.heap.size,4,none⟩=some (.int .i64 size):=⟨cell_of X2.out.1 0 _ rfl,cell_of X2.out.1 1 _ rfl,cell_of X2.out.1 2 _ rfl,cell_of X2.out.1 3 _ rfl,cell_of X2.out.1 4 _ rfl⟩;obtain ⟨Wb,hWb⟩:∃ X,w2.alloc (.cells #[.int .i64 kind,.string path,.int .i64 mode,.string tgt,.int .i64 size,.slice none 0 0] 56)=X:=⟨_,rfl⟩;have hbb:=below_alloc (Below.refl w2.heap.size w2) (.cells #[.int .i64 kind,.string path,.int .i64 mode,.string tgt,.int .i64 size,.slice none 0 0] 56);rw [hWb] at hbb;have MB:Hid (Mo [sb,rb] w Wb):=hid (M2.out.step hbb);have RB:Hid (Rd Wb rb sb off2 av2 ε):=hid (R2.out.below hbb);have XB:Hid (Wb.heap[w2.heap.size]?=some (.cells #[.int .i64 kind,.string path,.int .i64 mode,.string tgt,.int .i64 size,.slice none 0 0] 56 (0,0))∧Wb.heap[w1.heap.size]?=some (.cells #[.int .i64 kind,.string path,.int .i64 mode,.string tgt,.int .i64 size] 54 (0,0))∧Wb.heap.size=w2.heap.size+1):=hid (by
    refine ⟨?_,(hbb.block _ X2.out.2.2).trans X2.out.1,?_⟩ <;> rw [← hWb]
    ·exact heap_alloc_new _ _
    ·simp)
   obtain ⟨y0,y1,y2,y3,y4⟩:Wb.cell? ⟨w1.heap.size,0,none⟩=some (.int .i64 kind)∧Wb.cell? ⟨w1.heap.size,1,none⟩=some (.string path)∧Wb.cell? ⟨w1.heap.size,2,none⟩=some (.int .i64 mode)∧Wb.cell? ⟨w1.heap.size,3,none⟩=some (.string tgt)∧Wb.cell? ⟨w1.heap.size,4,none⟩=some (.int .i64 size):=⟨cell_of XB.out.2.1 0 _ rfl,cell_of XB.out.2.1 1 _ rfl,cell_of XB.out.2.1 2 _ rfl,cell_of XB.out.2.1 3 _ rfl,cell_of XB.out.2.1 4 _ rfl⟩;clear hbb;have HWB:=hid hWb;rw [← hWb] at y0 y1 y2 y3 y4;clear hWb;have FIN:=hid (fun (W W2:World) (av:List Int) (o:Int) (hR:Rd W rb sb o av ε) (hm:Mo (db :: (db+1) :: (db+2) :: ob nv) W W2)=>(hR.step (w':=W2) fun k hk=>hm.keep k (by have:=blk_lt hR.rdr.blk;omega) (by have h1:=LO.out;intro h;simp only [List.mem_cons] at h;rcases h with h | h | h | h <;> first | omega | (have:=h1.2.2.2.2.2 k h;omega)):Rd W2 rb sb o av ε));have e0:((0:Int) != 0)=false:=rfl;have MOL:=hid (fun (W W2:World) (h1:Mo [sb,rb] w W) (hm:Mo (db :: (db+1) :: (db+2) :: ob nv) W W2)=>(((h1.more (T:=L5 rb sb db nv) fun k hk=>by simp only [L5,List.mem_cons,List.not_mem_nil,or_false] at hk ⊢;rcases hk with rfl | rfl <;> simp).then_ hm fun t ht=>.inl (List.mem_cons_of_mem _ (List.mem_cons_of_mem _ ht))):Mo (L5 rb sb db nv) w W2));by_cases hk1:kind=1
   ·
    have b1:(kind == 1)=true:=beq_iff_eq.2 hk1;obtain ⟨n,rfl⟩:∃ n:Nat,size=n:=by have h1:=HS.out.2.size;unfold sizeOk at h1;dsimp only at h1;rw [if_pos hk1] at h1;exact ⟨size.toNat,by omega⟩
    have HN:Hid (n≤1099511627776):=hid (by
     have h1:=HS.out.2.size;unfold sizeOk at h1;dsimp only at h1;rw [if_pos hk1] at h1;omega)
    have TK:Hid (takes ⟨kind,path,mode,tgt,(n:Int)⟩=blocks n * 512∧dataOf ⟨kind,path,mode,tgt,(n:Int)⟩ av2=av2.take n):=hid (by simp [takes,dataOf,hk1]);have HSZ:=hid (HH.out.2.2.2.2.2.2.2.2.2 _ HS.out.1 hk1);have PC:=hid (show Calls Tryz.prog 46 _ (w2.alloc (.cells #[.int .i64 kind,.string path,.int .i64 mode,.string tgt,.int .i64 n,.slice none 0 0] 56)) _ from by rw [HWB.out];exact read_calls Wb rb sb off2 av2 ε RB.out n HN.out HH.out.2.2.2.2.2.2.2.2.1);clear hk1
    go_wp2_with fail
    refine PC.out.mono ?_;rintro e w3 ⟨hm3,⟨A,cap,p1,p2,rfl,p4,p5,p6,p7⟩ | ⟨p1,rfl,p2⟩ | ⟨p1,p2,⟨a,rfl⟩,p3⟩⟩;rotate_left
    ·
     have M3:Hid (Mo (L5 rb sb db nv) w w3):=hid (MOL.out w3 w3 (MB.out.trans hm3) (Mo.refl _ _));have HP:=hid p1;obtain ⟨x,hx⟩:∃ x,cutE ε=x:=⟨_,rfl⟩;have hx0:(x != 0)=true:=by rw [bne_iff_ne,← hx];unfold cutE;rcases Str.eps RB.out.str with e | e <;> rw [e] <;> decide
     rw [hx];have HX:=hid hx;clear hm3 p1 p2 hx
     go_wp2_with fail
     refine bodyPost_ret (v:=.tuple #[.int .i64 (off2+av2.length),.int .i64 x]) (by simp [results,Tryz.results22,go_sem]) rfl ⟨M3.out,.inr (.inr (.inl ⟨_,HS.out.1,HB.out,by rw [TK.out.1];exact HP.out,by rw [HX.out]⟩))⟩
    ·
     have M3:Hid (Mo (L5 rb sb db nv) w w3):=hid (MOL.out w3 w3 (MB.out.trans hm3) (Mo.refl _ _));have HP:=hid (And.intro p1 p2);have hx0:((10:Int) != 0)=true:=rfl;clear hm3 p1 p2 p3
     go_wp2_with fail
     refine bodyPost_ret (v:=.tuple #[.int .i64 a,.int .i64 10]) (by simp [results,Tryz.results22,go_sem]) rfl ⟨M3.out,.inr (.inr (.inr (.inl ⟨_,a,HS.out.1,HB.out,by rw [TK.out.1];exact HP.out.1,by rw [TK.out.1];exact HP.out.2,rfl⟩)))⟩
    ·
     have M3:Hid (Mo [sb,rb] w w3):=hid (MB.out.trans hm3);have XC:Hid (w3.heap[w2.heap.size]?=some (.cells #[.int .i64 kind,.string path,.int .i64 mode,.string tgt,.int .i64 n,.slice none 0 0] 56 (0,0))):=hid ((hm3.keep _ (by have:=XB.out.2.2;omega) (by have:=LO.out;have:=X2.out;simp;omega)).trans XB.out.1);have HP:=hid (And.intro p1 (And.intro p2 (And.intro p4 (And.intro p5 (And.intro p6 p7)))));have HLN:Hid ((av2.take n).length=n):=hid (Kd.C_len p5);have MC:=hid (M3.out.set (p:=⟨w2.heap.size,5,none⟩) (.inr (by show w.heap.size≤w2.heap.size;have:=X2.out.2;omega)) (.slice A n cap));have hcd:Kd.C (Kd.int .u8) (w3.setCell ⟨w2.heap.size,5,none⟩ (.slice A n cap)) A (av2.take n).length (av2.take n):=by rw [HLN.out];refine C_of p5 fun ad ha hn=>Below.heap_setCell _ _ _ _ ?_;obtain ⟨g,hg,hg2,_⟩:=p6 hn;rw [ha] at hg;cases hg;show g≠w2.heap.size;have:=XB.out.2.2;omega
     have hc3:=heap_setCell_same w3 w2.heap.size 5 _ _ (.slice A n cap) XC.out;have ADD:=hid (add_calls (w3.setCell ⟨w2.heap.size,5,none⟩ (.slice A n cap)) db base nv N dm fm (TO.out.1 _ MC.out) ⟨kind,path,mode,tgt,n⟩ HS.out.2 (TO.out.2 _ MC.out) HH.out.2.2.2.2.2.2.1 HH.out.2.2.2.2.2.2.2.1 HB.out A cap (av2.take n) hcd (by rw [HLN.out];exact p4) (by rw [HLN.out];have:=HSZ.out (by rw [TK.out.1];exact p1);omega) (by rw [HLN.out]));rw [HLN.out] at ADD;dsimp only at ADD;have RC:Hid (Rd (w3.setCell ⟨w2.heap.size,5,none⟩ (.slice A n cap)) rb sb (off2+(blocks n * 512:Nat)) (av2.drop (blocks n * 512)) ε):=hid (p7.far (p:=⟨w2.heap.size,5,none⟩) (by show rb < w2.heap.size;have:=LO.out;have:=X2.out.2;omega) _);obtain ⟨s0,s1,s2,s3,s4,s5⟩:=six_cell XC.out;have g5:=(six_free XC.out).2.2.2.2.2;obtain ⟨Wc,hWc⟩:∃ X,w3.setCell ⟨w2.heap.size,5,none⟩ (.slice A n cap)=X:=⟨_,rfl⟩;rw [hWc] at ADD RC MC hc3;obtain ⟨t0,t1,t2,t3,t4,t5⟩:=six_cell (v5:=.slice A n cap) (by simpa using hc3);clear hm3 p1 p2 p4 p5 p6 p7 hcd hc3 y0 y1 y2 y3 y4 z0 z1 z2 z3 z4
     go_wp2_with fail
     refine ADD.out.mono ?_;rintro e w4 ⟨rfl,nv',y,a1,a2,a3⟩;have HA:=hid (And.intro a1 (And.intro a2 a3));clear a1 a2 a3
     go_wp2_with fail
     refine bodyPost_ret (v:=.tuple #[.int .i64 off,.int .i64 0]) (by simp [results,Tryz.results22,go_sem]) rfl ⟨MOL.out Wc w4 MC.out HA.out.2.2,.inr (.inr (.inr (.inr ⟨_,HS.out.1,HS.out.2,HB.out,by rw [TK.out.1];exact HP.out.1,by rw [TK.out.1];exact HP.out.2.1,rfl,by rw [TK.out.1];exact FIN.out _ _ _ _ RC.out HA.out.2.2,nv',y,by rw [TK.out.2];exact HA.out.1,HA.out.2.1⟩)))⟩
   ·
    have b1:(kind == 1)=false:=beq_eq_false_iff_ne.2 hk1;obtain rfl:size=0:=by
     have h1:=HS.out.2.size;unfold sizeOk at h1;dsimp only at h1
     rwa [if_neg hk1] at h1
    have TK:Hid (takes ⟨kind,path,mode,tgt,0⟩=0∧dataOf ⟨kind,path,mode,tgt,0⟩ av2=[]):=hid (by simp [takes,dataOf,hk1]);have ADD:=hid (show Calls Tryz.prog 47 _ (w2.alloc (.cells #[.int .i64 kind,.string path,.int .i64 mode,.string tgt,.int .i64 0,.slice none 0 0] 56)) _ from by rw [HWB.out];exact add_calls Wb db base nv N dm fm (TO.out.1 _ MB.out) ⟨kind,path,mode,tgt,0⟩ HS.out.2 (TO.out.2 _ MB.out) HH.out.2.2.2.2.2.2.1 HH.out.2.2.2.2.2.2.2.1 HB.out none 0 [] ⟨by decide,by decide,fun h=>absurd h (by decide)⟩ (by decide) (by decide) rfl);dsimp only [List.length_nil] at ADD;clear hk1
    go_wp2_with fail
    refine ADD.out.mono ?_;rintro e w4 ⟨rfl,nv',y,a1,a2,a3⟩;have HA:=hid (And.intro a1 (And.intro a2 a3));clear a1 a2 a3
    go_wp2_with fail
    refine bodyPost_ret (v:=.tuple #[.int .i64 off,.int .i64 0]) (by simp [results,Tryz.results22,go_sem]) rfl ⟨MOL.out Wb w4 MB.out HA.out.2.2,.inr (.inr (.inr (.inr ⟨_,HS.out.1,HS.out.2,HB.out,by rw [TK.out.1];omega,by rw [TK.out.1];simp,rfl,by rw [TK.out.1];simpa using FIN.out _ _ _ _ RB.out HA.out.2.2,nv',y,by rw [TK.out.2];exact HA.out.1,HA.out.2.1⟩)))⟩
end ZMbr
namespace ZRun
open Go.RowKit YteikiojmcipkmaaGreatDoorW.PrintWords YteikiojmcipkmaaGreatDoorW.PrintLast YteikiojmcipkmaaGreatDoorW.PrintMore Oct ZGlob ZMo ZBlock ZCheck ZPay ZDHead ZRec ZMergeA ZDRecA ZFit
open ZEntry (blkB blkB_len extH sPax blocks extended_calls)
open ZDecA ZBld ZAdd ZNod ZCanon
open ZSink (ob)
open ZTCheck (cell_of)
open ZMbr ZMap ZStr ZRow ZTree
open ZEncode (Canonical)
structure St where
 N:List NV
 dm:List (ByteArray×Bool)
 fm:List (ByteArray×Int)
def st0:St:=⟨[],[((⟨#[]⟩:ByteArray),true)],[]⟩
def St.step (s:St) (e:Ent) (D:List Int):St:=⟨s.N++[addS s.N s.fm e D],addD s.dm e,addF s.fm e s.N.length⟩
def St.Ok (s:St):Prop:=∀ k i,ZMap.get s.fm k=some i→0≤i∧i < s.N.length
theorem st0_ok:st0.Ok:=fun k i h=>by cases h
theorem St.Ok.step {s:St} (h:s.Ok) (e:Ent) (D:List Int):(s.step e D).Ok:=by
 intro k i hi;simp only [St.step,addF] at hi;simp only [St.step,List.length_append,List.length_cons,List.length_nil];split at hi
 ·
  rw [get_put] at hi;split at hi
  ·cases hi;omega
  ·have:=h k i hi;omega
 ·have:=h k i hi;omega
theorem strip_strip (x:NV):strip (strip x)=strip x:=rfl
theorem addS_map (N:List NV) (fm:List (ByteArray×Int)) (e:Ent) (D:List Int):addS (N.map strip) fm e D=addS N fm e D:=by
 unfold addS;split
 ·rw [List.getElem?_map];cases N[((ZMap.get fm e.target).getD 0).toNat]? <;> rfl
 ·simp
theorem bok_map {N:List NV} {dm:List (ByteArray×Bool)} {fm:List (ByteArray×Int)} {e:Ent}:BOk (N.map strip) dm fm e↔BOk N dm fm e:=by
 constructor
 ·intro ⟨h1,h2,h3⟩;refine ⟨fun x hx=>h1 (strip x) (by rw [List.getLast?_map,hx];rfl),h2,fun hk=>?_⟩;obtain ⟨i,x,h4,h5,h6⟩:=h3 hk;rw [List.getElem?_map] at h5;obtain ⟨y,h7,rfl⟩:=Option.map_eq_some_iff.1 h5;exact ⟨i,y,h4,h7,h6⟩
 ·
  intro ⟨h1,h2,h3⟩;refine ⟨fun x hx=>?_,h2,fun hk=>?_⟩
  ·rw [List.getLast?_map] at hx;obtain ⟨y,h7,rfl⟩:=Option.map_eq_some_iff.1 hx;exact h1 y h7
  ·obtain ⟨i,x,h4,h5,h6⟩:=h3 hk;exact ⟨i,strip x,h4,by rw [List.getElem?_map,h5];rfl,h6⟩
def DecAt (av:List Int) (ε:Int) (n:Nat) (S:Ent→Prop) (T:Int→Int→Prop):Prop :=
 ∀ (w:World) (rb sb:Nat) (off:Int),Rd w rb sb off av ε→Gl w→20≤w.heap.size→20≤sb→0≤off∧off≤1000000000000→DecC w rb sb off (off+n) (av.drop n) ε S (fun o c=>T (o - off) c)
structure Fits (s:St) (e:Ent) (av:List Int):Prop where
 bok:BOk s.N s.dm s.fm e
 len:takes e≤av.length
 pad:∀ z∈(av.take (takes e)).drop e.size.toNat,z=0
inductive Runs (ε:Int):St→List Int→List (Ent×List Int)→St→List Int→Prop
 | nil (s:St) (av:List Int):Runs ε s av [] s av
 | cons {s s':St} {av av':List Int} {ms:List (Ent×List Int)} {e:Ent} {n:Nat} (hd:DecAt av ε n (·=e) (fun _ _=>False)) (hn:512≤n∧n≤av.length) (hsz:e.kind=1→e.size≤1000000) (hf:Fits s e (av.drop n)) (hN:s.N.length < 100000)
   (hr:Runs ε (s.step e (dataOf e (av.drop n))) ((av.drop n).drop (takes e)) ms s' av'):Runs ε s av ((e,dataOf e (av.drop n)) :: ms) s' av'
theorem Runs.len {ε:Int} {s s':St} {av av':List Int} {ms:List (Ent×List Int)} (h:Runs ε s av ms s' av'):av'.length≤av.length:=by
 induction h with
 | nil=>exact Nat.le_refl _
 | cons hd hn hsz hf hN hr ih =>simp only [List.length_drop] at ih;omega
def Trail (d:Int) (r:List Int) (ε:Int) (N:List NV) (e:Ending) (w':World):Prop :=
 (r.length < 512∧e=.returned (.tuple #[.slice none 0 0,.int .i64 (d+r.length),.int .i64 (cutE ε)]))
 ∨ (512≤r.length∧(∃ x∈r.take 512,x≠0)∧e=.returned (.tuple #[.slice none 0 0,.int .i64 d,.int .i64 18]))
 ∨ ((∀ x∈r.take 512,x=0)∧r.length=512∧ε=4∧∃ g C,e=.returned (.tuple #[.slice (some ⟨g,0,none⟩) N.length N.length,.int .i64 (d+512),.int .i64 0])∧Row w' g C∧(∀ y∈C,Cl w' g y)∧Canonical N C)
 ∨ (512≤r.length∧(∀ x∈r.take 512,x=0)∧r.length < 1024∧ε=11∧e=.returned (.tuple #[.slice none 0 0,.int .i64 (d+r.length),.int .i64 11]))
 ∨ (512≤r.length∧(∀ x∈r.take 512,x=0)∧(1024≤r.length∨(512 < r.length∧ε=4))∧e=.returned (.tuple #[.slice none 0 0,.int .i64 (d+512),.int .i64 18]))
def ReadOut (d:Int) (s:St) (av:List Int) (ε:Int) (n:Nat) (S:Ent→Prop) (T:Int→Int→Prop) (e:Ending) (w':World):Prop :=
 (∃ o c:Int,T o c∧c≠0∧c≠18∧e=.returned (.tuple #[.slice none 0 0,.int .i64 (d+o),.int .i64 (if c=4 then 5 else c)]))
 ∨ (∃ x c,S x∧¬ BOk s.N s.dm s.fm x∧(c=12∨c=13∨c=15)∧e=.returned (.tuple #[.slice none 0 0,.int .i64 d,.int .i64 c]))
 ∨ (∃ x,S x∧BOk s.N s.dm s.fm x∧(av.drop n).length < takes x∧e=.returned (.tuple #[.slice none 0 0,.int .i64 (d+n+(av.drop n).length),.int .i64 (cutE ε)]))
 ∨ (∃ x a,S x∧BOk s.N s.dm s.fm x∧takes x≤(av.drop n).length∧(∃ z∈((av.drop n).take (takes x)).drop x.size.toNat,z≠0)∧e=.returned (.tuple #[.slice none 0 0,.int .i64 a,.int .i64 10]))
 ∨ (∃ o,T o 18∧Trail (d+n) (av.drop n) ε s.N e w')
def BdS (w:World) (db base:Nat) (nv:Value) (s:St):Prop:=∃ N,N.map strip=s.N∧Bd w db base nv N s.dm s.fm
theorem member_good (w:World) (rb sb:Nat) (off:Int) (av:List Int) (ε:Int) (n:Nat) (e:Ent) (hR:Rd w rb sb off av ε) (db base:Nat) (nv:Value) (s:St) (hB:BdS w db base nv s) (hs:s.Ok) (hdb:rb < db) (hG:Gl w) (h20:20≤w.heap.size) (hsb:20≤sb) (hav:av.length≤1000000000) (hoff:0≤off∧off≤1000000000000) (hd:DecAt av ε n (·=e) (fun _ _=>False)) (hsz:e.kind=1→e.size≤1000000) (hf:Fits s e (av.drop n)) (hN:s.N.length < 100000): Calls Tryz.prog 22 #[.pointer (some ⟨rb,0,none⟩),.pointer (some ⟨db+2,0,none⟩)] w fun r w'=>Mo (L5 rb sb db nv) w w'∧r=.returned (.tuple #[.int .i64 off,.int .i64 0]) ∧ Rd w' rb sb (off+n+takes e) ((av.drop n).drop (takes e)) ε∧∃ nv',BdS w' db base nv' (s.step e (dataOf e (av.drop n))):=by
 obtain ⟨N,h1,h2⟩:=hB;have hl:N.length=s.N.length:=by rw [← h1];simp
 refine (member_calls w rb sb off (off+n) (av.drop n) ε _ _ (hd w rb sb off hR hG h20 hsb hoff) hR.ord db base nv N s.dm s.fm h2 hdb hG h20 hsb (by omega) (fun k i hi=>by have:=hs k i hi;omega) (by rw [List.length_drop];omega) (by rintro x rfl hk _;exact hsz hk)).mono ?_;have hb:BOk N s.dm s.fm e:=by rw [← bok_map,h1];exact hf.bok
 rintro r w' ⟨hm,⟨o,c,h,_⟩ | ⟨x,c,rfl,h,_⟩ | ⟨x,rfl,_,h,_⟩ | ⟨x,a,rfl,_,h,⟨z,h3,h4⟩,_⟩ | ⟨x,rfl,_,_,_,_,rfl,h3,nv',y,h4,h5⟩⟩
 ·cases h
 ·exact absurd hb h
 ·have:=hf.len;omega
 ·exact absurd (hf.pad z h3) h4
 ·
  refine ⟨hm,rfl,h3,nv',N++[y],?_,?_⟩
  ·simp only [St.step,List.map_append,h1,List.map_cons,List.map_nil,h4];rw [← h1,addS_map]
  ·simp only [St.step];rw [← hl];exact h5
theorem member_last (w:World) (rb sb:Nat) (off:Int) (av:List Int) (ε:Int) (n:Nat) (S:Ent→Prop) (T:Int→Int→Prop) (hR:Rd w rb sb off av ε) (db base:Nat) (nv:Value) (s:St) (hB:BdS w db base nv s) (hs:s.Ok) (hdb:rb < db) (hG:Gl w) (h20:20≤w.heap.size) (hsb:20≤sb) (hav:av.length≤1000000000) (hoff:0≤off∧off≤1000000000000) (hd:DecAt av ε n S T) (hno:∀ x,S x→¬ Fits s x (av.drop n)) (hN:s.N.length≤100000) (hsz:∀ x,S x→x.kind=1→takes x≤(av.drop n).length→x.size≤1000000): Calls Tryz.prog 22 #[.pointer (some ⟨rb,0,none⟩),.pointer (some ⟨db+2,0,none⟩)] w fun r w'=>Mo (L5 rb sb db nv) w w' ∧ ((∃ o,T o 18∧r=.returned (.tuple #[.int .i64 (off+o),.int .i64 18])∧Rd w' rb sb (off+n) (av.drop n) ε∧BdS w' db base nv s) ∨ (∃ o c:Int,r=.returned (.tuple #[.int .i64 o,.int .i64 c])∧c≠0∧c≠18∧∀ W,ReadOut off s av ε n S T (.returned (.tuple #[.slice none 0 0,.int .i64 o,.int .i64 c])) W)):=by
 obtain ⟨N,h1,h2⟩:=hB;have hl:N.length=s.N.length:=by rw [← h1];simp
 have hbm:∀ x,BOk N s.dm s.fm x↔BOk s.N s.dm s.fm x:=fun x=>by rw [← bok_map,h1]
 refine (member_calls w rb sb off (off+n) (av.drop n) ε _ _ (hd w rb sb off hR hG h20 hsb hoff) hR.ord db base nv N s.dm s.fm h2 hdb hG h20 hsb (by omega) (fun k i hi=>by have:=hs k i hi;omega) (by rw [List.length_drop];omega) hsz).mono ?_;rintro r w' ⟨hm,⟨o,c,h,h0,rfl,h3⟩ | ⟨x,c,hx,h,hc,rfl⟩ | ⟨x,hx,hb,h,rfl⟩ | ⟨x,a,hx,hb,h,h3,rfl⟩ | ⟨x,hx,_,hb,h4,h5,_⟩⟩
 ·
  refine ⟨hm,?_⟩;have e1:off+(o - off)=o:=by omega
  by_cases h18:c=18
  ·subst h18;refine .inl ⟨o - off,h,by rw [e1];rfl,(h3 rfl).1,N,h1,h2.step (h3 rfl).2.size fun k hk hk2=>(h3 rfl).2.keep k hk2 ?_⟩;have:=hR.ord;simp;omega
  ·
   refine .inr ⟨o,_,rfl,?_,?_,fun W=>.inl ⟨o - off,c,h,h0,h18,by rw [e1]⟩⟩
   ·split <;> omega
   ·split <;> omega
 ·refine ⟨hm,.inr ⟨off,c,rfl,by omega,by omega,fun W=>.inr (.inl ⟨x,c,hx,by rw [← hbm];exact h,hc,rfl⟩)⟩⟩
 ·
  have he:cutE ε=5∨cutE ε=11:=by unfold cutE;rcases Str.eps hR.str with e | e <;> rw [e] <;> simp
  refine ⟨hm,.inr ⟨_,cutE ε,rfl,by omega,by omega,fun W=>.inr (.inr (.inl ⟨x,hx,by rw [← hbm];exact hb,h,rfl⟩))⟩⟩
 ·exact ⟨hm,.inr ⟨a,10,rfl,by decide,by decide,fun W=>.inr (.inr (.inr (.inl ⟨x,a,hx,by rw [← hbm];exact hb,h,h3,rfl⟩)))⟩⟩
 ·exact absurd ⟨by rw [← hbm];exact hb,h4,h5⟩ (hno x hx)
end ZRun
namespace ZTreeP
open Go.RowKit YteikiojmcipkmaaGreatDoorW.PrintWords YteikiojmcipkmaaGreatDoorW.PrintLast YteikiojmcipkmaaGreatDoorW.PrintMore Oct ZGlob ZMo ZBlock ZCheck ZPay ZDHead ZRec ZMergeA ZDRecA ZFit
open ZEntry (blkB blkB_len extH sPax blocks extended_calls)
open ZDecA ZBld ZAdd ZNod ZCanon
open ZSink (ob)
open ZTCheck (cell_of)
open ZMbr ZMap ZStr ZRow ZTree
open ZEncode (Canonical)
open ZPath (parentP)
open ZTCheck ZCount ZCanon
theorem snoc_ind {α:Type} {P:List α→Prop} (l:List α) (h0:P []) (h1:∀ l x,P l→P (l++[x])):P l:=by
 have key:∀ r:List α,P r.reverse:=fun r=>by
  induction r with
  | nil=>exact h0
  | cons x r ih =>rw [List.reverse_cons];exact h1 _ x ih
 have:=key l.reverse
 rwa [List.reverse_reverse] at this
theorem s_kind {z x:NV} (e:strip z=strip x):z.kind=x.kind:=show (strip z).kind=(strip x).kind from by rw [e]
theorem s_path {z x:NV} (e:strip z=strip x):z.path=x.path:=show (strip z).path=(strip x).path from by rw [e]
theorem s_mode {z x:NV} (e:strip z=strip x):z.mode=x.mode:=show (strip z).mode=(strip x).mode from by rw [e]
theorem s_target {z x:NV} (e:strip z=strip x):z.target=x.target:=show (strip z).target=(strip x).target from by rw [e]
theorem s_data {z x:NV} (e:strip z=strip x):z.data=x.data:=show (strip z).data=(strip x).data from by rw [e]
theorem s_cls {z x:NV} (e:strip z=strip x):z.cls=x.cls:=show (strip z).cls=(strip x).cls from by rw [e]
structure COk (C:List NV):Prop where
 node:∀ x∈C,NodeOk x
 asc:C.Pairwise (fun x y=>lt x.path y.path=true)
 dir:∀ x∈C,parentP x.path=⟨#[]⟩∨∃ y∈C,y.kind=0∧y.path=parentP x.path
 same:∀ x∈C,∀ y∈C,x.cls≠0→x.cls=y.cls→x.mode=y.mode∧x.data=y.data
theorem seen_iff (l:List NV) (p:ByteArray):has (seenOf l) p=true↔∃ x∈l,x.path=p:=by
 refine snoc_ind (P:=fun l=>has (seenOf l) p=true↔∃ x∈l,x.path=p) l ?_ ?_
 ·simp [has,seenOf,ZMap.get]
 ·
  intro l x ih;rw [seenOf_snoc];unfold has at *;rw [get_put];split
  ·rename_i h;simp [h]
  ·
   rename_i h;rw [ih];simp only [List.mem_append,List.mem_singleton];constructor
   ·rintro ⟨y,hy,rfl⟩;exact ⟨y,.inl hy,rfl⟩
   ·
    rintro ⟨y,hy | rfl,e⟩
    ·exact ⟨y,hy,e⟩
    ·exact absurd e.symm h
theorem dirs_imp (l:List NV) (p:ByteArray):∀ m:List (ByteArray×Bool),has (l.foldl (fun m x=>if x.kind=0 then ZMap.put m x.path true else m) m) p=true→has m p=true∨∃ y∈l,y.kind=0∧y.path=p:=by
 induction l with
 | nil=>exact fun m h=>.inl h
 | cons x l ih =>
  intro m h;rw [List.foldl_cons] at h;rcases ih _ h with h1 | ⟨y,hy,h2⟩
  ·
   split at h1
   ·
    rename_i hk;unfold has at h1 ⊢;rw [get_put] at h1;split at h1
    ·rename_i hp;exact .inr ⟨x,List.mem_cons_self,hk,hp.symm⟩
    ·exact .inl h1
   ·exact .inl h1
  ·exact .inr ⟨y,List.mem_cons_of_mem _ hy,h2⟩
theorem paths_ne {l:List NV} (hT:TreeOk l):l.Pairwise (fun x y=>x.path≠y.path):=by rw [List.pairwise_iff_getElem];intro i j hi hj hij e;have h1:=(hT.step j l[j] (List.getElem?_eq_getElem hj)).seen;have h2:=(seen_iff (l.take j) l[j].path).2 ⟨l[i],by rw [List.mem_take_iff_getElem];exact ⟨i,by omega,rfl⟩,e⟩;rw [h1] at h2;cases h2
theorem first_keep (l:List NV) (x:NV) (c:Int) (m:NV) (h:ZMap.get (firstOf l) c=some m):ZMap.get (firstOf (l++[x])) c=some m:=by
 rw [firstOf_snoc];unfold firstStep;split
 ·exact h
 ·
  split
  ·exact h
  ·
   rename_i h2;rw [get_put,if_neg (fun e=>?_)]
   ·exact h
   ·rw [e,h2] at h;cases h
theorem first_all (l l2:List NV) (c:Int) (m:NV) (h:ZMap.get (firstOf l) c=some m):ZMap.get (firstOf (l++l2)) c=some m:=by
 induction l2 generalizing l with
 | nil=>simpa using h
 | cons x l2 ih =>have:=ih (l++[x]) (first_keep l x c m h);simpa using this
theorem first_same {l:List NV} (hT:TreeOk l) {x:NV} (hx:x∈l) (h0:x.cls≠0):∃ m,ZMap.get (firstOf l) x.cls=some m∧m.mode=x.mode∧m.data=x.data:=by
 obtain ⟨j,hj⟩:=List.getElem?_of_mem hx;have hs:=(hT.step j x hj).same h0;have hl:=(List.getElem?_eq_some_iff.1 hj).1;have e:l=l.take j++[x]++l.drop (j+1):=by rw [← take_snoc hj,List.take_append_drop]
 cases hg:ZMap.get (firstOf (l.take j)) x.cls with
 | some m =>refine ⟨m,?_,hs m hg⟩;rw [e];exact first_all _ _ _ _ (first_keep _ _ _ _ hg)
 | none =>refine ⟨x,?_,rfl,rfl⟩;rw [e];refine first_all _ _ _ _ ?_;rw [firstOf_snoc];unfold firstStep;rw [if_neg h0,hg];simp [get_put]
def Inj (re:List (Int×Int)):Prop:=(∀ a u,ZMap.get re a=some u→1≤u∧u≤re.length)∧∀ a b u,ZMap.get re a=some u→ZMap.get re b=some u→a=b
theorem find_none {re:List (Int×Int)} {c:Int} (h:ZMap.get re c=none) (j:Nat):ZMap.find re c j=none:=by
 have:=get_find re c j;rw [h] at this;cases hf:ZMap.find re c j with
 | none=>rfl
 | some q=>rw [hf] at this;cases this
theorem Inj.num0 {re:List (Int×Int)} (h:Inj re) {c:Int} (h0:num re c=0):ZMap.get re c=none:=by
 cases hg:ZMap.get re c with
 | none=>rfl
 | some u =>have:=(h.1 c u hg).1;unfold num at h0;rw [hg] at h0;simp at h0;omega
theorem Inj.step {cnt:Int→Int} {re:List (Int×Int)} (h:Inj re) (x:NV):Inj (reStep cnt re x):=by
 unfold reStep;split
 ·exact h
 ·
  split
  ·
   rename_i h0;have hn:=h.num0 h0;have hl:(ZMap.put re x.cls ((re.length:Int)+1)).length=re.length+1:=by rw [put_miss re _ _ 0 (find_none hn 0)];simp
   refine ⟨fun a u ha=>?_,fun a b u ha hb=>?_⟩
   ·
    rw [get_put] at ha;rw [hl];split at ha
    ·cases ha;omega
    ·have:=h.1 a u ha;omega
   ·
    rw [get_put] at ha hb;split at ha
    ·
     rename_i ea;split at hb
     ·rename_i eb;rw [ea,eb]
     ·cases ha;have:=h.1 b _ hb;omega
    ·
     split at hb
     ·cases hb;have:=h.1 a _ ha;omega
     ·exact h.2 a b u ha hb
  ·exact h
theorem inj_of (cnt:Int→Int) (l:List NV):Inj (reOf cnt l):=by
 have h0:Inj (reOf cnt []):=by
  constructor
  ·intro a u h;cases h
  ·intro a b u h;cases h
 refine snoc_ind (P:=fun l=>Inj (reOf cnt l)) l h0 ?_;intro l x ih;rw [reOf_snoc];exact ih.step x
theorem re_keep {cnt:Int→Int} {re:List (Int×Int)} (h:Inj re) (x:NV) {a u:Int} (ha:ZMap.get re a=some u):ZMap.get (reStep cnt re x) a=some u:=by
 unfold reStep;split
 ·exact ha
 ·
  split
  ·
   rename_i h0;rw [get_put,if_neg (fun e=>?_)]
   ·exact ha
   ·rw [e,h.num0 h0] at ha;cases ha
  ·exact ha
theorem re_all (cnt:Int→Int) (l l2:List NV) {a u:Int} (ha:ZMap.get (reOf cnt l) a=some u):ZMap.get (reOf cnt (l++l2)) a=some u:=by
 induction l2 generalizing l with
 | nil=>simpa using ha
 | cons x l2 ih =>have:=ih (l++[x]) (by rw [reOf_snoc];exact re_keep (inj_of cnt l) x ha);simpa using this
theorem re_has {cnt:Int→Int} {re:List (Int×Int)} (h:Inj re) (x:NV) (hs:¬ small cnt x.cls):∃ u,ZMap.get (reStep cnt re x) x.cls=some u∧1≤u:=by
 unfold reStep;rw [if_neg hs];split
 ·exact ⟨(re.length:Int)+1,by simp [get_put],by omega⟩
 ·
  rename_i h0;cases hg:ZMap.get re x.cls with
  | none=>unfold num at h0;rw [hg] at h0;exact absurd rfl h0
  | some u=>exact ⟨u,rfl,(h.1 _ _ hg).1⟩
theorem cls_at (cnt:Int→Int) (S:List NV) (i:Nat) (x:NV) (hx:S[i]?=some x):(small cnt x.cls∧clsOf cnt (reOf cnt (S.take i)) x=0)∨(¬ small cnt x.cls∧∃ u,ZMap.get (reOf cnt S) x.cls=some u∧1≤u∧clsOf cnt (reOf cnt (S.take i)) x=u):=by
 unfold clsOf;by_cases hs:small cnt x.cls
 ·exact .inl ⟨hs,by rw [if_pos hs]⟩
 ·
  refine .inr ⟨hs,?_⟩;obtain ⟨u,hu,h1⟩:=re_has (inj_of cnt (S.take i)) x hs;rw [if_neg hs];refine ⟨u,?_,h1,by unfold num;rw [hu];rfl⟩;have e:S=S.take i++[x]++S.drop (i+1):=by rw [← take_snoc hx,List.take_append_drop]
  rw [e];exact re_all cnt _ _ (by rw [reOf_snoc];exact hu)
theorem renum_get (cnt:Int→Int) (S:List NV) (i:Nat) (y:NV) (h:(renum cnt S)[i]?=some y):∃ x,S[i]?=some x∧y=newAt cnt S i x:=by unfold renum at h;rw [List.getElem?_mapIdx] at h;obtain ⟨x,hx,e⟩:=Option.map_eq_some_iff.1 h;exact ⟨x,hx,e.symm⟩
theorem strip_mem {l K S:List NV} (h1:K.map strip=l.map strip) (h2:S.Perm K) {x:NV} (h:x∈S):∃ z∈l,strip z=strip x:=by
 have h3:strip x∈l.map strip:=by rw [← h1];exact List.mem_map_of_mem (h2.subset h)
 obtain ⟨z,hz,e⟩:=List.mem_map.1 h3;exact ⟨z,hz,e⟩
theorem strip_mem' {l K S:List NV} (h1:K.map strip=l.map strip) (h2:S.Perm K) {z:NV} (h:z∈l):∃ x∈S,strip z=strip x:=by
 have h3:strip z∈K.map strip:=by rw [h1];exact List.mem_map_of_mem h
 obtain ⟨x,hx,e⟩:=List.mem_map.1 h3;exact ⟨x,h2.symm.subset hx,e.symm⟩
theorem canon_cok {l C:List NV} (hT:TreeOk l) (hC:Canonical l C):COk C:=by
 obtain ⟨K,S,h1,h2,h3,rfl⟩:=hC;obtain ⟨cnt,hcnt⟩:∃ c,num (countsOf (l.map (·.cls)))=c:=⟨_,rfl⟩;rw [hcnt];have hget:∀ y∈renum cnt S,∃ i x,S[i]?=some x∧(renum cnt S)[i]?=some y∧y=newAt cnt S i x∧x∈S:=by intro y hy;obtain ⟨i,hi⟩:=List.getElem?_of_mem hy;obtain ⟨x,hx,e⟩:=renum_get cnt S i y hi;exact ⟨i,x,hx,hi,e,List.mem_of_getElem? hx⟩
 have hS:S.Pairwise (fun x y=>lt x.path y.path=true):=by
  have p1:(l.map (·.path)).Nodup:=by rw [List.nodup_iff_pairwise_ne,List.pairwise_map];exact paths_ne hT
  have p2:K.map (·.path)=l.map (·.path):=by have:=congrArg (List.map (·.path)) h1;simpa [List.map_map,Function.comp_def,strip] using this
  have p3:(S.map (·.path)).Nodup:=by rw [(h2.map _).nodup_iff,p2];exact p1
  rw [List.nodup_iff_pairwise_ne,List.pairwise_map] at p3;refine (h3.and p3).imp fun {x y} h=>?_;cases hl:lt x.path y.path with
  | true=>rfl
  | false=>exact absurd (eq_of_le hl h.1) h.2
 have nodeS:∀ x∈S,NodeOk x:=by
  intro x hx;obtain ⟨z,hz,e⟩:=strip_mem h1 h2 hx;have hn:=hT.node z hz;have e1:z.kind=x.kind:=s_kind e;have e2:z.path=x.path:=s_path e;have e3:z.mode=x.mode:=s_mode e;have e4:z.target=x.target:=s_target e;have e5:z.data=x.data:=s_data e;have e6:z.cls=x.cls:=s_cls e;have ee:entOf z=entOf x:=by unfold entOf;rw [e1,e2,e3,e4,e5]
  exact ⟨by rw [← e1];exact hn.kind,by rw [← ee];exact hn.ent,by rw [← e1,← e5];exact hn.data,by rw [← e1,← e6];exact hn.cls⟩
 refine ⟨fun y hy=>?_,?_,fun y hy=>?_,fun y hy y2 hy2 h0 he=>?_⟩
 ·
  obtain ⟨i,x,hx,_,rfl,hm⟩:=hget y hy;have hn:=nodeS x hm;refine ⟨hn.kind,hn.ent,hn.data,?_,fun hk=>?_⟩
  ·
   rcases cls_at cnt S i x hx with ⟨_,e⟩ | ⟨_,u,_,hu,e⟩
   ·show 0≤clsOf cnt (reOf cnt (S.take i)) x;rw [e];decide
   ·show 0≤clsOf cnt (reOf cnt (S.take i)) x;omega
  ·
   rcases cls_at cnt S i x hx with ⟨_,e⟩ | ⟨hs,u,_,hu,e⟩
   ·exact e
   ·exact absurd (.inl (by rw [hn.cls.2 hk];decide)) hs
 ·
  rw [List.pairwise_iff_getElem] at hS ⊢;intro i j hi hj hij;have hl:(renum cnt S).length=S.length:=by simp [renum]
  have:=hS i j (by omega) (by omega) hij;simpa [renum,newAt] using this
 ·
  obtain ⟨i,x,hx,_,rfl,hm⟩:=hget y hy;obtain ⟨z,hz,e⟩:=strip_mem h1 h2 hm;obtain ⟨j,hj⟩:=List.getElem?_of_mem hz;have hd:=(hT.step j z hj).dir;have ep:z.path=x.path:=s_path e;rw [ep] at hd;rcases dirs_imp l _ _ hd with h4 | ⟨d,hd1,hd2,hd3⟩
  ·
   left;unfold has ZMap.get at h4;split at h4
   ·assumption
   ·simp [ZMap.get] at h4
  ·
   right;obtain ⟨d2,hd4,e2⟩:=strip_mem' h1 h2 hd1;obtain ⟨i2,hi2⟩:=List.getElem?_of_mem hd4;refine ⟨newAt cnt S i2 d2,?_,?_,?_⟩
   ·refine List.mem_of_getElem? (i:=i2) ?_;unfold renum;rw [List.getElem?_mapIdx,hi2];rfl
   ·exact (s_kind e2).symm.trans hd2
   ·exact (s_path e2).symm.trans hd3
 ·
  obtain ⟨i,x,hx,_,rfl,hm⟩:=hget y hy;obtain ⟨i2,x2,hx2,_,rfl,hm2⟩:=hget y2 hy2;have hcls:x.cls≠0∧x.cls=x2.cls:=by
   change clsOf cnt (reOf cnt (S.take i)) x≠0 at h0;change clsOf cnt (reOf cnt (S.take i)) x=clsOf cnt (reOf cnt (S.take i2)) x2 at he;rcases cls_at cnt S i x hx with ⟨_,e⟩ | ⟨hs,u,hu,hu1,e⟩
   ·exact absurd e h0
   ·
    refine ⟨fun h=>hs (.inl (by rw [h];decide)),?_⟩;rcases cls_at cnt S i2 x2 hx2 with ⟨_,e2⟩ | ⟨hs2,u2,hu2,hu3,e2⟩
    ·omega
    ·
     have:u=u2:=by omega
     subst this;exact (inj_of cnt S).2 _ _ _ hu hu2
  obtain ⟨z,hz,e⟩:=strip_mem h1 h2 hm;obtain ⟨z2,hz2,e2⟩:=strip_mem h1 h2 hm2;have c1:z.cls=x.cls:=s_cls e;have c2:z2.cls=x2.cls:=s_cls e2;obtain ⟨m,g1,g2,g3⟩:=first_same hT hz (by rw [c1];exact hcls.1);obtain ⟨m2,g4,g5,g6⟩:=first_same hT hz2 (by rw [c2,← hcls.2];exact hcls.1);rw [c1,hcls.2] at g1;rw [c2,g1] at g4;cases g4;have a1:z.mode=x.mode:=s_mode e;have a2:z2.mode=x2.mode:=s_mode e2;have a3:z.data=x.data:=s_data e;have a4:z2.data=x2.data:=s_data e2;exact ⟨by show x.mode=x2.mode;rw [← a1,← g2,g5,a2],by show x.data=x2.data;rw [← a3,← g3,g6,a4]⟩
end ZTreeP
namespace ZGood
open Go.RowKit YteikiojmcipkmaaGreatDoorW.PrintWords YteikiojmcipkmaaGreatDoorW.PrintLast YteikiojmcipkmaaGreatDoorW.PrintMore Oct ZGlob ZMo ZBlock ZCheck ZPay ZDHead ZRec ZMergeA ZDRecA ZFit
open ZEntry (blkB blkB_len extH sPax blocks extended_calls)
open ZDecA ZBld ZAdd ZNod ZCanon
open ZSink (ob)
open ZTCheck (cell_of)
open ZMbr ZMap ZStr ZRow ZTree
open ZEncode (Canonical)
open ZRun ZDecB
open ZEntry (encE padN padN_eq extH_ok)
open ZPlan (planH planR typOf)
open ZPlanOk (planH_ok planR_ok)
open ZFmt (fmtB fmtB_le)
theorem blk_nz {h:Hdr} (hk:h.Ok) (ht:h.typ≠0):∃ x∈blkB h,x≠0:=by
 have h1:=ZHdr.blk_typ hk;refine ⟨h.typ,?_,ht⟩;have h2:h.typ∈ZHdr.sl (blkB h) 156 1:=by rw [h1];simp
 unfold ZHdr.sl at h2
 first | exact List.mem_of_mem_drop (List.mem_of_mem_take h2) | exact List.mem_of_mem_take (List.mem_of_mem_drop h2)
theorem typ_ne (e:Ent):(planH e).typ≠0∧(planH e).typ≠120:=by
 show typOf e.kind≠0∧typOf e.kind≠120;unfold typOf;split
 ·decide
 ·
  split
  ·decide
  ·split <;> decide
theorem merge_plan {e:Ent} (he:e.Ok) (hs:e.size≤8589934591):MergeC (planH e) (planR e) (·=e) (fun _=>False):=fun v W hG hv =>(ZMerge.merge_calls e he hs v W hG hv).mono fun r w' ⟨h1,h2⟩=>⟨h2,.inl ⟨e,rfl,h1⟩⟩
theorem fmt_len {e:Ent} (he:e.Ok) (hs:e.size≤8589934591):(fmtB (planR e)).length≤131108:=by obtain ⟨h1,h2⟩:=planR_ok he hs;have h4:=fmtB_le (planR e) (fun r hr=>h1.rest hr);have:(planR e).length * 65554≤2 * 65554:=Nat.mul_le_mul_right _ h2;omega
theorem fmt_pos {e:Ent} (h:planR e≠[]):1≤(fmtB (planR e)).length:=by
 cases hl:planR e with
 | nil=>exact absurd hl h
 | cons r l =>
  have:1≤(ZFmt.recB r).length:=by unfold ZFmt.recB;simp only [List.length_append,List.length_cons,List.length_nil];omega
  have e1:fmtB (r :: l)=ZFmt.recB r++fmtB l:=by simp [fmtB]
  rw [e1,List.length_append];omega
theorem parse_plan {e:Ent} (he:e.Ok) (hs:e.size≤8589934591) (hrg:∀ x∈fmtB (planR e),0≤x∧x < 256):ParseC (fmtB (planR e)) (·=planR e) (fun _ _=>False):=fun g c W hr hc hG=>by obtain ⟨h1,h2⟩:=planR_ok he hs;have h3:=fmt_len he hs;exact (ZPParse.parse_calls g 0 _ c (planR e) h1 (by omega) W hr hrg hc (by omega) hG).mono fun r w' ⟨v,h4,h5,h6⟩=>⟨h6,.inl ⟨_,v,rfl,h4,h5⟩⟩
theorem encE_size {e:Ent} (he:e.Ok) (hs:e.size≤8589934591):512≤(encE e).length:=by
 have h1:=blkB_len (planH_ok he hs);unfold encE;split
 ·omega
 ·simp only [List.length_append];omega
theorem dec_good {e:Ent} (he:e.Ok) (hs:e.size≤8589934591) (rest:List Int) (ε:Int) (hav:(encE e++rest).length≤1000000000):DecAt (encE e++rest) ε (encE e).length (·=e) (fun _ _=>False):=by
 intro w rb sb off hR hG h20 hsb hoff;have hb:=Str.bytes hR.str;have hk:=planH_ok he hs;have hl:=blkB_len hk;by_cases hp:planR e=[]
 ·
  have e1:encE e=blkB (planH e):=by unfold encE;rw [if_pos hp]
  rw [e1] at hR hav hb ⊢;have ht:(blkB (planH e)++rest).take 512=blkB (planH e):=by rw [List.take_append_of_le_length (by omega),List.take_of_length_le (by omega)]
  refine (dec_plain w rb sb off _ ε hR hG h20 hsb hav hoff (planH e) hk (by rw [List.length_append];omega) (by rw [ht];exact blk_nz hk (typ_ne e).1) ht (typ_ne e).2 (·=e) (fun _=>False) (by rw [← hp];exact merge_plan he hs)).mono ?_;rintro r w' ⟨hm,⟨x,rfl,h1,h2⟩ | ⟨c,h,_⟩⟩
  ·refine ⟨hm,.inl ⟨x,rfl,he,h1,?_⟩⟩;rw [hl];exact h2
  ·cases h
 ·
  have e1:encE e=blkB (extH (fmtB (planR e)).length)++(fmtB (planR e)++(List.replicate (padN (fmtB (planR e)).length) 0++blkB (planH e))):=by unfold encE;rw [if_neg hp]
  obtain ⟨n,hn⟩:∃ n,(fmtB (planR e)).length=n:=⟨_,rfl⟩;have hn1:=fmt_pos hp;have hn2:=fmt_len he hs;rw [hn] at hn1 hn2 e1;have hx:=extH_ok (n:Int) (by omega) (by omega);have hxl:=blkB_len hx;obtain ⟨kk,hkk⟩:∃ kk,blocks n * 512=kk:=⟨_,rfl⟩;have hpad:=padN_eq n;rw [hkk] at hpad;rw [e1] at hR hav hb ⊢;have ht:(blkB (extH n)++(fmtB (planR e)++(List.replicate (padN n) 0++blkB (planH e)))++rest).take 512=blkB (extH n):=by rw [List.append_assoc,List.take_append_of_le_length (by omega),List.take_of_length_le (by omega)]
  have hd:(blkB (extH n)++(fmtB (planR e)++(List.replicate (padN n) 0++blkB (planH e)))++rest).drop 512=fmtB (planR e)++(List.replicate (padN n) 0++(blkB (planH e)++rest)):=by rw [List.append_assoc,List.drop_append_of_le_length (by omega),List.drop_of_length_le (by omega)];simp
  have hd1:(fmtB (planR e)++(List.replicate (padN n) 0++(blkB (planH e)++rest))).take n=fmtB (planR e):=by rw [List.take_append_of_le_length (by omega),List.take_of_length_le (by omega)]
  have hd2:((fmtB (planR e)++(List.replicate (padN n) 0++(blkB (planH e)++rest))).take kk).drop n=List.replicate (padN n) 0:=by rw [← List.append_assoc,List.take_append_of_le_length (by simp;omega),List.take_of_length_le (by simp;omega),List.drop_append_of_le_length (by omega),List.drop_of_length_le (by omega)];simp
  have hd3:(fmtB (planR e)++(List.replicate (padN n) 0++(blkB (planH e)++rest))).drop kk=blkB (planH e)++rest:=by rw [← List.append_assoc,List.drop_append_of_le_length (by simp;omega),List.drop_of_length_le (by simp;omega)];simp
  have hrg:∀ x∈fmtB (planR e),0≤x∧x < 256:=fun x hx=>hb x (by simp [hx]);refine (ZDecG.dec_paxG w rb sb off _ ε hR hG h20 hsb hav hoff n hn1 (by omega) (by simp only [List.length_append];omega) (by rw [ht];exact blk_nz hx (by simp [extH])) ht (·=planR e) (fun _ _=>False) (by rw [hd,hd1];exact fun _ _=>parse_plan he hs hrg) kk hkk (by rw [hd];simp only [List.length_append,List.length_replicate];omega) (by rw [hd,hd2];intro x hx;exact (List.mem_replicate.1 hx).2) (fun _ _ h=>h) (planH e) hk (by rw [hd,hd3];simp only [List.length_append];omega) (by rw [hd,hd3,List.take_append_of_le_length (by omega),List.take_of_length_le (by omega)]) (fun _=>(·=e)) (fun _ _=>False) (by rintro l rfl;exact merge_plan he hs)).mono ?_;rintro r w' ⟨hm,l,rfl,⟨x,rfl,h1,h2⟩ | ⟨c,h,_⟩⟩
  ·
   refine ⟨hm,.inl ⟨x,rfl,he,h1,?_⟩⟩;have el:(blkB (extH n)++(fmtB (planR x)++(List.replicate (padN n) 0++blkB (planH x)))).length=512+kk+512:=by simp only [List.length_append,List.length_replicate];omega
   rw [el];have ed:(blkB (extH n)++(fmtB (planR x)++(List.replicate (padN n) 0++blkB (planH x)))++rest).drop (512+kk+512)=((((blkB (extH n)++(fmtB (planR x)++(List.replicate (padN n) 0++blkB (planH x)))++rest).drop 512).drop kk).drop 512):=by rw [List.drop_drop,List.drop_drop,Nat.add_assoc]
   rw [ed];have e2:off+((512+kk+512:Nat):Int)=off+512+kk+512:=by omega
   rw [e2];exact h2
  ·cases h
end ZGood
namespace ZChain
open Go.RowKit YteikiojmcipkmaaGreatDoorW.PrintWords YteikiojmcipkmaaGreatDoorW.PrintLast YteikiojmcipkmaaGreatDoorW.PrintMore Oct ZGlob ZMo ZBlock ZCheck ZPay ZDHead ZRec ZMergeA ZDRecA ZFit
open ZEntry (blkB blkB_len extH sPax blocks extended_calls)
open ZDecA ZBld ZAdd ZNod ZCanon
open ZSink (ob)
open ZTCheck (cell_of)
open ZMbr ZMap ZStr ZRow ZTree
open ZEncode (Canonical)
open ZPath (parentP)
open ZTCheck ZRun ZTreeP ZMem ZGood
open ZCreate (encM encAll MemOk encAll_snoc)
open ZEntry (encE)
theorem less_take:∀ (l:List UInt8) (k:Nat),k < l.length→Op.bytesLess (l.take k) l=true
 | [],_,h=>by simp at h
 | a :: l,0,_=>by simp [Op.bytesLess]
 | a :: l,k+1,h=>by have:=less_take l k (by simpa using h);simp [Op.bytesLess,this]
theorem parent_lt (p:ByteArray):parentP p=⟨#[]⟩∨lt (parentP p) p=true:=by
 unfold parentP;split
 ·exact .inl rfl
 ·
  rename_i h;right;rcases Lib.lastIndexByte_spec p 47 with ⟨h1,_⟩ | ⟨i,hi,h1,_⟩
  ·omega
  ·
   rw [h1,Int.toNat_natCast];unfold lt;have e:(p.extract 0 i).toList=p.toList.take i:=by rw [ByteArray.toList_eq,ByteArray.toList_eq,ByteArray.data_extract,Array.toList_extract];simp
   rw [e];refine less_take _ _ ?_;rw [ByteArray.toList_eq];simpa using hi
def stAt (C:List NV):St:=(memS C).2.foldl (fun s m=>s.step m.ent m.data) st0
theorem stAt_snoc (C:List NV) (x:NV):stAt (C++[x])=(stAt C).step (memOf (memS C).1 x).ent (memOf (memS C).1 x).data:=by unfold stAt;rw [memS_snoc,List.foldl_append];rfl
structure Ch (L:List NV) (s:St) (m:List (Int×ByteArray)):Prop where
 len:s.N.length=L.length
 at_:∀ (i:Nat) (x:NV),L[i]?=some x→∃ y,s.N[i]?=some y∧y.kind=x.kind∧y.path=x.path∧y.mode=x.mode∧y.target=x.target∧y.data=x.data
 cl:∀ (i:Nat) (x y:NV),L[i]?=some x→s.N[i]?=some y→(x.kind≠1→y.cls=0)∧(x.kind=1→x.cls=0→y.cls=i+1)∧(x.kind=1→0 < x.cls→∃ (k:Nat) (p:ByteArray),ZMap.get m x.cls=some p∧ZMap.get s.fm p=some (k:Int)∧y.cls=k+1)
 root:has s.dm ⟨#[]⟩=true
 dm:∀ x∈L,x.kind=0→has s.dm x.path=true
 fm:∀ (c:Int) (p:ByteArray),0 < c→ZMap.get m c=some p→∃ (i:Nat) (x:NV),L[i]?=some x∧x.kind=1∧x.cls=c∧x.path=p∧ZMap.get s.fm p=some (i:Int)∧∃ y,s.N[i]?=some y∧y.cls=i+1
theorem ch_nil:Ch [] st0 []:=⟨rfl,fun i x h=>by simp at h,fun i x y h=>by simp at h,rfl,fun x h=>by simp at h,fun c p _ h=>by cases h⟩
theorem has_put (dm:List (ByteArray×Bool)) (p q:ByteArray) (h:has dm q=true):has (ZMap.put dm p true) q=true:=by
 unfold has at *;rw [get_put];split
 ·rfl
 ·exact h
structure Nxt (L:List NV) (x:NV):Prop where
 node:NodeOk x
 asc:∀ y∈L,lt y.path x.path=true
 dir:parentP x.path=⟨#[]⟩∨∃ y∈L,y.kind=0∧y.path=parentP x.path
 same:∀ y∈L,y.cls≠0→y.cls=x.cls→y.mode=x.mode∧y.data=x.data
theorem nxt_of {C:List NV} (h:COk C) (j:Nat) (x:NV) (hx:C[j]?=some x):Nxt (C.take j) x:=by
 have hj:=(List.getElem?_eq_some_iff.1 hx).1;have hxe:=(List.getElem?_eq_some_iff.1 hx).2;have hm:x∈C:=List.mem_of_getElem? hx;have hasc:=List.pairwise_iff_getElem.1 h.asc;refine ⟨h.node x hm,fun y hy=>?_,?_,fun y hy h0 he=>h.same y (List.mem_of_mem_take hy) x hm h0 he⟩
 ·obtain ⟨i,hi,e⟩:=List.mem_take_iff_getElem.1 hy;have:=hasc i j (by omega) hj (by omega);rw [e,hxe] at this;exact this
 ·
  rcases h.dir x hm with h1 | ⟨y,hy,h2,h3⟩
  ·exact .inl h1
  ·
   rcases parent_lt x.path with h4 | h4
   ·exact .inl h4
   ·
    right;refine ⟨y,?_,h2,h3⟩;obtain ⟨i,hi,e⟩:=List.mem_iff_getElem.1 hy;rw [List.mem_take_iff_getElem];rcases Nat.lt_trichotomy i j with h5 | h5 | h5
    ·exact ⟨i,by omega,e⟩
    ·subst h5;rw [hxe] at e;rw [← h3,e,lt_irrefl] at h4;cases h4
    ·have:=hasc j i hj hi h5;rw [hxe,e,h3] at this;rw [lt_asymm h4] at this;cases this
theorem target_file {x:NV} (h:NodeOk x) (hk:x.kind≠2):x.target=⟨#[]⟩:=by have h1:=h.ent.target;unfold ZFit.targetOk entOf at h1;dsimp only at h1;rw [if_neg (by rcases h.kind with e | e | e <;> omega),if_neg hk] at h1;exact h1
theorem last_get {N:List NV} {x:NV} (h:N.getLast?=some x):∃ i,N.length=i+1∧N[i]?=some x:=last_at h
theorem ch_bok {L:List NV} {s:St} {m:List (Int×ByteArray)} (h:Ch L s m) {x:NV} (hx:Nxt L x):BOk s.N s.dm s.fm (memOf m x).ent:=by
 have hp:(memOf m x).ent.path=x.path:=by
  unfold memOf;split
  ·rfl
  ·split <;> rfl
 refine ⟨fun y hy=>?_,?_,fun hk=>?_⟩
 ·rw [hp];obtain ⟨i,h1,h2⟩:=last_get hy;have hl:=h.len;obtain ⟨z,hz⟩:∃ z,L[i]?=some z:=⟨_,List.getElem?_eq_getElem (by omega)⟩;obtain ⟨y2,h3,_,h4,_⟩:=h.at_ i z hz;rw [h2] at h3;cases h3;rw [h4];exact hx.asc z (List.mem_of_getElem? hz)
 ·
  rw [hp];rcases hx.dir with h1 | ⟨y,hy,h2,h3⟩
  ·rw [h1];exact h.root
  ·rw [← h3];exact h.dm y hy h2
 ·
  cases hl:ZMem.linked m x with
  | none =>
   unfold memOf at hk;rw [hl] at hk;dsimp only at hk;split at hk
   ·dsimp only at hk;omega
   ·dsimp only at hk;rcases hx.node.kind with e | e | e <;> omega
  | some p =>
   have e1:=(link_some hl).1;rw [e1];unfold ZMem.linked at hl;split at hl
   ·rename_i hc;obtain ⟨i,z,h1,h2,h3,h4,h5,_⟩:=h.fm x.cls p hc.2 hl;obtain ⟨y,h6,_,_,h7,_⟩:=h.at_ i z h1;exact ⟨i,y,h5,h6,h7.trans (hx.same z (List.mem_of_getElem? h1) (by omega) h3).1⟩
   ·cases hl
theorem get_app {α:Type} (l:List α) (x:α) (i:Nat) (y:α) (h:(l++[x])[i]?=some y):(i < l.length∧l[i]?=some y)∨(i=l.length∧y=x):=by
 rcases Nat.lt_trichotomy i l.length with h1 | h1 | h1
 ·rw [List.getElem?_append_left h1] at h;exact .inl ⟨h1,h⟩
 ·subst h1;rw [List.getElem?_append_right (Nat.le_refl _)] at h;simp at h;exact .inr ⟨rfl,h.symm⟩
 ·have:=(List.getElem?_eq_some_iff.1 h).1;rw [List.length_append,List.length_singleton] at this;omega
theorem app_old {α:Type} {l:List α} {i:Nat} {y:α} (h:l[i]?=some y) (x:α):(l++[x])[i]?=some y:=by rw [List.getElem?_append_left (List.getElem?_eq_some_iff.1 h).1];exact h
theorem app_new {α:Type} (l:List α) (x:α) (n:Nat) (h:n=l.length):(l++[x])[n]?=some x:=by subst h;simp
theorem ch_step {L:List NV} {s:St} {m:List (Int×ByteArray)} (h:Ch L s m) {x:NV} (hx:Nxt L x):Ch (L++[x]) (s.step (memOf m x).ent (memOf m x).data) (memStep m x):=by
 have hlen:=h.len;have hne:∀ y∈L,y.path≠x.path:=fun y hy e=>by have:=hx.asc y hy;rw [e,lt_irrefl] at this;cases this
 have hcl:=hx.node.cls;cases hl:ZMem.linked m x with
 | some p =>
  obtain ⟨e1,e2⟩:=link_some hl;rw [e1,e2];unfold ZMem.linked at hl;split at hl
  ·
   rename_i hc;obtain ⟨k,z,h1,h2,h3,h4,h5,y0,h6,h7⟩:=h.fm x.cls p hc.2 hl;obtain ⟨y,g1,g2,g3,g4,g5,g6⟩:=h.at_ k z h1;rw [h6] at g1;cases g1;have hs:=hx.same z (List.mem_of_getElem? h1) (by omega) h3;have eN:addS s.N s.fm ⟨3,x.path,x.mode,p,0⟩ []=⟨1,x.path,x.mode,⟨#[]⟩,none,0,y0.data,y0.cls⟩:=by unfold addS;simp [h5,h6]
   have eD:addD s.dm ⟨3,x.path,x.mode,p,0⟩=s.dm:=by simp [addD]
   have eF:addF s.fm ⟨3,x.path,x.mode,p,0⟩ s.N.length=s.fm:=by simp [addF]
   have ht:=target_file hx.node (by omega);unfold ZRun.St.step;rw [eN,eD,eF];refine ⟨by simp [hlen],fun i w hw=>?_,fun i w u hw hu=>?_,h.root,fun w hw hk=>?_,fun c q hc0 hq=>?_⟩
   ·
    rcases get_app L x i w hw with ⟨_,hi⟩ | ⟨rfl,rfl⟩
    ·obtain ⟨u,r1,r2⟩:=h.at_ i w hi;exact ⟨u,app_old r1 _,r2⟩
    ·exact ⟨_,app_new _ _ _ hlen.symm,hc.1.symm,rfl,rfl,ht.symm,g6.trans hs.2⟩
   ·
    rcases get_app L x i w hw with ⟨hlt,hi⟩ | ⟨rfl,rfl⟩
    ·
     rcases get_app _ _ i u hu with ⟨_,hi2⟩ | ⟨e,_⟩
     ·exact h.cl i w u hi hi2
     ·omega
    ·
     rcases get_app _ _ _ u hu with ⟨hlt,_⟩ | ⟨_,rfl⟩
     ·omega
     ·exact ⟨fun hn=>absurd hc.1 hn,fun _ h0=>by omega,fun _ _=>⟨k,p,hl,h5,h7⟩⟩
   ·
    rcases List.mem_append.1 hw with h8 | h8
    ·exact h.dm w h8 hk
    ·
     have:w=x:=by simpa using h8
     subst this;omega
   ·obtain ⟨i,w,r1,r2,r3,r4,r5,u,r6,r7⟩:=h.fm c q hc0 hq;exact ⟨i,w,app_old r1 _,r2,r3,r4,r5,u,app_old r6 _,r7⟩
  ·cases hl
 | none =>
  by_cases hk:x.kind=1
  ·
   obtain ⟨e1,e2⟩:=link_file hl hk;rw [e1,e2];have hln:0 < x.cls→ZMap.get m x.cls=none:=fun h0=>by unfold ZMem.linked at hl;rw [if_pos ⟨hk,h0⟩] at hl;exact hl
   have eN:addS s.N s.fm ⟨x.kind,x.path,x.mode,x.target,x.data.length⟩ x.data=⟨x.kind,x.path,x.mode,x.target,none,0,x.data,s.N.length+1⟩:=by unfold addS;rw [if_neg (by dsimp only;omega)];simp [hk]
   have eD:addD s.dm ⟨x.kind,x.path,x.mode,x.target,x.data.length⟩=s.dm:=by simp [addD,hk]
   have eF:addF s.fm ⟨x.kind,x.path,x.mode,x.target,x.data.length⟩ s.N.length=ZMap.put s.fm x.path s.N.length:=by simp [addF,hk]
   unfold ZRun.St.step;rw [eN,eD,eF];have keepM:∀ (c:Int) (q:ByteArray),0 < c→ZMap.get m c=some q→ZMap.get (ZMap.put m x.cls x.path) c=some q:=fun c q hc0 hq=>by
    rw [get_put,if_neg (fun e=>?_)]
    ·exact hq
    ·subst e;rw [hln hc0] at hq;cases hq
   have keepF:∀ (q:ByteArray) (y:NV) (k:Int),y∈L→y.path=q→ZMap.get s.fm q=some k→ZMap.get (ZMap.put s.fm x.path (s.N.length:Int)) q=some k:=fun q y k hy hq hg=>by rw [get_put,if_neg (fun e=>hne y hy (hq.trans e))];exact hg
   refine ⟨by simp [hlen],fun i w hw=>?_,fun i w u hw hu=>?_,h.root,fun w hw hk2=>?_,fun c q hc0 hq=>?_⟩
   ·
    rcases get_app L x i w hw with ⟨_,hi⟩ | ⟨rfl,rfl⟩
    ·obtain ⟨u,r1,r2⟩:=h.at_ i w hi;exact ⟨u,app_old r1 _,r2⟩
    ·exact ⟨_,app_new _ _ _ hlen.symm,rfl,rfl,rfl,rfl,rfl⟩
   ·
    rcases get_app L x i w hw with ⟨hlt,hi⟩ | ⟨rfl,rfl⟩
    ·
     rcases get_app _ _ i u hu with ⟨_,hi2⟩ | ⟨e,_⟩
     ·obtain ⟨a1,a2,a3⟩:=h.cl i w u hi hi2;refine ⟨a1,a2,fun b1 b2=>?_⟩;obtain ⟨k,p,b3,b4,b5⟩:=a3 b1 b2;obtain ⟨i2,w2,r1,_,_,r4,_⟩:=h.fm _ p b2 b3;exact ⟨k,p,keepM _ _ b2 b3,keepF p w2 _ (List.mem_of_getElem? r1) r4 b4,b5⟩
     ·omega
    ·
     rcases get_app _ _ _ u hu with ⟨hlt,_⟩ | ⟨_,rfl⟩
     ·omega
     ·refine ⟨fun hn=>absurd hk hn,fun _ _=>by dsimp only;omega,fun _ h0=>⟨s.N.length,w.path,by simp [get_put],by simp [get_put],rfl⟩⟩
   ·
    rcases List.mem_append.1 hw with h8 | h8
    ·exact h.dm w h8 hk2
    ·
     have:w=x:=by simpa using h8
     subst this;omega
   ·
    rw [get_put] at hq;split at hq
    ·rename_i e;cases hq;exact ⟨L.length,x,app_new _ _ _ rfl,hk,e.symm,rfl,by rw [get_put,if_pos rfl,hlen],_,app_new _ _ _ hlen.symm,by dsimp only;omega⟩
    ·obtain ⟨i,w,r1,r2,r3,r4,r5,u,r6,r7⟩:=h.fm c q hc0 hq;exact ⟨i,w,app_old r1 _,r2,r3,r4,keepF q w _ (List.mem_of_getElem? r1) r4 r5,u,app_old r6 _,r7⟩
  ·
   obtain ⟨e1,e2⟩:=link_none hl hk;rw [e1,e2];have h3:x.kind≠3:=by rcases hx.node.kind with e | e | e <;> omega
   have eN:addS s.N s.fm ⟨x.kind,x.path,x.mode,x.target,0⟩ []=⟨x.kind,x.path,x.mode,x.target,none,0,[],0⟩:=by unfold addS;rw [if_neg (by dsimp only;exact h3)];simp [hk]
   have eF:addF s.fm ⟨x.kind,x.path,x.mode,x.target,0⟩ s.N.length=s.fm:=by simp [addF,hk]
   unfold ZRun.St.step;rw [eN,eF];have hdm:∀ q,has s.dm q=true→has (addD s.dm ⟨x.kind,x.path,x.mode,x.target,0⟩) q=true:=fun q hq=>by
    unfold addD;split
    ·exact has_put _ _ _ hq
    ·exact hq
   refine ⟨by simp [hlen],fun i w hw=>?_,fun i w u hw hu=>?_,hdm _ h.root,fun w hw hk2=>?_,fun c q hc0 hq=>?_⟩
   ·
    rcases get_app L x i w hw with ⟨_,hi⟩ | ⟨rfl,rfl⟩
    ·obtain ⟨u,r1,r2⟩:=h.at_ i w hi;exact ⟨u,app_old r1 _,r2⟩
    ·exact ⟨_,app_new _ _ _ hlen.symm,rfl,rfl,rfl,rfl,(hx.node.data hk).symm⟩
   ·
    rcases get_app L x i w hw with ⟨hlt,hi⟩ | ⟨rfl,rfl⟩
    ·
     rcases get_app _ _ i u hu with ⟨_,hi2⟩ | ⟨e,_⟩
     ·exact h.cl i w u hi hi2
     ·omega
    ·
     rcases get_app _ _ _ u hu with ⟨hlt,_⟩ | ⟨_,rfl⟩
     ·omega
     ·exact ⟨fun _=>rfl,fun h1=>absurd h1 hk,fun h1=>absurd h1 hk⟩
   ·
    rcases List.mem_append.1 hw with h8 | h8
    ·exact hdm _ (h.dm w h8 hk2)
    ·
     have:w=x:=by simpa using h8
     subst this;unfold addD has;rw [if_pos hk2,get_put,if_pos rfl];rfl
   ·obtain ⟨i,w,r1,r2,r3,r4,r5,u,r6,r7⟩:=h.fm c q hc0 hq;exact ⟨i,w,app_old r1 _,r2,r3,r4,r5,u,app_old r6 _,r7⟩
theorem ch_all {C:List NV} (h:COk C) (j:Nat) (hj:j≤C.length):Ch (C.take j) (stAt (C.take j)) (memS (C.take j)).1:=by
 induction j with
 | zero=>exact ch_nil
 | succ j ih =>obtain ⟨x,hx⟩:∃ x,C[j]?=some x:=⟨_,List.getElem?_eq_getElem (by omega)⟩;have h1:=ch_step (ih (by omega)) (nxt_of h j x hx);rw [take_snoc hx,stAt_snoc,memS_snoc];exact h1
end ZChain
namespace ZRead
open Go.RowKit YteikiojmcipkmaaGreatDoorW.PrintWords YteikiojmcipkmaaGreatDoorW.PrintLast YteikiojmcipkmaaGreatDoorW.PrintMore Oct ZGlob ZMo ZBlock ZCheck ZPay ZDHead ZRec ZMergeA ZDRecA ZFit
open ZEntry (blkB blkB_len extH sPax blocks extended_calls)
open ZDecA ZBld ZAdd ZNod ZCanon
open ZSink (ob)
open ZTCheck (cell_of)
open ZMbr ZMap ZStr ZRow ZTree
open ZEncode (Canonical)
open ZRun ZTrail
theorem BdS.nodes {w:World} {db base:Nat} {nv:Value} {N:List NV} {dm:List (ByteArray×Bool)} {fm:List (ByteArray×Int)} (h:Bd w db base nv N dm fm):∃ A c,nv=.slice A N.length c∧N.length≤c∧NodesAt w A N:=by
 obtain ⟨A,c,rfl⟩:=ZMem.own_slice h.own;have hd:∀ x∈N,Reads w x:=fun x hx=>(h.data x hx).1;cases N with
 | nil =>refine ⟨A,c,rfl,Nat.zero_le _,fun h=>absurd rfl h,hd⟩
 | cons x l =>
  obtain ⟨g,cap,e,hg,hlt,hc⟩:=h.cell (i:=0) (x:=x) rfl;have hlc:(x :: l).length≤c:=by
   rcases h.own.2 with ⟨_,e2⟩ | ⟨g2,cap2,cur,e2,h3⟩
   ·cases e2
   ·simp only [Value.slice.injEq] at e2;obtain ⟨_,_,rfl⟩:=e2;exact h3.2.2.1
  simp only [Value.slice.injEq] at e;obtain ⟨rfl,_,_⟩:=e;refine ⟨some ⟨g,0,none⟩,c,rfl,hlc,fun _=>⟨g,0,rfl,hlt,fun i y hy j v hv=>?_⟩,hd⟩;obtain ⟨g2,cap2,e2,_,_,hc2⟩:=h.cell hy;simp only [Value.slice.injEq,Option.some.injEq,Addr.mk.injEq,and_true] at e2;obtain ⟨rfl,_⟩:=e2;rw [Nat.zero_add];exact hc2 j v hv
set_option maxHeartbeats 4000000 in
theorem nodes_calls (w:World) (db base:Nat) (nv:Value) (N:List NV) (dm:List (ByteArray×Bool)) (fm:List (ByteArray×Int)) (h:Bd w db base nv N dm fm) (h40:N.length≤40) (hd:∀ x∈N,x.data.length≤1000000): Calls Tryz.prog 24 #[.pointer (some ⟨db+2,0,none⟩)] w fun r w'=>∃ g C,r=.returned (.slice (some ⟨g,0,none⟩) N.length N.length)∧Below w.heap.size w w'∧Row w' g C∧(∀ y∈C,Cl w' g y)∧Canonical N C:=by
 have q0:w.cell? ⟨db+2,0,none⟩=some nv:=cell_of h.blk 0 _ rfl;obtain ⟨A,c,rfl,hc,hN⟩:=BdS.nodes h;have CAN:=hid (canon_calls A c N h40 hd w hN hc);clear h hN;go_enter Tryz.func24,Tryz.ntmps24
 go_wp2_with fail
 refine CAN.out.mono ?_;rintro r w' ⟨g,K,S,rfl,h1,h2,h3,h4,h5,h6,h7⟩;have HQ:=hid (And.intro h1 (And.intro h2 (And.intro h3 (And.intro h4 (And.intro h6 h7)))));clear h1 h2 h3 h4 h5 h6 h7
 go_wp2_with fail
 go_ret;exact ⟨g,_,rfl,HQ.out.2.2.2.1,HQ.out.2.2.2.2.1,HQ.out.2.2.2.2.2,K,S,HQ.out.1,HQ.out.2.1,HQ.out.2.2.1,rfl⟩
theorem canon_strip {N l C:List NV} (h:N.map strip=l) (hC:Canonical N C):Canonical l C:=by
 subst h;obtain ⟨K,S,h1,h2,h3,h4⟩:=hC;refine ⟨K,S,?_,h2,h3,?_⟩
 ·rw [h1];simp [List.map_map,Function.comp_def,strip_strip]
 ·rw [h4];simp [List.map_map,Function.comp_def,strip]
def offOf (w:World) (rb:Nat):Int:=match w.cell? ⟨rb,0,none⟩ with
 | some v=>intOf v
 | none=>0
theorem offOf_rd {w:World} {rb sb:Nat} {off:Int} {av:List Int} {ε:Int} (h:Rd w rb sb off av ε):offOf w rb=off:=by
 have:w.cell? ⟨rb,0,none⟩=some (.int .i64 off):=by simp [World.cell?,h.rdr.blk]
 unfold offOf;rw [this];rfl
structure RI (w wr:World) (sb rb db base:Nat) (av:List Int) (ε:Int) (s:St) (av1:List Int) (ms:List (Ent×List Int)) (s':St) (av':List Int) (nv:Value):Prop where
 run:Runs ε s av1 ms s' av'
 rd:Rd wr rb sb ((av.length:Int) - av1.length) av1 ε
 bd:BdS wr db base nv s
 mo:Mo [sb] w wr
 ok:s.Ok
 lo:av1.length≤av.length∧w.heap.size≤rb∧rb < db∧sb < w.heap.size
theorem RI.gl {w wr:World} {sb rb db base:Nat} {av:List Int} {ε:Int} {s:St} {av1:List Int} {ms:List (Ent×List Int)} {s':St} {av':List Int} {nv:Value} (h:RI w wr sb rb db base av ε s av1 ms s' av' nv) (hG:Gl w) (h20:20≤w.heap.size) (hsb:20≤sb):Gl wr∧20≤wr.heap.size:=by
 refine ⟨hG.mo h.mo h20 fun k hk=>?_,by have:=h.mo.size;omega⟩;obtain rfl:k=sb:=by simpa using hk
 exact hsb
theorem BdS.lo {w:World} {db base:Nat} {nv:Value} {s:St} (h:BdS w db base nv s):db+3≤base∧base≤w.heap.size∧∀ k∈ob nv,base≤k:=by obtain ⟨N,_,h2⟩:=h;exact ⟨h2.lo.1,h2.lo.2,fun k hk=>own_base h2.own k (by simpa [ob] using hk)⟩
theorem RI.far {w wr w':World} {sb rb db base:Nat} {av:List Int} {ε:Int} {s:St} {av1:List Int} {ms:List (Ent×List Int)} {s':St} {av':List Int} {nv:Value} (h:RI w wr sb rb db base av ε s av1 ms s' av' nv) (hm:Mo (L5 rb sb db nv) wr w'):Mo [sb] w w':=by
 refine h.mo.then_ hm fun t ht=>?_;have h1:=h.lo;have h2:=BdS.lo h.bd;have h3:=h.mo.size;simp only [L5,List.mem_cons] at ht;rcases ht with rfl | rfl | rfl | rfl | rfl | ht
 ·simp
 ·right;omega
 ·right;omega
 ·right;omega
 ·right;omega
 ·right;have h4:=h2.2.2 t ht;omega
set_option maxHeartbeats 8000000 in
theorem read_calls (w:World) (sb:Nat) (av:List Int) (ε:Int) (hs:Str w sb 0 av ε) (hG:Gl w) (h20:20≤w.heap.size) (hsb:20≤sb) (hav:av.length≤1000000000) (ms:List (Ent×List Int)) (s':St) (av':List Int) (hr:Runs ε st0 av ms s' av') (n:Nat) (S:Ent→Prop) (T:Int→Int→Prop) (hT:DecAt av' ε n S T) (hno:∀ x,S x→¬ Fits s' x (av'.drop n)) (hsz:∀ x,S x→x.kind=1→takes x≤(av'.drop n).length→x.size≤1000000) (hN:s'.N.length≤40) (hdat:∀ x∈s'.N,x.data.length≤1000000): Calls Tryz.prog 10 #[.pointer (some ⟨sb,0,none⟩)] w fun e w'=>Mo [sb] w w'∧ReadOut ((av.length:Int) - av'.length) s' av' ε n S T e w':=by
 have HH:=hid (And.intro hs (And.intro hG (And.intro h20 (And.intro hsb (And.intro hav (And.intro hr (And.intro hT (And.intro hno (And.intro hsz (And.intro hN hdat))))))))));have NR:=hid (newReader_calls w sb 0);have NB:=hid (new_calls (w.alloc (.cells #[.int .i64 0,.int .i64 0,.pointer (some ⟨sb,0,none⟩)] 94)));clear hs hG h20 hsb hav hr hT hno hsz hN hdat;go_enter Tryz.func10,Tryz.ntmps10
 go_wp2_with fail
 refine NR.out.mono ?_;rintro e w1 ⟨rfl,rfl⟩
 go_wp2_with fail
 refine NB.out.mono ?_;rintro e w2 ⟨rfl,hb,hsz2,hbd⟩;have I0:Hid (RI w w2 sb w.heap.size (w.heap.size+1) (w.heap.size+1+3) av ε st0 av ms s' av' (.slice none 0 0)):=hid (by
  have h1:=HH.out.1;have hl:=Str.lt h1;have hsa:(w.alloc (.cells #[.int .i64 0,.int .i64 0,.pointer (some ⟨sb,0,none⟩)] 94)).heap.size=w.heap.size+1:=by simp
  have hb1:=below_alloc (Below.refl w.heap.size w) (.cells #[.int .i64 0,.int .i64 0,.pointer (some ⟨sb,0,none⟩)] 94);have hb2:=below_step hb1 hb;rw [hsa] at hbd hb;refine ⟨HH.out.2.2.2.2.2.1,⟨⟨?_⟩,?_,hl⟩,⟨[],rfl,hbd⟩,Mo.of_below hb2,st0_ok,Nat.le_refl _,Nat.le_refl _,by omega,hl⟩
  ·have h3:=(hb.block w.heap.size (by omega)).trans (heap_alloc_new w _);rw [h3,show ((av.length:Int) - (av.length:Int))=0 by omega]
  ·rw [show ((av.length:Int) - (av.length:Int))=0 by omega];exact h1.step fun k hk=>hb2.block k (by omega))
 clear hb hsz2 hbd NR NB
 go_wp2_with fail
 go_loopw [] (fun wr=>∃ s av1 ms1 nv,Hid (RI w wr sb w.heap.size (w.heap.size+1) (w.heap.size+1+3) av ε s av1 ms1 s' av' nv)) (fun wr=>((av.length:Int) - offOf wr w.heap.size).toNat)
 case atStart=>exact ⟨st0,av,ms,_,I0⟩
 case round =>
  clear I0;obtain ⟨s,av1,ms1,nv,HI⟩:=hrel;have hI:=HI.out;obtain ⟨hG,h20⟩:=hI.gl HH.out.2.1 HH.out.2.2.1 HH.out.2.2.2.1;have hlen:=hI.lo.1;have hav:=HH.out.2.2.2.2.1;have hoff:0≤(av.length:Int) - av1.length∧(av.length:Int) - av1.length≤1000000000000:=by omega
  have hrun:=hI.run;cases hrun with
  | nil =>
   have ML:=hid (member_last wr w.heap.size sb _ av' ε n S T hI.rd _ _ nv s' hI.bd hI.ok hI.lo.2.2.1 hG h20 HH.out.2.2.2.1 (by omega) hoff HH.out.2.2.2.2.2.2.1 HH.out.2.2.2.2.2.2.2.1 (by have:=HH.out.2.2.2.2.2.2.2.2.2.1;omega) HH.out.2.2.2.2.2.2.2.2.1);clear hI hG h20 hlen hav hoff
   go_wp2_with fail
   refine ML.out.mono ?_;rintro e w3 ⟨hm,⟨o,hT,rfl,hR,nv2x⟩ | ⟨o,c,rfl,c0,c18,hout⟩⟩
   ·
    have TR:=hid (trail_calls w3 w.heap.size sb _ _ ε hR);have M3:=hid (RI.far HI.out hm);have HT:=hid hT;have B3:Hid (∃ nv2 N,N.map strip=s'.N∧Bd w3 (w.heap.size+1) (w.heap.size+1+3) nv2 N s'.dm s'.fm):=hid ⟨nv,nv2x⟩;have b0:((18:Int) == 0)=false:=rfl;have b18:((18:Int) == 18)=true:=rfl;clear hT hR hm
    go_wp2_with fail
    refine TR.out.mono ?_;rintro e w4 ⟨hm4,hout⟩;have M4:Hid (Mo [sb] w w4):=hid (M3.out.then_ hm4 fun t ht=>by
     simp only [List.mem_cons,List.not_mem_nil,or_false] at ht;rcases ht with rfl | rfl
     ·exact .inl (by simp)
     ·exact .inr (Nat.le_refl _))
    rcases hout with ⟨h1,rfl⟩ | ⟨h1,h2,rfl⟩ | ⟨h1,h2,h3,h4,rfl⟩ | ⟨h1,h2,h3,h4,rfl⟩ | ⟨h1,h2,h3,rfl⟩
    ·
     have H1:=hid h1;obtain ⟨x,hx⟩:∃ x,cutE ε=x:=⟨_,rfl⟩;have c0:(x != 0)=true:=by rw [bne_iff_ne,← hx];unfold cutE;rcases Str.eps HH.out.1 with e | e <;> rw [e] <;> decide
     rw [hx];have HX:=hid hx;clear h1 hx hm4
     go_wp2_with fail
     refine bodyPost_ret (v:=.tuple #[.slice none 0 0,.int .i64 ((av.length:Int) - av'.length+n+(av'.drop n).length),.int .i64 x]) (by simp [results,Tryz.results10,go_sem]) rfl ⟨M4.out,.inr (.inr (.inr (.inr ⟨o,HT.out,.inl ⟨H1.out,by rw [HX.out]⟩⟩)))⟩
    ·
     have H1:=hid (And.intro h1 h2);have c0:((18:Int) != 0)=true:=rfl;clear h1 h2 hm4
     go_wp2_with fail
     refine bodyPost_ret (v:=.tuple #[.slice none 0 0,.int .i64 ((av.length:Int) - av'.length+n),.int .i64 18]) (by simp [results,Tryz.results10,go_sem]) rfl ⟨M4.out,.inr (.inr (.inr (.inr ⟨o,HT.out,.inr (.inl ⟨H1.out.1,H1.out.2,rfl⟩)⟩)))⟩
    ·
     have H1:=hid (And.intro h1 (And.intro h2 (And.intro h3 h4)));have c0:((0:Int) != 0)=false:=rfl;obtain ⟨nv2,N,hN1,hN2⟩:=B3.out;have hl:N.length=s'.N.length:=by rw [← hN1];simp
     have hmN:Bd w4 (w.heap.size+1) (w.heap.size+1+3) nv2 N s'.dm s'.fm:=hN2.step hm4.size fun k hk hk2=>hm4.keep k hk2 (by have:=HI.out.lo;simp;omega);have NC:=hid (nodes_calls w4 _ _ nv2 N s'.dm s'.fm hmN (by rw [hl];exact HH.out.2.2.2.2.2.2.2.2.2.1) (fun x hx=>HH.out.2.2.2.2.2.2.2.2.2.2 (strip x) (by rw [← hN1];exact List.mem_map_of_mem hx)));rw [hl] at NC;have HN1:=hid hN1;clear h1 h2 h3 h4 hm4 hN1 hN2 hmN hl
     go_wp2_with fail
     refine NC.out.mono ?_;rintro e w5 ⟨g,C,rfl,n1,n2,n3,n4⟩;have HC:=hid (And.intro n1 (And.intro n2 (And.intro n3 n4)));clear n1 n2 n3 n4
     go_wp2_with fail
     refine bodyPost_ret (v:=.tuple #[.slice (some ⟨g,0,none⟩) s'.N.length s'.N.length,.int .i64 ((av.length:Int) - av'.length+n+512),.int .i64 0]) (by simp [results,Tryz.results10,go_sem]) rfl ⟨M4.out.step HC.out.1,.inr (.inr (.inr (.inr ⟨o,HT.out,.inr (.inr (.inl ⟨H1.out.2.1,H1.out.2.2.1,H1.out.2.2.2,g,C,rfl,HC.out.2.1,HC.out.2.2.1,canon_strip HN1.out HC.out.2.2.2⟩))⟩)))⟩
    ·
     have H1:=hid (And.intro h1 (And.intro h2 (And.intro h3 h4)));have c0:((11:Int) != 0)=true:=rfl;clear h1 h2 h3 h4 hm4
     go_wp2_with fail
     refine bodyPost_ret (v:=.tuple #[.slice none 0 0,.int .i64 ((av.length:Int) - av'.length+n+(av'.drop n).length),.int .i64 11]) (by simp [results,Tryz.results10,go_sem]) rfl ⟨M4.out,.inr (.inr (.inr (.inr ⟨o,HT.out,.inr (.inr (.inr (.inl ⟨H1.out.1,H1.out.2.1,H1.out.2.2.1,H1.out.2.2.2,rfl⟩)))⟩)))⟩
    ·
     have H1:=hid (And.intro h1 (And.intro h2 h3));have c0:((18:Int) != 0)=true:=rfl;clear h1 h2 h3 hm4
     go_wp2_with fail
     refine bodyPost_ret (v:=.tuple #[.slice none 0 0,.int .i64 ((av.length:Int) - av'.length+n+512),.int .i64 18]) (by simp [results,Tryz.results10,go_sem]) rfl ⟨M4.out,.inr (.inr (.inr (.inr ⟨o,HT.out,.inr (.inr (.inr (.inr ⟨H1.out.1,H1.out.2.1,H1.out.2.2,rfl⟩)))⟩)))⟩
   ·
    have M3:=hid (RI.far HI.out hm);have HO:=hid (hout w3);have b0:(c == 0)=false:=beq_eq_false_iff_ne.2 c0;have b18:(c == 18)=false:=beq_eq_false_iff_ne.2 c18;clear hm hout c0 c18
    go_wp2_with fail
    refine bodyPost_ret (v:=.tuple #[.slice none 0 0,.int .i64 o,.int .i64 c]) (by simp [results,Tryz.results10,go_sem]) rfl ⟨M3.out,HO.out⟩
  | @cons _ _ _ _ ms2 e k hd hn hz hf hN hr =>
   have MG:=hid (member_good wr w.heap.size sb _ av1 ε k e hI.rd _ _ nv s hI.bd hI.ok hI.lo.2.2.1 hG h20 HH.out.2.2.2.1 (by omega) hoff hd hz hf hN);have OF:=hid (offOf_rd hI.rd);have HQ:=hid (And.intro hn (And.intro hf.len (And.intro hr hlen)));have b0:((0:Int) == 0)=true:=rfl;clear hI hG h20 hlen hav hoff hd hn hz hf hN hr
   go_wp2_with fail
   refine MG.out.mono ?_;rintro r w3 ⟨hm,rfl,hR,nv2,hB⟩;have H3:=hid (And.intro hm (And.intro hR hB));clear hm hR hB
   go_wp2_with fail
   go_roundw
   case rel =>
    refine ⟨_,_,ms2,nv2,hid ⟨HQ.out.2.2.1,?_,H3.out.2.2,RI.far HI.out H3.out.1,HI.out.ok.step _ _,?_,HI.out.lo.2⟩⟩
    ·have h1:=H3.out.2.1;have h2:=HQ.out.2.1;have h3:=HQ.out.1;have h4:=HQ.out.2.2.2;simp only [List.length_drop] at h2 ⊢;rw [show (av.length:Int) - ((av1.length - k - takes e:Nat):Int)=(av.length:Int) - av1.length+k+takes e by omega];exact h1
    ·have h4:=HQ.out.2.2.2;simp only [List.length_drop];omega
   case measure =>have h1:=offOf_rd H3.out.2.1;have h2:=OF.out;have h3:=HQ.out.1;have h4:=HQ.out.2.2.2;rw [h1,h2];omega
end ZRead
namespace ZCut
open Go.RowKit YteikiojmcipkmaaGreatDoorW.PrintWords YteikiojmcipkmaaGreatDoorW.PrintLast YteikiojmcipkmaaGreatDoorW.PrintMore Oct ZGlob ZMo ZBlock ZCheck ZPay ZDHead ZRec ZMergeA ZDRecA ZFit
open ZEntry (blkB blkB_len extH sPax blocks extended_calls)
open ZDecA ZBld ZAdd ZNod ZCanon
open ZSink (ob)
open ZTCheck (cell_of)
open ZMbr ZMap ZStr ZRow ZTree
open ZEncode (Canonical)
open ZTCheck ZRun ZTreeP ZMem ZGood ZChain
open ZCreate (encM encAll MemOk encAll_snoc NOk memS_ok)
open ZEntry (encE)
open ZEncode (arc)
open ZSink (pad5)
theorem Runs.snoc {ε:Int} {s s1:ZRun.St} {av av1:List Int} {ms:List (Ent×List Int)} (h:Runs ε s av ms s1 av1) {e:Ent} {n:Nat} (hd:DecAt av1 ε n (·=e) (fun _ _=>False)) (hn:512≤n∧n≤av1.length) (hsz:e.kind=1→e.size≤1000000) (hf:Fits s1 e (av1.drop n)) (hN:s1.N.length < 100000): Runs ε s av (ms++[(e,dataOf e (av1.drop n))]) (s1.step e (dataOf e (av1.drop n))) ((av1.drop n).drop (takes e)):=by
 induction h with
 | nil=>exact .cons hd hn hsz hf hN (.nil _ _)
 | cons hd2 hn2 hsz2 hf2 hN2 _ ih=>exact .cons hd2 hn2 hsz2 hf2 hN2 (ih hd hn hf hN)
theorem mem_tail {m:MB} (h:MemOk m) (hk:m.ent.kind≠1→m.data=[]) (rest:List Int): let av:=m.data++(List.replicate (pad5 m.data.length) 0++rest)
  takes m.ent=m.data.length+pad5 m.data.length∧takes m.ent≤av.length∧(∀ z∈(av.take (takes m.ent)).drop m.ent.size.toNat,z=0)∧dataOf m.ent av=m.data∧av.drop (takes m.ent)=rest:=by
 intro av;have hs:=h.size;have ht:takes m.ent=m.data.length+pad5 m.data.length:=by
  unfold takes;split
  ·rw [hs,Int.toNat_natCast];unfold blocks pad5;omega
  ·rename_i h1;rw [hk h1];rfl
 have hd:dataOf m.ent av=m.data:=by
  unfold dataOf;split
  ·rw [hs,Int.toNat_natCast];simp [av]
  ·rename_i h1;rw [hk h1]
 refine ⟨ht,by rw [ht];simp [av],?_,hd,?_⟩
 ·
  rw [ht,hs,Int.toNat_natCast];have e:av.take (m.data.length+pad5 m.data.length)=m.data++List.replicate (pad5 m.data.length) 0:=by rw [show av=(m.data++List.replicate (pad5 m.data.length) 0)++rest from (List.append_assoc ..).symm];rw [List.take_append_of_le_length (by simp),List.take_of_length_le (by simp)]
  rw [e];intro z hz;simp at hz;exact hz.2
 ·rw [ht,show av=(m.data++List.replicate (pad5 m.data.length) 0)++rest from (List.append_assoc ..).symm];rw [List.drop_append_of_le_length (by simp),List.drop_of_length_le (by simp)];rfl
theorem mem_kind {m:List (Int×ByteArray)} {x:NV} (h:NodeOk x):(memOf m x).ent.kind≠1→(memOf m x).data=[]:=by
 intro hk;cases hl:ZMem.linked m x with
 | some p=>rw [(link_some hl).1]
 | none =>
  by_cases h1:x.kind=1
  ·rw [(link_file hl h1).1] at hk;exact absurd h1 hk
  ·rw [(link_none hl h1).1]
theorem nok {x:NV} (h:NodeOk x) (hd:x.data.length≤100000):NOk x:=⟨h.ent,hd,h.data⟩
theorem mem_at {C:List NV} {j:Nat} {x:NV} (hx:C[j]?=some x):(memS C).2[j]?=some (memOf (memS (C.take j)).1 x):=by
 have e:C=C.take (j+1)++C.drop (j+1):=(List.take_append_drop ..).symm;have key:∀ (l:List NV) (s:List (Int×ByteArray)×List MB),s.2 <+: (l.foldl (fun s x=>(memStep s.1 x,s.2++[memOf s.1 x])) s).2:=by
  intro l
  induction l with
  | nil=>exact fun s=>List.prefix_refl _
  | cons y l ih=>exact fun s=>(List.prefix_append s.2 [memOf s.1 y]).trans (ih (memStep s.1 y,s.2++[memOf s.1 y]))
 have h1:(memS (C.take (j+1))).2 <+: (memS C).2:=by
  conv=>rhs;rw [e]
  unfold memS;rw [List.foldl_append];exact key _ _
 have h2:(memS (C.take j)).2.length=j:=by
  have h3:∀ l:List NV,(memS l).2.length=l.length:=fun l=>by refine snoc_ind (P:=fun l=>(memS l).2.length=l.length) l rfl ?_;intro l x ih;rw [memS_snoc];simp [ih]
  rw [h3,List.length_take];have:=(List.getElem?_eq_some_iff.1 hx).1;omega
 have h4:(memS (C.take (j+1))).2[j]?=some (memOf (memS (C.take j)).1 x):=by rw [take_snoc hx,memS_snoc];exact app_new _ _ _ h2.symm
 obtain ⟨t,ht⟩:=h1;rw [← ht,List.getElem?_append_left (List.getElem?_eq_some_iff.1 h4).1];exact h4
structure Small (C:List NV):Prop where
 ok:COk C
 data:∀ x∈C,x.data.length≤100000
 len:C.length≤40
theorem Small.mem {C:List NV} (h:Small C) {j:Nat} {x:NV} (hx:C[j]?=some x):MemOk (memOf (memS (C.take j)).1 x) :=
 (memS_ok C (fun y hy=>nok (h.ok.node y hy) (h.data y hy))).1 _ (List.mem_of_getElem? (mem_at hx))
theorem Small.run {C:List NV} (h:Small C) (ε:Int) (j:Nat) (hj:j≤C.length):∃ ms,∀ rest:List Int,(encAll (memS (C.take j)).2++rest).length≤1000000000→Runs ε st0 (encAll (memS (C.take j)).2++rest) ms (stAt (C.take j)) rest:=by
 induction j with
 | zero=>exact ⟨[],fun rest _=>.nil _ _⟩
 | succ j ih =>
  obtain ⟨x,hx⟩:∃ x,C[j]?=some x:=⟨_,List.getElem?_eq_getElem (by omega)⟩;obtain ⟨ms,hms⟩:=ih (by omega);have hm:=h.mem hx;have hn:=nxt_of h.ok j x hx;have hch:=ch_all h.ok j (by omega);obtain ⟨m,hme⟩:∃ m,memOf (memS (C.take j)).1 x=m:=⟨_,rfl⟩;have hk:=mem_kind (m:=(memS (C.take j)).1) hn.node;have hb:=ch_bok hch hn;rw [hme] at hm hk hb;refine ⟨ms++[(m.ent,m.data)],fun rest hl=>?_⟩;have e1:encAll (memS (C.take (j+1))).2++rest=encAll (memS (C.take j)).2++(encE m.ent++(m.data++(List.replicate (pad5 m.data.length) 0++rest))):=by rw [take_snoc hx,memS_snoc,hme];simp [encAll_snoc,encM]
  rw [e1] at hl ⊢;have hd:=dec_good hm.ent hm.small (m.data++(List.replicate (pad5 m.data.length) 0++rest)) ε (by rw [List.length_append] at hl;omega);obtain ⟨t1,t2,t3,t4,t5⟩:=mem_tail hm hk rest;have hdr:(encE m.ent++(m.data++(List.replicate (pad5 m.data.length) 0++rest))).drop (encE m.ent).length=m.data++(List.replicate (pad5 m.data.length) 0++rest):=by simp
  have h5:=Runs.snoc (hms _ hl) hd ⟨encE_size hm.ent hm.small,by simp⟩ (fun _=>by have:=hm.size;have:=hm.data;omega) (by rw [hdr];exact ⟨hb,t2,t3⟩) (by rw [hch.len,List.length_take];have:=h.len;omega);rw [hdr,t4,t5] at h5;have e2:stAt (C.take (j+1))=(stAt (C.take j)).step m.ent m.data:=by rw [take_snoc hx,stAt_snoc,hme]
  rw [e2];exact h5
theorem dec_zeros (av:List Int) (hl:512≤av.length) (h1:av.length≤1000000000) (hz:∀ x∈av.take 512,x=0) (ε:Int):DecAt av ε 512 (fun _=>False) (fun o c=>o=0∧c=18):=by intro w rb sb off hR hG h20 hsb hoff;refine (dec_zero w rb sb off _ ε hR hG h20 hsb h1 hoff hl hz).mono ?_;rintro r w' ⟨hm,rfl,hr⟩;exact ⟨hm,.inr ⟨off,18,⟨by omega,rfl⟩,by decide,rfl,fun _=>hr⟩⟩
theorem Small.st {C:List NV} (h:Small C) (j:Nat) (hj:j≤C.length):(stAt (C.take j)).N.length≤40∧∀ x∈(stAt (C.take j)).N,x.data.length≤1000000:=by have hch:=ch_all h.ok j hj;have hl:=hch.len;rw [List.length_take] at hl;refine ⟨by have:=h.len;omega,fun y hy=>?_⟩;obtain ⟨i,hi⟩:=List.getElem?_of_mem hy;have hil:=(List.getElem?_eq_some_iff.1 hi).1;obtain ⟨x,hx⟩:∃ x,(C.take j)[i]?=some x:=⟨_,List.getElem?_eq_getElem (by rw [List.length_take];omega)⟩;obtain ⟨y2,h1,_,_,_,_,h6⟩:=hch.at_ i x hx;rw [hi] at h1;cases h1;rw [h6];have:=h.data x (List.mem_of_mem_take (List.mem_of_getElem? hx));omega
def nilV (o c:Int):Ending:=.returned (.tuple #[.slice none 0 0,.int .i64 o,.int .i64 c])
theorem Small.whole {C:List NV} (h:Small C) (hlen:(encAll (memS C).2).length≤100000000) (w:World) (sb:Nat) (hs:Str w sb 0 (encAll (memS C).2++List.replicate 1024 0) 4) (hG:Gl w) (h20:20≤w.heap.size) (hsb:20≤sb): Calls Tryz.prog 10 #[.pointer (some ⟨sb,0,none⟩)] w fun e w'=>Mo [sb] w w'∧∃ g D,e=.returned (.tuple #[.slice (some ⟨g,0,none⟩) (stAt C).N.length (stAt C).N.length,.int .i64 ((encAll (memS C).2).length+1024:Nat),.int .i64 0])∧Row w' g D∧(∀ y∈D,Cl w' g y)∧Canonical (stAt C).N D:=by
 obtain ⟨ms,hms⟩:=h.run 4 C.length (Nat.le_refl _);have hst:=h.st C.length (Nat.le_refl _);rw [List.take_length] at hms hst;obtain ⟨B,hB⟩:∃ B,encAll (memS C).2=B:=⟨_,rfl⟩;rw [hB] at hms hlen hs ⊢;obtain ⟨Z,hZ⟩:∃ Z:List Int,List.replicate 1024 (0:Int)=Z:=⟨_,rfl⟩;have hZl:Z.length=1024:=by rw [← hZ,List.length_replicate]
 rw [hZ] at hs;have hrun:=hms Z (by simp only [List.length_append];omega);have e1:(B++Z).length=B.length+1024:=by simp only [List.length_append];omega
 have hz:∀ x∈Z,x=0:=fun x hx=>by rw [← hZ] at hx;exact (List.mem_replicate.1 hx).2
 have e3:(Z.drop 512).length=512:=by rw [List.length_drop];omega
 refine (ZRead.read_calls w sb _ 4 hs hG h20 hsb (by rw [e1];omega) ms _ _ hrun 512 _ _ (dec_zeros _ (by omega) (by omega) (fun x hx=>hz x (List.mem_of_mem_take hx)) 4) (fun _ h=>h.elim) (fun _ h=>h.elim) hst.1 hst.2).mono ?_;rintro e w' ⟨hmo,ho⟩;refine ⟨hmo,?_⟩;rw [e1,hZl] at ho;rcases ho with ⟨o,c,⟨_,ho⟩,_,h18,_⟩ | ⟨_,_,h,_⟩ | ⟨_,h,_⟩ | ⟨_,_,h,_⟩ | ⟨o,_,ho⟩
 ·exact absurd ho h18
 ·exact h.elim
 ·exact h.elim
 ·exact h.elim
 ·
  rcases ho with ⟨h6,_⟩ | ⟨_,⟨x,hx,h0⟩,_⟩ | ⟨_,_,_,g,D,rfl,h7,h8,h9⟩ | ⟨_,_,_,h7,_⟩ | ⟨h6,_,h7,_⟩
  ·omega
  ·exact absurd (hz x (List.mem_of_mem_drop (List.mem_of_mem_take hx))) h0
  ·refine ⟨g,D,?_,h7,h8,h9⟩;rw [show ((B.length+1024:Nat):Int) - ((1024:Nat):Int)+((512:Nat):Int)+512=((B.length+1024:Nat):Int) by omega]
  ·cases h7
  ·rw [e3] at h7;omega
end ZCut
namespace ZRen
open Go.RowKit YteikiojmcipkmaaGreatDoorW.PrintWords YteikiojmcipkmaaGreatDoorW.PrintLast YteikiojmcipkmaaGreatDoorW.PrintMore Oct ZGlob ZMo ZBlock ZCheck ZPay ZDHead ZRec ZMergeA ZDRecA ZFit
open ZEntry (blkB blkB_len extH sPax blocks extended_calls)
open ZDecA ZBld ZAdd ZNod ZCanon
open ZSink (ob)
open ZTCheck (cell_of)
open ZMbr ZMap ZStr ZRow ZTree
open ZEncode (Canonical)
open ZTCheck ZCount ZCanon ZRun ZTreeP ZChain
structure Lk (x y:NV):Prop where
 kind:y.kind=x.kind
 path:y.path=x.path
 mode:y.mode=x.mode
 target:y.target=x.target
 data:y.data=x.data
def Grp (x y:NV):Prop:=x.cls=y.cls∧0 < x.cls
structure Sim (L M:List NV):Prop where
 len:M.length=L.length
 lk:∀ (i:Nat) (x y:NV),L[i]?=some x→M[i]?=some y→Lk x y
 grp:∀ (i j:Nat) (x y x2 y2:NV),i≠j→L[i]?=some x→L[j]?=some y→M[i]?=some x2→M[j]?=some y2→(Grp x y↔Grp x2 y2)
theorem Sim.symm {L M:List NV} (h:Sim L M):Sim M L :=
 ⟨h.len.symm,fun i x y hx hy=>by obtain ⟨a,b,c,d,e⟩:=h.lk i y x hy hx;exact ⟨a.symm,b.symm,c.symm,d.symm,e.symm⟩,fun i j x y x2 y2 hij a b c d=>(h.grp i j x2 y2 x y hij c d a b).symm⟩
theorem at_len {L M:List NV} (h:M.length=L.length) {i:Nat} {x:NV} (hx:L[i]?=some x):∃ y,M[i]?=some y:=⟨_,List.getElem?_eq_getElem (by have:=(List.getElem?_eq_some_iff.1 hx).1;omega)⟩
theorem Sim.trans {L M P:List NV} (h:Sim L M) (k:Sim M P):Sim L P:=by
 refine ⟨k.len.trans h.len,fun i x z hx hz=>?_,fun i j x y x3 y3 hij a b c d=>?_⟩
 ·obtain ⟨y,hy⟩:=at_len h.len hx;obtain ⟨a,b,c,d,e⟩:=h.lk i x y hx hy;obtain ⟨a2,b2,c2,d2,e2⟩:=k.lk i y z hy hz;exact ⟨a2.trans a,b2.trans b,c2.trans c,d2.trans d,e2.trans e⟩
 ·obtain ⟨x2,hx2⟩:=at_len h.len a;obtain ⟨y2,hy2⟩:=at_len h.len b;exact (h.grp i j x y x2 y2 hij a b hx2 hy2).trans (k.grp i j x2 y2 x3 y3 hij hx2 hy2 c d)
theorem Sim.of_strip {L M:List NV} (h:M.map strip=L.map strip):Sim L M:=by
 have hl:M.length=L.length:=by simpa using congrArg List.length h
 have key:∀ (i:Nat) (x y:NV),L[i]?=some x→M[i]?=some y→strip y=strip x:=fun i x y hx hy=>by have:=congrArg (fun l=>l[i]?) h;simp only [List.getElem?_map,hx,hy,Option.map_some,Option.some.injEq] at this;exact this
 refine ⟨hl,fun i x y hx hy=>?_,fun i j x y x2 y2 _ a b c d=>?_⟩
 ·have e:=key i x y hx hy;exact ⟨s_kind e,s_path e,s_mode e,s_target e,s_data e⟩
 ·have e1:=s_cls (key i x x2 a c);have e2:=s_cls (key j y y2 b d);unfold Grp;rw [e1,e2]
theorem count_two (L:List Int) (i:Nat) (c:Int) (h:L[i]?=some c):2≤L.count c↔∃ j,j≠i∧L[j]?=some c:=by
 have hl:=(List.getElem?_eq_some_iff.1 h).1;have e:L=L.take i++c :: L.drop (i+1):=by have h1:=List.take_append_drop i L;rw [List.drop_eq_getElem_cons hl,(List.getElem?_eq_some_iff.1 h).2] at h1;exact h1.symm
 have e2:L.count c=(L.take i).count c+1+(L.drop (i+1)).count c:=by
  conv=>lhs;rw [e]
  rw [List.count_append,List.count_cons_self];omega
 rw [e2];constructor
 ·
  intro h2;rcases Nat.eq_zero_or_pos ((L.take i).count c) with h3 | h3
  ·
   have h4:0 < (L.drop (i+1)).count c:=by omega
   obtain ⟨j,hj⟩:=List.getElem?_of_mem (List.count_pos_iff.1 h4);rw [List.getElem?_drop] at hj;exact ⟨i+1+j,by omega,hj⟩
  ·obtain ⟨j,hj⟩:=List.getElem?_of_mem (List.count_pos_iff.1 h3);have hj2:=(List.getElem?_eq_some_iff.1 hj).1;rw [List.length_take] at hj2;rw [List.getElem?_take,if_pos (by omega)] at hj;exact ⟨j,by omega,hj⟩
 ·
  rintro ⟨j,hj,hc⟩;rcases Nat.lt_or_ge j i with h3 | h3
  ·have:0 < (L.take i).count c:=List.count_pos_iff.2 (List.mem_of_getElem? (i:=j) (by rw [List.getElem?_take,if_pos h3];exact hc));omega
  ·have:0 < (L.drop (i+1)).count c:=List.count_pos_iff.2 (List.mem_of_getElem? (i:=j - (i+1)) (by rw [List.getElem?_drop,show i+1+(j - (i+1))=j by omega];exact hc));omega
def cntOf (S:List NV) (c:Int):Int:=((S.map (·.cls)).count c:Nat)
theorem small_iff (S:List NV) (i:Nat) (x:NV) (hx:S[i]?=some x):¬ small (cntOf S) x.cls↔0 < x.cls∧∃ j y,j≠i∧S[j]?=some y∧Grp x y:=by
 have h1:=count_two (S.map (·.cls)) i x.cls (by rw [List.getElem?_map,hx];rfl);unfold small cntOf;constructor
 ·
  intro h;have h2:0 < x.cls∧2≤(S.map (·.cls)).count x.cls:=by omega
  obtain ⟨j,h3,h4⟩:=h1.1 h2.2;rw [List.getElem?_map] at h4;obtain ⟨y,h5,h6⟩:=Option.map_eq_some_iff.1 h4;exact ⟨h2.1,j,y,h3,h5,h6.symm,h2.1⟩
 ·rintro ⟨h2,j,y,h3,h4,h5,_⟩;have:=h1.2 ⟨j,h3,by rw [List.getElem?_map,h4,h5];rfl⟩;omega
theorem small_sim {S T:List NV} (h:Sim S T) (i:Nat) (x y:NV) (hx:S[i]?=some x) (hy:T[i]?=some y):¬ small (cntOf S) x.cls→¬ small (cntOf T) y.cls:=by rw [small_iff S i x hx,small_iff T i y hy];rintro ⟨h0,j,z,h1,h2,h3⟩;obtain ⟨z2,hz2⟩:=at_len h.len h2;have h4:=(h.grp i j x z y z2 h1.symm hx h2 hy hz2).1 h3;exact ⟨h4.2,j,z2,h1,hz2,h4⟩
theorem re_met (cnt:Int→Int) (S:List NV):∀ c u,ZMap.get (reOf cnt S) c=some u→∃ (k:Nat) (x:NV),S[k]?=some x∧x.cls=c∧¬ small cnt c:=by
 refine snoc_ind (P:=fun S=>∀ c u,ZMap.get (reOf cnt S) c=some u→∃ (k:Nat) (x:NV),S[k]?=some x∧x.cls=c∧¬ small cnt c) S (fun c u h=>by cases h) ?_;intro S x ih c u hu;have old:ZMap.get (reOf cnt S) c=some u→∃ (k:Nat) (z:NV),(S++[x])[k]?=some z∧z.cls=c∧¬ small cnt c:=fun h=>by obtain ⟨k,z,h1,h2⟩:=ih c u h;exact ⟨k,z,app_old h1 _,h2⟩
 rw [reOf_snoc] at hu;unfold reStep at hu;split at hu
 ·exact old hu
 ·
  rename_i hs;split at hu
  ·
   rw [get_put] at hu;split at hu
   ·rename_i e;exact ⟨S.length,x,app_new _ _ _ rfl,e.symm,by rw [e];exact hs⟩
   ·exact old hu
  ·exact old hu
structure Two (S T:List NV) (i:Nat):Prop where
 len:(reOf (cntOf T) (T.take i)).length=(reOf (cntOf S) (S.take i)).length
 num:∀ (k:Nat) (x y:NV),k < i→S[k]?=some x→T[k]?=some y→¬ small (cntOf S) x.cls→num (reOf (cntOf T) (T.take i)) y.cls=num (reOf (cntOf S) (S.take i)) x.cls
theorem num_get {re:List (Int×Int)} {c u:Int} (h:ZMap.get re c=some u):num re c=u:=by unfold num;rw [h];rfl
theorem two_all {S T:List NV} (h:Sim S T) (i:Nat) (hi:i≤S.length):Two S T i∧(∀ (x y:NV),S[i]?=some x→T[i]?=some y→clsOf (cntOf T) (reOf (cntOf T) (T.take i)) y=clsOf (cntOf S) (reOf (cntOf S) (S.take i)) x):=by
 have key:∀ i,i≤S.length→Two S T i→∀ (x y:NV),S[i]?=some x→T[i]?=some y→¬ small (cntOf S) x.cls→(num (reOf (cntOf S) (S.take i)) x.cls=0↔num (reOf (cntOf T) (T.take i)) y.cls=0)∧(num (reOf (cntOf S) (S.take i)) x.cls≠0→num (reOf (cntOf T) (T.take i)) y.cls=num (reOf (cntOf S) (S.take i)) x.cls):=by
  intro i hi h2 x y hx hy hs;have hs2:=small_sim h i x y hx hy hs;have side:∀ (S T:List NV),Sim S T→∀ (x y:NV),S[i]?=some x→T[i]?=some y→¬ small (cntOf S) x.cls→num (reOf (cntOf S) (S.take i)) x.cls≠0→∃ (k:Nat) (z z2:NV),k < i∧S[k]?=some z∧T[k]?=some z2∧z.cls=x.cls∧z2.cls=y.cls:=by
   intro S T h x y hx hy hs hn;cases hg:ZMap.get (reOf (cntOf S) (S.take i)) x.cls with
   | none=>unfold ZCount.num at hn;rw [hg] at hn;exact absurd rfl hn
   | some u =>obtain ⟨k,z,h3,h4,_⟩:=re_met _ _ _ _ hg;have hk:=(List.getElem?_eq_some_iff.1 h3).1;rw [List.length_take] at hk;rw [List.getElem?_take,if_pos (by omega)] at h3;obtain ⟨z2,hz2⟩:=at_len h.len h3;have hpos:0 < x.cls:=((small_iff S i x hx).1 hs).1;have h5:=(h.grp k i z x z2 y (by omega) h3 hx hz2 hy).1 ⟨h4,by omega⟩;exact ⟨k,z,z2,by omega,h3,hz2,h4,h5.1⟩
  have a1:num (reOf (cntOf S) (S.take i)) x.cls≠0→num (reOf (cntOf T) (T.take i)) y.cls=num (reOf (cntOf S) (S.take i)) x.cls:=fun hn=>by obtain ⟨k,z,z2,b1,b2,b3,b4,b5⟩:=side S T h x y hx hy hs hn;have:=h2.num k z z2 b1 b2 b3 (by rw [b4];exact hs);rw [b4,b5] at this;exact this
  refine ⟨⟨fun h0=>?_,fun h0=>?_⟩,a1⟩
  ·apply Classical.byContradiction;intro hn;obtain ⟨k,z,z2,b1,b2,b3,b4,b5⟩:=side T S h.symm y x hy hx hs2 hn;have:=h2.num k z2 z b1 b3 b2 (by rw [b5];exact hs);rw [b4,b5,h0] at this;exact hn this
  ·apply Classical.byContradiction;intro hn;rw [a1 hn] at h0;exact hn h0
 have main:∀ i,i≤S.length→Two S T i:=by
  intro i
  induction i with
  | zero=>exact fun _=>⟨rfl,fun k x y hk=>by omega⟩
  | succ i ih =>
   intro hi;have h2:=ih (by omega);obtain ⟨x,hx⟩:∃ x,S[i]?=some x:=⟨_,List.getElem?_eq_getElem (by omega)⟩;obtain ⟨y,hy⟩:=at_len h.len hx;have kk:=key i (by omega) h2 x y hx hy;have hsm:small (cntOf S) x.cls↔small (cntOf T) y.cls:=by
    constructor
    ·intro a;apply Classical.byContradiction;intro b;exact small_sim h.symm i y x hy hx b a
    ·intro a;apply Classical.byContradiction;intro b;exact small_sim h i x y hx hy b a
   obtain ⟨RS,hRS⟩:∃ r,reOf (cntOf S) (S.take i)=r:=⟨_,rfl⟩;obtain ⟨RT,hRT⟩:∃ r,reOf (cntOf T) (T.take i)=r:=⟨_,rfl⟩;have iS:Inj RS:=by rw [← hRS];exact inj_of _ _
   have iT:Inj RT:=by rw [← hRT];exact inj_of _ _
   have hl:=h2.len;have hnum:=h2.num;rw [hRS,hRT] at hl hnum kk;have eS:reOf (cntOf S) (S.take (i+1))=reStep (cntOf S) RS x:=by rw [take_snoc hx,reOf_snoc,hRS]
   have eT:reOf (cntOf T) (T.take (i+1))=reStep (cntOf T) RT y:=by rw [take_snoc hy,reOf_snoc,hRT]
   have lenP:∀ (R:List (Int×Int)) (c u:Int),Inj R→num R c=0→(ZMap.put R c u).length=R.length+1:=fun R c u hI h0=>by rw [put_miss R c u 0 (find_none (hI.num0 h0) 0)];simp
   have nx:¬ small (cntOf S) x.cls→num (reStep (cntOf T) RT y) y.cls=num (reStep (cntOf S) RS x) x.cls:=fun hs=>by
    have hs2:¬ small (cntOf T) y.cls:=fun a=>hs (hsm.2 a);obtain ⟨k1,k2⟩:=kk hs;unfold reStep;rw [if_neg hs,if_neg hs2];by_cases h0:num RS x.cls=0
    ·rw [if_pos h0,if_pos (k1.1 h0)];unfold ZCount.num;rw [get_put,if_pos rfl,get_put,if_pos rfl,hl]
    ·rw [if_neg h0,if_neg (fun a=>h0 (k1.2 a))];exact k2 h0
   refine ⟨?_,fun k a b hk ha hb hs=>?_⟩
   ·
    rw [eS,eT];unfold reStep;by_cases hs:small (cntOf S) x.cls
    ·rw [if_pos hs,if_pos (hsm.1 hs)];exact hl
    ·
     rw [if_neg hs,if_neg (fun a=>hs (hsm.2 a))];by_cases h0:num RS x.cls=0
     ·rw [if_pos h0,if_pos ((kk hs).1.1 h0),lenP _ _ _ iS h0,lenP _ _ _ iT ((kk hs).1.1 h0),hl]
     ·rw [if_neg h0,if_neg (fun a=>h0 ((kk hs).1.2 a))];exact hl
   ·
    rw [eS,eT];rcases Nat.lt_or_ge k i with h3 | h3
    ·
     have hv:=hnum k a b h3 ha hb hs;have metS:∃ u,ZMap.get RS a.cls=some u:=by
      have e:S.take i=(S.take i).take k++[a]++(S.take i).drop (k+1):=by
       have h4:(S.take i)[k]?=some a:=by rw [List.getElem?_take,if_pos h3];exact ha
       rw [← take_snoc h4,List.take_append_drop]
      obtain ⟨u,hu,_⟩:=re_has (cnt:=cntOf S) (inj_of (cntOf S) ((S.take i).take k)) a hs;refine ⟨u,?_⟩;rw [← hRS,e];exact re_all _ _ _ (by rw [reOf_snoc];exact hu)
     obtain ⟨u,hu⟩:=metS;have hu1:=(iS.1 _ _ hu).1;have nS:num RS a.cls=u:=num_get hu;have metT:∃ v,ZMap.get RT b.cls=some v:=by
      cases hg:ZMap.get RT b.cls with
      | some v=>exact ⟨v,rfl⟩
      | none =>
       have:num RT b.cls=0:=by unfold ZCount.num;rw [hg];rfl
       omega
     obtain ⟨v,hv2⟩:=metT;rw [num_get (re_keep iS x hu),num_get (re_keep iT y hv2)];rw [num_get hu,num_get hv2] at hv;exact hv
    ·
     obtain rfl:k=i:=by omega
     rw [hx] at ha;rw [hy] at hb;cases ha;cases hb;exact nx hs
 refine ⟨main i hi,fun x y hx hy=>?_⟩;have hlt:=(List.getElem?_eq_some_iff.1 hx).1;have h2:=main (i+1) (by omega);unfold clsOf;by_cases hs:small (cntOf S) x.cls
 ·
  have hs2:small (cntOf T) y.cls:=by apply Classical.byContradiction;intro b;exact small_sim h.symm i y x hy hx b hs
  rw [if_pos hs,if_pos hs2]
 ·have hs2:=small_sim h i x y hx hy hs;rw [if_neg hs,if_neg hs2];have:=h2.num i x y (by omega) hx hy hs;rw [take_snoc hx,take_snoc hy,reOf_snoc,reOf_snoc] at this;exact this
theorem sorted_uniq:∀ (A B:List NV),A.Perm B→A.Pairwise (fun x y=>lt x.path y.path=true)→B.Pairwise (fun x y=>lt x.path y.path=true)→A=B
 | [],B,h,_,_=>(List.nil_perm.1 h).symm
 | a :: A,[],h,_,_=>by simp at h
 | a :: A,b :: B,h,ha,hb=>by
  have e:a=b:=by
   apply Classical.byContradiction;intro hne;have h1:a∈b :: B:=h.subset List.mem_cons_self;have h2:b∈a :: A:=h.symm.subset List.mem_cons_self;have h3:a∈B:=by
    rcases List.mem_cons.1 h1 with h | h
    ·exact absurd h hne
    ·exact h
   have h4:b∈A:=by
    rcases List.mem_cons.1 h2 with h | h
    ·exact absurd h.symm hne
    ·exact h
   have h5:=(List.pairwise_cons.1 ha).1 b h4;have h6:=(List.pairwise_cons.1 hb).1 a h3;rw [lt_asymm h5] at h6;cases h6
  subst e;rw [sorted_uniq A B ((List.perm_cons a).1 h) (List.pairwise_cons.1 ha).2 (List.pairwise_cons.1 hb).2]
theorem canon_row {l C:List NV} (hl:l.Pairwise (fun x y=>x.path≠y.path)) (hC:Canonical l C):∃ S,S.Pairwise (fun x y=>lt x.path y.path=true)∧(S.map strip).Perm (l.map strip)∧C=renum (cntOf S) S:=by
 obtain ⟨K,S,h1,h2,h3,rfl⟩:=hC;have hp:(S.map strip).Perm (l.map strip):=by rw [← h1];exact h2.map _
 refine ⟨S,?_,hp,?_⟩
 ·
  have p1:(l.map (·.path)).Nodup:=by rw [List.nodup_iff_pairwise_ne,List.pairwise_map];exact hl
  have p2:K.map (·.path)=l.map (·.path):=by have:=congrArg (List.map (·.path)) h1;simpa [List.map_map,Function.comp_def,strip] using this
  have p3:(S.map (·.path)).Nodup:=by rw [(h2.map _).nodup_iff,p2];exact p1
  rw [List.nodup_iff_pairwise_ne,List.pairwise_map] at p3;refine (h3.and p3).imp fun {x y} h=>?_;cases hl:lt x.path y.path with
  | true=>rfl
  | false=>exact absurd (eq_of_le hl h.1) h.2
 ·
  have e:num (countsOf (l.map (·.cls)))=cntOf S:=by
   funext c;rw [num_counts];unfold cntOf;have h4:(S.map (·.cls)).Perm (l.map (·.cls)):=by have:=hp.map (·.cls);simpa [List.map_map,Function.comp_def,strip] using this
   rw [h4.count_eq]
  rw [e]
theorem renum_len (cnt:Int→Int) (S:List NV):(renum cnt S).length=S.length:=by simp [renum]
theorem renum_at (cnt:Int→Int) (S:List NV) (i:Nat) (x:NV) (h:S[i]?=some x):(renum cnt S)[i]?=some (newAt cnt S i x):=by unfold renum;rw [List.getElem?_mapIdx,h];rfl
theorem sim_renum (S:List NV):Sim S (renum (cntOf S) S):=by
 have at_:∀ (i:Nat) (x y:NV),S[i]?=some x→(renum (cntOf S) S)[i]?=some y→y=newAt (cntOf S) S i x:=fun i x y hx hy=>by rw [renum_at _ _ _ _ hx] at hy;exact (Option.some.inj hy).symm
 refine ⟨renum_len _ _,fun i x y hx hy=>?_,fun i j x y x2 y2 hij a b c d=>?_⟩
 ·rw [at_ i x y hx hy];exact ⟨rfl,rfl,rfl,rfl,rfl⟩
 ·
  rw [at_ i x x2 a c,at_ j y y2 b d];show Grp x y↔(clsOf (cntOf S) (reOf (cntOf S) (S.take i)) x=clsOf (cntOf S) (reOf (cntOf S) (S.take j)) y∧0 < clsOf (cntOf S) (reOf (cntOf S) (S.take i)) x);constructor
  ·
   intro hg;have n1:=(small_iff S i x a).2 ⟨hg.2,j,y,hij.symm,b,hg⟩;have n2:=(small_iff S j y b).2 ⟨by have:=hg.1;have:=hg.2;omega,i,x,hij,a,hg.1.symm,by have:=hg.1;have:=hg.2;omega⟩;rcases cls_at (cntOf S) S i x a with ⟨h,_⟩ | ⟨_,u,hu,hu1,e1⟩
   ·exact absurd h n1
   ·
    rcases cls_at (cntOf S) S j y b with ⟨h,_⟩ | ⟨_,v,hv,hv1,e2⟩
    ·exact absurd h n2
    ·rw [hg.1,hv] at hu;cases hu;rw [e1,e2];exact ⟨rfl,by omega⟩
  ·
   rintro ⟨he,hp⟩;rcases cls_at (cntOf S) S i x a with ⟨_,e1⟩ | ⟨hs,u,hu,hu1,e1⟩
   ·omega
   ·
    rcases cls_at (cntOf S) S j y b with ⟨_,e2⟩ | ⟨_,v,hv,hv1,e2⟩
    ·omega
    ·
     have:u=v:=by omega
     subst this;exact ⟨(inj_of _ _).2 _ _ _ hu hv,((small_iff S i x a).1 hs).1⟩
theorem renum_alike {S T:List NV} (h:Sim S T) (i:Nat) (x y:NV) (hx:(renum (cntOf S) S)[i]?=some x) (hy:(renum (cntOf T) T)[i]?=some y):ZSame.Alike x y:=by obtain ⟨a,ha,rfl⟩:=renum_get _ _ _ _ hx;obtain ⟨b,hb,rfl⟩:=renum_get _ _ _ _ hy;have l:=h.lk i a b ha hb;exact ⟨l.kind,l.path,l.mode,l.target,l.data,(two_all h i (by have:=(List.getElem?_eq_some_iff.1 ha).1;omega)).2 a b ha hb⟩
theorem asc_ne {L:List NV} (h:L.Pairwise (fun x y=>lt x.path y.path=true)):L.Pairwise (fun x y=>x.path≠y.path):=h.imp fun {x y} h e=>by rw [e,lt_irrefl] at h;cases h
theorem map_asc {L:List NV} (h:L.Pairwise (fun x y=>lt x.path y.path=true)):(L.map strip).Pairwise (fun x y=>lt x.path y.path=true):=by rw [List.pairwise_map];exact h
theorem asc_sim {L M:List NV} (h:Sim L M) (ha:L.Pairwise (fun x y=>lt x.path y.path=true)):M.Pairwise (fun x y=>lt x.path y.path=true):=by rw [List.pairwise_iff_getElem] at ha ⊢;intro i j hi hj hij;have hl:=h.len;have h1:=ha i j (by omega) (by omega) hij;have e1:=(h.lk i _ _ (List.getElem?_eq_getElem (show i < L.length by omega)) (List.getElem?_eq_getElem hi)).path;have e2:=(h.lk j _ _ (List.getElem?_eq_getElem (show j < L.length by omega)) (List.getElem?_eq_getElem hj)).path;rw [e1,e2];exact h1
theorem canon_sorted {l C:List NV} (hl:l.Pairwise (fun x y=>lt x.path y.path=true)) (hC:Canonical l C):∃ S,Sim l S∧C=renum (cntOf S) S:=by obtain ⟨S,h1,h2,h3⟩:=canon_row (asc_ne hl) hC;exact ⟨S,Sim.of_strip (sorted_uniq _ _ h2 (map_asc h1) (map_asc hl)),h3⟩
theorem sim_ch {C:List NV} {s:ZRun.St} {m:List (Int×ByteArray)} (h:Ch C s m) (hn:∀ x∈C,NodeOk x):Sim C s.N:=by
 refine ⟨h.len,fun i x y hx hy=>?_,fun i j x y x2 y2 hij a b c d=>?_⟩
 ·obtain ⟨y2,h1,h2,h3,h4,h5,h6⟩:=h.at_ i x hx;rw [hy] at h1;cases h1;exact ⟨h2,h3,h4,h5,h6⟩
 ·
  obtain ⟨p1,p2,p3⟩:=h.cl i x x2 a c;obtain ⟨q1,q2,q3⟩:=h.cl j y y2 b d;have nx:=(hn x (List.mem_of_getElem? a)).cls;have ny:=(hn y (List.mem_of_getElem? b)).cls;have val:∀ (i:Nat) (x x2:NV),x.kind=1→0 < x.cls→(∃ (k:Nat) (p:ByteArray),ZMap.get m x.cls=some p∧ZMap.get s.fm p=some (k:Int)∧x2.cls=k+1)→∃ (k:Nat) (z:NV),C[k]?=some z∧z.cls=x.cls∧x2.cls=k+1:=fun i x x2 _ h0 ⟨k,p,r1,r2,r3⟩=>by
   obtain ⟨k2,z,t1,_,t3,_,t5,_⟩:=h.fm _ p h0 r1;rw [r2] at t5;have:k=k2:=by have:=Option.some.inj t5;omega
   subst this;exact ⟨k,z,t1,t3,r3⟩
  constructor
  ·
   rintro ⟨e1,e2⟩;have kx:x.kind=1:=Classical.byContradiction fun hk=>by have:=nx.2 hk;omega
   have ky:y.kind=1:=Classical.byContradiction fun hk=>by have:=ny.2 hk;omega
   obtain ⟨k,p,r1,r2,r3⟩:=p3 kx e2;obtain ⟨k2,p2',t1,t2,t3⟩:=q3 ky (by omega);rw [← e1,r1] at t1;cases t1;rw [r2] at t2;have hkk:(k:Int)=k2:=Option.some.inj t2;clear p1 p2 p3 q1 q2 q3 val nx ny r1 r2 t2;exact ⟨by omega,by omega⟩
  ·
   rintro ⟨e1,e2⟩;have kx:x.kind=1:=Classical.byContradiction fun hk=>by have:=p1 hk;omega
   have ky:y.kind=1:=Classical.byContradiction fun hk=>by have:=q1 hk;omega
   have idx:∀ (k:Nat) (z w:NV),C[k]?=some z→C[k]?=some w→z=w:=fun k z w h1 h2=>by rw [h1] at h2;exact Option.some.inj h2
   by_cases cx:x.cls=0
   ·
    have v1:=p2 kx cx;by_cases cy:y.cls=0
    ·have v2:=q2 ky cy;clear p1 p2 p3 q1 q2 q3 val;omega
    ·
     obtain ⟨k,z,r1,r2,r3⟩:=val j y y2 ky (by omega) (q3 ky (by omega));have:k=i:=by omega
     subst this;rw [idx k z x r1 a] at r2;omega
   ·
    obtain ⟨k,z,r1,r2,r3⟩:=val i x x2 kx (by omega) (p3 kx (by omega));by_cases cy:y.cls=0
    ·
     have v2:=q2 ky cy;have:k=j:=by omega
     subst this;rw [idx k z y r1 b] at r2;omega
    ·
     obtain ⟨k2,z2,t1,t2,t3⟩:=val j y y2 ky (by omega) (q3 ky (by omega));have:k=k2:=by omega
     subst this;have:=idx k z z2 r1 t1;subst this;exact ⟨by omega,by omega⟩
theorem back_alike {l l2 C D:List NV} (hT:TreeOk l) (hl2:l2.map strip=l.map strip) (hC:Canonical l C) (hD:Canonical (stAt C).N D):∀ C1 C2,Canonical D C1→Canonical l2 C2→∀ (i:Nat) (x y:NV),C1[i]?=some x→C2[i]?=some y→ZSame.Alike x y:=by
 intro C1 C2 h1 h2 i x y hx hy;have hok:=canon_cok hT hC;have hch:=ch_all hok C.length (Nat.le_refl _);rw [List.take_length] at hch;have s1:=sim_ch hch hok.node;have aN:=asc_sim s1 hok.asc;obtain ⟨SN,s2,rfl⟩:=canon_sorted aN hD;have s3:=s2.trans (sim_renum SN);have aD:=asc_sim s3 aN;obtain ⟨S1,s4,rfl⟩:=canon_sorted aD h1;have hne:=paths_ne hT;obtain ⟨S,g1,g2,g3⟩:=canon_row hne hC;have hne2:l2.Pairwise (fun x y=>x.path≠y.path):=by
  have e:l2.map (·.path)=l.map (·.path):=by have:=congrArg (List.map (·.path)) hl2;simpa [List.map_map,Function.comp_def,strip] using this
  have h:=hne;rw [← List.pairwise_map (f:=fun x:NV=>x.path) (R:=fun a b=>a≠b)] at h ⊢;rw [e];exact h
 obtain ⟨S2,k1,k2,rfl⟩:=canon_row hne2 h2;have e2:S2.map strip=S.map strip:=sorted_uniq _ _ ((k2.trans (by rw [hl2])).trans g2.symm) (map_asc k1) (map_asc g1);have s5:Sim S C:=by rw [g3];exact sim_renum S
 have s6:Sim S1 S2:=(((s4.symm.trans s3.symm).trans s1.symm).trans s5.symm).trans (Sim.of_strip e2);exact renum_alike s6 i x y hx hy
end ZRen
namespace ZDco
open Go.RowKit YteikiojmcipkmaaGreatDoorW.PrintWords YteikiojmcipkmaaGreatDoorW.PrintLast YteikiojmcipkmaaGreatDoorW.PrintMore Oct ZGlob ZMo ZBlock ZCheck ZPay ZDHead ZRec ZMergeA ZDRecA ZFit
open ZEntry (blkB blkB_len extH sPax blocks extended_calls)
open ZDecA ZBld ZAdd ZNod ZCanon
open ZSink (ob)
open ZTCheck (cell_of)
open ZMbr ZMap ZStr ZRow ZTree
open ZEncode (Canonical)
open ZRun ZTreeP ZMem ZGood ZChain ZCut ZHead
open ZCreate (encM encAll MemOk)
open ZEntry (encE)
open ZEncode (arc)
open ZSumPlain (Bytes)
open ZFmt (fmtB)
theorem blk_bytes {h:Hdr} (hk:h.Ok):Bytes (blkB h):=ZSumPlain.seal_bytes _ (raw_bytes hk)
theorem zero_bytes (n:Nat):Bytes (List.replicate n 0):=fun x hx=>by rw [(List.mem_replicate.1 hx).2];decide
theorem fmt_bytes (l:List Rec):Bytes (fmtB l):=fun x hx=>by
 obtain ⟨r,_,h⟩:=List.mem_flatMap.1 hx;unfold ZFmt.recB at h;simp only [List.mem_append,List.mem_cons,List.not_mem_nil,or_false] at h;rcases h with h | rfl | h | rfl | h | rfl
 ·unfold ZFmt.decB at h;obtain ⟨b,_,rfl⟩:=List.mem_map.1 h;have:=b.toNat_lt;omega
 ·decide
 ·exact str_bytes _ x h
 ·decide
 ·exact str_bytes _ x h
 ·decide
theorem encE_bytes {e:Ent} (he:e.Ok) (hs:e.size≤8589934591):Bytes (encE e):=by
 have h1:=blk_bytes (ZPlanOk.planH_ok he hs);have h2:=fmt_len he hs;unfold encE;split
 ·exact h1
 ·exact (blk_bytes (ZEntry.extH_ok _ (by omega) (by omega))).append ((fmt_bytes _).append ((zero_bytes _).append h1))
theorem arc_bytes {C:List NV} (h:Small C) (hd:∀ x∈C,Bytes x.data):Bytes (arc C):=by
 have hm:=ZCreate.memS_ok C (fun y hy=>nok (h.ok.node y hy) (h.data y hy));unfold arc;refine Bytes.append (fun x hx=>?_) (zero_bytes _);obtain ⟨m,hmm,h1⟩:=List.mem_flatMap.1 hx;unfold encM at h1;have ho:=hm.1 m hmm;rcases List.mem_append.1 h1 with h2 | h2
 ·exact encE_bytes ho.ent ho.small x h2
 ·
  rcases List.mem_append.1 h2 with h3 | h3
  ·
   rcases ZCreate.memS_data C m hmm with ⟨_,_,e⟩ | ⟨y,hy,_,_,e⟩
   ·rw [e] at h3;cases h3
   ·rw [e] at h3;exact hd y hy x h3
  ·exact zero_bytes _ x h3
theorem new_str (A B:Option Addr) (n c m d:Nat) (l ch:List Int) (w:World) (hA:Kd.C (Kd.int .u8) w A n l) (hB:Kd.C (Kd.int .i64) w B m ch) (hn:n≤1000000000) (hm:m≤1000000) (hc:okChunks ch) (hb:Bytes l) : Calls Tryz.prog 11 #[.slice A n c,.agg #[.slice B m d,.int .i64 (-1)]] w fun e w'=>∃ sb,e=.returned (.pointer (some ⟨sb,0,none⟩))∧w.heap.size≤sb∧Str w' sb 0 l 4∧Below w.heap.size w w' :=
 (ZBlock.new_calls A B n c m d l ch (-1) w hA hB (by omega) (by omega) (by decide) hb).mono fun e w' ⟨sb,h1,h2,h3,h4⟩=>⟨sb,h1,h2,⟨l,ch,-1,0,h3,hc,.inl ⟨rfl,rfl,.inl (by decide)⟩⟩,h4⟩
theorem back_below {w w1 w2:World} {sb:Nat} (hb:Below w.heap.size w w1) (hs:w.heap.size≤sb) (hm:Mo [sb] w1 w2):Below w.heap.size w w2 :=
 hb.trans (hm.below hb.size (by simpa using hs))
set_option maxHeartbeats 4000000 in
theorem decode_calls {C:List NV} (h:Small C) (hd:∀ x∈C,Bytes x.data) (hlen:(encAll (memS C).2).length≤100000000) (A:Option Addr) (n c:Nat) (w:World) (hA:Kd.C (Kd.int .u8) w A n (arc C)) (hG:Gl w) (h20:20≤w.heap.size): Calls Tryz.prog 14 #[.slice A n c] w fun e w'=>Below w.heap.size w w'∧∃ g D,e=.returned (.tuple #[.slice (some ⟨g,0,none⟩) (stAt C).N.length (stAt C).N.length,.int .i64 n,.int .i64 0])∧Row w' g D∧(∀ y∈D,Cl w' g y)∧Canonical (stAt C).N D:=by
 have hn:=Kd.C_len hA;have hn2:n=(encAll (memS C).2).length+1024:=by rw [← hn];unfold arc;rw [List.length_append,List.length_replicate]
 have NS:=hid (new_str A none n c 0 0 (arc C) [] w hA ⟨by decide,by decide,fun h=>absurd h (by decide)⟩ (by omega) (by decide) (fun x hx=>by cases hx) (arc_bytes h hd));have HH:=hid (And.intro h (And.intro hlen (And.intro hG (And.intro h20 hn2))));clear h hd hlen hG h20 hA hn hn2;go_enter Tryz.func14,Tryz.ntmps14
 go_wp2_with fail
 refine NS.out.mono ?_;rintro e w1 ⟨sb,rfl,hsb,hst,hb⟩;have WH:=hid (HH.out.1.whole HH.out.2.1 w1 sb hst (HH.out.2.2.1.below hb) (by have:=hb.size;have:=HH.out.2.2.2.1;omega) (by have:=HH.out.2.2.2.1;omega));have HB:=hid (And.intro hsb hb);clear hsb hst hb
 go_wp2_with fail
 refine WH.out.mono ?_;rintro e w2 ⟨hm,g,D,rfl,h1,h2,h3⟩;have HQ:=hid (And.intro hm (And.intro h1 (And.intro h2 h3)));clear hm h1 h2 h3
 go_wp2_with fail
 refine bodyPost_ret (v:=.tuple #[.slice (some ⟨g,0,none⟩) (stAt C).N.length (stAt C).N.length,.int .i64 ((encAll (memS C).2).length+1024:Nat),.int .i64 0]) (by simp [results,Tryz.results14,go_sem]) rfl ⟨back_below HB.out.2 HB.out.1 HQ.out.1,g,D,?_,HQ.out.2.1,HQ.out.2.2.1,HQ.out.2.2.2⟩;rw [HH.out.2.2.2.2]
end ZDco
namespace ZAlive
open Go.RowKit YteikiojmcipkmaaGreatDoorW.PrintWords YteikiojmcipkmaaGreatDoorW.PrintLast YteikiojmcipkmaaGreatDoorW.PrintMore Oct ZGlob ZMo ZBlock ZCheck ZPay ZDHead ZRec ZMergeA ZDRecA ZFit
open ZEntry (blkB blkB_len extH sPax blocks extended_calls)
open ZDecA ZBld ZAdd ZNod ZCanon
open ZSink (ob)
open ZTCheck (cell_of)
open ZMbr ZMap ZStr ZRow ZTree
open ZEncode (Canonical)
open ZRun ZTreeP ZMem ZGood ZChain ZCut ZHead
open ZCreate (encM encAll MemOk)
open ZEntry (encE)
open ZEncode (arc)
open ZSumPlain (Bytes)
open ZFmt (fmtB)
open ZDco ZFirst ZTCheck ZRen
open ZPath (okPath parts comps good parentP)
theorem C_one {W:World} {b:Nat} {x:Int} (h:W.cell? ⟨b,0,none⟩=some (.int .u8 x)):Kd.C (Kd.int .u8) W (some ⟨b,0,none⟩) 1 [x]:=by
 refine ⟨by simp,by decide,fun _=>⟨⟨b,0,none⟩,rfl,fun j p hj=>?_⟩⟩;have h0:j=0∧p=x:=by
  cases j with
  | zero=>simp at hj;exact ⟨rfl,hj.symm⟩
  | succ j=>simp at hj
 obtain ⟨rfl,rfl⟩:=h0;refine ⟨[.int .u8 p],rfl,?_,fun i u hi=>?_⟩
 ·exact rfl
 ·
  cases i with
  | zero=>simp at hi;rw [← hi];exact h
  | succ i=>simp at hi
abbrev pD:ByteArray:=⟨#[100]⟩
abbrev pF:ByteArray:=⟨#[100,47,102]⟩
abbrev pG:ByteArray:=⟨#[103]⟩
abbrev pS:ByteArray:=⟨#[115]⟩
abbrev p0:ByteArray:=⟨#[]⟩
def exN (a b:Nat):List NV:=[⟨0,pD,493,p0,none,0,[],0⟩,⟨1,pF,420,p0,some ⟨a,0,none⟩,1,[120],1⟩,⟨1,pG,420,p0,some ⟨b,0,none⟩,1,[120],1⟩,⟨2,pS,0,pD,none,0,[],0⟩]
set_option maxHeartbeats 4000000 in
theorem example_calls (w:World):Calls Tryz.prog 17 #[] w fun e w'=>∃ g,e=.returned (.slice (some ⟨g,0,none⟩) 4 4)∧Below w.heap.size w w'∧NodesAt w' (some ⟨g,0,none⟩) (exN w.heap.size (w.heap.size+1)):=by
 have cv1:=conv30 (.int .u8 120) w;obtain ⟨W1,hW1⟩:∃ X,frz w (.int .u8 120)=X:=⟨_,rfl⟩;have hb1:Below w.heap.size w W1:=by rw [← hW1];exact frz_below (Below.refl _ _) (Nat.le_refl _) _
 have hs1:W1.heap.size=w.heap.size+1:=by rw [← hW1];exact frz_size _ _
 have hh1:W1.heap[w.heap.size]?=some (.cells #[.int .u8 120] 5 (1,2)):=by rw [← hW1];exact frz_heap _ _
 rw [hW1] at cv1;have cv2:=conv30 (.int .u8 120) W1;obtain ⟨W2,hW2⟩:∃ X,frz W1 (.int .u8 120)=X:=⟨_,rfl⟩;have hb2:Below W1.heap.size W1 W2:=by rw [← hW2];exact frz_below (Below.refl _ _) (Nat.le_refl _) _
 have hs2:W2.heap.size=W1.heap.size+1:=by rw [← hW2];exact frz_size _ _
 have hh2:W2.heap[W1.heap.size]?=some (.cells #[.int .u8 120] 5 (1,2)):=by rw [← hW2];exact frz_heap _ _
 rw [hW2] at cv2;have HH:=hid (And.intro hb1 (And.intro hs1 (And.intro hh1 (And.intro hb2 (And.intro hs2 hh2)))));clear hb1 hs1 hh1 hb2 hs2 hh2 hW1 hW2;go_enter Tryz.func17,Tryz.ntmps17
 go_wp2_with fail
 go_ret;refine ⟨W2.heap.size,rfl,?_⟩;obtain ⟨h1,h2,h3,h4,h5,h6⟩:=HH.out;rw [h2] at h6 h5 ⊢;have hbb:=below_step h1 h4;refine ⟨below_alloc hbb _,?_⟩;have hw:∀ o,Below W2.heap.size W2 (W2.alloc o):=fun o=>below_alloc (Below.refl _ _) o;have hrow:Row (W2.alloc (.cells (rowCells (exN w.heap.size (w.heap.size+1))).toArray 46)) W2.heap.size (exN w.heap.size (w.heap.size+1)):=heap_alloc_new _ _;have g1:(W2.alloc (.cells (rowCells (exN w.heap.size (w.heap.size+1))).toArray 46)).cell? ⟨w.heap.size,0,none⟩=some (.int .u8 120):=cell_of (((hw _).block _ (by omega)).trans ((h4.block _ (by omega)).trans h3)) 0 _ rfl;have g2:(W2.alloc (.cells (rowCells (exN w.heap.size (w.heap.size+1))).toArray 46)).cell? ⟨w.heap.size+1,0,none⟩=some (.int .u8 120):=cell_of (((hw _).block _ (by omega)).trans h6) 0 _ rfl;have hn:∀ W:World,Kd.C (Kd.int .u8) W none 0 []:=fun W=>⟨by decide,by decide,fun h=>absurd h (by decide)⟩;refine ⟨fun _=>⟨W2.heap.size,0,rfl,hrow.lt,fun i x hx j v hv=>?_⟩,fun x hx=>?_⟩
 ·rw [Nat.zero_add];exact row_cellD hrow i j x v hx hv
 ·
  simp only [exN,List.mem_cons,List.not_mem_nil,or_false] at hx;rcases hx with rfl | rfl | rfl | rfl
  ·exact ⟨hn _,Nat.le_refl _⟩
  ·exact ⟨C_one g1,Nat.le_refl _⟩
  ·exact ⟨C_one g2,Nat.le_refl _⟩
  ·exact ⟨hn _,Nat.le_refl _⟩
theorem ok_one {p:ByteArray} (h:parts p=[p]) (hs:p.size≤65536) (hg:good p):okPath p:=⟨hs,fun c hc=>by
 rw [h] at hc;obtain rfl:c=p:=by simpa using hc
 exact hg⟩
theorem okD:okPath pD:=ok_one (by decide) (by decide) ⟨by decide,by decide,by decide,by decide⟩
theorem okG:okPath pG:=ok_one (by decide) (by decide) ⟨by decide,by decide,by decide,by decide⟩
theorem okS:okPath pS:=ok_one (by decide) (by decide) ⟨by decide,by decide,by decide,by decide⟩
theorem okF:okPath pF:=⟨by decide,fun c hc=>by
 have e:parts pF=[pD,⟨#[102]⟩]:=by decide
 rw [e] at hc;simp only [List.mem_cons,List.not_mem_nil,or_false] at hc;rcases hc with rfl | rfl
 ·exact ⟨by decide,by decide,by decide,by decide⟩
 ·exact ⟨by decide,by decide,by decide,by decide⟩⟩
theorem fileOk (p:ByteArray) (A:Option Addr) (h:okPath p):NodeOk ⟨1,p,420,p0,A,1,[120],1⟩ :=
 ⟨.inr (.inl rfl),⟨(show (0:Int)≤1∧(1:Int)≤3 by decide),h,(show (0:Int)≤420∧(420:Int)≤4095 by decide),(show (1:Int)=2→(420:Int)=0 by decide),rfl,(show ZFit.sizeOk 1 1 from (show (if (1:Int)=1 then (0:Int)≤1∧(1:Int)≤1099511627776 else (1:Int)=0) by decide))⟩,fun h=>absurd rfl h,(show (0:Int)≤1 by decide),fun h=>absurd rfl h⟩
theorem ex_node (a b:Nat):∀ x∈exN a b,NodeOk x:=by
 intro x hx;simp only [exN,List.mem_cons,List.not_mem_nil,or_false] at hx;rcases hx with rfl | rfl | rfl | rfl
 ·exact ⟨by decide,⟨by decide,okD,by decide,by decide,rfl,rfl⟩,fun _=>rfl,by decide,fun _=>rfl⟩
 ·exact fileOk _ _ okF
 ·exact fileOk _ _ okG
 ·exact ⟨by decide,⟨by decide,okS,by decide,by decide,⟨by decide,by decide,by decide⟩,rfl⟩,fun _=>rfl,by decide,fun _=>rfl⟩
theorem ex_tree (a b:Nat):TreeOk (exN a b):=by
 refine ⟨ex_node a b,fun j x hx=>?_⟩;have hj:=(List.getElem?_eq_some_iff.1 hx).1;have hj4:j=0∨j=1∨j=2∨j=3:=by have:(exN a b).length=4:=rfl;omega
 rcases hj4 with rfl | rfl | rfl | rfl
 ·cases hx;exact ⟨rfl,rfl,fun h=>absurd rfl h⟩
 ·cases hx;exact ⟨rfl,rfl,fun _ m hm=>by cases hm⟩
 ·cases hx;refine ⟨rfl,rfl,fun _ m hm=>?_⟩;cases hm;exact ⟨rfl,rfl⟩
 ·cases hx;exact ⟨rfl,rfl,fun h=>absurd rfl h⟩
end ZAlive
namespace ZAliveB
open Go.RowKit YteikiojmcipkmaaGreatDoorW.PrintWords YteikiojmcipkmaaGreatDoorW.PrintLast YteikiojmcipkmaaGreatDoorW.PrintMore Oct ZGlob ZMo ZBlock ZCheck ZPay ZDHead ZRec ZMergeA ZDRecA ZFit
open ZEntry (blkB blkB_len extH sPax blocks extended_calls)
open ZDecA ZBld ZAdd ZNod ZCanon
open ZSink (ob)
open ZTCheck (cell_of)
open ZMbr ZMap ZStr ZRow ZTree
open ZEncode (Canonical)
open ZRun ZTreeP ZMem ZGood ZChain ZCut ZHead
open ZCreate (encM encAll MemOk)
open ZEntry (encE)
open ZEncode (arc)
open ZSumPlain (Bytes)
open ZFmt (fmtB)
open ZDco ZFirst ZTCheck ZRen
open ZPath (okPath parts comps good parentP)
open ZAlive
open ZPlan (planH planR)
theorem memS_strip (C:List NV):(memS (C.map strip)).1=(memS C).1∧(memS (C.map strip)).2.map (fun m=>(m.ent,m.data))=(memS C).2.map (fun m=>(m.ent,m.data)):=by
 refine snoc_ind (P:=fun C=>(memS (C.map strip)).1=(memS C).1∧(memS (C.map strip)).2.map (fun m=>(m.ent,m.data))=(memS C).2.map (fun m=>(m.ent,m.data))) C ⟨rfl,rfl⟩ ?_;intro C x ⟨h1,h2⟩;rw [List.map_append,List.map_cons,List.map_nil,memS_snoc,memS_snoc];have e1:∀ m,memStep m (strip x)=memStep m x:=fun m=>by unfold memStep ZMem.linked;rfl
 have e2:∀ m,(memOf m (strip x)).ent=(memOf m x).ent∧(memOf m (strip x)).data=(memOf m x).data:=fun m=>by
  have hl:ZMem.linked m (strip x)=ZMem.linked m x:=rfl;cases h:ZMem.linked m x with
  | some p =>rw [(link_some h).1,(link_some (hl.trans h)).1];exact ⟨rfl,rfl⟩
  | none =>
   by_cases hk:x.kind=1
   ·rw [(link_file h hk).1,(link_file (hl.trans h) hk).1];exact ⟨rfl,rfl⟩
   ·rw [(link_none h hk).1,(link_none (hl.trans h) hk).1];exact ⟨rfl,rfl⟩
 refine ⟨by rw [h1,e1],?_⟩;rw [List.map_append,List.map_append,h2,h1];simp [(e2 (memS C).1).1,(e2 (memS C).1).2]
theorem encAll_strip (C:List NV):encAll (memS (C.map strip)).2=encAll (memS C).2:=by
 have key:∀ l:List MB,encAll l=(l.map (fun m=>(m.ent,m.data))).flatMap fun q=>encE q.1++(q.2++List.replicate (ZSink.pad5 q.2.length) 0):=fun l=>by unfold encAll;rw [List.flatMap_map];rfl
 rw [key,key,(memS_strip C).2]
def exM:List MB:=[⟨⟨0,pD,493,p0,0⟩,none,0,[]⟩,⟨⟨1,pF,420,p0,1⟩,none,0,[120]⟩,⟨⟨3,pG,420,pF,0⟩,none,0,[]⟩,⟨⟨2,pS,0,pD,0⟩,none,0,[]⟩]
theorem ex_mem:(memS ((exN 0 0).map strip)).2=exM:=rfl
theorem ex_sz (a b:Nat):∀ x∈exN a b,x.path.size≤100∧x.data.length≤100:=fun x hx=>by
 simp only [exN,List.mem_cons,List.not_mem_nil,or_false] at hx;rcases hx with rfl | rfl | rfl | rfl
 ·exact ⟨(show 1≤100 by decide),(show 0≤100 by decide)⟩
 ·exact ⟨(show 3≤100 by decide),(show 1≤100 by decide)⟩
 ·exact ⟨(show 1≤100 by decide),(show 1≤100 by decide)⟩
 ·exact ⟨(show 1≤100 by decide),(show 0≤100 by decide)⟩
theorem ex_small {a b:Nat} {C:List NV} (hC:Canonical (exN a b) C):Small C:=by
 have hm:∀ y∈C,y.data.length≤100000:=fun y hy=>by obtain ⟨K,S,h1,h2,_,rfl⟩:=hC;obtain ⟨x,hx,_,_,_,_,e⟩:=ZCreate.canon_mem h1 h2 hy;rw [e];have:=(ex_sz a b x hx).2;omega
 exact ⟨canon_cok (ex_tree a b) hC,hm,by rw [hC.len];show 4≤40;decide⟩
theorem ex_bytes {a b:Nat} {C:List NV} (hC:Canonical (exN a b) C):∀ y∈C,Bytes y.data:=fun y hy=>by obtain ⟨K,S,h1,h2,_,rfl⟩:=hC;obtain ⟨x,hx,_,_,_,_,e⟩:=ZCreate.canon_mem h1 h2 hy;rw [e];simp only [exN,List.mem_cons,List.not_mem_nil,or_false] at hx;rcases hx with rfl | rfl | rfl | rfl <;> (intro z hz;simp at hz;try omega)
theorem lt_of {x y:ByteArray} (h:Op.bytesLess x.data.toList y.data.toList=true):lt x y=true:=by unfold lt;rw [ByteArray.toList_eq,ByteArray.toList_eq];exact h
theorem ex_asc (a b:Nat):(exN a b).Pairwise (fun x y=>lt x.path y.path=true):=by simp only [exN,List.pairwise_cons,List.mem_cons,List.not_mem_nil,or_false,List.Pairwise.nil,and_true,forall_eq_or_imp,forall_eq];exact ⟨⟨lt_of rfl,lt_of rfl,lt_of rfl⟩,⟨lt_of rfl,lt_of rfl⟩,lt_of rfl,fun _ h=>h.elim⟩
theorem ex_canon {a b:Nat} {C:List NV} (hC:Canonical (exN a b) C):C.map strip=(exN 0 0).map strip:=by
 obtain ⟨S,h1,rfl⟩:=canon_sorted (ex_asc a b) hC;have h2:Sim S (exN 0 0):=h1.symm.trans (Sim.of_strip rfl);have h3:ZCanon.renum (cntOf (exN 0 0)) (exN 0 0)=exN 0 0:=by rfl
 have hl:S.length=4:=h1.len;apply List.ext_getElem?;intro i;rw [List.getElem?_map,List.getElem?_map];rcases Nat.lt_or_ge i 4 with hi | hi
 ·obtain ⟨x,hx⟩:∃ x,(ZCanon.renum (cntOf S) S)[i]?=some x:=⟨_,List.getElem?_eq_getElem (by rw [renum_len];omega)⟩;obtain ⟨y,hy⟩:∃ y,(exN 0 0)[i]?=some y:=⟨_,List.getElem?_eq_getElem (by show i < 4;exact hi)⟩;have ha:=renum_alike h2 i x y hx (by rw [h3];exact hy);rw [hx,hy];obtain ⟨a1,a2,a3,a4,a5,a6⟩:=ha;show some (strip x)=some (strip y);unfold strip;rw [a1,a2,a3,a4,a5,a6]
 ·rw [List.getElem?_eq_none (by rw [renum_len];omega),List.getElem?_eq_none (by show 4≤i;exact hi)]
theorem ex_len {a b:Nat} {C:List NV} (hC:Canonical (exN a b) C):(encAll (memS C).2).length=2560:=by
 rw [← encAll_strip,ex_canon hC,ex_mem];have hok:∀ m∈exM,MemOk m:=by rw [← ex_mem];refine (ZCreate.memS_ok _ fun y hy=>?_).1;obtain ⟨z,hz,rfl⟩:=List.mem_map.1 hy;have h1:=ex_node 0 0 z hz;refine ⟨h1.ent,?_,h1.data⟩;simp only [exN,List.mem_cons,List.not_mem_nil,or_false] at hz;rcases hz with rfl | rfl | rfl | rfl <;> decide
 have hE:∀ m∈exM,(encE m.ent).length=512:=fun m hm=>by
  have hp:planR m.ent=[]:=by simp only [exM,List.mem_cons,List.not_mem_nil,or_false] at hm;rcases hm with rfl | rfl | rfl | rfl <;> rfl
  have e:encE m.ent=blkB (planH m.ent):=by unfold ZEntry.encE;rw [if_pos hp]
  rw [e];exact blkB_len (ZPlanOk.planH_ok (hok m hm).ent (hok m hm).small)
 have e:encAll exM=encM ⟨⟨0,pD,493,p0,0⟩,none,0,[]⟩++(encM ⟨⟨1,pF,420,p0,1⟩,none,0,[120]⟩++(encM ⟨⟨3,pG,420,pF,0⟩,none,0,[]⟩++(encM ⟨⟨2,pS,0,pD,0⟩,none,0,[]⟩++[]))):=rfl;rw [e];have h1:=hE ⟨⟨0,pD,493,p0,0⟩,none,0,[]⟩ (by simp [exM]);have h2:=hE ⟨⟨1,pF,420,p0,1⟩,none,0,[120]⟩ (by simp [exM]);have h3:=hE ⟨⟨3,pG,420,pF,0⟩,none,0,[]⟩ (by simp [exM]);have h4:=hE ⟨⟨2,pS,0,pD,0⟩,none,0,[]⟩ (by simp [exM]);dsimp only at h1 h2 h3 h4;unfold ZCreate.encM;simp only [List.length_append,List.length_replicate,h1,h2,h3,h4,List.length_nil,List.length_cons];decide
set_option maxHeartbeats 8000000 in
theorem alive_calls (w:World) (hG:Gl w) (h20:20≤w.heap.size):Calls Tryz.prog 8 #[] w fun e w'=>e=.returned (.bool true)∧Below w.heap.size w w':=by
 have E1:=hid (example_calls w);have HH:=hid (And.intro hG h20);clear hG h20;go_enter Tryz.func8,Tryz.ntmps8
 go_wp2_with fail
 refine E1.out.mono ?_;rintro e w1 ⟨g,rfl,hb1,hN1⟩;have hp:∀ x∈exN w.heap.size (w.heap.size+1),x.path.size≤1000000∧x.data.length≤100000:=fun x hx=>by have:=ex_sz _ _ x hx;omega
 have B1:=hid (And.intro hb1 hN1);have EC:=hid (ZEncode.encode_calls (some ⟨g,0,none⟩) 4 (exN w.heap.size (w.heap.size+1)) (by show 4≤40;decide) (fun x hx=>(hp x hx).2) (fun x hx=>(hp x hx).1) w1 (HH.out.1.below hb1) (by have:=hb1.size;have:=HH.out.2;omega) hN1 (Nat.le_refl 4));clear hb1 hN1 hp
 go_wp2_with fail
 refine EC.out.mono ?_;rintro e w2 ⟨hb2,⟨x,_,_,hno⟩ | ⟨hT,C,hC,g2,cap,rfl,ho⟩⟩
 ·exact absurd (ex_tree _ _) hno
 have hlen:=ex_len hC;have hal:(ZEncode.arc C).length=3584:=by unfold ZEncode.arc;rw [List.length_append,List.length_replicate,hlen]
 have hb12:=below_step B1.out.1 hb2;have DC:=hid (decode_calls (ex_small hC) (ex_bytes hC) (by omega) (some ⟨g2,0,none⟩) (ZEncode.arc C).length cap w2 ho.reads (HH.out.1.below hb12) (by have:=hb12.size;have:=HH.out.2;omega));have hch:=ch_all (ex_small hC).ok C.length (Nat.le_refl _);rw [List.take_length] at hch;have hNl:(stAt C).N.length=4:=by rw [hch.len,hC.len];rfl
 have hDok:=(ex_small hC).st C.length (Nat.le_refl _);rw [List.take_length] at hDok;rw [hal,hNl] at DC;rw [hal];have HC:=hid (And.intro hC (And.intro hb12 (And.intro hNl hDok)));clear hb2 hT hC ho hlen hb12 hch hNl hDok
 go_wp2_with fail
 refine DC.out.mono ?_;rintro e w3 ⟨hb3,g3,D,rfl,hr,hcl,hD⟩;have B3:=hid (And.intro (below_step HC.out.2.1 hb3) (And.intro hr (And.intro hcl hD)));have E2:=hid (example_calls w3);clear hb3 hr hcl hD
 go_wp2_with fail
 refine E2.out.mono ?_;rintro e w4 ⟨g4,rfl,hb4,hN4⟩;have hDl:D.length=4:=by rw [B3.out.2.2.2.len];exact HC.out.2.2.1
 have hdd:∀ x∈D,x.data.length≤1000000:=fun y hy=>by obtain ⟨K,S,h1,h2,_,h4⟩:=B3.out.2.2.2;rw [h4] at hy;obtain ⟨x,hx,_,_,_,_,e⟩:=ZCreate.canon_mem h1 h2 hy;rw [e];exact HC.out.2.2.2.2 x hx
 have EQ:=hid (ZEqual.equal_calls (some ⟨g3,0,none⟩) (some ⟨g4,0,none⟩) 4 4 D (exN w3.heap.size (w3.heap.size+1)) (by omega) (by show 4≤40;decide) hdd (fun x hx=>by have:=ex_sz _ _ x hx;omega) (by rw [hDl];rfl) (back_alike (ex_tree w.heap.size (w.heap.size+1)) rfl HC.out.1 B3.out.2.2.2) w4 ((ZEqual.nodes_of B3.out.2.1 B3.out.2.2.1).below hb4) hN4 (by omega) (Nat.le_refl 4))
 rw [hDl] at EQ;have B4:=hid (below_step B3.out.1 hb4);clear hb4 hN4 hDl hdd
 go_wp2_with fail
 refine EQ.out.mono ?_;rintro e w5 ⟨rfl,hb5⟩;have B5:=hid (below_step B4.out hb5);clear hb5
 go_wp2_with fail
 go_ret;exact ⟨rfl,B5.out⟩
end ZAliveB
namespace ZTooL
open Go.RowKit YteikiojmcipkmaaGreatDoorW.PrintWords YteikiojmcipkmaaGreatDoorW.PrintLast YteikiojmcipkmaaGreatDoorW.PrintMore Oct ZGlob ZMo ZBlock ZCheck ZPay ZDHead ZRec ZMergeA ZDRecA ZFit
open ZEntry (blkB blkB_len extH sPax blocks extended_calls)
open ZDecA ZBld ZAdd ZNod ZCanon
open ZSink (ob)
open ZTCheck (cell_of)
open ZMbr ZMap ZStr ZRow ZTree
open ZEncode (Canonical)
open ZRun ZTreeP ZMem ZGood ZChain ZCut ZHead
open ZCreate (encM encAll MemOk)
open ZEntry (encE)
open ZEncode (arc)
open ZSumPlain (Bytes)
open ZFmt (fmtB)
open ZDco ZFirst ZTCheck ZRen
open ZPath (okPath parts comps good parentP)
set_option maxHeartbeats 8000000 in
theorem tooL_calls (A:Option Addr) (cap:Nat) (l:List NV) (w:World) (hl:NodesAt w A l) (hc:l.length≤cap) (hz:∀ x∈l,x.path.size≤1000000000000000∧x.target.size≤1000000000000000∧x.data.length≤1000000000000000): Calls Tryz.prog 6 #[.slice A l.length cap] w fun e w'=>∃ v:Int,e=.returned (.int .i64 v)∧Below w.heap.size w w'∧(v=1∨(v=0∧l.length≤40∧∀ x∈l,x.path.size+x.target.size+x.data.length≤70000)):=by
 have HL:=hid (And.intro hl hz);clear hl hz;by_cases h40:40 < l.length
 ·
  have hgt:(40:Int) < (l.length:Int):=by omega
  clear h40;obtain ⟨n,hn⟩:∃ n,l.length=n:=⟨_,rfl⟩;rw [hn] at hgt hc ⊢;clear hn;go_enter Tryz.func6,Tryz.ntmps6
  go_wp2_with fail
  go_ret;exact ⟨1,rfl,Below.refl _ _,.inl rfl⟩
 ·
  have hle:¬ (40:Int) < (l.length:Int):=by omega
  have H40:=hid h40;clear h40;go_enter Tryz.func6,Tryz.ntmps6
  go_wp2_with fail
  go_loopw [11,3] (fun i t wr=>∃ (j:Nat) (T:Int),j≤l.length∧i=.int .i64 j∧t=.int .i64 T∧Hid (0≤T∧T≤70000 * j∧Below w.heap.size w wr∧∀ x∈l.take j,x.path.size+x.target.size+x.data.length≤70000)) (fun i _ _=>l.length - (intOf i).toNat)
  case atStart=>exact ⟨0,0,Nat.zero_le _,rfl,rfl,hid ⟨by decide,by decide,Below.refl _ _,fun x hx=>by simp at hx⟩⟩
  case round =>
   obtain ⟨j,T,hj,rfl,rfl,HS⟩:=hrel;by_cases hlt:j < l.length
   ·
    have hltz:(j:Int) < (l.length:Int):=by omega
    obtain ⟨x,hx⟩:∃ x,l[j]?=some x:=⟨_,List.getElem?_eq_getElem hlt⟩;have hxm:=List.mem_of_getElem? hx;have hw:=HL.out.1.below HS.out.2.2.1;obtain ⟨b,o,rfl,_⟩:=HL.out.1.row (fun e=>by rw [e] at hlt;simp at hlt);obtain ⟨c0,c1,c2,c3,c4,c5⟩:=hw.cells j x hx;have hsz:=HL.out.2 x hxm;have HX:=hid hx;have hT:=HS.out.1;have hT2:=HS.out.2.1;have hl40:=H40.out;obtain ⟨kind,path,mode,target,addr,xcap,data,cls⟩:=x;unfold NV.cells at *;dsimp only at *;obtain ⟨p,hp⟩:∃ p:Nat,path.size=p:=⟨_,rfl⟩;obtain ⟨t,ht⟩:∃ p:Nat,target.size=p:=⟨_,rfl⟩;obtain ⟨d,hd⟩:∃ p:Nat,data.length=p:=⟨_,rfl⟩;have HSZ:=hid (And.intro hp (And.intro ht hd));rw [hp,ht,hd] at hsz;rw [hd] at c4;have w1':IntKind.i64.wrap ((p:Int)+(t:Int))=(p:Int)+(t:Int):=by rw [IntKind.wrap_i64];omega
    have w2':IntKind.i64.wrap ((p:Int)+(t:Int)+(d:Int))=(p:Int)+(t:Int)+(d:Int):=by rw [IntKind.wrap_i64];omega
    by_cases hbig:(70000:Int) < (p:Int)+(t:Int)+(d:Int)
    ·
     clear hx hxm hw
     go_wp2_with fail
     go_ret;exact ⟨1,rfl,below_alloc HS.out.2.2.1 _,.inl rfl⟩
    ·
     have w3':IntKind.i64.wrap (T+((p:Int)+(t:Int)+(d:Int)))=T+((p:Int)+(t:Int)+(d:Int)):=by rw [IntKind.wrap_i64];omega
     clear hx hxm hw
     go_wp2_with fail
     go_roundw
     case rel =>
      refine ⟨j+1,T+((p:Int)+(t:Int)+(d:Int)),by omega,by go_num,rfl,hid ⟨by omega,by omega,below_alloc HS.out.2.2.1 _,fun y hy=>?_⟩⟩;rw [take_snoc HX.out] at hy;rcases List.mem_append.1 hy with h | h
      ·exact HS.out.2.2.2 y h
      ·
       obtain rfl:=by simpa using h
       have h1:=HSZ.out;show path.size+target.size+data.length≤70000;omega
     case measure=>simp [intOf];omega
   ·
    have hltz:¬ (j:Int) < (l.length:Int):=by omega
    have hje:j=l.length:=by omega
    have HJ:=hid hje;clear hje;by_cases hb:(100000:Int) < T
    ·
     go_wp2_with fail
     go_ret;exact ⟨1,rfl,HS.out.2.2.1,.inl rfl⟩
    ·
     go_wp2_with fail
     go_ret;refine ⟨0,rfl,HS.out.2.2.1,.inr ⟨rfl,by have:=H40.out;omega,fun y hy=>HS.out.2.2.2 y ?_⟩⟩;rw [HJ.out,List.take_length];exact hy
end ZTooL
namespace ZTop4
open Go.RowKit YteikiojmcipkmaaGreatDoorW.PrintWords YteikiojmcipkmaaGreatDoorW.PrintLast YteikiojmcipkmaaGreatDoorW.PrintMore Oct ZGlob ZMo ZBlock ZCheck ZPay ZDHead ZRec ZMergeA ZDRecA ZFit
open ZEntry (blkB blkB_len extH sPax blocks extended_calls)
open ZDecA ZBld ZAdd ZNod ZCanon
open ZSink (ob)
open ZTCheck (cell_of)
open ZMbr ZMap ZStr ZRow ZTree
open ZEncode (Canonical)
open ZRun ZTreeP ZMem ZGood ZChain ZCut ZHead
open ZCreate (encM encAll MemOk)
open ZEntry (encE)
open ZEncode (arc)
open ZSumPlain (Bytes)
open ZFmt (fmtB)
open ZDco ZFirst ZTCheck ZRen
open ZPath (okPath parts comps good parentP)
open ZAlive
open ZPlan (planH planR)
open ZAliveB ZTooL
theorem small_of {l C:List NV} (hT:TreeOk l) (hC:Canonical l C) (h40:l.length≤40) (hd:∀ x∈l,x.data.length≤100000) (hb:∀ x∈l,Bytes x.data):Small C∧∀ y∈C,Bytes y.data:=by
 have hm:∀ y∈C,y.data.length≤100000∧Bytes y.data:=fun y hy=>by obtain ⟨K,S,h1,h2,_,rfl⟩:=hC;obtain ⟨x,hx,_,_,_,_,e⟩:=ZCreate.canon_mem h1 h2 hy;rw [e];exact ⟨hd x hx,hb x hx⟩
 exact ⟨⟨canon_cok hT hC,fun y hy=>(hm y hy).1,by rw [hC.len];exact h40⟩,fun y hy=>(hm y hy).2⟩
end ZTop4
namespace ZRv
open Go.RowKit
open ZFit ZNod ZTree ZPath ZStr ZRo ZRs ZRn
open ZMem ZTreeP ZCut ZMap
def bareM (m:MB):MB:={ m with addr:=none,cap:=0 }
end ZRv
namespace ZRt
open Go.RowKit YteikiojmcipkmaaGreatDoorW.PrintWords YteikiojmcipkmaaGreatDoorW.PrintLast YteikiojmcipkmaaGreatDoorW.PrintMore Oct
open ZFit ZNod ZTree ZPath ZStr ZRo ZRs ZRn ZRv
open ZMem ZTreeP ZCut
open ZTCheck (cell_of take_snoc)
open ZSumPlain (Bytes)
structure MData (w:World) (m:MB):Prop where
 reads:Kd.C (Kd.int .u8) w m.addr m.data.length m.data
 cap:m.data.length≤m.cap
 typ:∀ ad,m.addr=some ad→0 < m.data.length→∃ cells,w.heap[ad.block]?=some (.cells cells 5 (0,0))
theorem MData.below {w w1:World} {m:MB} (h:MData w m) (hb:Below w.heap.size w w1):MData w1 m:=by refine ⟨Kd.C_below h.reads hb,h.cap,fun ad ha hn=>?_⟩;obtain ⟨c1,h1⟩:=h.typ ad ha hn;exact ⟨c1,(hb.block _ (ZCreate.C_lt h.reads ad ha hn)).trans h1⟩
structure Mq (w0 wr:World) (v:Value) (K:List NV) (M:List MB) (j:Nat):Prop where
 bel:Below w0.heap.size w0 wr
 own:wr.ownsRow w0.heap.size 56 6 v j (memCells M)
 bare:M.map bareM=((memS (K.take j)).2).map bareM
 data:∀ m∈M,MData wr m
theorem Mq.step {w0 wr w1:World} {v:Value} {K:List NV} {M:List MB} {j:Nat} (h:Mq w0 wr v K M j) (hb:Below wr.heap.size wr w1):Mq w0 w1 v K M j :=
 ⟨below_step h.bel hb,pw_own_below h.own hb,h.bare,fun m hm=>(h.data m hm).below hb⟩
end ZRt
end
namespace ZOther
open Go.RowKit YteikiojmcipkmaaGreatDoorW.PrintWords YteikiojmcipkmaaGreatDoorW.PrintLast YteikiojmcipkmaaGreatDoorW.PrintMore Oct ZGlob ZMo ZBlock ZCheck ZPay ZDHead ZRec ZMergeA ZDRecA ZFit
open ZEntry (blkB blkB_len extH extH_ok sPax blocks extended_calls encE padN padN_eq)
open ZDecA ZDecB ZPlan ZRun ZMbr ZGood ZPlanOk ZParseN ZMergeN ZFmt
open ZSumPlain (Bytes)
theorem merge_c (hd:Hdr) (hk:hd.Ok) (rl:List Rec) (hl:RecList rl):MergeC hd rl (fun x=>x.Ok∧planH x=hd∧planR x=rl) (fun c=>c=6∨c=17):=by
 intro v W hG hv;refine (merge_any hd hk rl hl.ok hl.len v W hG hv).mono ?_;rintro e w' ⟨hb,⟨x,h1,h2,h3,h4⟩ | ⟨c,hc,h4⟩⟩
 ·exact ⟨hb,.inl ⟨x,⟨h1,h2,h3⟩,h4⟩⟩
 ·exact ⟨hb,.inr ⟨c,hc,by omega,h4⟩⟩
theorem parse_mono {rb:List Int} {S S':List Rec→Prop} {T T':Int→Int→Prop} (h:ParseC rb S T) (hS:∀ l,S l→S' l) (hT:∀ m x,T m x→T' m x):ParseC rb S' T':=by
 intro g c W h1 h2 h3;refine (h g c W h1 h2 h3).mono ?_;rintro e w' ⟨hb,⟨l,v,h4,h5⟩ | ⟨m,x,h4,h5⟩⟩
 ·exact ⟨hb,.inl ⟨l,v,hS l h4,h5⟩⟩
 ·exact ⟨hb,.inr ⟨m,x,hT m x h4,h5⟩⟩
def Big (x:Ent):Prop:=x.kind=1∧8589934591 < x.size
theorem big_of {x:Ent} (h:x.Ok) (hs:¬ x.size≤8589934591):Big x:=by
 have h1:=h.size;unfold sizeOk at h1;split at h1
 ·rename_i h2;exact ⟨h2,by omega⟩
 ·omega
set_option maxHeartbeats 1000000 in
theorem dec_other (av:List Int) (hby:Bytes av) (hav:av.length≤1000000000) (hz:av.length < 512∨∃ x∈av.take 512,x≠0) (hno:∀ e rest,e.Ok→e.size≤8589934591→av≠encE e++rest) (ε:Int):∃ n,DecAt av ε n Big (fun _ c=>c≠18):=by
 rcases Nat.lt_or_ge av.length 512 with hl | hl
 ·
  refine ⟨0,fun w rb sb off hR hG h20 hsb hoff=>?_⟩;have he4:=Str.eps hR.str;refine (dec_end w rb sb off av ε hR hG h20 hsb hav hoff hl).mono ?_;rintro r w' ⟨hm,rfl⟩;have hz:endE av.length ε≠0∧endE av.length ε≠18:=by unfold endE;rcases he4 with e | e <;> rw [e] <;> by_cases h0:0 < av.length <;> simp [h0]
  exact ⟨hm,.inr ⟨_,_,hz.2,hz.1,rfl,fun h=>absurd h hz.2⟩⟩
 ·
  have hz:=hz.resolve_left (by omega);by_cases hh:∃ hd:Hdr,hd.Ok∧av.take 512=blkB hd;rotate_left
  ·refine ⟨0,fun w rb sb off hR hG h20 hsb hoff=>?_⟩;refine (ZDecN.dec_bad w rb sb off av ε hR hG h20 hsb hav hoff hl hz (fun h h1 h2=>hh ⟨h,h1,h2⟩)).mono ?_;rintro r w' ⟨hm,x,hx,rfl⟩;exact ⟨hm,.inr ⟨_,x,by omega,by omega,rfl,fun h=>by omega⟩⟩
  ·
   obtain ⟨hd,hk,hbl⟩:=hh;by_cases ht:hd.typ=120;rotate_left
   ·
    refine ⟨512,fun w rb sb off hR hG h20 hsb hoff=>?_⟩;refine (dec_plain w rb sb off av ε hR hG h20 hsb hav hoff hd hk hl hz hbl ht _ _ (merge_c hd hk [] RecList.nil)).mono ?_;rintro r w' ⟨hm,⟨x,⟨h1,h2,h3⟩,rfl,hr⟩ | ⟨c,hc,h0,rfl⟩⟩
    ·
     refine ⟨hm,.inl ⟨x,big_of h1 fun hs=>?_,h1,rfl,hr⟩⟩;refine hno x (av.drop 512) h1 hs ?_;have e1:encE x=blkB hd:=by unfold encE;rw [if_pos h3,h2]
     rw [e1,← hbl,List.take_append_drop]
    ·exact ⟨hm,.inr ⟨_,c,by omega,h0,rfl,fun h=>by omega⟩⟩
   ·
    by_cases hx:∃ n:Nat,hd=extH n∧1≤n∧n≤262144;rotate_left
    ·refine ⟨0,fun w rb sb off hR hG h20 hsb hoff=>?_⟩;refine (ZDecN.dec_rej w rb sb off av ε hR hG h20 hsb hav hoff hd hk hl hz hbl ht hx).mono ?_;rintro r w' ⟨hm,rfl⟩;exact ⟨hm,.inr ⟨_,17,(show (17:Int)≠18 from by decide),by decide,rfl,fun h=>by omega⟩⟩
    ·
     obtain ⟨n,rfl,h1,h2⟩:=hx;have PA:blocks n * 512≤(av.drop 512).length→(∀ x∈((av.drop 512).take (blocks n * 512)).drop n,x=0)→ParseC ((av.drop 512).take n) (fun l=>RecList l∧fmtB l=(av.drop 512).take n) (fun _ x=>x≠18∧NoRecs ((av.drop 512).take n)):=fun _ _ =>parse_any _ (fun x hx=>hby x (List.mem_of_mem_drop (List.mem_of_mem_take hx))) (by rw [List.length_take];omega)
     by_cases hrec:blocks n * 512≤(av.drop 512).length∧(∀ x∈((av.drop 512).take (blocks n * 512)).drop n,x=0)∧¬ NoRecs ((av.drop 512).take n);rotate_left
     ·
      refine ⟨0,fun w rb sb off hR hG h20 hsb hoff=>?_⟩;have he4:=Str.eps hR.str;have hc:cutE ε≠0∧cutE ε≠18:=by unfold cutE;rcases he4 with e | e <;> rw [e] <;> decide
      refine (ZDecD.dec_paxA w rb sb off av ε hR hG h20 hsb hav hoff n h1 h2 hl hz hbl (fun _=>False) (fun _ x=>x≠18) (fun q1 q2=>parse_mono (PA q1 q2) (fun l h=>hrec ⟨q1,q2,fun h3=>h3 l h.1 h.2⟩) (fun m x h=>h.1)) (fun _ h=>h)).mono ?_;rintro r w' ⟨hm,⟨_,rfl⟩ | ⟨_,_,a,rfl⟩ | ⟨_,_,m,x,h3,h4,rfl⟩⟩
      ·exact ⟨hm,.inr ⟨_,_,hc.2,hc.1,rfl,fun h=>absurd h hc.2⟩⟩
      ·exact ⟨hm,.inr ⟨a,10,(show (10:Int)≠18 from by decide),by decide,rfl,fun h=>by omega⟩⟩
      ·exact ⟨hm,.inr ⟨_,x,h3,h4,rfl,fun h=>absurd h h3⟩⟩
     ·
      obtain ⟨hK,h0,hnr⟩:=hrec;obtain ⟨kk,hkk⟩:∃ kk,blocks n * 512=kk:=⟨_,rfl⟩;have PB:blocks n * 512≤(av.drop 512).length→(∀ x∈((av.drop 512).take (blocks n * 512)).drop n,x=0)→ParseC ((av.drop 512).take n) (fun l=>RecList l∧fmtB l=(av.drop 512).take n) (fun _ _=>False):=fun q1 q2 =>parse_mono (PA q1 q2) (fun l h=>h) (fun m x h=>hnr h.2)
      rw [hkk] at hK h0;rcases Nat.lt_or_ge ((av.drop 512).drop kk).length 512 with hc | hc
      ·
       refine ⟨0,fun w rb sb off hR hG h20 hsb hoff=>?_⟩;have he4:=Str.eps hR.str;have hce:cutE ε≠0∧cutE ε≠18:=by unfold cutE;rcases he4 with e | e <;> rw [e] <;> decide
       refine (ZDecE.dec_paxE w rb sb off av ε hR hG h20 hsb hav hoff n h1 h2 hl hz hbl _ _ PB kk hkk hK h0 (fun _ _ h=>h) hc).mono ?_;rintro r w' ⟨hm,_,rfl⟩;exact ⟨hm,.inr ⟨_,_,hce.2,hce.1,rfl,fun h=>absurd h hce.2⟩⟩
      ·
       by_cases hh2:∃ hd2:Hdr,hd2.Ok∧((av.drop 512).drop kk).take 512=blkB hd2;rotate_left
       ·refine ⟨0,fun w rb sb off hR hG h20 hsb hoff=>?_⟩;refine (ZDecN.dec_paxF w rb sb off av ε hR hG h20 hsb hav hoff n h1 h2 hl hz hbl _ _ PB kk hkk hK h0 (fun _ _ h=>h) hc (fun h h1 h2=>hh2 ⟨h,h1,h2⟩)).mono ?_;rintro r w' ⟨hm,_,x,hx,rfl⟩;exact ⟨hm,.inr ⟨_,x,by omega,by omega,rfl,fun h=>by omega⟩⟩
       ·
        obtain ⟨hd2,hk2,hb2⟩:=hh2;refine ⟨512+kk+512,fun w rb sb off hR hG h20 hsb hoff=>?_⟩;refine (ZDecG.dec_paxG w rb sb off av ε hR hG h20 hsb hav hoff n h1 h2 hl hz hbl _ _ PB kk hkk hK h0 (fun _ _ h=>h) hd2 hk2 hc hb2 (fun l x=>x.Ok∧planH x=hd2∧planR x=l) (fun _ c=>c=6∨c=17) (fun l hl=>merge_c hd2 hk2 l hl.1)).mono ?_;rintro r w' ⟨hm,l,⟨hrl,hfl⟩,⟨x,⟨q1,q2,q3⟩,rfl,hr⟩ | ⟨c,hc2,hc0,rfl⟩⟩
        ·
         refine ⟨hm,.inl ⟨x,big_of q1 fun hs=>?_,q1,rfl,?_⟩⟩
         ·
          refine hno x (((av.drop 512).drop kk).drop 512) q1 hs ?_;have hn:(fmtB (planR x)).length=n:=by rw [q3,hfl,List.length_take,List.length_drop];have:=padN_eq n;rw [hkk] at this;rw [List.length_drop] at hK;omega
          have hne:planR x≠[]:=fun e=>by rw [e] at hn;simp [fmtB] at hn;omega
          unfold encE;rw [if_neg hne,hn,q3,hfl,q2,← hb2,← hbl];have hpad:((av.drop 512).take kk).drop n=List.replicate (padN n) 0:=by refine List.eq_replicate_iff.2 ⟨?_,h0⟩;have:=padN_eq n;rw [hkk] at this;rw [List.length_drop,List.length_take];omega
          rw [← hpad];have hnk:n≤kk:=by have:=padN_eq n;omega
          have e1:(av.drop 512).take n++((av.drop 512).take kk).drop n=(av.drop 512).take kk:=by conv=>rhs;rw [← List.take_append_drop n ((av.drop 512).take kk),List.take_take,Nat.min_eq_left hnk]
          obtain ⟨X,hX⟩:∃ X,((av.drop 512).take kk).drop n=X:=⟨_,rfl⟩;rw [hX] at e1 ⊢
          conv=>lhs;rw [← List.take_append_drop 512 av,← List.take_append_drop kk (av.drop 512),← List.take_append_drop 512 ((av.drop 512).drop kk)]
          rw [← e1];simp only [List.append_assoc]
         ·
          have e2:off+((512+kk+512:Nat):Int)=off+512+kk+512:=by omega
          have e3:av.drop (512+kk+512)=(((av.drop 512).drop kk).drop 512):=by rw [List.drop_drop,List.drop_drop,Nat.add_assoc]
          rw [e2,e3];exact hr
        ·exact ⟨hm,.inr ⟨_,c,by omega,hc0,rfl,fun h=>by omega⟩⟩
end ZOther
namespace ZMut
open Go.RowKit YteikiojmcipkmaaGreatDoorW.PrintWords YteikiojmcipkmaaGreatDoorW.PrintLast YteikiojmcipkmaaGreatDoorW.PrintMore Oct ZGlob ZMo ZBlock ZCheck ZPay ZDHead ZRec ZMergeA ZDRecA ZFit
open ZEntry (blkB blkB_len extH extH_ok sPax blocks encE padN padN_eq)
open ZDecA ZBld ZAdd ZNod ZCanon
open ZSink (pad5)
open ZMbr ZMap ZStr ZRow ZTree ZMem
open ZEncode (Canonical arc)
open ZCreate (encM encAll MemOk)
open ZHdr ZRun ZGood ZChain ZCut ZOther ZOne ZPlan ZFmt
open ZSumPlain (Bytes)
structure MOk (m:MB):Prop where
 ok:MemOk m
 kind:m.ent.kind≠1→m.data=[]
def runSt (s:St) (ms:List MB):St:=ms.foldl (fun s m=>s.step m.ent m.data) s
def FitAll:St→List MB→Prop
 | _,[]=>True
 | s,m :: ms=>BOk s.N s.dm s.fm m.ent∧FitAll (s.step m.ent m.data) ms
def Bad (s:St) (av:List Int):Prop:=∃ (n:Nat) (S:Ent→Prop) (T:Int→Int→Prop),DecAt av 4 n S T∧(∀ x,S x→¬ Fits s x (av.drop n))∧(∀ x,S x→x.kind=1→takes x≤(av.drop n).length→x.size≤1000000)∧∀ o,¬ T o 18
theorem addS_data (N:List NV) (fm:List (ByteArray×Int)) (e:Ent) (D:List Int) (hD:D.length≤100000) (hN:∀ x∈N,x.data.length≤100000):(addS N fm e D).data.length≤100000:=by
 unfold addS;split
 ·
  split
  ·rename_i z hz;exact hN z (List.mem_of_getElem? hz)
  ·exact Nat.zero_le _
 ·exact hD
theorem step_data {s:St} (hd:∀ x∈s.N,x.data.length≤100000) (e:Ent) (D:List Int) (hD:D.length≤100000):∀ x∈(s.step e D).N,x.data.length≤100000:=by
 intro x hx;simp only [ZRun.St.step,List.mem_append,List.mem_singleton] at hx;rcases hx with hx | rfl
 ·exact hd x hx
 ·exact addS_data _ _ _ _ hD hd
theorem enc_cons (m:MB) (ms:List MB) (rest:List Int):encAll (m :: ms)++rest=encE m.ent++(m.data++(List.replicate (pad5 m.data.length) 0++(encAll ms++rest))):=by simp [encAll,encM]
theorem run_or:∀ (ms:List MB) (s:St),(∀ m∈ms,MOk m)→s.N.length+ms.length≤1000→(∀ x∈s.N,x.data.length≤100000)→∀ rest:List Int,(encAll ms++rest).length≤1000000000 → (FitAll s ms∧∃ ps,Runs 4 s (encAll ms++rest) ps (runSt s ms) rest) ∨ (¬ FitAll s ms∧∃ ps s1 av1,Runs 4 s (encAll ms++rest) ps s1 av1∧Bad s1 av1∧s1.N.length≤s.N.length+ms.length∧∀ x∈s1.N,x.data.length≤100000):=by
 intro ms
 induction ms with
 | nil=>exact fun s _ _ _ rest _=>.inl ⟨trivial,[],by simpa [encAll,runSt] using Runs.nil s rest⟩
 | cons m ms ih =>
  intro s hm hN hd rest hl;have hmk:=hm m (by simp);have hd1:=dec_good hmk.ok.ent hmk.ok.small (m.data++(List.replicate (pad5 m.data.length) 0++(encAll ms++rest))) 4 (by rw [← enc_cons];exact hl);obtain ⟨t1,t2,t3,t4,t5⟩:=mem_tail hmk.ok hmk.kind (encAll ms++rest);have hdr:(encE m.ent++(m.data++(List.replicate (pad5 m.data.length) 0++(encAll ms++rest)))).drop (encE m.ent).length=m.data++(List.replicate (pad5 m.data.length) 0++(encAll ms++rest)):=by simp
  have hsz:m.ent.kind=1→m.ent.size≤1000000:=fun _=>by have:=hmk.ok.size;have:=hmk.ok.data;omega
  rw [enc_cons] at hl ⊢;by_cases hb:BOk s.N s.dm s.fm m.ent
  ·
   have hNs:(s.step m.ent m.data).N.length=s.N.length+1:=by simp [ZRun.St.step]
   simp only [List.length_cons] at hN;have hf:Fits s m.ent ((encE m.ent++(m.data++(List.replicate (pad5 m.data.length) 0++(encAll ms++rest)))).drop (encE m.ent).length):=by rw [hdr];exact ⟨hb,t2,t3⟩
   have key:∀ ps s' av',Runs 4 (s.step m.ent m.data) (encAll ms++rest) ps s' av'→∃ ps,Runs 4 s (encE m.ent++(m.data++(List.replicate (pad5 m.data.length) 0++(encAll ms++rest)))) ps s' av':=fun ps s' av' hr =>⟨_,Runs.cons hd1 ⟨encE_size hmk.ok.ent hmk.ok.small,by simp⟩ hsz hf (by omega) (by rw [hdr,t4,t5];exact hr)⟩
   have hl2:(encAll ms++rest).length≤1000000000:=by simp only [List.length_append] at hl ⊢;omega
   rcases ih (s.step m.ent m.data) (fun x hx=>hm x (by simp [hx])) (by omega) (step_data hd _ _ hmk.ok.data) rest hl2 with ⟨h1,ps,h2⟩ | ⟨h1,ps,s1,av1,h2,h3,h4,h5⟩
   ·exact .inl ⟨⟨hb,h1⟩,key _ _ _ h2⟩
   ·obtain ⟨ps2,h6⟩:=key _ _ _ h2;exact .inr ⟨fun h=>h1 h.2,ps2,s1,av1,h6,h3,by simp only [List.length_cons];omega,h5⟩
  ·
   refine .inr ⟨fun h=>hb h.1,[],s,_,.nil _ _,⟨_,_,_,hd1,?_,?_,fun o h=>h⟩,by omega,hd⟩
   ·rintro x rfl hf;exact hb hf.bok
   ·rintro x rfl hk _;exact hsz hk
theorem read_bad (w:World) (sb:Nat) (av:List Int) (hs:Str w sb 0 av 4) (hG:Gl w) (h20:20≤w.heap.size) (hsb:20≤sb) (hav:av.length≤1000000000) (ps:List (Ent×List Int)) (s':St) (av':List Int) (hr:Runs 4 st0 av ps s' av') (hb:Bad s' av') (hN:s'.N.length≤40) (hd:∀ x∈s'.N,x.data.length≤100000): Calls Tryz.prog 10 #[.pointer (some ⟨sb,0,none⟩)] w fun e w'=>Mo [sb] w w'∧∃ o c:Int,c≠0∧e=nilV o c:=by
 obtain ⟨n,S,T,h1,h2,h3,h4⟩:=hb;refine (ZRead.read_calls w sb av 4 hs hG h20 hsb hav ps s' av' hr n S T h1 h2 h3 hN (fun x hx=>by have:=hd x hx;omega)).mono ?_;rintro e w' ⟨hm,⟨o,c,_,h0,_,rfl⟩ | ⟨x,c,_,_,hc,rfl⟩ | ⟨x,_,_,_,rfl⟩ | ⟨x,a,_,_,_,_,rfl⟩ | ⟨o,h,_⟩⟩
 ·refine ⟨hm,_,_,?_,rfl⟩;split <;> omega
 ·exact ⟨hm,_,c,by omega,rfl⟩
 ·exact ⟨hm,_,_,by decide,rfl⟩
 ·exact ⟨hm,_,_,by decide,rfl⟩
 ·exact absurd h (h4 o)
theorem sl_val {l:List Int} {o:Nat} {x:Int} {n:Nat} (hn:0 < n) (h:(sl l o n)[0]?=some x):l[o]?=some x:=by rw [sl_get,if_pos hn] at h;exact h
theorem two_nz {h:Hdr} (hk:h.Ok):∃ x y:Int,(blkB h)[156]?=some x∧x≠0∧(blkB h)[100]?=some y∧y≠0:=by refine ⟨h.typ,48+h.mode / 8 / 8 / 8 / 8 / 8 / 8 % 8,sl_val (n:=1) (by decide) (by rw [blk_typ hk];rfl),?_,sl_val (n:=8) (by decide) (by rw [blk_mode hk];rfl),by omega⟩;have:=hk.typ;omega
theorem enc_first {e:Ent} (he:e.Ok) (hs:e.size≤8589934591):∃ h:Hdr,h.Ok∧(encE e).take 512=blkB h:=by
 by_cases hp:planR e=[]
 ·refine ⟨_,ZPlanOk.planH_ok he hs,?_⟩;rw [enc_plain hp,List.take_of_length_le (by rw [blkB_len (ZPlanOk.planH_ok he hs)];exact Nat.le_refl _)]
 ·have hx:=extH_ok ((fmtB (planR e)).length:Int) (by omega) (by have:=fmt_small he hs;omega);refine ⟨_,hx,?_⟩;rw [enc_ext hp,List.take_append_of_le_length (by rw [blkB_len hx];exact Nat.le_refl _),List.take_of_length_le (by rw [blkB_len hx];exact Nat.le_refl _)]
theorem enc_two {e:Ent} (he:e.Ok) (hs:e.size≤8589934591):∃ x y:Int,(encE e)[156]?=some x∧x≠0∧(encE e)[100]?=some y∧y≠0:=by obtain ⟨h,hk,h1⟩:=enc_first he hs;obtain ⟨x,y,h2,h3,h4,h5⟩:=two_nz hk;rw [← h1,List.getElem?_take,if_pos (by decide)] at h2 h4;exact ⟨x,y,h2,h3,h4,h5⟩
theorem big_not {x:Ent} (hx:Big x) (s:St) (av:List Int) (hl:av.length≤1000000000):¬ Fits s x av∧¬ takes x≤av.length:=by
 have h:¬ takes x≤av.length:=by have h1:=hx.2;unfold takes;rw [if_pos hx.1];unfold blocks;omega
 exact ⟨fun hf=>h hf.len,h⟩
theorem other_bad {av:List Int} (hby:Bytes av) (hav:av.length≤1000000000) (hz:av.length < 512∨∃ x∈av.take 512,x≠0) (hno:∀ e rest,e.Ok→e.size≤8589934591→av≠encE e++rest) (s:St):Bad s av:=by
 obtain ⟨n,hd⟩:=dec_other av hby hav hz hno 4;have hl:(av.drop n).length≤1000000000:=by rw [List.length_drop];omega
 exact ⟨n,_,_,hd,fun x hx=>(big_not hx s _ hl).1,fun x hx _ h=>absurd h (big_not hx s _ hl).2,fun o h=>h rfl⟩
theorem set_app_l {a b:List Int} {q:Nat} {v:Int} (h:q < a.length):(a++b).set q v=a.set q v++b:=List.set_append_left _ _ h
theorem set_app_r {a b:List Int} {q:Nat} {v:Int} (h:a.length≤q):(a++b).set q v=a++b.set (q - a.length) v:=List.set_append_right _ _ h
theorem set_bytes {l:List Int} (h:Bytes l) (k:Nat) (v:Int) (hv:0≤v∧v < 256):Bytes (l.set k v):=fun x hx=>by
 rcases List.mem_or_eq_of_mem_set hx with h1 | h1
 ·exact h x h1
 ·omega
structure Alt (m m':MB):Prop where
 ok:MOk m'
 kind:m'.ent.kind=m.ent.kind
 mode:m'.ent.mode=m.ent.mode
set_option maxHeartbeats 1000000 in
theorem mut_mem {m:MB} (hm:MOk m) (hmb:Bytes m.data) (q:Nat) (hq:q < (encM m).length) (v:Int) (hv:0≤v∧v < 256) (hne:(encM m)[q]?≠some v) (rest:List Int) (hrb:Bytes rest) (hl:(encM m++rest).length≤1000000000): (∃ m',Alt m m'∧encM m'=(encM m).set q v)∨(∀ s:St,Bad s ((encM m).set q v++rest)):=by
 have he:=hm.ok.ent;have hs:=hm.ok.small;obtain ⟨P,hP⟩:∃ P:List Int,List.replicate (pad5 m.data.length) 0=P:=⟨_,rfl⟩;have hPb:Bytes P:=by rw [← hP];exact ZDco.zero_bytes _
 have e1:encM m=encE m.ent++(m.data++P):=by rw [← hP];rfl
 rw [e1] at hq hne hl ⊢;rcases Nat.lt_or_ge q (encE m.ent).length with h1 | h1
 ·
  rw [set_app_l h1,List.append_assoc];by_cases hex:∃ e' rest',e'.Ok∧e'.size≤8589934591∧(encE m.ent).set q v++(m.data++P++rest)=encE e'++rest'
  ·obtain ⟨e',rest',h2,h3,h4⟩:=hex;obtain ⟨h5,h6⟩:=enc_one he hs h2 h3 q v hv _ _ h4;obtain ⟨h7,h8⟩:=List.append_inj h4 (by rw [List.length_set,h6]);obtain ⟨h9,h10,h11⟩:=plan_same he hs h2 h3 h5;refine .inl ⟨⟨e',m.addr,m.cap,m.data⟩,⟨⟨⟨h2,hm.ok.data,h11.trans hm.ok.size⟩,fun hk=>hm.kind (by rw [← h9];exact hk)⟩,h9,h10⟩,?_⟩;show encE e'++(m.data++List.replicate (pad5 m.data.length) 0)=_;rw [hP,h7]
  ·
   refine .inr fun s=>other_bad ?_ ?_ (.inr ?_) (fun e rest' h2 h3 h4=>hex ⟨e,rest',h2,h3,h4⟩) s
   ·exact (set_bytes (ZDco.encE_bytes he hs) _ _ hv).append ((hmb.append hPb).append hrb)
   ·simp only [List.length_append,List.length_set] at hl ⊢;omega
   ·
    obtain ⟨x,y,g1,g2,g3,g4⟩:=enc_two he hs;have h512:=encE_size he hs;rw [List.take_append_of_le_length (by rw [List.length_set];exact h512)];by_cases hq1:q=156
    ·
     refine ⟨y,?_,g4⟩;have:(((encE m.ent).set q v).take 512)[100]?=some y:=by rw [List.getElem?_take,if_pos (by decide),List.getElem?_set_ne (by omega)];exact g3
     exact List.mem_of_getElem? this
    ·
     refine ⟨x,?_,g2⟩;have:(((encE m.ent).set q v).take 512)[156]?=some x:=by rw [List.getElem?_take,if_pos (by decide),List.getElem?_set_ne hq1];exact g1
     exact List.mem_of_getElem? this
 ·
  rw [set_app_r h1];obtain ⟨j,hj⟩:∃ j,q - (encE m.ent).length=j:=⟨_,rfl⟩;rw [hj];rcases Nat.lt_or_ge j m.data.length with h2 | h2
  ·
   refine .inl ⟨⟨m.ent,m.addr,m.cap,m.data.set j v⟩,⟨⟨⟨he,?_,?_⟩,fun hk=>?_⟩,rfl,rfl⟩,?_⟩
   ·show (m.data.set j v).length≤100000;rw [List.length_set];exact hm.ok.data
   ·show m.ent.size=((m.data.set j v).length:Int);rw [List.length_set];exact hm.ok.size
   ·have:=hm.kind hk;rw [this] at h2;cases h2
   ·show encE m.ent++(m.data.set j v++List.replicate (pad5 (m.data.set j v).length) 0)=_;rw [List.length_set,hP,set_app_l h2]
  ·
   refine .inr fun s=>?_;rw [set_app_r h2];obtain ⟨i,hi⟩:∃ i,j - m.data.length=i:=⟨_,rfl⟩;rw [hi];have hPl:P.length=pad5 m.data.length:=by rw [← hP,List.length_replicate]
   have hiP:i < P.length:=by simp only [List.length_append] at hq;omega
   have hv0:v≠0:=by
    intro hv0;refine hne ?_;rw [List.getElem?_append_right h1,hj,List.getElem?_append_right h2,hi,List.getElem?_eq_getElem hiP,hv0];congr 1;have hz:∀ x∈P,x=0:=fun x hx=>by rw [← hP] at hx;exact (List.mem_replicate.1 hx).2
    exact hz _ (List.getElem_mem hiP)
   have hk1:m.ent.kind=1:=by
    by_cases hk:m.ent.kind=1
    ·exact hk
    ·have:=hm.kind hk;rw [this] at hPl;have h0:pad5 ([]:List Int).length=0:=rfl;omega
   have hl2:(encE m.ent++(m.data++(P.set i v++rest))).length≤1000000000:=by simp only [List.length_append,List.length_set] at hl ⊢;omega
   have hd1:=dec_good he hs (m.data++(P.set i v++rest)) 4 hl2;have hre:encE m.ent++(m.data++P.set i v)++rest=encE m.ent++(m.data++(P.set i v++rest)):=by simp
   rw [hre];have hdr:(encE m.ent++(m.data++(P.set i v++rest))).drop (encE m.ent).length=m.data++(P.set i v++rest):=by simp
   refine ⟨_,_,_,hd1,?_,?_,fun o h=>h⟩
   ·
    rintro x rfl hf;have hp:=hf.pad;rw [hdr] at hp;have ht:takes m.ent=m.data.length+P.length:=by rw [hPl];exact (mem_tail hm.ok hm.kind rest).1
    have hsz:m.ent.size.toNat=m.data.length:=by rw [hm.ok.size,Int.toNat_natCast]
    have e3:(m.data++(P.set i v++rest)).take (takes m.ent)=m.data++P.set i v:=by rw [ht,show m.data++(P.set i v++rest)=(m.data++P.set i v)++rest by simp,List.take_left' (by simp)]
    rw [e3,hsz,List.drop_left' rfl] at hp;exact hv0 (hp v (List.mem_of_getElem? (List.getElem?_set_self hiP)))
   ·rintro x rfl hk _;have:=hm.ok.size;have:=hm.ok.data;omega
end ZMut
namespace ZMut
open Go.RowKit YteikiojmcipkmaaGreatDoorW.PrintWords YteikiojmcipkmaaGreatDoorW.PrintLast YteikiojmcipkmaaGreatDoorW.PrintMore Oct ZGlob ZMo ZBlock ZCheck ZPay ZDHead ZRec ZMergeA ZDRecA ZFit
open ZEntry (blkB blkB_len extH extH_ok sPax blocks encE padN padN_eq)
open ZDecA ZBld ZAdd ZNod ZCanon
open ZSink (pad5)
open ZMbr ZMap ZStr ZRow ZTree ZMem
open ZEncode (Canonical arc)
open ZCreate (encM encAll MemOk)
open ZHdr ZRun ZGood ZChain ZCut ZDco ZOther ZOne ZPlan ZFmt
open ZSumPlain (Bytes)
theorem runSt_len:∀ (ms:List MB) (s:St),(runSt s ms).N.length=s.N.length+ms.length:=by
 intro ms
 induction ms with
 | nil=>exact fun s=>rfl
 | cons m ms ih =>intro s;show (runSt (s.step m.ent m.data) ms).N.length=_;rw [ih];simp [ZRun.St.step];omega
theorem runSt_data:∀ (ms:List MB) (s:St),(∀ m∈ms,MOk m)→(∀ x∈s.N,x.data.length≤100000)→∀ x∈(runSt s ms).N,x.data.length≤100000:=by
 intro ms
 induction ms with
 | nil=>exact fun s _ h=>h
 | cons m ms ih =>intro s hm h;exact ih _ (fun x hx=>hm x (by simp [hx])) (step_data h _ _ (hm m (by simp)).ok.data)
theorem st0_data:∀ x∈st0.N,x.data.length≤100000:=fun x hx=>by cases hx
theorem read_end (w:World) (sb:Nat) (B Z:List Int) (hZl:Z.length=1024) (hz0:∀ x∈Z.take 512,x=0) (hs:Str w sb 0 (B++Z) 4) (hG:Gl w) (h20:20≤w.heap.size) (hsb:20≤sb) (hlen:B.length≤100000000) (ps:List (Ent×List Int)) (s':St) (hrun:Runs 4 st0 (B++Z) ps s' Z) (hN:s'.N.length≤40) (hd:∀ x∈s'.N,x.data.length≤100000): Calls Tryz.prog 10 #[.pointer (some ⟨sb,0,none⟩)] w fun e w'=>Mo [sb] w w' ∧ (((∃ x∈Z.drop 512,x≠0)∧∃ o,e=nilV o 18)∨(∀ x∈Z.drop 512,x=0)∧∃ g D,e=.returned (.tuple #[.slice (some ⟨g,0,none⟩) s'.N.length s'.N.length,.int .i64 (B.length+1024:Nat),.int .i64 0])∧Row w' g D∧(∀ y∈D,Cl w' g y)∧Canonical s'.N D):=by
 have e1:(B++Z).length=B.length+1024:=by simp only [List.length_append];omega
 have e3:(Z.drop 512).length=512:=by rw [List.length_drop];omega
 refine (ZRead.read_calls w sb _ 4 hs hG h20 hsb (by rw [e1];omega) ps _ _ hrun 512 _ _ (dec_zeros _ (by omega) (by omega) hz0 4) (fun _ h=>h.elim) (fun _ h=>h.elim) hN (fun x hx=>by have:=hd x hx;omega)).mono ?_;rintro e w' ⟨hmo,ho⟩;refine ⟨hmo,?_⟩;rw [e1,hZl] at ho;rcases ho with ⟨o,c,⟨_,ho⟩,_,h18,_⟩ | ⟨_,_,h,_⟩ | ⟨_,h,_⟩ | ⟨_,_,h,_⟩ | ⟨o,_,ho⟩
 ·exact absurd ho h18
 ·exact h.elim
 ·exact h.elim
 ·exact h.elim
 ·
  rcases ho with ⟨h6,_⟩ | ⟨_,⟨x,hx,h0⟩,rfl⟩ | ⟨hz1,_,_,g,D,rfl,h7,h8,h9⟩ | ⟨_,_,_,h7,_⟩ | ⟨h6,_,h7,_⟩
  ·omega
  ·exact .inl ⟨⟨x,List.mem_of_mem_take hx,h0⟩,_,rfl⟩
  ·refine .inr ⟨fun x hx=>hz1 x (by rw [List.take_of_length_le (by omega)];exact hx),g,D,?_,h7,h8,h9⟩;rw [show ((B.length+1024:Nat):Int) - ((1024:Nat):Int)+((512:Nat):Int)+512=((B.length+1024:Nat):Int) by omega]
  ·cases h7
  ·rw [e3] at h7;omega
theorem all_split:∀ (M:List MB) (k:Nat),k < (encAll M).length→∃ M1 m M2 q,M=M1++m :: M2∧q < (encM m).length∧k=(encAll M1).length+q:=by
 intro M
 induction M with
 | nil=>exact fun k h=>by simp [encAll] at h
 | cons m M ih =>
  intro k h;have e:encAll (m :: M)=encM m++encAll M:=by simp [encAll]
  rw [e,List.length_append] at h;by_cases h1:k < (encM m).length
  ·exact ⟨[],m,M,k,rfl,h1,by simp [encAll]⟩
  ·
   obtain ⟨M1,m2,M2,q,h2,h3,h4⟩:=ih (k - (encM m).length) (by omega);refine ⟨m :: M1,m2,M2,q,by rw [h2];rfl,h3,?_⟩;have e2:encAll (m :: M1)=encM m++encAll M1:=by simp [encAll]
   rw [e2,List.length_append];omega
structure Alts (M M':List MB):Prop where
 ok:∀ m∈M',MOk m
 len:M'.length=M.length
 at_:∀ (i:Nat) (m m':MB),M[i]?=some m→M'[i]?=some m'→m'.ent.kind=m.ent.kind∧m'.ent.mode=m.ent.mode
theorem alts_mid {M1 M2:List MB} {m m':MB} (h:∀ x∈M1++m :: M2,MOk x) (ha:Alt m m'):Alts (M1++m :: M2) (M1++m' :: M2):=by
 refine ⟨fun x hx=>?_,by simp,fun i x y hx hy=>?_⟩
 ·
  simp only [List.mem_append,List.mem_cons] at hx;rcases hx with hx | rfl | hx
  ·exact h x (by simp [hx])
  ·exact ha.ok
  ·exact h x (by simp [hx])
 ·
  rcases Nat.lt_or_ge i M1.length with h1 | h1
  ·rw [List.getElem?_append_left h1] at hx hy;rw [hx] at hy;cases hy;exact ⟨rfl,rfl⟩
  ·
   rw [List.getElem?_append_right h1] at hx hy;cases hi:i - M1.length with
   | zero =>rw [hi] at hx hy;simp only [List.getElem?_cons_zero,Option.some.injEq] at hx hy;subst hx hy;exact ⟨ha.kind,ha.mode⟩
   | succ j =>rw [hi] at hx hy;simp only [List.getElem?_cons_succ] at hx hy;rw [hx] at hy;cases hy;exact ⟨rfl,rfl⟩
def MutOut (M:List MB) (c:List Int) (e:Ending) (w':World):Prop :=
 (∃ o x:Int,x≠0∧e=nilV o x) ∨
 (∃ M':List MB,Alts M M'∧c=encAll M'++List.replicate 1024 0∧FitAll st0 M'∧∃ (g:Nat) (D:List NV) (o:Int),e=.returned (.tuple #[.slice (some ⟨g,0,none⟩) M'.length M'.length,.int .i64 o,.int .i64 0])∧Row w' g D∧(∀ y∈D,Cl w' g y)∧Canonical (runSt st0 M').N D)
theorem mut_read {M:List MB} (hM:∀ m∈M,MOk m) (hMb:∀ m∈M,Bytes m.data) (h40:M.length≤40) (hlen:(encAll M).length≤100000000) (hby:Bytes (encAll M)) (k:Nat) (v:Int) (hv:0≤v∧v < 256) (hne:(encAll M++List.replicate 1024 0)[k]?≠some v) (hk:k < (encAll M).length+1024) (w:World) (sb:Nat) (hs:Str w sb 0 ((encAll M++List.replicate 1024 0).set k v) 4) (hG:Gl w) (h20:20≤w.heap.size) (hsb:20≤sb): Calls Tryz.prog 10 #[.pointer (some ⟨sb,0,none⟩)] w fun e w'=>Mo [sb] w w'∧MutOut M ((encAll M++List.replicate 1024 0).set k v) e w':=by
 have bad:∀ (av:List Int) (ps:List (Ent×List Int)) (s':St) (av':List Int),av.length≤1000000000→Str w sb 0 av 4→Runs 4 st0 av ps s' av'→Bad s' av'→s'.N.length≤40→(∀ x∈s'.N,x.data.length≤100000)→∀ c,Calls Tryz.prog 10 #[.pointer (some ⟨sb,0,none⟩)] w fun e w'=>Mo [sb] w w'∧MutOut M c e w':=fun av ps s' av' h1 h2 h3 h4 h5 h6 c =>(read_bad w sb av h2 hG h20 hsb h1 ps s' av' h3 h4 h5 h6).mono fun e w' ⟨hm,o,x,hx,he⟩=>⟨hm,.inl ⟨o,x,hx,he⟩⟩
 obtain ⟨Z,hZ⟩:∃ Z:List Int,List.replicate 1024 (0:Int)=Z:=⟨_,rfl⟩;have hZl:Z.length=1024:=by rw [← hZ,List.length_replicate]
 have hz:∀ x∈Z,x=0:=fun x hx=>by rw [← hZ] at hx;exact (List.mem_replicate.1 hx).2
 have hZb:Bytes Z:=by rw [← hZ];exact zero_bytes _
 have hst0:st0.N.length=0:=rfl;rcases Nat.lt_or_ge k (encAll M).length with h1 | h1
 ·
  obtain ⟨M1,m,M2,q,rfl,h2,h3⟩:=all_split M k h1;have e0:encAll (M1++m :: M2)=encAll M1++(encM m++encAll M2):=by simp [encAll]
  have hb2:Bytes (encAll M2):=fun x hx=>hby x (by rw [e0];simp [hx]);have e1:(encAll (M1++m :: M2)++Z).set k v=encAll M1++((encM m).set q v++(encAll M2++Z)):=by rw [e0,List.append_assoc,List.append_assoc,set_app_r (by omega),show k - (encAll M1).length=q by omega,set_app_l h2]
  have hq:(encM m)[q]?≠some v:=by intro h4;refine hne ?_;rw [hZ,e0,List.append_assoc,List.append_assoc,List.getElem?_append_right (by omega),show k - (encAll M1).length=q by omega,List.getElem?_append_left h2];exact h4
  have hlt:(encM m++(encAll M2++Z)).length≤1000000000:=by rw [e0] at hlen;simp only [List.length_append] at hlen ⊢;omega
  rw [hZ,e1] at hs;rcases mut_mem (hM m (by simp)) (hMb m (by simp)) q h2 v hv hq (encAll M2++Z) (hb2.append hZb) hlt with ⟨m',ha,hm'⟩ | hbad
  ·
   have hal:=alts_mid hM ha;have e2:encAll M1++((encM m).set q v++(encAll M2++Z))=encAll (M1++m' :: M2)++Z:=by rw [← hm'];simp [encAll]
   have hl2:(encAll (M1++m' :: M2)).length=(encAll (M1++m :: M2)).length:=by have h5:=congrArg List.length e1;rw [e2,List.length_set,List.length_append,List.length_append] at h5;omega
   rw [e2] at hs;have hlen3:M1.length+(M2.length+1)≤40:=by simpa using h40
   rcases run_or (M1++m' :: M2) st0 hal.ok (by rw [hst0,hal.len];omega) st0_data Z (by rw [List.length_append,hl2];omega) with ⟨hf,ps,hr⟩ | ⟨_,ps,s1,av1,hr,hb,hn,hd⟩
   ·
    refine (read_end w sb _ Z hZl (fun x hx=>hz x (List.mem_of_mem_take hx)) hs hG h20 hsb (by omega) ps _ hr (by rw [runSt_len,hst0,hal.len];omega) (runSt_data _ _ hal.ok st0_data)).mono ?_;rintro e w' ⟨hm,⟨⟨x,hx,h0⟩,_⟩ | ⟨_,g,D,rfl,h5,h6,h7⟩⟩
    ·exact absurd (hz x (List.mem_of_mem_drop hx)) h0
    ·refine ⟨hm,.inr ⟨M1++m' :: M2,hal,by rw [hZ,e1,e2],hf,g,D,((encAll (M1++m' :: M2)).length+1024:Nat),?_,h5,h6,h7⟩⟩;rw [runSt_len,hst0,Nat.zero_add]
   ·exact bad _ ps s1 av1 (by rw [List.length_append,hl2];omega) hs hr hb (by rw [hst0,hal.len] at hn;omega) hd _
  ·
   have hl4:(encAll M1++((encM m).set q v++(encAll M2++Z))).length≤1000000000:=by rw [e0] at hlen;simp only [List.length_append,List.length_set] at hlen ⊢;omega
   have hM1:∀ x∈M1,MOk x:=fun x hx=>hM x (by simp [hx]);have hlen3:M1.length+(M2.length+1)≤40:=by simpa using h40
   rcases run_or M1 st0 hM1 (by rw [hst0];omega) st0_data _ hl4 with ⟨hf,ps,hr⟩ | ⟨_,ps,s1,av1,hr,hb,hn,hd⟩
   ·exact bad _ ps _ _ hl4 hs hr (hbad _) (by rw [runSt_len,hst0];omega) (runSt_data _ _ hM1 st0_data) _
   ·exact bad _ ps s1 av1 hl4 hs hr hb (by rw [hst0] at hn;omega) hd _
 ·
  obtain ⟨q,hq⟩:∃ q,k - (encAll M).length=q:=⟨_,rfl⟩;have hq2:q < 1024:=by omega
  have e1:(encAll M++Z).set k v=encAll M++Z.set q v:=by rw [set_app_r h1,hq]
  have hv0:v≠0:=by intro h0;refine hne ?_;rw [hZ,List.getElem?_append_right h1,hq,List.getElem?_eq_getElem (by omega),h0];congr 1;exact hz _ (List.getElem_mem _)
  rw [hZ,e1] at hs;have hl4:(encAll M++Z.set q v).length≤1000000000:=by simp only [List.length_append,List.length_set];omega
  rcases run_or M st0 hM (by rw [hst0];omega) st0_data _ hl4 with ⟨hf,ps,hr⟩ | ⟨_,ps,s1,av1,hr,hb,hn,hd⟩
  ·
   rcases Nat.lt_or_ge q 512 with h5 | h5
   ·
    refine bad _ ps _ _ hl4 hs hr (other_bad (set_bytes hZb _ _ hv) (by rw [List.length_set];omega) (.inr ⟨v,?_,hv0⟩) ?_ _) (by rw [runSt_len,hst0];omega) (runSt_data _ _ hM st0_data) _
    ·
     have:((Z.set q v).take 512)[q]?=some v:=by rw [List.getElem?_take,if_pos h5,List.getElem?_set_self (by omega)]
     exact List.mem_of_getElem? this
    ·
     intro e rest h6 h7 h8;obtain ⟨x,y,g1,g2,g3,g4⟩:=enc_two h6 h7;have h512:=encE_size h6 h7;have at_:∀ (i:Nat) (x:Int),i < 512→(encE e)[i]?=some x→x≠0→i=q:=fun i x hi h9 hx=>by
      refine Classical.byContradiction fun hiq=>hx ?_;have h10:(Z.set q v)[i]?=some x:=by rw [h8,List.getElem?_append_left (by omega)];exact h9
      rw [List.getElem?_set_ne (fun e=>hiq e.symm)] at h10;exact hz x (List.mem_of_getElem? h10)
     have a1:=at_ 156 x (by decide) g1 g2;have a2:=at_ 100 y (by decide) g3 g4;omega
   ·
    refine (read_end w sb (encAll M) (Z.set q v) (by rw [List.length_set,hZl]) (fun x hx=>?_) hs hG h20 hsb hlen ps _ hr (by rw [runSt_len,hst0];omega) (runSt_data _ _ hM st0_data)).mono ?_
    ·rw [List.take_set,List.set_eq_of_length_le (by rw [List.length_take];omega)] at hx;exact hz x (List.mem_of_mem_take hx)
    ·
     rintro e w' ⟨hm,⟨_,o,rfl⟩ | ⟨hz1,g,D,rfl,h6,h7,h8⟩⟩
     ·exact ⟨hm,.inl ⟨o,18,by decide,rfl⟩⟩
     ·
      refine absurd (hz1 v ?_) hv0;have:((Z.set q v).drop 512)[q - 512]?=some v:=by rw [List.getElem?_drop,show 512+(q - 512)=q by omega,List.getElem?_set_self (by omega)]
      exact List.mem_of_getElem? this
  ·exact bad _ ps s1 av1 hl4 hs hr hb (by rw [hst0] at hn;omega) hd _
end ZMut
namespace ZMut
open Go.RowKit YteikiojmcipkmaaGreatDoorW.PrintWords YteikiojmcipkmaaGreatDoorW.PrintLast YteikiojmcipkmaaGreatDoorW.PrintMore Oct ZGlob ZMo ZBlock ZCheck ZPay ZDHead ZRec ZMergeA ZDRecA ZFit
open ZEntry (blkB blkB_len extH extH_ok sPax blocks encE padN padN_eq)
open ZDecA ZBld ZAdd ZNod ZCanon
open ZSink (pad5)
open ZMbr ZMap ZStr ZRow ZTree ZMem
open ZEncode (Canonical arc)
open ZCreate (encM encAll MemOk)
open ZHdr ZRun ZGood ZChain ZCut ZDco ZOther ZOne ZPlan ZFmt
open ZSumPlain (Bytes)
set_option maxHeartbeats 1000000 in
theorem decode_mut {M:List MB} (hM:∀ m∈M,MOk m) (hMb:∀ m∈M,Bytes m.data) (h40:M.length≤40) (hlen:(encAll M).length≤100000000) (hby:Bytes (encAll M)) (k:Nat) (v:Int) (hv:0≤v∧v < 256) (hne:(encAll M++List.replicate 1024 0)[k]?≠some v) (hk:k < (encAll M).length+1024) (A:Option Addr) (n c:Nat) (w:World) (hA:Kd.C (Kd.int .u8) w A n ((encAll M++List.replicate 1024 0).set k v)) (hG:Gl w) (h20:20≤w.heap.size): Calls Tryz.prog 14 #[.slice A n c] w fun e w'=>Below w.heap.size w w'∧MutOut M ((encAll M++List.replicate 1024 0).set k v) e w':=by
 have hn:=Kd.C_len hA;rw [List.length_set,List.length_append,List.length_replicate] at hn;have hb:Bytes ((encAll M++List.replicate 1024 0).set k v):=set_bytes (hby.append (zero_bytes _)) _ _ hv;have NS:=hid (new_str A none n c 0 0 _ [] w hA ⟨by decide,by decide,fun h=>absurd h (by decide)⟩ (by omega) (by decide) (fun x hx=>by cases hx) hb);have RD:=hid (fun w sb hs hG h20 hsb=>mut_read hM hMb h40 hlen hby k v hv hne hk w sb hs hG h20 hsb);obtain ⟨cs,hcs⟩:∃ cs,(encAll M++List.replicate 1024 0).set k v=cs:=⟨_,rfl⟩;rw [hcs] at NS RD ⊢;have HH:=hid (And.intro hG h20);clear hM hMb h40 hlen hby hv hne hk hA hG h20 hn hb hcs;go_enter Tryz.func14,Tryz.ntmps14
 go_wp2_with fail
 refine NS.out.mono ?_;rintro e w1 ⟨sb,rfl,hsb,hst,hb⟩;have WH:=hid (RD.out w1 sb hst (HH.out.1.below hb) (by have:=hb.size;have:=HH.out.2;omega) (by have:=HH.out.2;omega));have HB:=hid (And.intro hsb hb);clear hsb hst hb
 go_wp2_with fail
 refine WH.out.mono ?_;rintro e w2 ⟨hm,⟨o,x,hx,rfl⟩ | ⟨M',h1,h2,h3,g,D,o,rfl,h4,h5,h6⟩⟩
 ·
  have HQ:=hid (And.intro hm hx);clear hm hx;unfold nilV
  go_wp2_with fail
  refine bodyPost_ret (v:=.tuple #[.slice none 0 0,.int .i64 o,.int .i64 x]) (by simp [results,Tryz.results14,go_sem]) rfl ⟨back_below HB.out.2 HB.out.1 HQ.out.1,.inl ⟨o,x,HQ.out.2,rfl⟩⟩
 ·
  have HQ:=hid (And.intro hm (And.intro h1 (And.intro h2 (And.intro h3 (And.intro h4 (And.intro h5 h6))))));clear hm h1 h2 h3 h4 h5 h6;obtain ⟨l,hl⟩:∃ l,M'.length=l:=⟨_,rfl⟩;rw [hl];have HL:=hid hl;clear hl
  go_wp2_with fail
  refine bodyPost_ret (v:=.tuple #[.slice (some ⟨g,0,none⟩) l l,.int .i64 o,.int .i64 0]) (by simp [results,Tryz.results14,go_sem]) rfl ⟨back_below HB.out.2 HB.out.1 HQ.out.1,.inr ⟨M',HQ.out.2.1,HQ.out.2.2.1,HQ.out.2.2.2.1,g,D,o,by rw [HL.out],HQ.out.2.2.2.2.1,HQ.out.2.2.2.2.2.1,HQ.out.2.2.2.2.2.2⟩⟩
end ZMut
namespace ZBack
open Oct ZRec ZFit ZBld ZAdd ZNod ZCanon ZMap ZStr ZRow ZTree ZMem ZTCheck ZPath
open ZEncode (Canonical arc)
open ZCreate (encM encAll MemOk)
open ZRun ZTreeP ZChain ZCut ZMut
theorem first_mem (l:List NV):∀ c m,ZMap.get (firstOf l) c=some m→m∈l∧m.cls=c:=by
 refine snoc_ind (P:=fun l=>∀ c m,ZMap.get (firstOf l) c=some m→m∈l∧m.cls=c) l ?_ ?_
 ·intro c m h;cases h
 ·
  intro l x ih c m h;rw [firstOf_snoc] at h;unfold firstStep at h;have old:ZMap.get (firstOf l) c=some m→m∈l++[x]∧m.cls=c:=fun h=>⟨List.mem_append_left _ (ih c m h).1,(ih c m h).2⟩;split at h
  ·exact old h
  ·
   split at h
   ·exact old h
   ·
    rw [get_put] at h;split at h
    ·rename_i hc;cases h;exact ⟨by simp,hc.symm⟩
    ·exact old h
theorem dirs_has (p:ByteArray):∀ (l:List NV) (m:List (ByteArray×Bool)),(has m p=true∨∃ y∈l,y.kind=0∧y.path=p)→has (l.foldl (fun m x=>if x.kind=0 then ZMap.put m x.path true else m) m) p=true:=by
 intro l
 induction l with
 | nil =>
  rintro m (h | ⟨y,hy,_⟩)
  ·exact h
  ·cases hy
 | cons x l ih =>
  intro m h;rw [List.foldl_cons];refine ih _ ?_;rcases h with h | ⟨y,hy,hk,hp⟩
  ·
   left;split
   ·exact has_put _ _ _ h
   ·exact h
  ·
   rcases List.mem_cons.1 hy with rfl | hy
   ·left;rw [if_pos hk];unfold has;rw [get_put,if_pos hp.symm];rfl
   ·exact .inr ⟨y,hy,hk,hp⟩
theorem asc_at {C:List NV} (h:C.Pairwise (fun x y=>lt x.path y.path=true)) {i j:Nat} {x y:NV} (hi:C[i]?=some x) (hj:C[j]?=some y) (hij:i < j):lt x.path y.path=true:=by obtain ⟨h1,rfl⟩:=List.getElem?_eq_some_iff.1 hi;obtain ⟨h2,rfl⟩:=List.getElem?_eq_some_iff.1 hj;exact List.pairwise_iff_getElem.1 h i j h1 h2 hij
theorem cok_tree {C:List NV} (h:COk C):TreeOk C:=by
 refine ⟨h.node,fun j x hx=>⟨?_,?_,fun h0 m hm=>?_⟩⟩
 ·rw [← Bool.not_eq_true,seen_iff];rintro ⟨y,hy,hp⟩;obtain ⟨i,hi⟩:=List.getElem?_of_mem hy;have hij:=(List.getElem?_eq_some_iff.1 hi).1;rw [List.length_take] at hij;rw [List.getElem?_take,if_pos (by omega)] at hi;have:=asc_at h.asc hi hx (by omega);rw [hp,lt_irrefl] at this;cases this
 ·
  refine dirs_has _ C _ ?_;rcases h.dir x (List.mem_of_getElem? hx) with h1 | ⟨y,hy,h1,h2⟩
  ·left;rw [h1];decide
  ·exact .inr ⟨y,hy,h1,h2⟩
 ·obtain ⟨h1,h2⟩:=first_mem _ _ _ hm;obtain ⟨h3,h4⟩:=h.same x (List.mem_of_getElem? hx) m (List.mem_of_mem_take h1) h0 h2.symm;exact ⟨h3.symm,h4.symm⟩
theorem runSt_snoc (s:St) (M:List MB) (m:MB):runSt s (M++[m])=(runSt s M).step m.ent m.data:=by unfold runSt;rw [List.foldl_append];rfl
theorem fit_snoc:∀ (M:List MB) (s:St) (m:MB),FitAll s (M++[m])↔FitAll s M∧BOk (runSt s M).N (runSt s M).dm (runSt s M).fm m.ent:=by
 intro M
 induction M with
 | nil=>exact fun s m=>⟨fun h=>⟨trivial,h.1⟩,fun h=>⟨h.2,trivial⟩⟩
 | cons x M ih =>intro s m;show BOk s.N s.dm s.fm x.ent∧FitAll (s.step x.ent x.data) (M++[m])↔(BOk s.N s.dm s.fm x.ent∧FitAll (s.step x.ent x.data) M)∧_;rw [ih];exact and_assoc.symm
def From (N:List NV) (i:Nat) (m:MB) (x:NV):Prop:=x.path=m.ent.path∧x.mode=m.ent.mode ∧
 ((m.ent.kind≠3∧x.kind=m.ent.kind∧x.target=m.ent.target∧x.data=m.data∧x.cls=(if m.ent.kind=1 then (i:Int)+1 else 0)) ∨
  (m.ent.kind=3∧x.kind=1∧x.target=⟨#[]⟩∧∃ (k:Nat) (z:NV),k < i∧N[k]?=some z∧z.kind=1∧z.path=m.ent.target∧z.cls=k+1∧x.cls=k+1∧z.mode=x.mode∧x.data=z.data))
structure Inv (M:List MB) (s:St):Prop where
 len:s.N.length=M.length
 fm:∀ p i,ZMap.get s.fm p=some i→∃ (k:Nat) (x:NV),i=k∧s.N[k]?=some x∧x.kind=1∧x.path=p∧x.cls=k+1
 dm:∀ p,has s.dm p=true→p=⟨#[]⟩∨∃ x∈s.N,x.kind=0∧x.path=p
 node:∀ (i:Nat) (m:MB),M[i]?=some m→∃ x,s.N[i]?=some x∧From s.N i m x
 asc:s.N.Pairwise (fun x y=>lt x.path y.path=true)
 par:∀ x∈s.N,parentP x.path=⟨#[]⟩∨∃ y∈s.N,y.kind=0∧y.path=parentP x.path
theorem inv_nil:Inv [] st0:=by
 refine ⟨rfl,fun p i h=>(by cases h),fun p h=>?_,fun i m h=>(by simp at h),.nil,fun x hx=>(by cases hx)⟩;left;unfold st0 has at h;simp only [ZMap.get] at h;split at h
 ·rename_i h1;exact h1
 ·cases h
theorem from_more {N:List NV} {i:Nat} {m:MB} {x:NV} (h:From N i m x) (y:NV):From (N++[y]) i m x:=by
 obtain ⟨h1,h2,h3 | ⟨h3,h4,h5,k,z,h6,h7,h8⟩⟩:=h
 ·exact ⟨h1,h2,.inl h3⟩
 ·exact ⟨h1,h2,.inr ⟨h3,h4,h5,k,z,h6,app_old h7 y,h8⟩⟩
theorem inv_step {M:List MB} {s:St} (h:Inv M s) {m:MB} (hb:BOk s.N s.dm s.fm m.ent):Inv (M++[m]) (s.step m.ent m.data):=by
 obtain ⟨y,hy⟩:∃ y,addS s.N s.fm m.ent m.data=y:=⟨_,rfl⟩;have hN:(s.step m.ent m.data).N=s.N++[y]:=by simp only [ZRun.St.step,hy]
 have hnew:From s.N s.N.length m y:=by
  rw [← hy];by_cases hk:m.ent.kind=3
  ·
   obtain ⟨i,x,h1,h2,h3⟩:=hb.link hk;obtain ⟨k,z,h4,h5,h6,h7,h8⟩:=h.fm _ _ h1;have hik:i=k:=by omega
   subst hik;rw [h5] at h2;cases h2;unfold addS;rw [if_pos hk,h1];simp only [Option.getD_some,Int.toNat_natCast,h5];exact ⟨rfl,rfl,.inr ⟨hk,rfl,rfl,i,_,(List.getElem?_eq_some_iff.1 h5).1,h5,h6,h7,h8,h8,h3,rfl⟩⟩
  ·unfold addS;rw [if_neg hk];exact ⟨rfl,rfl,.inl ⟨hk,rfl,rfl,rfl,rfl⟩⟩
 refine ⟨?_,fun p i hp=>?_,fun p hp=>?_,fun i x hx=>?_,?_,fun x hx=>?_⟩
 ·rw [hN,List.length_append,List.length_append,h.len];rfl
 ·
  rw [hN];simp only [ZRun.St.step,addF] at hp;split at hp
  ·
   rename_i hk;rw [get_put] at hp;split at hp
   ·
    rename_i hpp;cases hp;obtain ⟨h1,_,⟨_,h2,_,_,h3⟩ | ⟨h2,_⟩⟩:=hnew
    ·exact ⟨s.N.length,y,rfl,app_new _ _ _ rfl,h2.trans hk,h1.trans hpp.symm,by rw [h3,if_pos hk]⟩
    ·omega
   ·obtain ⟨k,x,h1,h2,h3⟩:=h.fm p i hp;exact ⟨k,x,h1,app_old h2 y,h3⟩
  ·obtain ⟨k,x,h1,h2,h3⟩:=h.fm p i hp;exact ⟨k,x,h1,app_old h2 y,h3⟩
 ·
  rw [hN];have old:has s.dm p=true→p=⟨#[]⟩∨∃ x∈s.N++[y],x.kind=0∧x.path=p:=fun hp=>by
   rcases h.dm p hp with h1 | ⟨x,hx,h1⟩
   ·exact .inl h1
   ·exact .inr ⟨x,List.mem_append_left _ hx,h1⟩
  simp only [ZRun.St.step,addD] at hp;split at hp
  ·
   rename_i hk;unfold has at hp;rw [get_put] at hp;split at hp
   ·
    rename_i hpp;obtain ⟨h1,_,⟨_,h2,_⟩ | ⟨h2,_⟩⟩:=hnew
    ·exact .inr ⟨y,by simp,h2.trans hk,h1.trans hpp.symm⟩
    ·omega
   ·exact old hp
  ·exact old hp
 ·
  rw [hN];rcases get_app _ _ _ _ hx with ⟨h1,h2⟩ | ⟨h1,h2⟩
  ·rw [List.getElem?_append_left h1] at hx;obtain ⟨z,h3,h4⟩:=h.node i x hx;exact ⟨z,app_old h3 y,from_more h4 y⟩
  ·subst h2;rw [h1,← h.len];exact ⟨y,app_new _ _ _ rfl,from_more hnew y⟩
 ·
  rw [hN,List.pairwise_append];refine ⟨h.asc,List.pairwise_singleton _ _,fun x hx z hz=>?_⟩;obtain rfl:=List.mem_singleton.1 hz;rw [hnew.1];obtain ⟨l,hl⟩:∃ l,s.N.getLast?=some l:=by
   cases hg:s.N.getLast? with
   | none=>rw [List.getLast?_eq_none_iff.1 hg] at hx;cases hx
   | some l=>exact ⟨l,rfl⟩
  have h1:=hb.order l hl;obtain ⟨i,hi⟩:=List.getElem?_of_mem hx;rw [List.getLast?_eq_getElem?] at hl;rcases Nat.lt_or_ge i (s.N.length - 1) with h2 | h2
  ·exact lt_trans (asc_at h.asc hi hl h2) h1
  ·have h3:=(List.getElem?_eq_some_iff.1 hi).1;rw [show i=s.N.length - 1 by omega,hl] at hi;cases hi;exact h1
 ·
  rw [hN] at hx ⊢;have old:∀ p:ByteArray,(p=⟨#[]⟩∨∃ z∈s.N,z.kind=0∧z.path=p)→p=⟨#[]⟩∨∃ z∈s.N++[y],z.kind=0∧z.path=p:=fun p hp=>by
   rcases hp with h1 | ⟨z,hz,h1⟩
   ·exact .inl h1
   ·exact .inr ⟨z,List.mem_append_left _ hz,h1⟩
  rcases List.mem_append.1 hx with hx | hx
  ·exact old _ (h.par x hx)
  ·obtain rfl:=List.mem_singleton.1 hx;rw [hnew.1];exact old _ (h.dm _ hb.parent)
theorem inv_all (M:List MB):FitAll st0 M→Inv M (runSt st0 M):=by refine snoc_ind (P:=fun M=>FitAll st0 M→Inv M (runSt st0 M)) M (fun _=>inv_nil) ?_;intro M m ih h;rw [fit_snoc] at h;rw [runSt_snoc];exact inv_step (ih h.1) h.2
theorem back_cok {M:List MB} (hM:∀ m∈M,MOk m) (h:Inv M (runSt st0 M)):COk (runSt st0 M).N:=by
 have at_:∀ (i:Nat) (x:NV),(runSt st0 M).N[i]?=some x→∃ m,M[i]?=some m∧From (runSt st0 M).N i m x:=fun i x hx=>by have hi:=(List.getElem?_eq_some_iff.1 hx).1;rw [h.len] at hi;obtain ⟨m,hm⟩:∃ m,M[i]?=some m:=⟨_,List.getElem?_eq_getElem hi⟩;obtain ⟨y,h1,h2⟩:=h.node i m hm;rw [hx] at h1;cases h1;exact ⟨m,hm,h2⟩
 have hdat:∀ x∈(runSt st0 M).N,x.data.length≤100000:=runSt_data M st0 hM st0_data;have cls:∀ (i:Nat) (x:NV),(runSt st0 M).N[i]?=some x→x.cls≠0→∃ (k:Nat) (z:NV),x.cls=k+1∧(runSt st0 M).N[k]?=some z∧z.mode=x.mode∧z.data=x.data:=fun i x hx h0=>by
  obtain ⟨m,hm,_,_,⟨_,_,_,_,h1⟩ | ⟨_,_,_,k,z,h1,h2,_,_,_,h3,h4,h5⟩⟩:=at_ i x hx
  ·
   split at h1
   ·exact ⟨i,x,h1,hx,rfl,rfl⟩
   ·exact absurd h1 h0
  ·exact ⟨k,z,h3,h2,h4,h5.symm⟩
 refine ⟨fun x hx=>?_,h.asc,h.par,fun x hx y hy h0 he=>?_⟩
 ·
  obtain ⟨i,hi⟩:=List.getElem?_of_mem hx;obtain ⟨m,hm,h1,h2,⟨h3,h4,h5,h6,h7⟩ | ⟨h3,h4,h5,k,z,h6,h7,h8,h9,h10,h11,h12,h13⟩⟩:=at_ i x hi
  ·
   have hmk:=hM m (List.mem_of_getElem? hm);have hk:=hmk.ok.ent.kind;have hdk:x.kind≠1→x.data=[]:=fun hx1=>by rw [h6];exact hmk.kind (by rw [← h4];exact hx1)
   refine ⟨by omega,?_,hdk,?_,fun hx1=>?_⟩
   ·
    have e:entOf x=m.ent:=by
     have hs:(if x.kind=1 then (x.data.length:Int) else 0)=m.ent.size:=by
      rw [hmk.ok.size];split
      ·rw [h6]
      ·rename_i hx1;rw [← h6,hdk hx1];rfl
     show (⟨x.kind,x.path,x.mode,x.target,if x.kind=1 then (x.data.length:Int) else 0⟩:Ent)=m.ent;rw [hs,h4,h1,h2,h5]
    rw [e];exact hmk.ok.ent
   ·rw [h7];split <;> omega
   ·rw [h7,if_neg (by rw [← h4];exact hx1)]
  ·
   have hmk:=hM m (List.mem_of_getElem? hm);have he:=hmk.ok.ent;refine ⟨.inr (.inl h4),⟨?_,?_,?_,?_,?_,?_⟩,fun hx1=>absurd h4 hx1,by omega,fun hx1=>absurd h4 hx1⟩
   ·show 0≤x.kind∧x.kind≤3;omega
   ·show okPath x.path;rw [h1];exact he.path
   ·show 0≤x.mode∧x.mode≤4095;rw [h2];exact he.mode
   ·intro hk2;have:x.kind=2:=hk2;omega
   ·show targetOk x.kind x.target;unfold targetOk;rw [if_neg (by omega),if_neg (by omega)];exact h5
   ·show sizeOk x.kind (if x.kind=1 then (x.data.length:Int) else 0);unfold sizeOk;have:=hdat x hx;rw [if_pos h4,if_pos h4];omega
 ·
  obtain ⟨i,hi⟩:=List.getElem?_of_mem hx;obtain ⟨j,hj⟩:=List.getElem?_of_mem hy;obtain ⟨k,z,h1,h2,h3,h4⟩:=cls i x hi h0;obtain ⟨k2,z2,h5,h6,h7,h8⟩:=cls j y hj (by omega);have hkk:k=k2:=by omega
  subst hkk;rw [h2] at h6;cases h6;exact ⟨h3.symm.trans h7,h4.symm.trans h8⟩
end ZBack
namespace ZBack
open Oct ZRec ZFit ZBld ZAdd ZNod ZCanon ZMap ZStr ZRow ZTree ZMem ZTCheck ZPath
open ZEncode (Canonical arc)
open ZCreate (encM encAll MemOk)
open ZRun ZTreeP ZChain ZCut ZMut ZRen
theorem memS_len (l:List NV):(memS l).2.length=l.length:=by refine snoc_ind (P:=fun l=>(memS l).2.length=l.length) l rfl ?_;intro l x ih;rw [memS_snoc];simp [ih]
theorem fit_memS {C:List NV} (h:COk C):FitAll st0 (memS C).2:=by
 have key:∀ j,j≤C.length→FitAll st0 (memS (C.take j)).2:=by
  intro j
  induction j with
  | zero=>exact fun _=>trivial
  | succ j ih =>intro hj;obtain ⟨x,hx⟩:∃ x,C[j]?=some x:=⟨_,List.getElem?_eq_getElem (by omega)⟩;rw [take_snoc hx,memS_snoc,fit_snoc];exact ⟨ih (by omega),ch_bok (ch_all h j (by omega)) (nxt_of h j x hx)⟩
 have:=key C.length (Nat.le_refl _)
 rwa [List.take_length] at this
theorem mok_memS {C:List NV} (h:Small C):∀ m∈(memS C).2,MOk m:=by intro m hm;obtain ⟨j,hj⟩:=List.getElem?_of_mem hm;have hjl:=(List.getElem?_eq_some_iff.1 hj).1;rw [memS_len] at hjl;obtain ⟨x,hx⟩:∃ x,C[j]?=some x:=⟨_,List.getElem?_eq_getElem hjl⟩;have h1:=mem_at hx;rw [hj] at h1;cases h1;exact ⟨h.mem hx,mem_kind (h.ok.node x (List.mem_of_getElem? hx))⟩
theorem inv_memS {C:List NV} (h:COk C):Inv (memS C).2 (stAt C):=inv_all _ (fit_memS h)
theorem cls_le {M:List MB} {s:St} (h:Inv M s) {k:Nat} {z:NV} (hz:s.N[k]?=some z):z.cls≤k+1:=by
 have hk:=(List.getElem?_eq_some_iff.1 hz).1;rw [h.len] at hk;obtain ⟨m,hm⟩:∃ m,M[k]?=some m:=⟨_,List.getElem?_eq_getElem hk⟩;obtain ⟨y,h1,_,_,⟨_,_,_,_,h2⟩ | ⟨_,_,_,k2,_,h2,_,_,_,_,h3,_⟩⟩:=h.node k m hm
 ·rw [hz] at h1;cases h1;split at h2 <;> omega
 ·rw [hz] at h1;cases h1;omega
theorem cls_up {M M':List MB} {s s':St} (h:Inv M s) (hs:Sim s.N s'.N) {i k:Nat} {z' x' x:NV} (hki:k < i) (h1:s'.N[k]?=some z') (h2:s'.N[i]?=some x') (h3:s.N[i]?=some x) (hg:z'.cls=x'.cls) (h0:0 < z'.cls):x.cls≤k+1∧0 < x.cls:=by
 obtain ⟨z,hz⟩:∃ z,s.N[k]?=some z:=by refine ⟨_,List.getElem?_eq_getElem ?_⟩;have:=(List.getElem?_eq_some_iff.1 h1).1;have:=hs.len;omega
 have h4:=(hs.grp k i z x z' x' (by omega) hz h3 h1 h2).2 ⟨hg,h0⟩;have h5:=cls_le h hz;have h6:=h4.1;have h7:=h4.2;omega
theorem ent_ext {e e':Ent} (h1:e.kind=e'.kind) (h2:e.path=e'.path) (h3:e.mode=e'.mode) (h4:e.target=e'.target) (h5:e.size=e'.size):e=e':=by
 cases e;cases e'
 simp_all
theorem uniq_at {M M':List MB} {s s':St} (hM:∀ m∈M,MOk m) (hM':∀ m∈M',MOk m) (h:Inv M s) (h':Inv M' s') (hs:Sim s.N s'.N) (i:Nat) (m m':MB) (hm:M[i]?=some m) (hm':M'[i]?=some m'):m.ent=m'.ent∧m.data=m'.data:=by
 obtain ⟨x,hx,a1,a2,a3⟩:=h.node i m hm;obtain ⟨x',hx',b1,b2,b3⟩:=h'.node i m' hm';obtain ⟨l1,l2,l3,l4,l5⟩:=hs.lk i x x' hx hx';have hok:=hM m (List.mem_of_getElem? hm);have hok':=hM' m' (List.mem_of_getElem? hm');have sz:=hok.ok.size;have sz':=hok'.ok.size;rcases a3 with ⟨c1,c2,c3,c4,c5⟩ | ⟨c1,c2,c3,k,z,c4,c5,c6,c7,c8,c9,c10,c11⟩
 ·
  rcases b3 with ⟨d1,d2,d3,d4,d5⟩ | ⟨d1,d2,d3,k',z',d4,d5,d6,d7,d8,d9,d10,d11⟩
  ·
   have hd:m.data=m'.data:=by rw [← c4,← d4,l5]
   exact ⟨ent_ext (by rw [← c2,← d2,l1]) (by rw [← a1,← b1,l2]) (by rw [← a2,← b2,l3]) (by rw [← c3,← d3,l4]) (by rw [sz,sz',hd]),hd⟩
  ·
   exfalso;have hk1:m.ent.kind=1:=by omega
   rw [if_pos hk1] at c5;have:=cls_up (M':=M') h hs d4 d5 hx' hx (by omega) (by omega);omega
 ·
  rcases b3 with ⟨d1,d2,d3,d4,d5⟩ | ⟨d1,d2,d3,k',z',d4,d5,d6,d7,d8,d9,d10,d11⟩
  ·
   exfalso;have hk1:m'.ent.kind=1:=by omega
   rw [if_pos hk1] at d5;have:=cls_up (M':=M) h' hs.symm c4 c5 hx hx' (by omega) (by omega);omega
  ·
   have e1:=cls_up (M':=M') h hs d4 d5 hx' hx (by omega) (by omega);have e2:=cls_up (M':=M) h' hs.symm c4 c5 hx hx' (by omega) (by omega);have hkk:k=k':=by omega
   subst hkk;have hz:=(hs.lk k z z' c5 d5).path;have hd:m.data=[]:=hok.kind (by omega);have hd':m'.data=[]:=hok'.kind (by omega);exact ⟨ent_ext (by omega) (by rw [← a1,← b1,l2]) (by rw [← a2,← b2,l3]) (by rw [← c7,← d7,hz]) (by rw [sz,sz',hd,hd']),by rw [hd,hd']⟩
theorem enc_eq:∀ (M M':List MB),M.length=M'.length→(∀ (i:Nat) (m m':MB),M[i]?=some m→M'[i]?=some m'→m.ent=m'.ent∧m.data=m'.data)→encAll M=encAll M'
 | [],[],_,_=>rfl
 | [],_ :: _,h,_=>by simp at h
 | _ :: _,[],h,_=>by simp at h
 | m :: M,m' :: M',h,hp=>by
  obtain ⟨h1,h2⟩:=hp 0 m m' rfl rfl;have h3:=enc_eq M M' (by simpa using h) (fun i a b ha hb=>hp (i+1) a b ha hb);have e (m:MB) (M:List MB):encAll (m :: M)=encM m++encAll M:=by simp [encAll]
  rw [e,e,h3];unfold encM;rw [h1,h2]
theorem sim_canon {l C:List NV} (ha:l.Pairwise (fun x y=>lt x.path y.path=true)) (hC:Canonical l C):Sim l C:=by obtain ⟨S,h1,rfl⟩:=canon_sorted ha hC;exact h1.trans (sim_renum S)
theorem sim_data {L M:List NV} (h:Sim L M) (B:Nat) (hd:∀ x∈L,x.data.length≤B):∀ y∈M,y.data.length≤B:=by intro y hy;obtain ⟨i,hi⟩:=List.getElem?_of_mem hy;have hil:=(List.getElem?_eq_some_iff.1 hi).1;obtain ⟨x,hx⟩:∃ x,L[i]?=some x:=⟨_,List.getElem?_eq_getElem (by have:=h.len;omega)⟩;rw [(h.lk i x y hx hi).data];exact hd x (List.mem_of_getElem? hx)
theorem ch_last {C:List NV} (h:COk C):Sim C (stAt C).N:=by have h1:=ch_all h C.length (Nat.le_refl _);rw [List.take_length] at h1;exact sim_ch h1 h.node
theorem back_arc {M:List MB} (hM:∀ m∈M,MOk m) (hf:FitAll st0 M) (h40:M.length≤40) {D:List NV} (hD:Canonical (runSt st0 M).N D): Small D∧TreeOk D∧Sim (runSt st0 M).N D∧∀ C2,Canonical D C2→arc C2=encAll M++List.replicate 1024 0:=by
 have hi:=inv_all M hf;have hc:=back_cok hM hi;have hcD:=canon_cok (cok_tree hc) hD;have s1:=sim_canon hc.asc hD;have hlen:(runSt st0 M).N.length=M.length:=hi.len;have hdat:=runSt_data M st0 hM st0_data;have sD:Small D:=⟨hcD,sim_data s1 100000 hdat,by have:=s1.len;omega⟩;refine ⟨sD,cok_tree hcD,s1,fun C2 hC2=>?_⟩;have hc2:=canon_cok (cok_tree hcD) hC2;have s2:=sim_canon hcD.asc hC2;have sC2:Small C2:=⟨hc2,sim_data s2 100000 sD.data,by have:=s2.len;have:=sD.len;omega⟩;have s3:=(s1.trans s2).trans (ch_last hc2);unfold arc;rw [← enc_eq M (memS C2).2 ?_ (uniq_at hM (mok_memS sC2) hi (inv_memS hc2) s3)];rw [memS_len,s2.len,s1.len,hlen]
theorem alike_strip {x y:NV} (h:ZSame.Alike x y):strip y=strip x:=by obtain ⟨h1,h2,h3,h4,h5,h6⟩:=h;unfold strip;rw [h1,h2,h3,h4,h5,h6]
theorem strip_all {C C':List NV} (hl:C'.length=C.length) (h:∀ (i:Nat) (x y:NV),C[i]?=some x→C'[i]?=some y→ZSame.Alike x y):C'.map strip=C.map strip:=by
 apply List.ext_getElem?;intro i;rw [List.getElem?_map,List.getElem?_map];rcases Nat.lt_or_ge i C.length with hi | hi
 ·obtain ⟨x,hx⟩:∃ x,C[i]?=some x:=⟨_,List.getElem?_eq_getElem hi⟩;obtain ⟨y,hy⟩:∃ x,C'[i]?=some x:=⟨_,List.getElem?_eq_getElem (by omega)⟩;rw [hx,hy,Option.map_some,Option.map_some,alike_strip (h i x y hx hy)]
 ·rw [List.getElem?_eq_none hi,List.getElem?_eq_none (by omega)]
theorem arc_strip {C C':List NV} (h:C'.map strip=C.map strip):arc C'=arc C:=by unfold arc;rw [← ZAliveB.encAll_strip C',h,ZAliveB.encAll_strip]
theorem canon_uniq {l C C':List NV} (hT:TreeOk l) (h:Canonical l C) (h':Canonical l C'):C'.map strip=C.map strip:=by obtain ⟨S,h1,h2,rfl⟩:=canon_row (paths_ne hT) h;obtain ⟨S',h3,h4,rfl⟩:=canon_row (paths_ne hT) h';have e:S.map strip=S'.map strip:=sorted_uniq _ _ (h2.trans h4.symm) (map_asc h1) (map_asc h3);have hs:=Sim.of_strip e.symm;exact strip_all (by rw [renum_len,renum_len,hs.len]) fun i x y hx hy=>renum_alike hs i x y hx hy
theorem same_kinds {M M':List MB} {s s':St} (ha:Alts M M') (h:Inv M s) (h':Inv M' s') (i:Nat) (x x':NV) (hx:s.N[i]?=some x) (hx':s'.N[i]?=some x'):x'.kind=x.kind∧x'.mode=x.mode:=by have hi:=(List.getElem?_eq_some_iff.1 hx).1;rw [h.len] at hi;obtain ⟨m,hm⟩:∃ m,M[i]?=some m:=⟨_,List.getElem?_eq_getElem hi⟩;obtain ⟨m',hm'⟩:∃ m,M'[i]?=some m:=⟨_,List.getElem?_eq_getElem (by rw [ha.len];exact hi)⟩;obtain ⟨k1,k2⟩:=ha.at_ i m m' hm hm';obtain ⟨y,h1,_,h2,h3⟩:=h.node i m hm;obtain ⟨y',h4,_,h5,h6⟩:=h'.node i m' hm';rw [hx] at h1;rw [hx'] at h4;cases h1;cases h4;refine ⟨?_,by rw [h5,h2,k2]⟩;rcases h3 with ⟨a1,a2,_⟩ | ⟨a1,a2,_⟩ <;> rcases h6 with ⟨b1,b2,_⟩ | ⟨b1,b2,_⟩ <;> omega
end ZBack
namespace ZDiff
open Go.RowKit YteikiojmcipkmaaGreatDoorW.PrintWords YteikiojmcipkmaaGreatDoorW.PrintLast YteikiojmcipkmaaGreatDoorW.PrintMore Oct ZNod ZTree ZRow ZCanon ZEncode ZSame ZEqual
theorem toList_no {a b:ByteArray} (h:¬ b=a):(a.toList == b.toList)=false:=by rw [beq_eq_false_iff_ne];intro e;exact h (ZStr.toList_inj e).symm
set_option maxHeartbeats 4000000 in
theorem same_any (x y:NV) (w:World) (hx:Reads w x) (hy:Reads w y): Calls Tryz.prog 31 #[.agg x.cells.toArray,.agg y.cells.toArray] w fun e w'=>∃ b,e=.returned (.bool b)∧(b=true→ZSame.Alike x y)∧Below w.heap.size w w':=by
 by_cases hd:y.kind=x.kind∧y.path=x.path∧y.mode=x.mode∧y.target=x.target∧y.cls=x.cls
 ·
  obtain ⟨h0,h1,h2,h3,h5⟩:=hd;obtain ⟨kind,path,mode,target,addr,cap,data,cls⟩:=x;obtain ⟨kind2,path2,mode2,target2,addr2,cap2,data2,cls2⟩:=y;dsimp only at h0 h1 h2 h3 h5;subst h0 h1 h2 h3 h5;obtain ⟨r1,r2⟩:=hx;obtain ⟨r3,r4⟩:=hy;dsimp only at r1 r2 r3 r4;have B2:=hid (((Below.refl w.heap.size w).alloc (Nat.le_refl _) (.cells #[.int .i64 kind2,.string path2,.int .i64 mode2,.string target2,.slice addr data.length cap,.int .i64 cls2] 46)).alloc (by simp) (.cells #[.int .i64 kind2,.string path2,.int .i64 mode2,.string target2,.slice addr2 data2.length cap2,.int .i64 cls2] 46));have EQ:=hid (ZSum.equal_calls addr addr2 data.length data2.length cap cap2 data data2 _ (Kd.C_below r1 B2.out) (Kd.C_below r3 B2.out));obtain ⟨q,hq⟩:∃ q,decide (data=data2)=q:=⟨_,rfl⟩;rw [hq] at EQ;have HQ:=hid (show q=true→data2=data from fun h=>by rw [h] at hq;exact (of_decide_eq_true hq).symm);clear r1 r2 r3 r4 hq;unfold NV.cells;dsimp only;go_enter Tryz.func31,Tryz.ntmps31
  go_wp2_with fail
  refine EQ.out.mono ?_;rintro e w3 ⟨rfl,hd⟩;have B3:=hid (below_step B2.out hd.below);clear hd
  go_wp2_with fail
  go_ret;exact ⟨q,rfl,fun h=>⟨rfl,rfl,rfl,rfl,HQ.out h,rfl⟩,B3.out⟩
 ·
  obtain ⟨kind,path,mode,target,addr,cap,data,cls⟩:=x;obtain ⟨kind2,path2,mode2,target2,addr2,cap2,data2,cls2⟩:=y;dsimp only at hd;clear hx hy;have B2:=hid (((Below.refl w.heap.size w).alloc (Nat.le_refl _) (.cells #[.int .i64 kind,.string path,.int .i64 mode,.string target,.slice addr data.length cap,.int .i64 cls] 46)).alloc (by simp) (.cells #[.int .i64 kind2,.string path2,.int .i64 mode2,.string target2,.slice addr2 data2.length cap2,.int .i64 cls2] 46));unfold NV.cells;dsimp only;by_cases h0:kind2=kind
  ·
   subst h0;by_cases h1:path2=path
   ·
    subst h1;by_cases h2:mode2=mode
    ·
     subst h2;by_cases h3:target2=target
     ·
      subst h3;have h5:¬ cls2=cls:=fun h=>hd ⟨rfl,rfl,rfl,rfl,h⟩;have b5:(cls == cls2)=false:=beq_eq_false_iff_ne.2 (Ne.symm h5);clear hd h5;go_enter Tryz.func31,Tryz.ntmps31
      go_wp2_with fail
      go_ret;exact ⟨false,rfl,fun h=>(by cases h),B2.out⟩
     ·
      have b3:=toList_no h3;clear hd h3;go_enter Tryz.func31,Tryz.ntmps31
      go_wp2_with fail
      go_ret;exact ⟨false,rfl,fun h=>(by cases h),B2.out⟩
    ·
     have b2:(mode == mode2)=false:=beq_eq_false_iff_ne.2 (Ne.symm h2);clear hd h2;go_enter Tryz.func31,Tryz.ntmps31
     go_wp2_with fail
     go_ret;exact ⟨false,rfl,fun h=>(by cases h),B2.out⟩
   ·
    have b1:=toList_no h1;clear hd h1;go_enter Tryz.func31,Tryz.ntmps31
    go_wp2_with fail
    go_ret;exact ⟨false,rfl,fun h=>(by cases h),B2.out⟩
  ·
   have b0:(kind == kind2)=false:=beq_eq_false_iff_ne.2 (Ne.symm h0);clear hd h0;go_enter Tryz.func31,Tryz.ntmps31
   go_wp2_with fail
   go_ret;exact ⟨false,rfl,fun h=>(by cases h),B2.out⟩
set_option maxHeartbeats 4000000 in
theorem equalFunc_any (A A2:Option Addr) (c cb:Nat) (l l2:List NV) (hn:l.length≤1000) (hn2:l2.length≤1000) (w:World) (h1:NodesAt w A l) (h2:NodesAt w A2 l2) (hc:l.length≤c) (hc2:l2.length≤cb): Calls Tryz.prog 30 #[.slice A l.length c,.slice A2 l2.length cb,.func (.func 31) #[] #[]] w fun e w'=>∃ b,e=.returned (.bool b)∧(b=true→l2.length=l.length∧∀ (i:Nat) (x y:NV),l[i]?=some x→l2[i]?=some y→ZSame.Alike x y)∧Below w.heap.size w w':=by
 by_cases hl:l2.length=l.length;rotate_left
 ·
  have bn:((l.length:Int) != (l2.length:Int))=true:=by rw [bne_iff_ne];omega
  clear h1 h2 hl;go_enter Tryz.func30,Tryz.ntmps30
  go_wp2_with fail
  go_ret;exact ⟨false,rfl,fun h=>(by cases h),Below.refl _ _⟩
 ·
  rw [hl] at hn2 hc2 ⊢;have H:=hid (And.intro h1 (And.intro h2 hl));have bn:((l.length:Int) != (l.length:Int))=false:=by simp
  clear h1 h2 hl;go_enter Tryz.func30,Tryz.ntmps30
  go_wp2_with fail
  go_loopw [17] (fun i wr=>∃ j:Nat,j≤l.length∧i=.int .i64 j∧Hid (Below w.heap.size w wr∧∀ (i:Nat) (x y:NV),i < j→l[i]?=some x→l2[i]?=some y→ZSame.Alike x y)) (fun i _=>l.length - (intOf i).toNat)
  case atStart=>exact ⟨0,Nat.zero_le _,rfl,hid ⟨Below.refl _ _,fun i x y h=>absurd h (Nat.not_lt_zero _)⟩⟩
  case round =>
   obtain ⟨j,hj,rfl,HA⟩:=hrel;have HB:=hid HA.out.1;by_cases hlt:j < l.length
   ·
    have hltz:(j:Int) < (l.length:Int):=by omega
    obtain ⟨h1,h2,hl⟩:=H.out;obtain ⟨x,hx⟩:∃ x,l[j]?=some x:=⟨_,List.getElem?_eq_getElem hlt⟩;obtain ⟨y,hy⟩:∃ y,l2[j]?=some y:=⟨_,List.getElem?_eq_getElem (by omega)⟩;obtain ⟨b,o,hA,_,_⟩:=h1.row (fun e=>by rw [e] at hlt;simp at hlt);obtain ⟨b2,o2,hA2,_,_⟩:=h2.row (fun e=>by rw [e] at hy;simp at hy);subst hA hA2;obtain ⟨c0,c1,c2,c3,c4,c5⟩:=(h1.below HB.out).cells j x hx;have BX:=hid (below_alloc (Below.refl _ wr) (.cells x.cells.toArray 46));obtain ⟨e0,e1,e2,e3,e4,e5⟩:=(h2.below (below_step HB.out BX.out)).cells j y hy;have BY:=hid (BX.out.alloc BX.out.size (.cells y.cells.toArray 46));have SC:=hid (same_any x y ((wr.alloc (.cells x.cells.toArray 46)).alloc (.cells y.cells.toArray 46)) (((h1.data x (List.mem_of_getElem? hx)).below HB.out).below BY.out) (((h2.data y (List.mem_of_getElem? hy)).below HB.out).below BY.out));have HB2:=hid (below_step HB.out BY.out);have HXY:=hid (And.intro hx hy);clear h1 h2 hl hx hy BX;obtain ⟨kind,path,mode,target,addr,cap,data,cls⟩:=x;obtain ⟨kind2,path2,mode2,target2,addr2,cap2,data2,cls2⟩:=y;unfold NV.cells at SC HB2 e0 e1 e2 e3 e4 e5;dsimp only at SC HB2 c0 c1 c2 c3 c4 c5 e0 e1 e2 e3 e4 e5
    go_wp2_with fail
    refine SC.out.mono ?_;rintro e w3 ⟨q,rfl,hq,hb⟩;have HB3:=hid (below_step HB2.out hb);have HQ:=hid hq;clear hb hq;cases q with
    | false =>
     go_wp2_with fail
     go_ret;exact ⟨false,rfl,fun h=>(by cases h),HB3.out⟩
    | true =>
     go_wp2_with fail
     go_roundw
     case rel =>
      refine ⟨j+1,by omega,by go_num,hid ⟨HB3.out,fun i x y h hx hy=>?_⟩⟩;rcases Nat.lt_or_ge i j with h1 | h1
      ·exact HA.out.2 i x y h1 hx hy
      ·
       obtain rfl:i=j:=by omega
       rw [HXY.out.1] at hx;rw [HXY.out.2] at hy;cases hx;cases hy;exact HQ.out (by trivial)
     case measure=>simp [intOf];omega
   ·
    obtain rfl:j=l.length:=by omega
    go_wp2_with fail
    go_ret;refine ⟨true,rfl,fun _=>⟨trivial,fun i x y hx hy=>HA.out.2 i x y (List.getElem?_eq_some_iff.1 hx).1 hx hy⟩,HB.out⟩
set_option maxHeartbeats 4000000 in
theorem equal_any (A A2:Option Addr) (c cb:Nat) (l l2:List NV) (hn:l.length≤40) (hn2:l2.length≤40) (hd:∀ x∈l,x.data.length≤1000000) (hd2:∀ x∈l2,x.data.length≤1000000) (w:World) (h1:NodesAt w A l) (h2:NodesAt w A2 l2) (hc:l.length≤c) (hc2:l2.length≤cb): Calls Tryz.prog 15 #[.slice A l.length c,.slice A2 l2.length cb] w fun e w'=>∃ b,e=.returned (.bool b)∧(b=true→∃ C C2,Canonical l C∧Canonical l2 C2∧C2.length=C.length∧∀ (i:Nat) (x y:NV),C[i]?=some x→C2[i]?=some y→ZSame.Alike x y)∧Below w.heap.size w w':=by
 have C1:=hid (canon_calls A c l hn hd w h1 hc);have H2:=hid (And.intro h2 (And.intro hn2 (And.intro hd2 hc2)));obtain ⟨n2,hl2⟩:∃ n,l2.length=n:=⟨_,rfl⟩;have HL:=hid hl2;rw [hl2];clear h1 h2 hn2 hd2 hc2 hl2;go_enter Tryz.func15,Tryz.ntmps15
 go_wp2_with fail
 refine C1.out.mono ?_;rintro r w1 ⟨g,K,S,rfl,q1,q2,q3,q4,q5,q6,q7⟩;have HC1:=hid (show Canonical l _ from ⟨K,S,q1,q2,q3,rfl⟩);have R1:=hid (And.intro q4 (nodes_of q6 q7));clear q1 q2 q3 q4 q5 q6 q7;have C2:=hid (canon_calls A2 cb l2 H2.out.2.1 H2.out.2.2.1 w1 (H2.out.1.below R1.out.1) H2.out.2.2.2);rw [HL.out] at C2
 go_wp2_with fail
 refine C2.out.mono ?_;rintro r w2 ⟨g2,K2,S2,rfl,q1,q2,q3,q4,q5,q6,q7⟩;have HC2:=hid (show Canonical l2 _ from ⟨K2,S2,q1,q2,q3,rfl⟩);have R2:=hid (And.intro q4 (nodes_of q6 q7));clear q1 q2 q3 q4 q5 q6 q7;have e1:=HC1.out.len;have e2:=HC2.out.len;have EF:=equalFunc_any (some ⟨g,0,none⟩) (some ⟨g2,0,none⟩) l.length n2 _ _ (by omega) (by have:=H2.out.2.1;omega) w2 (R1.out.2.below R2.out.1) R2.out.2 (by omega) (by have:=HL.out;omega);rw [e1,e2,HL.out] at EF;have EFF:=hid EF;clear EF e1 e2
 go_wp2_with fail
 refine EFF.out.mono ?_;rintro r w3 ⟨b,rfl,hbb,hb⟩;have B3:=hid (below_step (below_step R1.out.1 R2.out.1) hb);have HBB:=hid hbb;clear hb hbb
 go_wp2_with fail
 go_ret;refine ⟨b,rfl,fun h=>⟨_,_,HC1.out,HC2.out,?_,(HBB.out h).2⟩,B3.out⟩;have h1:=(HBB.out h).1;rw [HC1.out.len,HC2.out.len,HL.out];exact h1
end ZDiff
end Go.Proofs.YteikiojmcipkmaaGreatDoor
