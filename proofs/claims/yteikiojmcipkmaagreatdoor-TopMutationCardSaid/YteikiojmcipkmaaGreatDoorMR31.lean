/- Parts of the proof, gathered by a program: what calls of the functions answer, and what follows in plain lists. Conditions: those that each theorem states. -/
import Derived.Test.YteikiojmcipkmaaGreatDoorMR30
import Derived.Test.YteikiojmcipkmaaGreatDoorMR21
set_option linter.unusedVariables false
set_option linter.unusedSimpArgs false
namespace Go.Proofs.YteikiojmcipkmaaGreatDoor
open Go.Lib (hid)
open Go.RowKit YteikiojmcipkmaaGreatDoorW.PrintWords YteikiojmcipkmaaGreatDoorW.PrintLast YteikiojmcipkmaaGreatDoorW.PrintMore Oct ZBase ZGlob ZMo ZRec
set_option maxRecDepth 100000
section
namespace ZDRecA
open ZBlock ZCheck ZPay ZDHead ZMergeA
open ZEntry (blkB blkB_len extH sPax blocks extended_calls)
theorem stood138:Tryz.prog.stoodInHeld 138=false:=by kernel_rfl
theorem und138:Tryz.prog.underlying 138=some (.struct (Tryz.prog.fieldsOf 138)):=by kernel_rfl
theorem hdr_same (t1:Int) (n1 p1 l1:ByteArray) (m1 s1:Int) (w:World): (binOp .neq 138 (.agg #[.int .u8 t1,.string n1,.string p1,.string l1,.int .i64 m1,.int .i64 s1]) (.agg #[.int .u8 t1,.string n1,.string p1,.string l1,.int .i64 m1,.int .i64 s1])).run Tryz.prog w=.ok (.bool false) w:=by
 rw [run_neq_struct];show ((Op.equalIn (9999+1) 138 _ _).run Tryz.prog w).andThen _=_;rw [run_equalIn_struct _ _ _ _ _ und138 stood138]
 go_simp
abbrev hcells (typ:Int) (name pre lk:ByteArray) (mode:Int) (n:Nat):Array Value:=#[.int .u8 typ,.string name,.string pre,.string lk,.int .i64 mode,.int .i64 n]
def Sx (w:World) (typ:Int) (name pre lk:ByteArray) (mode:Int) (n:Nat) (w':World):Prop:=w'.heap[w.heap.size]?=some (.cells (hcells typ name pre lk mode n) 138 (0,0))∧Below w.heap.size w w'
def Sy (w:World) (typ:Int) (name pre lk:ByteArray) (mode:Int) (n:Nat) (w':World):Prop:=(w'.cell? ⟨w.heap.size,0,none⟩=some (.int .u8 typ)∧w'.cell? ⟨w.heap.size,1,none⟩=some (.string name)∧w'.cell? ⟨w.heap.size,2,none⟩=some (.string pre)∧w'.cell? ⟨w.heap.size,3,none⟩=some (.string lk)∧w'.cell? ⟨w.heap.size,4,none⟩=some (.int .i64 mode)∧w'.cell? ⟨w.heap.size,5,none⟩=some (.int .i64 n))∧Hid (Sx w typ name pre lk mode n w')
theorem Sx.y {w w':World} {typ:Int} {name pre lk:ByteArray} {mode:Int} {n:Nat} (h:Sx w typ name pre lk mode n w'):Sy w typ name pre lk mode n w' :=
 ⟨⟨row_cell h.1 0 _ rfl,row_cell h.1 1 _ rfl,row_cell h.1 2 _ rfl,row_cell h.1 3 _ rfl,row_cell h.1 4 _ rfl,row_cell h.1 5 _ rfl⟩,hid h⟩
theorem Sx.start (w:World) (typ:Int) (name pre lk:ByteArray) (mode:Int) (n:Nat):Sx w typ name pre lk mode n (w.alloc (.cells (hcells typ name pre lk mode n) 138)).drew :=
 ⟨heap_alloc_new w _,((Below.refl _ _).alloc (Nat.le_refl _) _).drew⟩
theorem Sx.step {w w1 w2:World} {typ:Int} {name pre lk:ByteArray} {mode:Int} {n:Nat} (h:Sx w typ name pre lk mode n w1) (hb:Below w1.heap.size w1 w2):Sx w typ name pre lk mode n w2 :=
 ⟨(hb.block _ (blk_lt h.1)).trans h.1,below_step h.2 hb⟩
theorem ext_calls (w:World) (typ:Int) (name pre lk:ByteArray) (mode:Int) (n:Nat) (W:World) (hW:Hid (Sx w typ name pre lk mode n W)): Calls Tryz.prog 94 #[.int .i64 n] W fun e w'=>e=.returned (.agg #[.int .u8 120,.string ⟨#[112,97,120]⟩,.string ⟨#[]⟩,.string ⟨#[]⟩,.int .i64 0,.int .i64 n])∧((w'.cell? ⟨w.heap.size,0,none⟩=some (.int .u8 typ)∧w'.cell? ⟨w.heap.size,1,none⟩=some (.string name)∧w'.cell? ⟨w.heap.size,2,none⟩=some (.string pre)∧w'.cell? ⟨w.heap.size,3,none⟩=some (.string lk)∧w'.cell? ⟨w.heap.size,4,none⟩=some (.int .i64 mode)∧w'.cell? ⟨w.heap.size,5,none⟩=some (.int .i64 n))∧Hid (Sx w typ name pre lk mode n w')):=by
 refine (extended_calls n W).mono ?_;rintro e w' ⟨rfl,hb⟩;exact ⟨rfl,(hW.out.step hb).y⟩
def PayRes (w:World) (rb sb:Nat) (off:Int) (av:List Int) (ε:Int) (size:Nat) (v:Value) (a x:Int) (w':World):Prop :=
 Mo [sb,rb] w w' ∧
  ((∃ A cap,blocks size * 512≤av.length∧(∀ x∈(av.take (blocks size * 512)).drop size,x=0)∧v=.slice A size cap∧a=off+(blocks size * 512:Nat)∧x=0∧size≤cap∧Kd.C (Kd.int .u8) w' A size (av.take size) ∧
    (0 < size→∃ g,A=some ⟨g,0,none⟩∧w.heap.size≤g∧g < w'.heap.size)∧Rd w' rb sb (off+(blocks size * 512:Nat)) (av.drop (blocks size * 512)) ε)
  ∨ (av.length < blocks size * 512∧v=.slice none 0 0∧a=off+av.length∧x=cutE ε∧∃ err,Rdr w' rb sb (off+av.length) err)
  ∨ (blocks size * 512≤av.length∧(∃ x∈(av.take (blocks size * 512)).drop size,x≠0)∧v=.slice none 0 0∧x=10∧∃ o err,Rdr w' rb sb o err))
theorem pay_calls (w:World) (rb sb:Nat) (off:Int) (av:List Int) (ε:Int) (h:Rd w rb sb off av ε) (size:Nat) (hs:size≤1099511627776) (hav:av.length≤1000000000): Calls Tryz.prog 46 #[.pointer (some ⟨rb,0,none⟩),.int .i64 size] w fun e w'=>∃ v a x,e=.returned (.tuple #[v,.int .i64 a,.int .i64 x])∧PayRes w rb sb off av ε size v a x w':=by
 refine (read_calls w rb sb off av ε h size hs hav).mono ?_;rintro e w' ⟨hm,⟨A,cap,h1,h2,rfl,h4,h5,h6,h7⟩ | ⟨h1,rfl,h2⟩ | ⟨h1,h2,⟨a,rfl⟩,h3⟩⟩
 ·exact ⟨_,_,_,rfl,hm,.inl ⟨A,cap,h1,h2,rfl,rfl,rfl,h4,h5,h6,h7⟩⟩
 ·exact ⟨_,_,_,rfl,hm,.inr (.inl ⟨h1,rfl,rfl,rfl,h2⟩)⟩
 ·exact ⟨_,_,_,rfl,hm,.inr (.inr ⟨h1,h2,rfl,rfl,h3⟩)⟩
theorem join3 {P:Program} {c:Code} {K:Act→World→Prop} {Q:Exit→Act→World→Prop} {a:Act} {w:World} (A:Value→Int→Int→Act) (S:Value→Int→Int→World→Prop) (h:c.wp P (Exit.then (fun a' w'=>∃ v x y,a'=A v x y∧S v x y w') Q) a w) (k:∀ v x y w',S v x y w'→K (A v x y) w'):c.wp P (Exit.then K Q) a w :=
 Code.wp_mono (fun e a' w' h=>by
  cases e with
  | normal =>obtain ⟨v,x,y,rfl,hS⟩:=h;exact k v x y w' hS
  | _=>exact h) h
def ParseC (rb:List Int) (S:List Rec→Prop) (T:Int→Int→Prop):Prop :=
 ∀ (g c:Nat) (W:World),Kd.C (Kd.int .u8) W (some ⟨g,0,none⟩) rb.length rb→rb.length≤c→Gl W →
  Calls Tryz.prog 114 #[.slice (some ⟨g,0,none⟩) rb.length c] W fun e w'=>Below W.heap.size W w'∧((∃ l v,S l∧e=.returned (.tuple #[v,.int .i64 rb.length,.int .i64 0])∧ZPlan.RecRow w' W.heap.size v l)∨(∃ m x:Int,T m x∧x≠0∧0≤m∧m≤rb.length∧e=.returned (.tuple #[.slice none 0 0,.int .i64 m,.int .i64 x])))
def RecPost (w:World) (db rb sb:Nat) (off:Int) (av:List Int) (ε:Int) (n:Nat) (S:List Rec→Prop) (T:Int→Int→Prop) (e:Ending) (w':World):Prop :=
 Mo [sb,rb,db] w w' ∧
 ((av.length < blocks n * 512∧e=.returned (.tuple #[.slice none 0 0,.int .i64 (cutE ε)])∧Dc w' db rb (off+av.length)∧∃ err,Rdr w' rb sb (off+av.length) err)
 ∨ (blocks n * 512≤av.length∧(∃ x∈(av.take (blocks n * 512)).drop n,x≠0)∧e=.returned (.tuple #[.slice none 0 0,.int .i64 10])∧(∃ a,Dc w' db rb a)∧∃ o err,Rdr w' rb sb o err)
 ∨ (blocks n * 512≤av.length∧(∀ x∈(av.take (blocks n * 512)).drop n,x=0)∧(∃ m x:Int,T m x∧x≠0∧e=.returned (.tuple #[.slice none 0 0,.int .i64 x])∧Dc w' db rb (off+m))∧Rd w' rb sb (off+(blocks n * 512:Nat)) (av.drop (blocks n * 512)) ε)
 ∨ (blocks n * 512≤av.length∧(∀ x∈(av.take (blocks n * 512)).drop n,x=0)∧(∃ l v,S l∧e=.returned (.tuple #[v,.int .i64 0])∧ZPlan.RecRow w' w.heap.size v l)∧Dc w' db rb (off+n)∧Rd w' rb sb (off+(blocks n * 512:Nat)) (av.drop (blocks n * 512)) ε))
theorem Rdr.far' {w:World} {rb sb:Nat} {off err:Int} (h:Rdr w rb sb off err) {p:Addr} (hp:rb≠p.block) (v:Value):Rdr (w.setCell p v) rb sb off err:=h.of (Below.heap_setCell _ _ _ _ hp)
end ZDRecA
namespace ZDRec
open ZBlock ZCheck ZPay ZDHead ZMergeA ZDRecA
open ZEntry (blkB blkB_len extH sPax blocks extended_calls)
set_option maxHeartbeats 8000000 in
theorem accept (w:World) (db rb sb:Nat) (off at0:Int) (av:List Int) (ε:Int) (h:Rd w rb sb off av ε) (hd:Dc w db rb at0) (hlt:rb < db) (hG:Gl w) (h20:20≤w.heap.size) (hsb:20≤sb) (n:Nat) (h1:1≤n) (h2:n≤262144) (hav:av.length≤1000000000) (hoff:0≤off∧off≤4611686018427387904) (S:List Rec→Prop) (T:Int→Int→Prop) (hP:blocks n * 512≤av.length→(∀ x∈(av.take (blocks n * 512)).drop n,x=0)→ParseC (av.take n) S T): Calls Tryz.prog 77 #[.pointer (some ⟨db,0,none⟩),.agg #[.int .u8 120,.string ⟨#[112,97,120]⟩,.string ⟨#[]⟩,.string ⟨#[]⟩,.int .i64 0,.int .i64 n]] w (RecPost w db rb sb off av ε n S T):=by
 have HD:∀ W:World,(binOp .neq 138 (.agg #[.int .u8 120,.string ⟨#[112,97,120]⟩,.string ⟨#[]⟩,.string ⟨#[]⟩,.int .i64 0,.int .i64 n]) (.agg #[.int .u8 120,.string ⟨#[112,97,120]⟩,.string ⟨#[]⟩,.string ⟨#[]⟩,.int .i64 0,.int .i64 n])).run Tryz.prog W=.ok (.bool false) W:=fun W=>hdr_same _ _ _ _ _ _ W;have SS0:=(Sx.start w 120 ⟨#[112,97,120]⟩ ⟨#[]⟩ ⟨#[]⟩ 0 n).y;obtain ⟨⟨u0,u1,u2,u3,u4,u5⟩,SS⟩:=SS0;have EC:=hid (ext_calls w 120 ⟨#[112,97,120]⟩ ⟨#[]⟩ ⟨#[]⟩ 0 n);have g1:¬ (n:Int) < 1:=by omega
 have g2:¬ (262144:Int) < (n:Int):=by omega
 have HH:=hid (And.intro h (And.intro hd (And.intro hlt (And.intro hG (And.intro h20 (And.intro hsb (And.intro hav hoff)))))));have HP:=hid hP;have HN:=hid (And.intro h1 h2);clear h hd hlt hG h20 hsb hav h1 h2 hP hoff;go_enter Tryz.func77,Tryz.ntmps77
 go_wp2_with fail
 apply ZHead.join (S:=Sx w 120 ⟨#[112,97,120]⟩ ⟨#[]⟩ ⟨#[]⟩ 0 n)
 ·
  first | (go_region_with (go_at_call 94;refine (EC.out _ ?_).mono ?_;exact SS;rintro e w' ⟨rfl,⟨c0,c1,c2,c3,c4,c5⟩,hS⟩)) | fail
  all_goals exact ⟨rfl,hS.out⟩
 clear u0 u1 u2 u3 u4 u5 SS EC HD;intro W1 S1;have R1:=hid (HH.out.1.below S1.2);have D1:=hid (HH.out.2.1.of (S1.2.block _ HH.out.2.1.lt));have B1:=hid S1.2;have X1:=hid S1.1;have c5:=row_cell S1.1 5 _ rfl;obtain ⟨q0,q1,q2⟩:=D1.out.facts;have OC:=hid (offset_calls W1 rb sb off 0 R1.out.rdr);clear S1
 go_wp2_with fail
 refine OC.out.mono ?_;rintro e w' ⟨rfl,rfl⟩;have PC:=hid (fun (W:World) (hW:W.heap=W1.heap)=>pay_calls W rb sb off av ε (R1.out.step fun k _=>by rw [hW]) n (by have:=HN.out;omega) HH.out.2.2.2.2.2.2.1)
 go_wp2_with fail
 apply join3 (S:=PayRes W1.drew rb sb off av ε n)
 ·
  first | (go_region_with (go_at_call 46;refine (PC.out _ ?_).mono ?_;exact rfl;rintro e w' ⟨v,a,x,rfl,hres⟩)) | fail
  all_goals exact ⟨v,a,x,rfl,hres⟩
 intro v a x W2 hres;have M2:=hid (show Mo [sb,rb] w W2 from (Mo.of_below (B1.out.drew)).then_ hres.1 (by simp));have hl:rb < w.heap.size∧sb < rb∧db < w.heap.size:=⟨blk_lt HH.out.1.rdr.blk,HH.out.1.ord,HH.out.2.1.lt⟩;have HL:=hid hl;have D2:=hid (HH.out.2.1.of (M2.out.keep db hl.2.2 (by have:=HH.out.2.2.1;simp;omega)));have G2:=hid (HH.out.2.2.2.1.mo M2.out HH.out.2.2.2.2.1 (by have:=HH.out.2.2.2.2.2.1;simp;omega));obtain ⟨q3,q4,q5⟩:=D2.out.facts;clear q0 q1 q2 c5 PC hl;rcases hres.2 with ⟨A,cap,p1,p2,rfl,p4,rfl,p6,p7,p8,p9⟩ | ⟨p1,rfl,p3,p4,p5⟩ | ⟨p1,p2,rfl,rfl,p5⟩
 ·
  have HR:=hid (And.intro p1 (And.intro p2 p9));obtain ⟨g,rfl,_,_⟩:=p8 (by have:=HN.out;omega);have hlen:(av.take n).length=n:=by
   have hb:n≤blocks n * 512:=by unfold blocks;omega
   rw [List.length_take];omega
  have PS:=HP.out p1 p2 g cap W2 (by rw [hlen];exact p7) (by rw [hlen];exact p6) G2.out;rw [hlen] at PS;replace PS:=hid PS;have bx:((0:Int) != 0)=false:=rfl;clear p1 p2 p4 p6 p7 p8 p9 hres hlen
  go_wp2_with fail
  refine PS.out.mono ?_;rintro e W3 ⟨hb3,hres⟩;have M3:=hid (M2.out.step hb3);have D3:=hid (D2.out.of (hb3.block db D2.out.lt));have R3:=hid (HR.out.2.2.below hb3);obtain ⟨q6,q7,q8⟩:=D3.out.facts;have HRES:=hid hres;clear hb3 hres PS q3 q4 q5;rcases HRES.out with ⟨l,v,hs,rfl,hv⟩ | ⟨m,x,ht,hx,hm0,hm1,rfl⟩
  ·
   have HV:=hid (And.intro hs hv);have hw:wrap64 (off+(n:Int))=off+n:=w64s (by have:=HH.out.2.2.2.2.2.2.2;omega) (by have:=HH.out.2.2.2.2.2.2.2;omega);clear hs hv HRES
   go_wp2_with fail
   go_ret2
   rw [hw];refine ⟨(M3.out.more (by simp)).set (.inl (by simp)) _,.inr (.inr (.inr ⟨HR.out.1,HR.out.2.1,⟨l,v,HV.out.1,rfl,?_⟩,D3.out.set _,Rd.far R3.out (by show rb < db;exact HH.out.2.2.1) _⟩))⟩;refine (HV.out.2.lower M2.out.size).upto fun k hk1 hk2=>Below.heap_setCell _ _ _ _ ?_;have h1:=HH.out.2.1.lt;show k≠db;omega
  ·
   have HV:=hid (And.intro ht (And.intro hx (And.intro hm0 hm1)));have hw:wrap64 (off+m)=off+m:=w64s (by have:=HH.out.2.2.2.2.2.2.2;omega) (by have:=HH.out.2.2.2.2.2.2.2;omega);clear ht hx hm0 hm1 HRES
   go_wp2_with fail
   go_ret2
   rw [hw];exact ⟨(M3.out.more (by simp)).set (.inl (by simp)) _,.inr (.inr (.inl ⟨HR.out.1,HR.out.2.1,⟨m,x,HV.out.1,HV.out.2.1,rfl,D3.out.set _⟩,Rd.far R3.out (by show rb < db;exact HH.out.2.2.1) _⟩))⟩
 ·
  have HE:=hid (Str.eps HH.out.1.str);have HR:=hid (And.intro p1 (And.intro p3 (And.intro p4 p5)));have hx0:x≠0:=by rw [p4];rcases HE.out with rfl | rfl <;> decide
  have bx:(x != 0)=true:=by rw [bne_iff_ne];exact hx0
  clear p1 p3 p4 p5 hres hx0
  go_wp2_with fail
  go_ret2
  obtain ⟨p1,p3,p4,err,p5⟩:=HR.out;refine ⟨(M2.out.more (by simp)).set (.inl (by simp)) _,.inl ⟨p1,by rw [← p4];rfl,?_,err,Rdr.far' p5 (by have:=HH.out.2.2.1;show rb≠db;omega) _⟩⟩;rw [← p3];exact D2.out.set _
 ·
  have HR:=hid (And.intro p1 (And.intro p2 p5));have bx:((10:Int) != 0)=true:=rfl;clear p1 p2 p5 hres
  go_wp2_with fail
  go_ret2
  obtain ⟨p1,p2,o,err,p5⟩:=HR.out;exact ⟨(M2.out.more (by simp)).set (.inl (by simp)) _,.inr (.inl ⟨p1,p2,rfl,⟨_,D2.out.set _⟩,o,err,Rdr.far' p5 (by have:=HH.out.2.2.1;show rb≠db;omega) _⟩)⟩
end ZDRec
namespace ZDecA
open ZBlock ZCheck ZPay ZDHead ZMergeA ZDRecA ZFit
open ZEntry (blkB blkB_len extH sPax blocks extended_calls)
abbrev ecells:Array Value:=#[.int .i64 0,.string ⟨#[]⟩,.int .i64 0,.string ⟨#[]⟩,.int .i64 0]
abbrev zent:Value:=.agg ecells
structure Dw (w W:World) (rb sb:Nat) (at_:Int):Prop where
 mo:Mo [sb,rb] w W
 box:W.heap[w.heap.size]?=some (.cells ecells 54 (0,0))
 dec:Dc W (w.heap.size+1) rb at_
 lo:rb < w.heap.size∧sb < rb
theorem Dw.start {w:World} {rb sb:Nat} {off:Int} {av:List Int} {ε:Int} (h:Rd w rb sb off av ε):Dw w ((w.alloc (.cells ecells 54)).alloc (.cells #[.pointer (some ⟨rb,0,none⟩),.int .i64 0] 137)) rb sb 0:=by
 have hs:(w.alloc (.cells ecells 54)).heap.size=w.heap.size+1:=by simp
 refine ⟨Mo.of_below (((Below.refl _ _).alloc (Nat.le_refl _) _).alloc (by simp) _),heap_alloc2_old _ _ _,⟨?_⟩,blk_lt h.rdr.blk,h.ord⟩;rw [← hs];exact heap_alloc_new _ _
theorem Dw.step {w W W2:World} {rb sb:Nat} {a:Int} {S:List Nat} (h:Dw w W rb sb a) (hm:Mo S W W2) (hS:∀ s∈S,s=sb∨s=rb):Dw w W2 rb sb a:=by
 have h1:=h.lo;have h2:=h.dec.lt;have h3:w.heap.size < W.heap.size:=blk_lt h.box;have key:∀ k,w.heap.size≤k→k∉S:=fun k hk hs=>by rcases hS k hs with rfl | rfl <;> omega
 exact ⟨h.mo.then_ hm (fun t ht=>.inl (by rcases hS t ht with rfl | rfl <;> simp)),(hm.keep _ h3 (key _ (Nat.le_refl _))).trans h.box,h.dec.of (hm.keep _ h2 (key _ (by omega))),h1⟩
theorem Dw.below {w W W2:World} {rb sb:Nat} {a:Int} (h:Dw w W rb sb a) (hb:Below W.heap.size W W2):Dw w W2 rb sb a:=h.step (S:=[]) (Mo.of_below hb) (by simp)
theorem Dw.set {w W:World} {rb sb:Nat} {a:Int} (h:Dw w W rb sb a) (n:Int):Dw w (W.setCell ⟨w.heap.size+1,1,none⟩ (.int .i64 n)) rb sb n :=
 ⟨h.mo.set (.inr (by show w.heap.size≤w.heap.size+1;omega)) _,(Below.heap_setCell _ _ _ _ (by show w.heap.size≠w.heap.size+1;omega)).trans h.box,h.dec.set n,h.lo⟩
theorem Dw.more {w W W2:World} {rb sb:Nat} {a n:Int} (h:Dw w W rb sb a) (hm:Mo [sb,rb,w.heap.size+1] W W2) (hd:Dc W2 (w.heap.size+1) rb n):Dw w W2 rb sb n:=by
 have h1:=h.lo;have h3:w.heap.size < W.heap.size:=blk_lt h.box;refine ⟨h.mo.then_ hm (fun t ht=>?_),(hm.keep _ h3 (by simp;omega)).trans h.box,hd,h1⟩;simp only [List.mem_cons,List.not_mem_nil,or_false] at ht;rcases ht with rfl | rfl | rfl
 ·exact .inl (by simp)
 ·exact .inl (by simp)
 ·exact .inr (by omega)
theorem Dw.facts {w W:World} {rb sb:Nat} {a:Int} (h:Dw w W rb sb a): (W.cell? ⟨w.heap.size,0,none⟩=some (.int .i64 0)∧W.cell? ⟨w.heap.size,1,none⟩=some (.string ⟨#[]⟩)∧W.cell? ⟨w.heap.size,2,none⟩=some (.int .i64 0)∧W.cell? ⟨w.heap.size,3,none⟩=some (.string ⟨#[]⟩)∧W.cell? ⟨w.heap.size,4,none⟩=some (.int .i64 0)) ∧ (W.frozen? ⟨w.heap.size,0,none⟩=false∧W.frozen? ⟨w.heap.size,1,none⟩=false∧W.frozen? ⟨w.heap.size,2,none⟩=false∧W.frozen? ⟨w.heap.size,3,none⟩=false∧W.frozen? ⟨w.heap.size,4,none⟩=false):=by
 refine ⟨⟨?_,?_,?_,?_,?_⟩,?_,?_,?_,?_,?_⟩ <;> first | exact row_cell h.box _ _ rfl | simp [World.frozen?,h.box]
theorem Dw.five {w W:World} {rb sb:Nat} {a:Int} (h:Dw w W rb sb a) (v0 v1 v2 v3 v4:Value) : Mo [sb,rb] w (((((W.setCell ⟨w.heap.size,0,none⟩ v0).setCell ⟨w.heap.size,1,none⟩ v1).setCell ⟨w.heap.size,2,none⟩ v2).setCell ⟨w.heap.size,3,none⟩ v3).setCell ⟨w.heap.size,4,none⟩ v4) :=
 ((((h.mo.set (.inr (Nat.le_refl _)) _).set (.inr (Nat.le_refl _)) _).set (.inr (Nat.le_refl _)) _).set (.inr (Nat.le_refl _)) _).set (.inr (Nat.le_refl _)) _
theorem five_keep (W:World) (k j:Nat) (hj:j≠k) (v0 v1 v2 v3 v4:Value): (((((W.setCell ⟨k,0,none⟩ v0).setCell ⟨k,1,none⟩ v1).setCell ⟨k,2,none⟩ v2).setCell ⟨k,3,none⟩ v3).setCell ⟨k,4,none⟩ v4).heap[j]?=W.heap[j]?:=by
 rw [Below.heap_setCell _ _ _ _ hj,Below.heap_setCell _ _ _ _ hj,Below.heap_setCell _ _ _ _ hj,Below.heap_setCell _ _ _ _ hj,Below.heap_setCell _ _ _ _ hj]
set_option maxHeartbeats 8000000 in
theorem dec_end (w:World) (rb sb:Nat) (off:Int) (av:List Int) (ε:Int) (h:Rd w rb sb off av ε) (hG:Gl w) (h20:20≤w.heap.size) (hsb:20≤sb) (hav:av.length≤1000000000) (hoff:0≤off∧off≤1000000000000) (hl:av.length < 512): Calls Tryz.prog 44 #[.pointer (some ⟨rb,0,none⟩)] w fun e w'=>Mo [sb,rb] w w'∧e=.returned (.tuple #[zent,.int .i64 (off+av.length),.int .i64 (endE av.length ε)]):=by
 have D0:=hid (Dw.start h);obtain ⟨X,hX⟩:∃ X,(w.alloc (.cells ecells 54)).alloc (.cells #[.pointer (some ⟨rb,0,none⟩),.int .i64 0] 137)=X:=⟨_,rfl⟩;have R0:=hid (h.below (((Below.refl w.heap.size w).alloc (Nat.le_refl _) (.cells ecells 54)).alloc (by simp) (.cells #[.pointer (some ⟨rb,0,none⟩),.int .i64 0] 137)));rw [hX] at D0 R0;have HH:=hid (And.intro hG (And.intro h20 (And.intro hsb (And.intro hav hoff))));have HB:=hid (Str.bytes h.str);have HE:=hid (Str.eps h.str);have OC:=hid (offset_calls X rb sb off 0 R0.out.rdr);have NC:=hid (next_end X rb sb off av ε R0.out hl);obtain ⟨len,hlen⟩:∃ q,av.length=q:=⟨_,rfl⟩;rw [hlen] at NC ⊢;obtain ⟨x,hx⟩:∃ x,endE len ε=x:=⟨_,rfl⟩;have bx:(x != 0)=true:=by rw [bne_iff_ne,← hx];unfold endE;rcases HE.out with rfl | rfl <;> split <;> decide
 rw [hx] at NC ⊢;clear hl hlen hx;clear h hG h20 hsb hav hoff;go_enter Tryz.func44,Tryz.ntmps44
 go_wp2_with fail
 refine OC.out.mono ?_;rintro e w' ⟨rfl,rfl⟩
 go_wp2_with fail
 refine NC.out.mono ?_;rintro e w2 ⟨rfl,hr,hm⟩;have D2:=hid (D0.out.step hm (by simp));have OC2:=hid (offset_calls w2 rb sb _ _ hr);obtain ⟨⟨y0,y1,y2,y3,y4⟩,z0,z1,z2,z3,z4⟩:=D2.out.facts;clear hr hm NC
 go_wp2_with fail
 refine OC2.out.mono ?_;rintro e w3 ⟨rfl,rfl⟩
 go_wp2_with fail
 refine bodyPost_ret (v:=.tuple #[zent,.int .i64 (off+len),.int .i64 x]) (by simp [results,Tryz.results44,go_sem,y0,y1,y2,y3,y4,z0,z1,z2,z3,z4]) rfl ⟨D2.out.five _ _ _ _ _,rfl⟩
set_option maxHeartbeats 8000000 in
theorem dec_zero (w:World) (rb sb:Nat) (off:Int) (av:List Int) (ε:Int) (h:Rd w rb sb off av ε) (hG:Gl w) (h20:20≤w.heap.size) (hsb:20≤sb) (hav:av.length≤1000000000) (hoff:0≤off∧off≤1000000000000) (hl:512≤av.length) (hz:∀ x∈av.take 512,x=0): Calls Tryz.prog 44 #[.pointer (some ⟨rb,0,none⟩)] w fun e w'=>Mo [sb,rb] w w'∧e=.returned (.tuple #[zent,.int .i64 off,.int .i64 18])∧Rd w' rb sb (off+512) (av.drop 512) ε:=by
 have D0:=hid (Dw.start h);obtain ⟨X,hX⟩:∃ X,(w.alloc (.cells ecells 54)).alloc (.cells #[.pointer (some ⟨rb,0,none⟩),.int .i64 0] 137)=X:=⟨_,rfl⟩;have R0:=hid (h.below (((Below.refl w.heap.size w).alloc (Nat.le_refl _) (.cells ecells 54)).alloc (by simp) (.cells #[.pointer (some ⟨rb,0,none⟩),.int .i64 0] 137)));rw [hX] at D0 R0;have HH:=hid (And.intro hG (And.intro h20 (And.intro hsb (And.intro hav hoff))));have HB:=hid (Str.bytes h.str);have HE:=hid (Str.eps h.str);have OC:=hid (offset_calls X rb sb off 0 R0.out.rdr);have NC:=hid (next_ok X rb sb off av ε R0.out hl);have HZ:=hid hz;clear hl hz;clear h hG h20 hsb hav hoff;go_enter Tryz.func44,Tryz.ntmps44
 go_wp2_with fail
 refine OC.out.mono ?_;rintro e w' ⟨rfl,rfl⟩
 go_wp2_with fail
 refine NC.out.mono ?_;rintro e w2 ⟨g,cap,rfl,ho,hr,hm⟩;have D2:=hid (D0.out.step hm (by simp));have T2:=hid (And.intro ho hr);have ZC:=hid (ZZero.zero_calls (some ⟨g,0,none⟩) 512 cap (av.take 512) w2 ho.reads (by decide));clear ho hr hm NC
 go_wp2_with fail
 refine ZC.out.mono ?_;rintro e w3 ⟨b,rfl,hbz,rfl⟩;obtain rfl:b=true:=hbz.2 HZ.out;obtain ⟨⟨y0,y1,y2,y3,y4⟩,z0,z1,z2,z3,z4⟩:=D2.out.facts;clear hbz ZC
 go_wp2_with fail
 refine bodyPost_ret (v:=.tuple #[zent,.int .i64 (off),.int .i64 18]) (by simp [results,Tryz.results44,go_sem,y0,y1,y2,y3,y4,z0,z1,z2,z3,z4]) rfl ⟨D2.out.five _ _ _ _ _,rfl,?_⟩;exact T2.out.2.step fun k hk=>five_keep _ _ _ (by have:=D2.out.lo;omega) _ _ _ _ _
end ZDecA
namespace ZTrail
open ZBlock ZCheck ZPay ZDHead ZMergeA ZDRecA ZFit
open ZEntry (blkB blkB_len extH sPax blocks extended_calls)
open ZDecA
def TrailPost (w:World) (rb sb:Nat) (off:Int) (av:List Int) (ε:Int) (e:Ending) (w':World):Prop :=
 Mo [sb,rb] w w' ∧
  ((av.length < 512∧e=.returned (.tuple #[.int .i64 (off+av.length),.int .i64 (cutE ε)]))
  ∨ (512≤av.length∧(∃ x∈av.take 512,x≠0)∧e=.returned (.tuple #[.int .i64 off,.int .i64 18]))
  ∨ (512≤av.length∧(∀ x∈av.take 512,x=0)∧av.length=512∧ε=4∧e=.returned (.tuple #[.int .i64 (off+512),.int .i64 0]))
  ∨ (512≤av.length∧(∀ x∈av.take 512,x=0)∧av.length < 1024∧ε=11∧e=.returned (.tuple #[.int .i64 (off+av.length),.int .i64 11]))
  ∨ (512≤av.length∧(∀ x∈av.take 512,x=0)∧(1024≤av.length∨(512 < av.length∧ε=4))∧e=.returned (.tuple #[.int .i64 (off+512),.int .i64 18])))
set_option maxHeartbeats 4000000 in
theorem trail_calls (w:World) (rb sb:Nat) (off:Int) (av:List Int) (ε:Int) (h:Rd w rb sb off av ε): Calls Tryz.prog 23 #[.pointer (some ⟨rb,0,none⟩)] w (TrailPost w rb sb off av ε):=by
 have OC:=hid (offset_calls w rb sb off 0 h.rdr);have HE:=hid (Str.eps h.str);have HH:=hid h;by_cases hl:av.length < 512
 ·
  have NC:=hid (next_end w rb sb off av ε h hl);obtain ⟨x,hx⟩:∃ x,endE av.length ε=x:=⟨_,rfl⟩;rw [hx] at NC;have hc:(x=4∧cutE ε=5)∨(x≠4∧x≠0∧cutE ε=x):=by rw [← hx];unfold endE cutE;rcases HE.out with e | e <;> rw [e] <;> by_cases h0:0 < av.length <;> simp [h0]
  have HL:=hid hl;clear h hl hx;rcases hc with ⟨rfl,hc⟩ | ⟨hx4,hx0,hc⟩
  ·
   have b4:((4:Int) == 4)=true:=rfl;go_enter Tryz.func23,Tryz.ntmps23
   go_wp2_with fail
   refine OC.out.mono ?_;rintro e w' ⟨rfl,rfl⟩
   go_wp2_with fail
   refine NC.out.mono ?_;rintro e w1 ⟨rfl,hr,hm⟩;have O2:=hid (offset_calls w1 rb sb _ _ hr);have HM:=hid hm;clear hr hm
   go_wp2_with fail
   refine O2.out.mono ?_;rintro e w' ⟨rfl,rfl⟩
   go_wp2_with fail
   refine bodyPost_ret (v:=.tuple #[.int .i64 (off+av.length),.int .i64 5]) (by simp [results,Tryz.results23,go_sem]) rfl ⟨HM.out,.inl ⟨HL.out,by rw [hc]⟩⟩
  ·
   have b4:(x == 4)=false:=beq_eq_false_iff_ne.2 hx4;have b0:(x != 0)=true:=by rw [bne_iff_ne];exact hx0
   have HC:=hid hc;clear hx4 hx0 hc;go_enter Tryz.func23,Tryz.ntmps23
   go_wp2_with fail
   refine OC.out.mono ?_;rintro e w' ⟨rfl,rfl⟩
   go_wp2_with fail
   refine NC.out.mono ?_;rintro e w1 ⟨rfl,hr,hm⟩;have O2:=hid (offset_calls w1 rb sb _ _ hr);have HM:=hid hm;clear hr hm
   go_wp2_with fail
   refine O2.out.mono ?_;rintro e w' ⟨rfl,rfl⟩
   go_wp2_with fail
   refine bodyPost_ret (v:=.tuple #[.int .i64 (off+av.length),.int .i64 x]) (by simp [results,Tryz.results23,go_sem]) rfl ⟨HM.out,.inl ⟨HL.out,by rw [HC.out]⟩⟩
 ·
  have hl2:512≤av.length:=by omega
  have NC:=hid (next_ok w rb sb off av ε h hl2);have HL:=hid hl2;clear h hl hl2;go_enter Tryz.func23,Tryz.ntmps23
  go_wp2_with fail
  refine OC.out.mono ?_;rintro e w' ⟨rfl,rfl⟩
  go_wp2_with fail
  refine NC.out.mono ?_;rintro e w1 ⟨g,cap,rfl,ho,hr,hm⟩;have ZC:=hid (ZZero.zero_calls (some ⟨g,0,none⟩) 512 cap (av.take 512) w1 ho.reads (by decide));have O2:=hid (offset_calls w1 rb sb _ _ hr.rdr);have HM:=hid hm;have HR:=hid hr;clear hr hm ho;have b4:((0:Int) == 4)=false:=rfl;have b0:((0:Int) != 0)=false:=rfl
  go_wp2_with fail
  refine ZC.out.mono ?_;rintro e w' ⟨b,rfl,hb,rfl⟩;cases b with
  | false =>
   have HNZ:Hid (∃ x∈av.take 512,x≠0):=hid (by
    apply Classical.byContradiction;intro hn;have:=hb.2 fun x hx=>Classical.byContradiction fun h0=>hn ⟨x,hx,h0⟩;cases this)
   clear hb
   go_wp2_with fail
   refine bodyPost_ret (v:=.tuple #[.int .i64 off,.int .i64 18]) (by simp [results,Tryz.results23,go_sem]) rfl ⟨HM.out,.inr (.inl ⟨HL.out,HNZ.out,rfl⟩)⟩
  | true =>
   have HZ:=hid (hb.1 rfl);clear hb
   go_wp2_with fail
   refine O2.out.mono ?_;rintro e w' ⟨rfl,rfl⟩;by_cases hl:(av.drop 512).length < 512
   ·
    have N2:=hid (next_end w1 rb sb _ _ ε HR.out hl);obtain ⟨x,hx⟩:∃ x,endE (av.drop 512).length ε=x:=⟨_,rfl⟩;rw [hx] at N2;have hc:(x=4∧ε=4∧av.length=512)∨(x=11∧ε=11)∨(x≠4∧x≠11∧ε=4∧512 < av.length):=by rw [← hx];have:=HL.out;unfold endE;rw [List.length_drop];rcases HE.out with e | e <;> rw [e] <;> by_cases h0:0 < av.length - 512 <;> simp [h0] <;> omega
    have HL2:Hid (av.length < 1024):=hid (by rw [List.length_drop] at hl;omega);clear hl hx;rcases hc with ⟨rfl,h1,h2⟩ | ⟨rfl,h1⟩ | ⟨hx1,hx2,h1,h2⟩
    ·
     have c4:((4:Int) == 4)=true:=rfl;have HQ:=hid (And.intro h1 h2);clear h1 h2
     go_wp2_with fail
     refine N2.out.mono ?_;rintro e w2 ⟨rfl,hr,hm⟩;have M2:=hid (HM.out.trans hm);clear hr hm
     go_wp2_with fail
     refine bodyPost_ret (v:=.tuple #[.int .i64 (off+512),.int .i64 0]) (by simp [results,Tryz.results23,go_sem]) rfl ⟨M2.out,.inr (.inr (.inl ⟨HL.out,HZ.out,HQ.out.2,HQ.out.1,rfl⟩))⟩
    ·
     have c4:((11:Int) == 4)=false:=rfl;have c11:((11:Int) == 11)=true:=rfl;have HQ:=hid h1;clear h1
     go_wp2_with fail
     refine N2.out.mono ?_;rintro e w2 ⟨rfl,hr,hm⟩;have M2:=hid (HM.out.trans hm);have O3:=hid (offset_calls w2 rb sb _ _ hr);clear hr hm
     go_wp2_with fail
     refine O3.out.mono ?_;rintro e w' ⟨rfl,rfl⟩
     go_wp2_with fail
     refine bodyPost_ret (v:=.tuple #[.int .i64 (off+512+((av.drop 512).length:Nat)),.int .i64 11]) (by simp [results,Tryz.results23,go_sem]) rfl ⟨M2.out,.inr (.inr (.inr (.inl ⟨HL.out,HZ.out,HL2.out,HQ.out,?_⟩)))⟩;have:=HL.out;rw [List.length_drop,show off+512+((av.length - 512:Nat):Int)=off+av.length by omega]
    ·
     have c4:(x == 4)=false:=beq_eq_false_iff_ne.2 hx1;have c11:(x == 11)=false:=beq_eq_false_iff_ne.2 hx2;have HQ:=hid (And.intro h1 h2);clear h1 h2
     go_wp2_with fail
     refine N2.out.mono ?_;rintro e w2 ⟨rfl,hr,hm⟩;have M2:=hid (HM.out.trans hm);clear hr hm
     go_wp2_with fail
     refine bodyPost_ret (v:=.tuple #[.int .i64 (off+512),.int .i64 18]) (by simp [results,Tryz.results23,go_sem]) rfl ⟨M2.out,.inr (.inr (.inr (.inr ⟨HL.out,HZ.out,.inr ⟨HQ.out.2,HQ.out.1⟩,rfl⟩)))⟩
   ·
    have hl2:512≤(av.drop 512).length:=by omega
    have N2:=hid (next_ok w1 rb sb _ _ ε HR.out hl2);have HL2:Hid (1024≤av.length):=hid (by rw [List.length_drop] at hl2;omega);clear hl hl2;have c11:((0:Int) == 11)=false:=rfl
    go_wp2_with fail
    refine N2.out.mono ?_;rintro e w2 ⟨g2,cap2,rfl,ho,hr,hm⟩;have M2:=hid (HM.out.trans hm);clear hr hm ho
    go_wp2_with fail
    refine bodyPost_ret (v:=.tuple #[.int .i64 (off+512),.int .i64 18]) (by simp [results,Tryz.results23,go_sem]) rfl ⟨M2.out,.inr (.inr (.inr (.inr ⟨HL.out,HZ.out,.inl HL2.out,rfl⟩)))⟩
end ZTrail
namespace ZDecB
open ZBlock ZCheck ZPay ZDHead ZMergeA ZDRecA ZFit ZDecA
open ZEntry (blkB blkB_len extH sPax blocks extended_calls)
def MergeC (h:Hdr) (l:List Rec) (S:Ent→Prop) (T:Int→Prop):Prop :=
 ∀ (v:Value) (W:World),Gl W→RecRd W v l→Calls Tryz.prog 79 #[h.val,v] W fun e w'=>Below W.heap.size W w'∧((∃ x,S x∧e=.returned (.tuple #[x.val,.int .i64 0]))∨∃ c,T c∧c≠0∧e=.returned (.tuple #[zent,.int .i64 c]))
theorem nil_rd (W:World):RecRd W (.slice none 0 0) []:=⟨none,0,rfl,Nat.le_refl _,fun h=>by cases h⟩
set_option maxHeartbeats 8000000 in
theorem dec_plain (w:World) (rb sb:Nat) (off:Int) (av:List Int) (ε:Int) (h:Rd w rb sb off av ε) (hG:Gl w) (h20:20≤w.heap.size) (hsb:20≤sb) (hav:av.length≤1000000000) (hoff:0≤off∧off≤1000000000000) (hd:Hdr) (hk:hd.Ok) (hl:512≤av.length) (hz:∃ x∈av.take 512,x≠0) (hbl:av.take 512=blkB hd) (ht:hd.typ≠120) (S:Ent→Prop) (T:Int→Prop) (hM:MergeC hd [] S T): Calls Tryz.prog 44 #[.pointer (some ⟨rb,0,none⟩)] w fun e w'=>Mo [sb,rb] w w'∧((∃ x,S x∧e=.returned (.tuple #[x.val,.int .i64 off,.int .i64 0])∧Rd w' rb sb (off+512) (av.drop 512) ε)∨∃ c,T c∧c≠0∧e=.returned (.tuple #[zent,.int .i64 off,.int .i64 c])):=by
 have D0:=hid (Dw.start h);obtain ⟨X,hX⟩:∃ X,(w.alloc (.cells ecells 54)).alloc (.cells #[.pointer (some ⟨rb,0,none⟩),.int .i64 0] 137)=X:=⟨_,rfl⟩;have R0:=hid (h.below (((Below.refl w.heap.size w).alloc (Nat.le_refl _) (.cells ecells 54)).alloc (by simp) (.cells #[.pointer (some ⟨rb,0,none⟩),.int .i64 0] 137)));rw [hX] at D0 R0;have HH:=hid (And.intro hG (And.intro h20 (And.intro hsb (And.intro hav hoff))));have HB:=hid (Str.bytes h.str);have HE:=hid (Str.eps h.str);have OC:=hid (offset_calls X rb sb off 0 R0.out.rdr);have NC:=hid (next_ok X rb sb off av ε R0.out hl);have HZ:=hid hz;have HK:=hid (And.intro hk hbl);have HM:=hid hM;clear hl hz hk hbl hM;clear h hG h20 hsb hav hoff;go_enter Tryz.func44,Tryz.ntmps44
 go_wp2_with fail
 refine OC.out.mono ?_;rintro e w' ⟨rfl,rfl⟩
 go_wp2_with fail
 refine NC.out.mono ?_;rintro e w2 ⟨g,cap,rfl,ho,hr,hm⟩;have D2:=hid (D0.out.step hm (by simp));have T2:=hid (And.intro ho hr);have ZC:=hid (ZZero.zero_calls (some ⟨g,0,none⟩) 512 cap (av.take 512) w2 ho.reads (by decide));clear ho hr hm NC
 go_wp2_with fail
 refine ZC.out.mono ?_;rintro e w3 ⟨b,rfl,hbz,rfl⟩;obtain rfl:b=false:=by
  cases b with
  | false=>rfl
  | true =>obtain ⟨x,h1,h2⟩:=HZ.out;exact absurd (hbz.1 rfl x h1) h2
 obtain ⟨q0,q1,q2⟩:=D2.out.dec.facts;have D3:=hid (D2.out.set off);have HD:=hid (ZUDec.decode_calls g cap (av.take 512) (w2.setCell ⟨w.heap.size+1,1,none⟩ (.int .i64 off)) (T2.out.1.blk (Below.heap_setCell _ _ _ _ (by
   have h1:=T2.out.1.from_;have h2:=D0.out.dec.lt;show g≠w.heap.size+1;omega))).reads (fun x hx=>HB.out x (List.mem_of_mem_take hx)) T2.out.1.le T2.out.1.max (HH.out.1.mo D3.out.mo HH.out.2.1 (by
   have h1:=D0.out.lo;have h2:=HH.out.2.2.1;simp;omega)))
 have R3:=hid (Rd.far T2.out.2 (p:=⟨w.heap.size+1,1,none⟩) (by have:=D0.out.lo;show rb < w.heap.size+1;omega) (.int .i64 off));clear hbz ZC
 go_wp2_with fail
 refine HD.out.mono ?_;rintro e w4 ⟨hb4,hres⟩;have D4:=hid (D3.out.below hb4);have R4:=hid (R3.out.below hb4);have he:e=.returned (.tuple #[hd.val,.int .i64 0]):=by
  rcases hres with ⟨h,hk,hb,he⟩ | ⟨hbad,_⟩
  ·rw [he,ZHdr.blkB_inj hk HK.out.1 (hb.symm.trans HK.out.2)]
  ·exact absurd HK.out.2 (hbad hd HK.out.1)
 subst he;obtain ⟨typ,name,pre,lk,mode,size⟩:=hd;dsimp only at ht;have bx:((0:Int) != 0)=false:=rfl;have b120:(typ == 120)=false:=beq_eq_false_iff_ne.2 ht;have BA:=hid (below_alloc (Below.refl _ w4) (.cells #[.int .u8 typ,.string name,.string pre,.string lk,.int .i64 mode,.int .i64 size] 138));have D5:=hid (D4.out.below BA.out);have R5:=hid (R4.out.below BA.out);have MC:=hid (HM.out (.slice none 0 0) (w4.alloc (.cells #[.int .u8 typ,.string name,.string pre,.string lk,.int .i64 mode,.int .i64 size] 138)) (HH.out.1.mo D5.out.mo HH.out.2.1 (by
   have h1:=D0.out.lo;have h2:=HH.out.2.2.1;simp;omega)) (nil_rd _))
 clear hres hb4 HD ht q0 q1 q2;unfold Hdr.val Hdr.cells at *;dsimp only at *
 go_wp2_with fail
 refine MC.out.mono ?_;rintro e w6 ⟨hb6,hres⟩;have D6:=hid (D5.out.below hb6);have R6:=hid (R5.out.below hb6);have HRES:=hid hres;clear hb6 hres MC;rcases HRES.out with ⟨x,hs,rfl⟩ | ⟨c,hc,hc0,rfl⟩
 ·
  have HS:=hid hs;clear hs HRES;obtain ⟨kind,path,m2,tgt,sz⟩:=x;have BB:=hid (below_alloc (Below.refl _ w6) (.cells #[.int .i64 kind,.string path,.int .i64 m2,.string tgt,.int .i64 sz] 54));have D7:=hid (D6.out.below BB.out);have R7:=hid (R6.out.below BB.out);obtain ⟨⟨y0,y1,y2,y3,y4⟩,z0,z1,z2,z3,z4⟩:=D7.out.facts;unfold Ent.val Ent.cells;dsimp only
  go_wp2_with fail
  refine bodyPost_ret (v:=.tuple #[(⟨kind,path,m2,tgt,sz⟩:Ent).val,.int .i64 off,.int .i64 0]) (by simp [results,Tryz.results44,go_sem,Ent.val,Ent.cells,y0,y1,y2,y3,y4,z0,z1,z2,z3,z4]) rfl ⟨D7.out.five _ _ _ _ _,.inl ⟨_,HS.out,rfl,?_⟩⟩;exact R7.out.step fun k hk=>five_keep _ _ _ (by have:=D7.out.lo;omega) _ _ _ _ _
 ·
  have HC:=hid (And.intro hc hc0);have bc:(c != 0)=true:=by rw [bne_iff_ne];exact hc0
  clear hc hc0 HRES;have BB:=hid (below_alloc (Below.refl _ w6) (.cells ecells 54));have D7:=hid (D6.out.below BB.out);obtain ⟨⟨y0,y1,y2,y3,y4⟩,z0,z1,z2,z3,z4⟩:=D7.out.facts;obtain ⟨q0,q1,q2⟩:=D7.out.dec.facts
  go_wp2_with fail
  go_region
  all_goals
   go_wp2_with fail
   refine bodyPost_ret (v:=.tuple #[zent,.int .i64 off,.int .i64 c]) (by simp [results,Tryz.results44,go_sem,y0,y1,y2,y3,y4,z0,z1,z2,z3,z4]) rfl ⟨?_,.inr ⟨c,HC.out.1,HC.out.2,rfl⟩⟩;exact (D7.out.below (Below.refl _ _).drew).five _ _ _ _ _
end ZDecB
namespace ZDecC
open ZBlock ZCheck ZPay ZDHead ZMergeA ZDRecA ZFit ZDecA ZDecB
open ZEntry (blkB blkB_len extH sPax blocks extended_calls)
end ZDecC
namespace ZDecD
open ZBlock ZCheck ZPay ZDHead ZMergeA ZDRecA ZFit ZDecA ZDecB
open ZEntry (blkB blkB_len extH sPax blocks extended_calls)
set_option maxHeartbeats 8000000 in
theorem dec_paxA (w:World) (rb sb:Nat) (off:Int) (av:List Int) (ε:Int) (h:Rd w rb sb off av ε) (hG:Gl w) (h20:20≤w.heap.size) (hsb:20≤sb) (hav:av.length≤1000000000) (hoff:0≤off∧off≤1000000000000) (n:Nat) (h1:1≤n) (h2:n≤262144) (hl:512≤av.length) (hz:∃ x∈av.take 512,x≠0) (hbl:av.take 512=blkB (extH n)) (S:List Rec→Prop) (T:Int→Int→Prop) (hP:blocks n * 512≤(av.drop 512).length→(∀ x∈((av.drop 512).take (blocks n * 512)).drop n,x=0)→ParseC ((av.drop 512).take n) S T) (hS:∀ l,¬ S l): Calls Tryz.prog 44 #[.pointer (some ⟨rb,0,none⟩)] w fun e w'=>Mo [sb,rb] w w' ∧ ((av.drop 512).length < blocks n * 512∧e=.returned (.tuple #[zent,.int .i64 (off+av.length),.int .i64 (cutE ε)]) ∨ (blocks n * 512≤(av.drop 512).length∧(∃ x∈((av.drop 512).take (blocks n * 512)).drop n,x≠0)∧∃ a:Int,e=.returned (.tuple #[zent,.int .i64 a,.int .i64 10])) ∨ (blocks n * 512≤(av.drop 512).length∧(∀ x∈((av.drop 512).take (blocks n * 512)).drop n,x=0)∧∃ m x:Int,T m x∧x≠0∧e=.returned (.tuple #[zent,.int .i64 (off+512+m),.int .i64 x]))):=by
 have D0:=hid (Dw.start h);obtain ⟨X,hX⟩:∃ X,(w.alloc (.cells ecells 54)).alloc (.cells #[.pointer (some ⟨rb,0,none⟩),.int .i64 0] 137)=X:=⟨_,rfl⟩;have R0:=hid (h.below (((Below.refl w.heap.size w).alloc (Nat.le_refl _) (.cells ecells 54)).alloc (by simp) (.cells #[.pointer (some ⟨rb,0,none⟩),.int .i64 0] 137)));rw [hX] at D0 R0;have HH:=hid (And.intro hG (And.intro h20 (And.intro hsb (And.intro hav hoff))));have HB:=hid (Str.bytes h.str);have HE:=hid (Str.eps h.str);have OC:=hid (offset_calls X rb sb off 0 R0.out.rdr);have hk:(extH n).Ok:=ZEntry.extH_ok n (by omega) (by omega);have NC:=hid (next_ok X rb sb off av ε R0.out hl);have HZ:=hid hz;have HK:=hid (And.intro hk hbl);have HP:=hid hP;have HN:=hid (And.intro h1 h2);have HS:=hid hS;clear hS;clear hl hz hk hbl hP h1 h2;clear h hG h20 hsb hav hoff;go_enter Tryz.func44,Tryz.ntmps44
 go_wp2_with fail
 refine OC.out.mono ?_;rintro e w' ⟨rfl,rfl⟩
 go_wp2_with fail
 refine NC.out.mono ?_;rintro e w2 ⟨g,cap,rfl,ho,hr,hm⟩;have D2:=hid (D0.out.step hm (by simp));have T2:=hid (And.intro ho hr);have ZC:=hid (ZZero.zero_calls (some ⟨g,0,none⟩) 512 cap (av.take 512) w2 ho.reads (by decide));clear ho hr hm NC
 go_wp2_with fail
 refine ZC.out.mono ?_;rintro e w3 ⟨b,rfl,hbz,rfl⟩;obtain rfl:b=false:=by
  cases b with
  | false=>rfl
  | true =>obtain ⟨x,h1,h2⟩:=HZ.out;exact absurd (hbz.1 rfl x h1) h2
 obtain ⟨q0,q1,q2⟩:=D2.out.dec.facts;have D3:=hid (D2.out.set off);have HD:=hid (ZUDec.decode_calls g cap (av.take 512) (w2.setCell ⟨w.heap.size+1,1,none⟩ (.int .i64 off)) (T2.out.1.blk (Below.heap_setCell _ _ _ _ (by
   have h1:=T2.out.1.from_;have h2:=D0.out.dec.lt;show g≠w.heap.size+1;omega))).reads (fun x hx=>HB.out x (List.mem_of_mem_take hx)) T2.out.1.le T2.out.1.max (HH.out.1.mo D3.out.mo HH.out.2.1 (by
   have h1:=D0.out.lo;have h2:=HH.out.2.2.1;simp;omega)))
 have R3:=hid (Rd.far T2.out.2 (p:=⟨w.heap.size+1,1,none⟩) (by have:=D0.out.lo;show rb < w.heap.size+1;omega) (.int .i64 off));clear hbz ZC
 go_wp2_with fail
 refine HD.out.mono ?_;rintro e w4 ⟨hb4,hres⟩;have D4:=hid (D3.out.below hb4);have R4:=hid (R3.out.below hb4);have he:e=.returned (.tuple #[(extH n).val,.int .i64 0]):=by
  rcases hres with ⟨h,hk,hb,he⟩ | ⟨hbad,_⟩
  ·rw [he,ZHdr.blkB_inj hk HK.out.1 (hb.symm.trans HK.out.2)]
  ·exact absurd HK.out.2 (hbad (extH n) HK.out.1)
 subst he;have bx:((0:Int) != 0)=false:=rfl;have BA:=hid (below_alloc (Below.refl _ w4) (.cells #[.int .u8 120,.string ⟨#[112,97,120]⟩,.string ⟨#[]⟩,.string ⟨#[]⟩,.int .i64 0,.int .i64 n] 138));have D5:=hid (D4.out.below BA.out);have R5:=hid (R4.out.below BA.out);have G5:Hid (∀ W a,Dw w W rb sb a→Gl W):=hid (fun W a hd=>HH.out.1.mo hd.mo HH.out.2.1 (by
   have h1:=D0.out.lo;have h2:=HH.out.2.2.1;simp;omega))
 have b120:((120:Int) == 120)=true:=rfl;have AC:=hid (ZDRec.accept (w4.alloc (.cells #[.int .u8 120,.string ⟨#[112,97,120]⟩,.string ⟨#[]⟩,.string ⟨#[]⟩,.int .i64 0,.int .i64 n] 138)) (w.heap.size+1) rb sb (off+512) off (av.drop 512) ε R5.out D5.out.dec (by have:=D0.out.lo;omega) (G5.out _ _ D5.out) (by
   have h1:=HH.out.2.1;have h2:=D5.out.mo.size;omega) HH.out.2.2.1 n HN.out.1 HN.out.2 (by have:=HH.out.2.2.2.1;rw [List.length_drop];omega) (by have:=HH.out.2.2.2.2;omega) S T HP.out)
 clear hres hb4 HD q0 q1 q2;unfold extH sPax Hdr.val Hdr.cells;dsimp only
 go_wp2_with fail
 refine AC.out.mono ?_;rintro e w6 ⟨hm6,hres⟩;rcases hres with ⟨p1,rfl,p3,p4⟩ | ⟨p1,p2,rfl,⟨a,p3⟩,p4⟩ | ⟨p1,p2,⟨m,x,p3,p4,rfl,p5⟩,p6⟩ | ⟨_,_,⟨l,v,hs,_⟩,_⟩
 ·
  have D6:=hid (D5.out.more hm6 p3);have hat:off+512+((av.drop 512).length:Int)=off+av.length:=by have:=HK.out.2;have h3:=congrArg List.length this;rw [List.length_take,blkB_len HK.out.1] at h3;rw [List.length_drop];omega
  rw [hat] at D6;have HR:=hid p1;have hc0:cutE ε≠0:=by rcases HE.out with rfl | rfl <;> decide
  obtain ⟨c,hc⟩:∃ c,cutE ε=c:=⟨_,rfl⟩;rw [hc] at hc0 ⊢;have HCC:=hid hc;have bc:(c != 0)=true:=by rw [bne_iff_ne];exact hc0
  clear p1 p3 p4 hm6 AC hat hc hc0;obtain ⟨⟨y0,y1,y2,y3,y4⟩,z0,z1,z2,z3,z4⟩:=D6.out.facts;obtain ⟨q0,q1,q2⟩:=D6.out.dec.facts
  go_wp2_with fail
  go_region
  all_goals
   go_wp2_with fail
   refine bodyPost_ret (v:=.tuple #[zent,.int .i64 (off+av.length),.int .i64 c]) (by simp [results,Tryz.results44,go_sem,y0,y1,y2,y3,y4,z0,z1,z2,z3,z4]) rfl ⟨?_,.inl ⟨HR.out,by rw [HCC.out]⟩⟩;exact (D6.out.below (Below.refl _ _).drew).five _ _ _ _ _
 ·
  have D6:=hid (D5.out.more hm6 p3);have HR:=hid (And.intro p1 p2);have bc:((10:Int) != 0)=true:=rfl;clear p1 p2 p3 p4 hm6 AC;obtain ⟨⟨y0,y1,y2,y3,y4⟩,z0,z1,z2,z3,z4⟩:=D6.out.facts;obtain ⟨q0,q1,q2⟩:=D6.out.dec.facts
  go_wp2_with fail
  go_region
  all_goals
   go_wp2_with fail
   refine bodyPost_ret (v:=.tuple #[zent,.int .i64 (a),.int .i64 10]) (by simp [results,Tryz.results44,go_sem,y0,y1,y2,y3,y4,z0,z1,z2,z3,z4]) rfl ⟨?_,.inr (.inl ⟨HR.out.1,HR.out.2,a,rfl⟩)⟩;exact (D6.out.below (Below.refl _ _).drew).five _ _ _ _ _
 ·
  have D6:=hid (D5.out.more hm6 p5);have HR:=hid (And.intro p1 (And.intro p2 (And.intro p3 p4)));have bc:(x != 0)=true:=by rw [bne_iff_ne];exact p4
  clear p1 p2 p3 p4 p5 p6 hm6 AC;obtain ⟨⟨y0,y1,y2,y3,y4⟩,z0,z1,z2,z3,z4⟩:=D6.out.facts;obtain ⟨q0,q1,q2⟩:=D6.out.dec.facts
  go_wp2_with fail
  go_region
  all_goals
   go_wp2_with fail
   refine bodyPost_ret (v:=.tuple #[zent,.int .i64 (off+512+m),.int .i64 x]) (by simp [results,Tryz.results44,go_sem,y0,y1,y2,y3,y4,z0,z1,z2,z3,z4]) rfl ⟨?_,.inr (.inr ⟨HR.out.1,HR.out.2.1,m,x,HR.out.2.2.1,HR.out.2.2.2,rfl⟩)⟩;exact (D6.out.below (Below.refl _ _).drew).five _ _ _ _ _
 ·exact absurd hs (HS.out l)
end ZDecD
namespace ZDecE
open ZBlock ZCheck ZPay ZDHead ZMergeA ZDRecA ZFit ZDecA ZDecB
open ZEntry (blkB blkB_len extH sPax blocks extended_calls)
set_option maxHeartbeats 8000000 in
theorem dec_paxE (w:World) (rb sb:Nat) (off:Int) (av:List Int) (ε:Int) (h:Rd w rb sb off av ε) (hG:Gl w) (h20:20≤w.heap.size) (hsb:20≤sb) (hav:av.length≤1000000000) (hoff:0≤off∧off≤1000000000000) (n:Nat) (h1:1≤n) (h2:n≤262144) (hl:512≤av.length) (hz:∃ x∈av.take 512,x≠0) (hbl:av.take 512=blkB (extH n)) (S:List Rec→Prop) (T:Int→Int→Prop) (hP:blocks n * 512≤(av.drop 512).length→(∀ x∈((av.drop 512).take (blocks n * 512)).drop n,x=0)→ParseC ((av.drop 512).take n) S T) (kk:Nat) (hkk:blocks n * 512=kk) (hK:kk≤(av.drop 512).length) (h0:∀ x∈((av.drop 512).take kk).drop n,x=0) (hT:∀ m x,¬ T m x) (hc:((av.drop 512).drop kk).length < 512): Calls Tryz.prog 44 #[.pointer (some ⟨rb,0,none⟩)] w fun e w'=>Mo [sb,rb] w w'∧(∃ l,S l)∧e=.returned (.tuple #[zent,.int .i64 (off+av.length),.int .i64 (cutE ε)]):=by
 have D0:=hid (Dw.start h);obtain ⟨X,hX⟩:∃ X,(w.alloc (.cells ecells 54)).alloc (.cells #[.pointer (some ⟨rb,0,none⟩),.int .i64 0] 137)=X:=⟨_,rfl⟩;have R0:=hid (h.below (((Below.refl w.heap.size w).alloc (Nat.le_refl _) (.cells ecells 54)).alloc (by simp) (.cells #[.pointer (some ⟨rb,0,none⟩),.int .i64 0] 137)));rw [hX] at D0 R0;have HH:=hid (And.intro hG (And.intro h20 (And.intro hsb (And.intro hav hoff))));have HB:=hid (Str.bytes h.str);have HE:=hid (Str.eps h.str);have OC:=hid (offset_calls X rb sb off 0 R0.out.rdr);have hk:(extH n).Ok:=ZEntry.extH_ok n (by omega) (by omega);have NC:=hid (next_ok X rb sb off av ε R0.out hl);have HZ:=hid hz;have HK:=hid (And.intro hk hbl);have HP:=hid hP;have HN:=hid (And.intro h1 h2);have HT:=hid hT;have H0:=hid (And.intro hK h0);have HKK:=hid hkk;have HCUT:=hid hc;clear hc;clear hT hK h0 hkk;clear hl hz hk hbl hP h1 h2;clear h hG h20 hsb hav hoff;go_enter Tryz.func44,Tryz.ntmps44
 go_wp2_with fail
 refine OC.out.mono ?_;rintro e w' ⟨rfl,rfl⟩
 go_wp2_with fail
 refine NC.out.mono ?_;rintro e w2 ⟨g,cap,rfl,ho,hr,hm⟩;have D2:=hid (D0.out.step hm (by simp));have T2:=hid (And.intro ho hr);have ZC:=hid (ZZero.zero_calls (some ⟨g,0,none⟩) 512 cap (av.take 512) w2 ho.reads (by decide));clear ho hr hm NC
 go_wp2_with fail
 refine ZC.out.mono ?_;rintro e w3 ⟨b,rfl,hbz,rfl⟩;obtain rfl:b=false:=by
  cases b with
  | false=>rfl
  | true =>obtain ⟨x,h1,h2⟩:=HZ.out;exact absurd (hbz.1 rfl x h1) h2
 obtain ⟨q0,q1,q2⟩:=D2.out.dec.facts;have D3:=hid (D2.out.set off);have HD:=hid (ZUDec.decode_calls g cap (av.take 512) (w2.setCell ⟨w.heap.size+1,1,none⟩ (.int .i64 off)) (T2.out.1.blk (Below.heap_setCell _ _ _ _ (by
   have h1:=T2.out.1.from_;have h2:=D0.out.dec.lt;show g≠w.heap.size+1;omega))).reads (fun x hx=>HB.out x (List.mem_of_mem_take hx)) T2.out.1.le T2.out.1.max (HH.out.1.mo D3.out.mo HH.out.2.1 (by
   have h1:=D0.out.lo;have h2:=HH.out.2.2.1;simp;omega)))
 have R3:=hid (Rd.far T2.out.2 (p:=⟨w.heap.size+1,1,none⟩) (by have:=D0.out.lo;show rb < w.heap.size+1;omega) (.int .i64 off));clear hbz ZC
 go_wp2_with fail
 refine HD.out.mono ?_;rintro e w4 ⟨hb4,hres⟩;have D4:=hid (D3.out.below hb4);have R4:=hid (R3.out.below hb4);have he:e=.returned (.tuple #[(extH n).val,.int .i64 0]):=by
  rcases hres with ⟨h,hk,hb,he⟩ | ⟨hbad,_⟩
  ·rw [he,ZHdr.blkB_inj hk HK.out.1 (hb.symm.trans HK.out.2)]
  ·exact absurd HK.out.2 (hbad (extH n) HK.out.1)
 subst he;have bx:((0:Int) != 0)=false:=rfl;have BA:=hid (below_alloc (Below.refl _ w4) (.cells #[.int .u8 120,.string ⟨#[112,97,120]⟩,.string ⟨#[]⟩,.string ⟨#[]⟩,.int .i64 0,.int .i64 n] 138));have D5:=hid (D4.out.below BA.out);have R5:=hid (R4.out.below BA.out);have G5:Hid (∀ W a,Dw w W rb sb a→Gl W):=hid (fun W a hd=>HH.out.1.mo hd.mo HH.out.2.1 (by
   have h1:=D0.out.lo;have h2:=HH.out.2.2.1;simp;omega))
 have b120:((120:Int) == 120)=true:=rfl;have AC:=hid (ZDRec.accept (w4.alloc (.cells #[.int .u8 120,.string ⟨#[112,97,120]⟩,.string ⟨#[]⟩,.string ⟨#[]⟩,.int .i64 0,.int .i64 n] 138)) (w.heap.size+1) rb sb (off+512) off (av.drop 512) ε R5.out D5.out.dec (by have:=D0.out.lo;omega) (G5.out _ _ D5.out) (by
   have h1:=HH.out.2.1;have h2:=D5.out.mo.size;omega) HH.out.2.2.1 n HN.out.1 HN.out.2 (by have:=HH.out.2.2.2.1;rw [List.length_drop];omega) (by have:=HH.out.2.2.2.2;omega) S T HP.out)
 clear hres hb4 HD q0 q1 q2;unfold RecPost at AC;rw [HKK.out] at AC;unfold extH sPax Hdr.val Hdr.cells;dsimp only
 go_wp2_with fail
 refine AC.out.mono ?_;rintro e w6 ⟨hm6,hres⟩;rcases hres with ⟨p1,_⟩ | ⟨_,⟨x,p2,p3⟩,_⟩ | ⟨_,_,⟨m,x,p3,_⟩,_⟩ | ⟨p1,p2,⟨l,v,p3,rfl,p4⟩,p5,p6⟩
 ·exact absurd H0.out.1 (by omega)
 ·exact absurd (H0.out.2 x p2) p3
 ·exact absurd p3 (HT.out m x)
 obtain ⟨hx,hhx⟩:∃ k,w4.heap.size=k:=⟨_,rfl⟩;have D6:=hid (D5.out.more hm6 p5);have K6:Hid (w6.heap[hx]?=some (.cells #[.int .u8 120,.string ⟨#[112,97,120]⟩,.string ⟨#[]⟩,.string ⟨#[]⟩,.int .i64 0,.int .i64 n] 138 (0,0))∧w.heap.size+1 < hx):=hid (by
  have h1:=D4.out.dec.lt;have h2:=D4.out.lo;have h3:(w4.alloc (.cells #[.int .u8 120,.string ⟨#[112,97,120]⟩,.string ⟨#[]⟩,.string ⟨#[]⟩,.int .i64 0,.int .i64 n] 138)).heap.size=w4.heap.size+1:=by simp
  refine ⟨(hm6.keep hx (by omega) (by simp;omega)).trans ?_,by omega⟩;rw [← hhx];exact heap_alloc_new _ _)
 have R6:=hid p6;have V6:=hid (And.intro p3 p4);rw [hhx];clear p1 p2 p3 p4 p5 p6 hm6 AC hhx
 go_wp2_with fail
 have HC:=hid (ZDHead.header_calls w6 (w.heap.size+1) rb sb _ _ _ ε R6.out D6.out.dec (by have:=D0.out.lo;omega) (G5.out _ _ D6.out) (by
   have h1:=HH.out.2.1;have h2:=D6.out.mo.size;omega) HH.out.2.2.1)
 refine HC.out.mono ?_;rintro e w7 ⟨hm7,hres⟩;have K7:=hid ((hm7.keep hx (blk_lt K6.out.1) (by have h1:=K6.out.2;have h2:=D0.out.lo;simp;omega)).trans K6.out.1);have Z7:Hid ((w7.cell? ⟨hx,0,none⟩=some (.int .u8 120)∧w7.cell? ⟨hx,1,none⟩=some (.string ⟨#[112,97,120]⟩)∧w7.cell? ⟨hx,2,none⟩=some (.string ⟨#[]⟩)∧w7.cell? ⟨hx,3,none⟩=some (.string ⟨#[]⟩)∧w7.cell? ⟨hx,4,none⟩=some (.int .i64 0)∧w7.cell? ⟨hx,5,none⟩=some (.int .i64 n)) ∧
  (w7.frozen? ⟨hx,0,none⟩=false∧w7.frozen? ⟨hx,1,none⟩=false∧w7.frozen? ⟨hx,2,none⟩=false∧w7.frozen? ⟨hx,3,none⟩=false∧w7.frozen? ⟨hx,4,none⟩=false∧w7.frozen? ⟨hx,5,none⟩=false)):=hid (by
  refine ⟨⟨row_cell K7.out 0 _ rfl,row_cell K7.out 1 _ rfl,row_cell K7.out 2 _ rfl,row_cell K7.out 3 _ rfl,row_cell K7.out 4 _ rfl,row_cell K7.out 5 _ rfl⟩,?_,?_,?_,?_,?_,?_⟩ <;> simp [World.frozen?,K7.out])
 have SIX:Hid (∀ a v0 v1 v2 v3 v4 v5,Dw w w7 rb sb a→Dw w ((((((w7.setCell ⟨hx,0,none⟩ v0).setCell ⟨hx,1,none⟩ v1).setCell ⟨hx,2,none⟩ v2).setCell ⟨hx,3,none⟩ v3).setCell ⟨hx,4,none⟩ v4).setCell ⟨hx,5,none⟩ v5) rb sb a):=hid (fun a v0 v1 v2 v3 v4 v5 hd=>by have h1:=K6.out.2;exact ⟨six_mo hd.mo hx (by omega) _ _ _ _ _ _,(six_keep _ _ _ (by omega) _ _ _ _ _ _).trans hd.box,hd.dec.of (six_keep _ _ _ (by omega) _ _ _ _ _ _),hd.lo⟩)
 obtain ⟨⟨s0,s1,s2,s3,s4,s5⟩,t0,t1,t2,t3,t4,t5⟩:=Z7.out;have HAV:Hid (off+512+(kk:Int)+(((av.drop 512).drop kk).length:Int)=off+av.length):=hid (by
  have h3:=congrArg List.length HK.out.2;have h4:=H0.out.1;rw [List.length_take,blkB_len HK.out.1] at h3;rw [List.length_drop] at h4;rw [List.length_drop,List.length_drop];omega)
 rcases hres with ⟨p1,rfl,p3,p4⟩ | ⟨p1,_⟩ | ⟨p1,_⟩
 ·
  have D7:=hid (D6.out.more hm7 p3);rw [HAV.out] at D7;have HCE:Hid (∃ c,cutE ε=c∧(endE ((av.drop 512).drop kk).length ε=4∧c=5∨endE ((av.drop 512).drop kk).length ε=c∧c≠0∧c≠4)):=hid ⟨_,rfl,by
   rcases HE.out with rfl | rfl
   ·
    by_cases hz:0 < ((av.drop 512).drop kk).length
    ·exact .inr ⟨by rw [endE,if_pos ⟨rfl,hz⟩];rfl,by decide,by decide⟩
    ·exact .inl ⟨by rw [endE,if_neg (fun h=>hz h.2)],rfl⟩
   ·exact .inr ⟨by rw [endE,if_neg (fun h=>absurd h.1 (by decide))];rfl,by decide,by decide⟩⟩
  clear p1 p3 p4 hm7 HC;obtain ⟨c,hcc,hcx⟩:=HCE.out;have HCC:=hid hcc;unfold zhdr Hdr.val Hdr.cells;dsimp only;have D8:=hid (SIX.out _ (.int .u8 0) (.string ⟨#[]⟩) (.string ⟨#[]⟩) (.string ⟨#[]⟩) (.int .i64 0) (.int .i64 0) D7.out);clear hcc HCE;obtain ⟨W8,hW8⟩:∃ Y,(((((w7.setCell ⟨hx,0,none⟩ (.int .u8 0)).setCell ⟨hx,1,none⟩ (.string ⟨#[]⟩)).setCell ⟨hx,2,none⟩ (.string ⟨#[]⟩)).setCell ⟨hx,3,none⟩ (.string ⟨#[]⟩)).setCell ⟨hx,4,none⟩ (.int .i64 0)).setCell ⟨hx,5,none⟩ (.int .i64 0)=Y:=⟨_,rfl⟩;rw [hW8] at D8;rcases hcx with ⟨hx1,rfl⟩ | ⟨hx1,hx2,hx3⟩
  ·
   rw [hx1];clear hx1;have b4:((4:Int) == 4)=true:=rfl;obtain ⟨⟨y0,y1,y2,y3,y4⟩,z0,z1,z2,z3,z4⟩:=D8.out.facts;obtain ⟨q0,q1,q2⟩:=D8.out.dec.facts
   go_wp2_with fail
   go_region
   all_goals
    go_wp2_with fail
    refine bodyPost_ret (v:=.tuple #[zent,.int .i64 (off+av.length),.int .i64 5]) (by simp [results,Tryz.results44,go_sem,y0,y1,y2,y3,y4,z0,z1,z2,z3,z4]) rfl ⟨?_,⟨l,V6.out.1⟩,by rw [HCC.out]⟩;exact (D8.out.below (Below.refl _ _).drew).five _ _ _ _ _
  ·
   rw [hx1];have b4:(c == 4)=false:=beq_eq_false_iff_ne.2 hx3;have bc:(c != 0)=true:=by rw [bne_iff_ne];exact hx2
   clear hx1 hx2 hx3;obtain ⟨⟨y0,y1,y2,y3,y4⟩,z0,z1,z2,z3,z4⟩:=D8.out.facts;obtain ⟨q0,q1,q2⟩:=D8.out.dec.facts
   go_wp2_with fail
   go_region
   all_goals
    go_wp2_with fail
    refine bodyPost_ret (v:=.tuple #[zent,.int .i64 (off+av.length),.int .i64 c]) (by simp [results,Tryz.results44,go_sem,y0,y1,y2,y3,y4,z0,z1,z2,z3,z4]) rfl ⟨?_,⟨l,V6.out.1⟩,by rw [HCC.out]⟩;exact (D8.out.below (Below.refl _ _).drew).five _ _ _ _ _
 ·exact absurd p1 (by have:=HCUT.out;omega)
 ·exact absurd p1 (by have:=HCUT.out;omega)
end ZDecE
namespace ZDecF
open ZBlock ZCheck ZPay ZDHead ZMergeA ZDRecA ZFit ZDecA ZDecB
open ZEntry (blkB blkB_len extH sPax blocks extended_calls)
end ZDecF
namespace ZDecG
open ZBlock ZCheck ZPay ZDHead ZMergeA ZDRecA ZFit ZDecA ZDecB
open ZEntry (blkB blkB_len extH sPax blocks extended_calls)
set_option maxHeartbeats 8000000 in
theorem dec_paxG (w:World) (rb sb:Nat) (off:Int) (av:List Int) (ε:Int) (h:Rd w rb sb off av ε) (hG:Gl w) (h20:20≤w.heap.size) (hsb:20≤sb) (hav:av.length≤1000000000) (hoff:0≤off∧off≤1000000000000) (n:Nat) (h1:1≤n) (hn2:n≤262144) (hl:512≤av.length) (hz:∃ x∈av.take 512,x≠0) (hbl:av.take 512=blkB (extH n)) (S:List Rec→Prop) (T:Int→Int→Prop) (hP:blocks n * 512≤(av.drop 512).length→(∀ x∈((av.drop 512).take (blocks n * 512)).drop n,x=0)→ParseC ((av.drop 512).take n) S T) (kk:Nat) (hkk:blocks n * 512=kk) (hK:kk≤(av.drop 512).length) (h0:∀ x∈((av.drop 512).take kk).drop n,x=0) (hT:∀ m x,¬ T m x) (h2:Hdr) (hk2:h2.Ok) (hc:512≤((av.drop 512).drop kk).length) (hb2:((av.drop 512).drop kk).take 512=blkB h2) (S2:List Rec→Ent→Prop) (T2:List Rec→Int→Prop) (hM:∀ l,S l→MergeC h2 l (S2 l) (T2 l)): Calls Tryz.prog 44 #[.pointer (some ⟨rb,0,none⟩)] w fun e w'=>Mo [sb,rb] w w'∧∃ l,S l∧((∃ x,S2 l x∧e=.returned (.tuple #[x.val,.int .i64 off,.int .i64 0])∧Rd w' rb sb (off+512+kk+512) (((av.drop 512).drop kk).drop 512) ε)∨∃ c,T2 l c∧c≠0∧e=.returned (.tuple #[zent,.int .i64 (off+512+kk),.int .i64 c])):=by
 have D0:=hid (Dw.start h);obtain ⟨X,hX⟩:∃ X,(w.alloc (.cells ecells 54)).alloc (.cells #[.pointer (some ⟨rb,0,none⟩),.int .i64 0] 137)=X:=⟨_,rfl⟩;have R0:=hid (h.below (((Below.refl w.heap.size w).alloc (Nat.le_refl _) (.cells ecells 54)).alloc (by simp) (.cells #[.pointer (some ⟨rb,0,none⟩),.int .i64 0] 137)));rw [hX] at D0 R0;have HH:=hid (And.intro hG (And.intro h20 (And.intro hsb (And.intro hav hoff))));have HB:=hid (Str.bytes h.str);have HE:=hid (Str.eps h.str);have OC:=hid (offset_calls X rb sb off 0 R0.out.rdr);have hk:(extH n).Ok:=ZEntry.extH_ok n (by omega) (by omega);have NC:=hid (next_ok X rb sb off av ε R0.out hl);have HZ:=hid hz;have HK:=hid (And.intro hk hbl);have HP:=hid hP;have HN:=hid (And.intro h1 hn2);have HT:=hid hT;have H0:=hid (And.intro hK h0);have HKK:=hid hkk;have HCUT:=hid (And.intro hc (And.intro hk2 hb2));have HM:=hid hM;clear hc hk2 hb2 hM;clear hT hK h0 hkk;clear hl hz hk hbl hP h1 hn2;clear h hG h20 hsb hav hoff;go_enter Tryz.func44,Tryz.ntmps44
 go_wp2_with fail
 refine OC.out.mono ?_;rintro e w' ⟨rfl,rfl⟩
 go_wp2_with fail
 refine NC.out.mono ?_;rintro e w2 ⟨g,cap,rfl,ho,hr,hm⟩;have D2:=hid (D0.out.step hm (by simp));have T2:=hid (And.intro ho hr);have ZC:=hid (ZZero.zero_calls (some ⟨g,0,none⟩) 512 cap (av.take 512) w2 ho.reads (by decide));clear ho hr hm NC
 go_wp2_with fail
 refine ZC.out.mono ?_;rintro e w3 ⟨b,rfl,hbz,rfl⟩;obtain rfl:b=false:=by
  cases b with
  | false=>rfl
  | true =>obtain ⟨x,h1,h2⟩:=HZ.out;exact absurd (hbz.1 rfl x h1) h2
 obtain ⟨q0,q1,q2⟩:=D2.out.dec.facts;have D3:=hid (D2.out.set off);have HD:=hid (ZUDec.decode_calls g cap (av.take 512) (w2.setCell ⟨w.heap.size+1,1,none⟩ (.int .i64 off)) (T2.out.1.blk (Below.heap_setCell _ _ _ _ (by
   have h1:=T2.out.1.from_;have h2:=D0.out.dec.lt;show g≠w.heap.size+1;omega))).reads (fun x hx=>HB.out x (List.mem_of_mem_take hx)) T2.out.1.le T2.out.1.max (HH.out.1.mo D3.out.mo HH.out.2.1 (by
   have h1:=D0.out.lo;have h2:=HH.out.2.2.1;simp;omega)))
 have R3:=hid (Rd.far T2.out.2 (p:=⟨w.heap.size+1,1,none⟩) (by have:=D0.out.lo;show rb < w.heap.size+1;omega) (.int .i64 off));clear hbz ZC
 go_wp2_with fail
 refine HD.out.mono ?_;rintro e w4 ⟨hb4,hres⟩;have D4:=hid (D3.out.below hb4);have R4:=hid (R3.out.below hb4);have he:e=.returned (.tuple #[(extH n).val,.int .i64 0]):=by
  rcases hres with ⟨h,hk,hb,he⟩ | ⟨hbad,_⟩
  ·rw [he,ZHdr.blkB_inj hk HK.out.1 (hb.symm.trans HK.out.2)]
  ·exact absurd HK.out.2 (hbad (extH n) HK.out.1)
 subst he;have bx:((0:Int) != 0)=false:=rfl;have BA:=hid (below_alloc (Below.refl _ w4) (.cells #[.int .u8 120,.string ⟨#[112,97,120]⟩,.string ⟨#[]⟩,.string ⟨#[]⟩,.int .i64 0,.int .i64 n] 138));have D5:=hid (D4.out.below BA.out);have R5:=hid (R4.out.below BA.out);have G5:Hid (∀ W a,Dw w W rb sb a→Gl W):=hid (fun W a hd=>HH.out.1.mo hd.mo HH.out.2.1 (by
   have h1:=D0.out.lo;have h2:=HH.out.2.2.1;simp;omega))
 have b120:((120:Int) == 120)=true:=rfl;have AC:=hid (ZDRec.accept (w4.alloc (.cells #[.int .u8 120,.string ⟨#[112,97,120]⟩,.string ⟨#[]⟩,.string ⟨#[]⟩,.int .i64 0,.int .i64 n] 138)) (w.heap.size+1) rb sb (off+512) off (av.drop 512) ε R5.out D5.out.dec (by have:=D0.out.lo;omega) (G5.out _ _ D5.out) (by
   have h1:=HH.out.2.1;have h2:=D5.out.mo.size;omega) HH.out.2.2.1 n HN.out.1 HN.out.2 (by have:=HH.out.2.2.2.1;rw [List.length_drop];omega) (by have:=HH.out.2.2.2.2;omega) S T HP.out)
 clear hres hb4 HD q0 q1 q2;unfold RecPost at AC;rw [HKK.out] at AC;unfold extH sPax Hdr.val Hdr.cells;dsimp only
 go_wp2_with fail
 refine AC.out.mono ?_;rintro e w6 ⟨hm6,hres⟩;rcases hres with ⟨p1,_⟩ | ⟨_,⟨x,p2,p3⟩,_⟩ | ⟨_,_,⟨m,x,p3,_⟩,_⟩ | ⟨p1,p2,⟨l,v,p3,rfl,p4⟩,p5,p6⟩
 ·exact absurd H0.out.1 (by omega)
 ·exact absurd (H0.out.2 x p2) p3
 ·exact absurd p3 (HT.out m x)
 obtain ⟨hx,hhx⟩:∃ k,w4.heap.size=k:=⟨_,rfl⟩;have D6:=hid (D5.out.more hm6 p5);have K6:Hid (w6.heap[hx]?=some (.cells #[.int .u8 120,.string ⟨#[112,97,120]⟩,.string ⟨#[]⟩,.string ⟨#[]⟩,.int .i64 0,.int .i64 n] 138 (0,0))∧w.heap.size+1 < hx):=hid (by
  have h1:=D4.out.dec.lt;have h2:=D4.out.lo;have h3:(w4.alloc (.cells #[.int .u8 120,.string ⟨#[112,97,120]⟩,.string ⟨#[]⟩,.string ⟨#[]⟩,.int .i64 0,.int .i64 n] 138)).heap.size=w4.heap.size+1:=by simp
  refine ⟨(hm6.keep hx (by omega) (by simp;omega)).trans ?_,by omega⟩;rw [← hhx];exact heap_alloc_new _ _)
 have R6:=hid p6;have HHX:=hid hhx;have V6:=hid (And.intro p3 p4);rw [hhx];clear p1 p2 p3 p4 p5 p6 hm6 AC hhx
 go_wp2_with fail
 have HC:=hid (ZDHead.header_calls w6 (w.heap.size+1) rb sb _ _ _ ε R6.out D6.out.dec (by have:=D0.out.lo;omega) (G5.out _ _ D6.out) (by
   have h1:=HH.out.2.1;have h2:=D6.out.mo.size;omega) HH.out.2.2.1)
 refine HC.out.mono ?_;rintro e w7 ⟨hm7,hres⟩;have K7:=hid ((hm7.keep hx (blk_lt K6.out.1) (by have h1:=K6.out.2;have h2:=D0.out.lo;simp;omega)).trans K6.out.1);have Z7:Hid ((w7.cell? ⟨hx,0,none⟩=some (.int .u8 120)∧w7.cell? ⟨hx,1,none⟩=some (.string ⟨#[112,97,120]⟩)∧w7.cell? ⟨hx,2,none⟩=some (.string ⟨#[]⟩)∧w7.cell? ⟨hx,3,none⟩=some (.string ⟨#[]⟩)∧w7.cell? ⟨hx,4,none⟩=some (.int .i64 0)∧w7.cell? ⟨hx,5,none⟩=some (.int .i64 n)) ∧
  (w7.frozen? ⟨hx,0,none⟩=false∧w7.frozen? ⟨hx,1,none⟩=false∧w7.frozen? ⟨hx,2,none⟩=false∧w7.frozen? ⟨hx,3,none⟩=false∧w7.frozen? ⟨hx,4,none⟩=false∧w7.frozen? ⟨hx,5,none⟩=false)):=hid (by
  refine ⟨⟨row_cell K7.out 0 _ rfl,row_cell K7.out 1 _ rfl,row_cell K7.out 2 _ rfl,row_cell K7.out 3 _ rfl,row_cell K7.out 4 _ rfl,row_cell K7.out 5 _ rfl⟩,?_,?_,?_,?_,?_,?_⟩ <;> simp [World.frozen?,K7.out])
 have SIX:Hid (∀ a v0 v1 v2 v3 v4 v5,Dw w w7 rb sb a→Dw w ((((((w7.setCell ⟨hx,0,none⟩ v0).setCell ⟨hx,1,none⟩ v1).setCell ⟨hx,2,none⟩ v2).setCell ⟨hx,3,none⟩ v3).setCell ⟨hx,4,none⟩ v4).setCell ⟨hx,5,none⟩ v5) rb sb a):=hid (fun a v0 v1 v2 v3 v4 v5 hd=>by have h1:=K6.out.2;exact ⟨six_mo hd.mo hx (by omega) _ _ _ _ _ _,(six_keep _ _ _ (by omega) _ _ _ _ _ _).trans hd.box,hd.dec.of (six_keep _ _ _ (by omega) _ _ _ _ _ _),hd.lo⟩)
 obtain ⟨⟨s0,s1,s2,s3,s4,s5⟩,t0,t1,t2,t3,t4,t5⟩:=Z7.out;have he:e=.returned (.tuple #[h2.val,.int .i64 0])∧Dc w7 (w.heap.size+1) rb (off+512+kk)∧Rd w7 rb sb (off+512+kk+512) (((av.drop 512).drop kk).drop 512) ε:=by
  rcases hres with ⟨p1,_⟩ | ⟨p1,⟨h3,p2,p3,he⟩,p4,p5⟩ | ⟨p1,p2,_⟩
  ·exact absurd p1 (by have:=HCUT.out.1;omega)
  ·rw [he,ZHdr.blkB_inj p2 HCUT.out.2.1 (p3.symm.trans HCUT.out.2.2)];exact ⟨rfl,p4,p5⟩
  ·exact absurd HCUT.out.2.2 (p2 h2 HCUT.out.2.1)
 obtain ⟨rfl,p4,p5⟩:=he;have D7:=hid (D6.out.more hm7 p4);have R7:=hid p5;have V7:Hid (ZPlan.RecRow w7 (w4.alloc (.cells #[.int .u8 120,.string ⟨#[112,97,120]⟩,.string ⟨#[]⟩,.string ⟨#[]⟩,.int .i64 0,.int .i64 n] 138)).heap.size v l∧hx < (w4.alloc (.cells #[.int .u8 120,.string ⟨#[112,97,120]⟩,.string ⟨#[]⟩,.string ⟨#[]⟩,.int .i64 0,.int .i64 n] 138)).heap.size):=hid (by
  have h1:=D5.out.dec.lt;have h2:=D5.out.lo;refine ⟨V6.out.2.upto fun k hk1 hk2=>hm7.keep k hk2 (by simp;omega),?_⟩;rw [← HHX.out];simp)
 obtain ⟨typ,name,pre,lk,mode,size⟩:=h2;have D8:=hid (SIX.out _ (.int .u8 typ) (.string name) (.string pre) (.string lk) (.int .i64 mode) (.int .i64 size) D7.out);have R8:=hid (R7.out.step fun k hk=>six_keep w7 hx k (by have h1:=K6.out.2;have h2:=D0.out.lo;omega) (.int .u8 typ) (.string name) (.string pre) (.string lk) (.int .i64 mode) (.int .i64 size));have V8:=hid (RecRd.of (V7.out.1.upto fun k hk1 hk2=>six_keep w7 hx k (by have h1:=V7.out.2;omega) (.int .u8 typ) (.string name) (.string pre) (.string lk) (.int .i64 mode) (.int .i64 size)));have X8:Hid (((((((w7.setCell ⟨hx,0,none⟩ (.int .u8 typ)).setCell ⟨hx,1,none⟩ (.string name)).setCell ⟨hx,2,none⟩ (.string pre)).setCell ⟨hx,3,none⟩ (.string lk)).setCell ⟨hx,4,none⟩ (.int .i64 mode)).setCell ⟨hx,5,none⟩ (.int .i64 size)).heap[hx]?=some (.cells #[.int .u8 typ,.string name,.string pre,.string lk,.int .i64 mode,.int .i64 size] 138 (0,0))):=hid (by
  have b0:=blk_set K7.out 0 (.int .u8 typ);have b1:=blk_set b0 1 (.string name);have b2:=blk_set b1 2 (.string pre);have b3:=blk_set b2 3 (.string lk);have b4:=blk_set b3 4 (.int .i64 mode);have b5:=blk_set b4 5 (.int .i64 size);simpa using b5)
 clear hres p4 p5 hm7 HC;unfold Hdr.val Hdr.cells;dsimp only;obtain ⟨W8,hW8⟩:∃ Y,(((((w7.setCell ⟨hx,0,none⟩ (.int .u8 typ)).setCell ⟨hx,1,none⟩ (.string name)).setCell ⟨hx,2,none⟩ (.string pre)).setCell ⟨hx,3,none⟩ (.string lk)).setCell ⟨hx,4,none⟩ (.int .i64 mode)).setCell ⟨hx,5,none⟩ (.int .i64 size)=Y:=⟨_,rfl⟩;rw [hW8] at D8 R8 V8 X8;obtain ⟨r0,r1,r2,r3,r4,r5⟩:W8.cell? ⟨hx,0,none⟩=some (.int .u8 typ)∧W8.cell? ⟨hx,1,none⟩=some (.string name)∧W8.cell? ⟨hx,2,none⟩=some (.string pre)∧W8.cell? ⟨hx,3,none⟩=some (.string lk)∧W8.cell? ⟨hx,4,none⟩=some (.int .i64 mode)∧W8.cell? ⟨hx,5,none⟩=some (.int .i64 size) :=
  ⟨row_cell X8.out 0 _ rfl,row_cell X8.out 1 _ rfl,row_cell X8.out 2 _ rfl,row_cell X8.out 3 _ rfl,row_cell X8.out 4 _ rfl,row_cell X8.out 5 _ rfl⟩
 have MC:=hid (HM.out l V6.out.1 v W8 (G5.out _ _ D8.out) V8.out);unfold Hdr.val Hdr.cells at MC;dsimp only at MC;have b4:((0:Int) == 4)=false:=rfl
 go_wp2_with fail
 refine MC.out.mono ?_;rintro e w9 ⟨hb9,hres⟩;have D9:=hid (D8.out.below hb9);have R9:=hid (R8.out.below hb9);have HRES:=hid hres;clear hb9 hres MC r0 r1 r2 r3 r4 r5 s0 s1 s2 s3 s4 s5 t0 t1 t2 t3 t4 t5 hW8;rcases HRES.out with ⟨x,hs,rfl⟩ | ⟨c,hcc,hc0,rfl⟩
 ·
  have HS:=hid hs;clear hs HRES;obtain ⟨kind,path,m2,tgt,sz⟩:=x;have BB:=hid (below_alloc (Below.refl _ w9) (.cells #[.int .i64 kind,.string path,.int .i64 m2,.string tgt,.int .i64 sz] 54));have D10:=hid (D9.out.below BB.out);have R10:=hid (R9.out.below BB.out);obtain ⟨⟨y0,y1,y2,y3,y4⟩,z0,z1,z2,z3,z4⟩:=D10.out.facts;unfold Ent.val Ent.cells;dsimp only
  go_wp2_with fail
  refine bodyPost_ret (v:=.tuple #[(⟨kind,path,m2,tgt,sz⟩:Ent).val,.int .i64 off,.int .i64 0]) (by simp [results,Tryz.results44,go_sem,Ent.val,Ent.cells,y0,y1,y2,y3,y4,z0,z1,z2,z3,z4]) rfl ⟨D10.out.five _ _ _ _ _,l,V6.out.1,.inl ⟨_,HS.out,rfl,?_⟩⟩;exact R10.out.step fun k hk=>five_keep _ _ _ (by have:=D10.out.lo;omega) _ _ _ _ _
 ·
  have HCC:=hid (And.intro hcc hc0);have bc:(c != 0)=true:=by rw [bne_iff_ne];exact hc0
  clear hcc hc0 HRES;have BB:=hid (below_alloc (Below.refl _ w9) (.cells ecells 54));have D10:=hid (D9.out.below BB.out);obtain ⟨⟨y0,y1,y2,y3,y4⟩,z0,z1,z2,z3,z4⟩:=D10.out.facts;obtain ⟨q0,q1,q2⟩:=D10.out.dec.facts
  go_wp2_with fail
  go_region
  all_goals
   go_wp2_with fail
   refine bodyPost_ret (v:=.tuple #[zent,.int .i64 (off+512+kk),.int .i64 c]) (by simp [results,Tryz.results44,go_sem,y0,y1,y2,y3,y4,z0,z1,z2,z3,z4]) rfl ⟨?_,l,V6.out.1,.inr ⟨c,HCC.out.1,HCC.out.2,rfl⟩⟩;exact (D10.out.below (Below.refl _ _).drew).five _ _ _ _ _
end ZDecG
end
namespace ZParseN
open ZFmt ZSize ZFit ZPlan ZFirst ZNum ZNumA ZFirstN ZPParse
open ZDRecA (ParseC)
open Go.Lib (decDigits)
theorem split_sep (c:Int):∀ (a b a' b':List Int),c∉a→c∉a'→a++c :: b=a'++c :: b'→a=a'∧b=b'
 | [],_,[],_,_,_,h=>by simpa using h
 | [],_,y :: a',_,_,h',h=>by simp only [List.nil_append,List.cons_append,List.cons.injEq] at h;exact absurd h.1 (fun e=>h' (by simp [e]))
 | x :: a,_,[],_,h0,_,h=>by simp only [List.nil_append,List.cons_append,List.cons.injEq] at h;exact absurd h.1 (fun e=>h0 (by simp [e]))
 | x :: a,b,y :: a',b',h0,h',h=>by simp only [List.cons_append,List.cons.injEq] at h;have:=split_sep c a b a' b' (fun e=>h0 (by simp [e])) (fun e=>h' (by simp [e])) h.2;exact ⟨by rw [h.1,this.1],this.2⟩
theorem not_map {c:UInt8} {l:List UInt8} (h:c∉l):((c.toNat:Nat):Int)∉l.map (fun u=>(u.toNat:Int)):=by intro h2;obtain ⟨u,hu,e⟩:=List.mem_map.1 h2;have:u=c:=UInt8.toNat_inj.1 (by omega);exact h (this ▸ hu)
theorem map_inj:∀ {a b:List UInt8},a.map (fun u=>(u.toNat:Int))=b.map (fun u=>(u.toNat:Int))→a=b
 | [],[],_=>rfl
 | [],_ :: _,h=>by simp at h
 | _ :: _,[],h=>by simp at h
 | x :: a,y :: b,h=>by simp only [List.map_cons,List.cons.injEq] at h;have h1:x=y:=UInt8.toNat_inj.1 (by have:=h.1;omega);rw [h1,map_inj h.2]
theorem rec_inj {r q:Rec} (hr:Shp r) (hq:Shp q) {x y:List Int} (h:recB r++x=recB q++y):r=q∧x=y:=by
 rw [rec_bytes,rec_bytes] at h;obtain ⟨h1,h2⟩:=split_sep _ _ _ _ _ (not_map (no_sp _)) (not_map (no_sp _)) h;have hr2:=hr.2;have hq2:=hq.2;obtain ⟨a1,a2,a3,a4⟩:=dec_len r (by omega);obtain ⟨b1,b2,b3,b4⟩:=dec_len q (by omega);have e1:=map_inj h1;have e2:recSz r=recSz q:=dec_inj (by omega) (by omega) e1;have e3:Rec.rest r=Rec.rest q:=by rw [e1] at a1;omega
 obtain ⟨h3,h4⟩:=split_sep 61 _ _ _ _ (not_map (c:=61) hr.1) (not_map (c:=61) hq.1) h2;have e4:r.key=q.key:=ZCAny.bytes_inj h3;have e5:r.val.size=q.val.size:=by unfold Rec.rest at e3;rw [e4] at e3;omega
 obtain ⟨h5,h6⟩:=List.append_inj h4 (by rw [bytesOf_length,bytesOf_length,e5]);have e6:r.val=q.val:=ZCAny.bytes_inj h5;refine ⟨?_,(List.cons.inj h6).2⟩;cases r;cases q
 simp_all
theorem link_no:(61:UInt8)∉sLink.data.toList:=by decide
theorem path_no:(61:UInt8)∉sPath.data.toList:=by decide
theorem size_no:(61:UInt8)∉sSize.data.toList:=by decide
theorem key_sizes:sLink.size=8∧sPath.size=4∧sSize.size=4:=by decide
theorem num_size {s:ByteArray} (h:¬ NoNum s 1099511627776):∃ u:Nat,u≤1099511627776∧s.data.toList=decDigits u∧s.size≤13:=by unfold NoNum at h;simp only [Classical.not_forall,not_imp,Decidable.not_not,ne_eq] at h;obtain ⟨u,h1,h2⟩:=h;refine ⟨u,by omega,h2,?_⟩;have h3:s.size=s.data.toList.length:=Array.length_toList.symm;rw [h2,Go.Lib.decDigits_length] at h3;have h4:=nDigits_mono (show u≤9999999999999 by omega);have h5:Go.Lib.nDigits 9999999999999=13:=Go.Lib.nDigits_unique 12 _ (by decide) (by decide);omega
theorem RecOk.rest {r:Rec} (h:RecOk r):Rec.rest r≤65547:=by
 obtain ⟨k1,k2,k3⟩:=key_sizes;unfold Rec.rest;rcases h with ⟨h | h,h2⟩ | ⟨h,h2⟩
 ·have:=h2.1;rw [h];omega
 ·have:=h2.1;rw [h];omega
 ·obtain ⟨u,_,_,h3⟩:=num_size h2;rw [h];omega
theorem RecOk.shp {r:Rec} (h:RecOk r):Shp r:=by
 refine ⟨?_,by have:=RecOk.rest h;omega⟩;rcases h with ⟨h | h,_⟩ | ⟨h,_⟩
 ·rw [h];exact link_no
 ·rw [h];exact path_no
 ·rw [h];exact size_no
structure RecList (l:List Rec):Prop where
 ok:∀ r∈l,RecOk r
 asc:∀ (i:Nat) (r q:Rec),l[i]?=some r→l[i+1]?=some q→(Op.bytesLess q.key.toList r.key.toList || q.key.toList == r.key.toList)=false
theorem fmt_prefix:∀ (l L:List Rec) (tail:List Int),(∀ r∈l,Shp r)→(∀ r∈L,Shp r)→fmtB l++tail=fmtB L→∃ L',L=l++L'∧tail=fmtB L'
 | [],L,tail,_,_,h=>⟨L,rfl,h⟩
 | r :: l,[],tail,h1,_,h=>by
  have h2:=congrArg List.length h;have h3:=recB_len r (by have:=(h1 r (by simp)).2;omega);have h4:recSz r=Rec.rest r+digN (Rec.rest r):=rfl;have h5:3≤Rec.rest r:=by unfold Rec.rest;omega
  simp only [fmtB,List.flatMap_cons,List.flatMap_nil,List.length_append,List.length_nil] at h2;omega
 | r :: l,q :: L,tail,h1,h2,h=>by simp only [fmtB,List.flatMap_cons,List.append_assoc] at h;obtain ⟨rfl,h3⟩:=rec_inj (h1 r (by simp)) (h2 q (by simp)) h;obtain ⟨L',rfl,h4⟩:=fmt_prefix l L tail (fun x hx=>h1 x (by simp [hx])) (fun x hx=>h2 x (by simp [hx])) h3;exact ⟨L',rfl,h4⟩
def rank (k:ByteArray):Nat:=if k=sLink then 0 else if k=sPath then 1 else 2
theorem rank_lt {r q:Rec} (hr:RecOk r) (hq:RecOk q) (h:(Op.bytesLess q.key.toList r.key.toList || q.key.toList == r.key.toList)=false):rank r.key < rank q.key:=by
 have k (s:ByteArray):s.toList=s.data.toList:=ByteArray.toList_eq s;rw [k,k] at h;have hr':r.key=sLink∨r.key=sPath∨r.key=sSize:=by
  rcases hr with ⟨h | h,_⟩ | ⟨h,_⟩
  ·exact .inl h
  ·exact .inr (.inl h)
  ·exact .inr (.inr h)
 have hq':q.key=sLink∨q.key=sPath∨q.key=sSize:=by
  rcases hq with ⟨h | h,_⟩ | ⟨h,_⟩
  ·exact .inl h
  ·exact .inr (.inl h)
  ·exact .inr (.inr h)
 rcases hr' with e | e | e <;> rcases hq' with f | f | f <;> rw [e,f] at h ⊢ <;> first | (revert h;decide) | decide
theorem RecList.ranks {l:List Rec} (h:RecList l):∀ (i:Nat) (r:Rec),l[i]?=some r→i≤rank r.key:=by
 intro i
 induction i with
 | zero=>exact fun _ _=>Nat.zero_le _
 | succ i ih =>
  intro q hq;have hi:i < l.length:=by have:=(List.getElem?_eq_some_iff.1 hq).1;omega
  obtain ⟨r,hr⟩:∃ r,l[i]?=some r:=⟨_,List.getElem?_eq_getElem hi⟩;have:=ih r hr;have:=rank_lt (h.ok r (List.mem_of_getElem? hr)) (h.ok q (List.mem_of_getElem? hq)) (h.asc i r q hr hq);omega
theorem RecList.len {l:List Rec} (h:RecList l):l.length≤3:=by
 refine Nat.le_of_not_lt fun h2=>?_;obtain ⟨r,hr⟩:∃ r,l[3]?=some r:=⟨_,List.getElem?_eq_getElem h2⟩;have h3:=h.ranks 3 r hr;unfold rank at h3;split at h3
 ·omega
 ·split at h3 <;> omega
theorem RecList.nil:RecList []:=⟨fun r h=>(by cases h),fun i r q h=>(by simp at h)⟩
theorem RecList.snoc {l:List Rec} (h:RecList l) {r:Rec} (hr:RecOk r) (ha:∀ q,l.getLast?=some q→(Op.bytesLess r.key.toList q.key.toList || r.key.toList == q.key.toList)=false):RecList (l++[r]):=by
 refine ⟨fun x hx=>?_,fun i x q hx hq=>?_⟩
 ·
  rcases List.mem_append.1 hx with hx | hx
  ·exact h.ok x hx
  ·obtain rfl:=List.mem_singleton.1 hx;exact hr
 ·
  rcases Nat.lt_or_ge (i+1) l.length with h1 | h1
  ·rw [List.getElem?_append_left (by omega)] at hx hq;exact h.asc i x q hx hq
  ·
   rcases Nat.lt_or_ge i l.length with h2 | h2
   ·
    rw [List.getElem?_append_left (by omega)] at hx;have h3:i+1=l.length:=by omega
    rw [h3] at hq;simp at hq;subst hq;refine ha x ?_;rw [List.getLast?_eq_getElem?,← h3];simpa using hx
   ·have:=(List.getElem?_eq_some_iff.1 hq).1;simp at this;omega
theorem RecList.tail {l L:List Rec} {r:Rec} (h:RecList (l++r :: L)):RecOk r∧∀ q,l.getLast?=some q→(Op.bytesLess r.key.toList q.key.toList || r.key.toList == q.key.toList)=false:=by
 refine ⟨h.ok r (by simp),fun q hq=>?_⟩;rw [List.getLast?_eq_getElem?] at hq;have h1:=(List.getElem?_eq_some_iff.1 hq).1;refine h.asc (l.length - 1) q r ?_ ?_
 ·rw [List.getElem?_append_left (by omega)];exact hq
 ·rw [show l.length - 1+1=l.length by omega];simp
structure Sofar (rb:List Int) (l:List Rec) (k:Nat):Prop where
 all:fmtB l++rb.drop k=rb
 at_:k=(fmtB l).length
 ok:RecList l
def NoRecs (rb:List Int):Prop:=∀ L,RecList L→fmtB L≠rb
theorem Sofar.stop {rb:List Int} {l:List Rec} {k:Nat} (h:Sofar rb l k) (hk:k < rb.length) (hno:∀ r rest,rb.drop k=recB r++rest→RecOk r→(∀ q,l.getLast?=some q→(Op.bytesLess r.key.toList q.key.toList || r.key.toList == q.key.toList)=false)→False):NoRecs rb:=by
 intro L hL he;obtain ⟨L',h1,h2⟩:=fmt_prefix l L (rb.drop k) (fun r hr=>RecOk.shp (h.ok.ok r hr)) (fun r hr=>RecOk.shp (hL.ok r hr)) (h.all.trans he.symm);cases L' with
 | nil =>have:=congrArg List.length h2;simp [fmtB] at this;omega
 | cons r L'' =>rw [h1] at hL;obtain ⟨h3,h4⟩:=hL.tail;exact hno r (fmtB L'') (by rw [h2];simp [fmtB]) h3 h4
theorem Sofar.next {rb:List Int} {l:List Rec} {k:Nat} (h:Sofar rb l k) {r:Rec} {rest:List Int} (hd:rb.drop k=recB r++rest) (hr:RecOk r) (ha:∀ q,l.getLast?=some q→(Op.bytesLess r.key.toList q.key.toList || r.key.toList == q.key.toList)=false):Sofar rb (l++[r]) (k+recSz r):=by
 have h3:=recB_len r (by have:=RecOk.rest hr;omega);have h4:rest=rb.drop (k+recSz r):=by rw [← List.drop_drop,hd,List.drop_left' h3]
 refine ⟨?_,?_,h.ok.snoc hr ha⟩
 ·rw [← h4];simp only [fmtB,List.flatMap_append,List.flatMap_cons,List.flatMap_nil,List.append_nil,List.append_assoc];rw [← hd];exact h.all
 ·simp only [fmtB,List.flatMap_append,List.flatMap_cons,List.flatMap_nil,List.append_nil,List.length_append,h3];have:=h.at_;unfold fmtB at this;omega
set_option maxHeartbeats 8000000 in
theorem parse_any (rb:List Int) (hrb:∀ x∈rb,0≤x∧x < 256) (h1:rb.length≤262144):ParseC rb (fun l=>RecList l∧fmtB l=rb) (fun _ x=>x≠18∧NoRecs rb):=by
 intro b c w hr hc hG;have HR:=hid (And.intro hr hrb);have HG:=hid hG;have CC:=hid check_any;have FC:=hid first_any;obtain ⟨n,hn⟩:∃ n,rb.length=n:=⟨_,rfl⟩;have HN:=hid hn;rw [hn] at h1 hc ⊢;have hgt:¬ (n:Int) > 262144:=by omega
 have S0:Hid (RecRow w w.heap.size (.slice none 0 0) []∧Below w.heap.size w w):=hid ⟨Kd.R_nil _ _ _ _ _,Below.refl _ _⟩;have P0:Hid (Sofar rb [] 0):=hid ⟨rfl,rfl,RecList.nil⟩;clear hr hrb hG hn;go_enter Tryz.func114,Tryz.ntmps114
 go_wp2_with fail
 go_loopw [5,6] (fun v i wr=>∃ (l:List Rec) (k:Nat),k≤n∧i=.int .i64 k∧Hid (Sofar rb l k)∧Hid (RecRow wr w.heap.size v l∧Below w.heap.size w wr)) (fun _ i _=>n - (intOf i).toNat)
 case atStart=>exact ⟨[],0,Nat.zero_le _,rfl,P0,S0⟩
 case round =>
  clear S0 P0;obtain ⟨l,k,hkn,rfl,HK,HS⟩:=hrel;by_cases hlt:k < n
  ·
   have hltz:(k:Int) < (n:Int):=by omega
   have hck:¬ c=k:=by omega
   have hl3:=HK.out.ok.len;obtain ⟨A,cc,rfl⟩:=Kd.R_slice HS.out.1;obtain ⟨j,hj⟩:∃ j,l.length=j:=⟨_,rfl⟩;rw [hj] at HS hl3 ⊢;have HJ:=hid hj;clear hj;have hRD:Kd.C (Kd.int .u8) wr (some ⟨b,k,none⟩) (n - k) (rb.drop k):=by
    have hR:=Kd.C_below HR.out.1 HS.out.2;have hD:=Kd.C_drop (m:=k) (c:=c) hR (by rw [HN.out];exact hkn) (by rw [HN.out];exact hc);rw [if_neg hck] at hD;have e1:(some (⟨b,0,none⟩:Addr)).map (·.add (k * (Kd.int .u8).sz))=some ⟨b,0+k,none⟩:=by have:k * (Kd.int .u8).sz=k:=Nat.mul_one _;rw [this];exact congrArg some (Addr.add_lit b 0 k)
    rw [e1,List.length_drop,HN.out,Nat.zero_add] at hD;exact hD
   have F1:=hid (FC.out b k (n - k) (c - k) (rb.drop k) wr hRD (fun x hx=>HR.out.2 x (List.mem_of_mem_drop hx)) (by omega) (by omega) (HG.out.below HS.out.2));clear hRD
   go_wp2_with fail
   refine F1.out.mono ?_;rintro e w2 ⟨hb,⟨r,rest,hshp,hrest,rfl⟩ | ⟨hno,x,hx,rfl⟩⟩;rotate_left
   ·
    have B2:=hid hb;have NR:Hid (NoRecs rb):=hid (HK.out.stop (by rw [HN.out];exact hlt) fun r rest h2 h3 _=>hno r rest (RecOk.shp h3) h2);have HX:=hid hx;have x0:(x == 0)=false:=beq_eq_false_iff_ne.2 (by omega);have x1:(x != 0)=true:=by rw [bne_iff_ne];omega
    clear hb hno hx F1
    go_wp2_with fail
    repeat (go_quiet (fail);try go_wp2_with fail)
    go_ret3
    refine ⟨?_,.inr ⟨k,x,⟨by have:=HX.out;omega,NR.out⟩,by have:=HX.out;omega,by omega,by omega,rfl⟩⟩;have hbb:=below_step HS.out.2 (B2.out.alloc B2.out.size (.cells #[.string ⟨#[]⟩,.string ⟨#[]⟩] 125))
    first | exact hbb | exact pw_below_drewN hbb _
   ·
    have B2:=hid hb;have HV:=hid (And.intro hshp hrest);have SZ:Hid (recSz r≤262144∧(k+recSz r≤n)∧1≤recSz r∧r.val.size≤1000000):=hid (by
     have h2:=digN_spec (Rec.rest r) (by have:=hshp.2;omega);have h3:=recB_len r (by have:=hshp.2;omega);have h4:=congrArg List.length hrest;rw [List.length_append,h3,List.length_drop,HN.out] at h4;have h5:recSz r=Rec.rest r+digN (Rec.rest r):=rfl;have h6:r.val.size≤Rec.rest r:=by unfold Rec.rest;omega
     omega)
    clear hb hshp hrest F1;obtain ⟨key,val⟩:=r;obtain ⟨sz,hsz⟩:∃ q,recSz ⟨key,val⟩=q:=⟨_,rfl⟩;have HSZ:=hid hsz;rw [hsz] at SZ ⊢;dsimp only at SZ ⊢;clear hsz;obtain ⟨s1,s2,s4,s5⟩:=SZ.out
    go_wp2_with fail
    have C1:=hid (CC.out key val s5 (w2.alloc (.cells #[.string key,.string val] 125)) (HG.out.below (below_step HS.out.2 (B2.out.alloc B2.out.size _))));refine C1.out.mono ?_;rintro e w3 ⟨x,rfl,hx,h18,hb⟩;have B3:=hid (below_step B2.out (after1 hb));have X3:=hid ((hb.block _ (by simp)).trans (heap_alloc_new w2 (.cells #[.string key,.string val] 125)));obtain ⟨d0,d1⟩:w3.cell? ⟨w2.heap.size,0,none⟩=some (.string key)∧w3.cell? ⟨w2.heap.size,1,none⟩=some (.string val):=by simp [World.cell?,X3.out]
    have R3:=hid (And.intro (rec_below HS.out.1 B3.out) (below_step HS.out.2 B3.out));have HX:=hid (And.intro hx h18);clear hx hb C1 h18;have hlen:(j+1) * 32≤140737488355328:=by omega
    have hlen2:(l.length+1) * 32≤140737488355328:=by rw [HJ.out];exact hlen
    by_cases hx0:x=0;rotate_left
    ·
     have NR:Hid (NoRecs rb):=hid (HK.out.stop (by rw [HN.out];exact hlt) fun r rest h2 h3 _=>by obtain ⟨e,_⟩:=rec_inj HV.out.1 (RecOk.shp h3) (HV.out.2.symm.trans h2);exact hx0 (HX.out.1.2 (e ▸ h3)))
     have x0:(x == 0)=false:=beq_eq_false_iff_ne.2 hx0;have x1:(x != 0)=true:=by rw [bne_iff_ne];exact hx0
     have HX0:=hid hx0;clear hx0
     go_wp2_with fail
     repeat (go_quiet (fail);try go_wp2_with fail)
     go_ret3
     refine ⟨?_,.inr ⟨k,x,⟨HX.out.2,NR.out⟩,HX0.out,by omega,by omega,rfl⟩⟩
     first | exact R3.out.2 | exact pw_below_drewN R3.out.2 _
    ·
     subst hx0;have HOK:=hid (HX.out.1.1 rfl);by_cases hj0:0 < j
     ·
      have hj0z:(0:Int) < (j:Int):=by omega
      obtain ⟨i,hi⟩:∃ i:Nat,(j:Int) - 1=(i:Int):=⟨j - 1,by omega⟩;have hij:j=i+1:=by omega
      obtain ⟨q,hq⟩:∃ q,l[i]?=some q:=⟨_,List.getElem?_eq_getElem (by have:=HJ.out;omega)⟩;have HLast:Hid (l.getLast?=some q):=hid (by
       rw [List.getLast?_eq_getElem?,HJ.out,hij];exact hq)
      obtain ⟨g,cap,e1,_,_,R4⟩:=RecRow.at_ R3.out.1 (by rw [HJ.out];omega);simp only [Value.slice.injEq] at e1;obtain ⟨rfl,hx,rfl⟩:=e1;clear hx;obtain ⟨e0,e1⟩:=R4.cell i q hq;obtain ⟨qk,qv⟩:=q;dsimp only at e0 e1;have w2':IntKind.i64.wrap ((i:Int))=(i:Int):=by rw [IntKind.wrap_i64];omega
      have b3:(i:Int) < (j:Int):=by omega
      clear hq R4 hij;by_cases hord:(Op.bytesLess key.toList qk.toList || key.toList == qk.toList)=true
      ·
       have NR:Hid (NoRecs rb):=hid (HK.out.stop (by rw [HN.out];exact hlt) fun r rest h2 h3 h4=>by obtain ⟨e,_⟩:=rec_inj HV.out.1 (RecOk.shp h3) (HV.out.2.symm.trans h2);have h5:=h4 _ HLast.out;rw [← e] at h5;dsimp only at h5;rw [hord] at h5;cases h5)
       go_wp2_with fail
       repeat (go_quiet (fail);try go_wp2_with fail)
       go_ret3
       refine ⟨?_,.inr ⟨k,12,⟨by decide,NR.out⟩,by decide,by omega,by omega,rfl⟩⟩
       first | exact R3.out.2 | exact pw_below_drewN R3.out.2 _
      ·
       have hasc:(Op.bytesLess key.toList qk.toList || key.toList == qk.toList)=false:=by simpa using hord
       have HASC:=hid hasc;clear hord
       go_wp2_with fail
       repeat (go_quiet (fail);try go_wp2_with (at_builtin;refine Kd.R_append recKd (w0:=w) w.heap.size rfl (.tmp 52) (.tmp 54) 86 125 (.agg #[.string ⟨#[]⟩,.string ⟨#[]⟩]) 32 rfl Tryz.underlying86 info125 rfl (by decide) (by decide) _ l ⟨key,val⟩ [.string key,.string val] (fun _=>True) (fun _=>False) rfl rfl ⟨[.string key],[.string val],rfl,rfl,rfl⟩ (fun _ h=>h.elim) (fun _ _=>trivial) (rec_below R3.out.1 (pw_below_drewN (Below.refl _ _) _)) (pw_below_drewN R3.out.2 _) R3.out.2.size hlen2 ?_;intro v1 w9 hr9 hb9 _ _;replace hr9:=hid hr9;replace hb9:=hid hb9))
       go_roundw
       case rel =>refine ⟨l++[(⟨key,val⟩:Rec)],k+sz,by omega,by go_num,hid ?_,hid ⟨hr9.out,hb9.out⟩⟩;rw [← HSZ.out];refine HK.out.next HV.out.2 HOK.out fun q hq=>?_;rw [HLast.out] at hq;cases hq;exact HASC.out
       case measure=>simp [intOf];omega
     ·
      obtain rfl:j=0:=by omega
      obtain rfl:l=[]:=List.eq_nil_of_length_eq_zero HJ.out
      go_wp2_with fail
      repeat (go_quiet (fail);try go_wp2_with (at_builtin;(refine Kd.R_append recKd (w0:=w) w.heap.size rfl (.tmp 52) (.tmp 54) 86 125 (.agg #[.string ⟨#[]⟩,.string ⟨#[]⟩]) 32 rfl Tryz.underlying86 info125 rfl (by decide) (by decide) _ ([]:List Rec) ⟨key,val⟩ [.string key,.string val] (fun _=>True) (fun _=>False) rfl rfl ⟨[.string key],[.string val],rfl,rfl,rfl⟩ (fun _ h=>h.elim) (fun _ _=>trivial) (rec_below R3.out.1 (pw_below_drewN (Below.refl _ _) _)) (pw_below_drewN R3.out.2 _) R3.out.2.size hlen ?_;intro v1 w9 hr9 hb9 _ _;replace hr9:=hid hr9;replace hb9:=hid hb9)))
      go_roundw
      case rel =>refine ⟨[]++[(⟨key,val⟩:Rec)],k+sz,by omega,by go_num,hid ?_,hid ⟨hr9.out,hb9.out⟩⟩;rw [← HSZ.out];exact HK.out.next HV.out.2 HOK.out fun q hq=>by cases hq
      case measure=>simp [intOf];omega
  ·
   have hk2:k=n:=by omega
   subst hk2
   go_wp2_with fail
   go_ret3
   refine ⟨HS.out.2,.inl ⟨l,_,⟨HK.out.ok,?_⟩,rfl,HS.out.1⟩⟩;have h:=HK.out.all;rw [List.drop_of_length_le (by rw [HN.out];exact Nat.le_refl _),List.append_nil] at h;exact h
end ZParseN
section
section
open Go Go.Shelf
def _root_.Go.Proofs.Tryz.lays99_ren:Go.Shelf.Ren:=⟨fun | 99=>148 | 206=>170 | n=>n,fun | 9=>9 | 4=>4 | 3=>3 | n=>n,fun | n=>n⟩
theorem _root_.Go.Proofs.Tryz.lays99:Go.Proofs.Lays.n99 Tryz.prog Tryz.lays99_ren:={
 mixed:=by kernel_rfl
 f99:=Tryz.func148.trans (congrArg some (by kernel_rfl))
 f206:=Tryz.func170.trans (congrArg some (by kernel_rfl))
 t3:=Tryz.underlying3
 a3:=Tryz.isAgg3
 z3:=Tryz.sizeOf3
 v3:=Tryz.zeroValue3
 t4:=Tryz.underlying4
 a4:=Tryz.isAgg4
 z4:=Tryz.sizeOf4
 v4:=Tryz.zeroValue4
 t9:=Tryz.underlying9
 a9:=Tryz.isAgg9
 z9:=Tryz.sizeOf9
 v9:=Tryz.zeroValue9 }
open Go.RowKit Go.Lib in
theorem _root_.Go.Proofs.Tryz.strings_HasPrefix (s p:ByteArray) (w:World): Calls Tryz.prog 148 #[.string s,.string p] w fun e w'=>e=.returned (.bool (Lib.hasPrefix s.data.toList p.data.toList))∧w'=w:=Any.strings_HasPrefix Tryz.lays99 s p w
end
namespace ZMergeN
open ZFmt ZFit ZPlan ZMap ZPath ZMergeA ZMerge ZNum ZNumA ZFirstN ZParseN ZPlanN
open Go.Lib (decDigits parseIntB)
def kindOf (t:Int):Int:=if t=53 then 0 else if t=48 then 1 else if t=50 then 2 else if t=49 then 3 else -1
set_option maxHeartbeats 2000000 in
theorem index_none (w:World) (hG:Gl w):Calls Tryz.prog 115 #[.slice (some ⟨6,0,none⟩) 4 4,.int .u8 120] w fun r w'=>r=.returned (.int .i64 (-1))∧w=w':=by
 have HC:Hid (∀ j:Nat,j≤3→∃ x:Int,x≠120∧w.cell? ⟨6,j,none⟩=some (.int .u8 x)):=hid (fun j hj=>by
  have h:=hG.types;rcases (show j=0∨j=1∨j=2∨j=3 by omega) with rfl | rfl | rfl | rfl
  ·exact ⟨53,by decide,h.cell 0 _ rfl⟩
  ·exact ⟨48,by decide,h.cell 1 _ rfl⟩
  ·exact ⟨50,by decide,h.cell 2 _ rfl⟩
  ·exact ⟨49,by decide,h.cell 3 _ rfl⟩)
 clear hG;go_enter Tryz.func115,Tryz.ntmps115
 go_wp2_with fail
 go_loop [8] (fun i=>∃ j:Nat,j≤4∧i=.int .i64 j) (fun i=>10 - (intOf i).toNat)
 case atStart=>exact ⟨0,Nat.zero_le _,rfl⟩
 case round =>
  obtain ⟨j,hj,rfl⟩:=hrel;by_cases hjk:j=4
  ·
   subst hjk
   go_wp2_with fail
   go_ret;exact ⟨rfl,rfl⟩
  ·
   obtain ⟨x,hx,c0⟩:=HC.out j (by omega);have hlt:(j:Int) < 4:=by omega
   have bx:((120:Int) == x)=false:=beq_eq_false_iff_ne.2 (Ne.symm hx);clear hx
   go_wp2_with fail
   go_round
   case rel=>exact ⟨j+1,by omega,by go_num⟩
   case measure=>simp [intOf];omega
theorem index_any (t:Int) (ht:t=48∨t=49∨t=50∨t=53∨t=120) (w:World) (hG:Gl w):Calls Tryz.prog 115 #[.slice (some ⟨6,0,none⟩) 4 4,.int .u8 t] w fun r w'=>r=.returned (.int .i64 (kindOf t))∧w=w':=by
 rcases ht with rfl | rfl | rfl | rfl | rfl
 ·exact index_calls 1 (by decide) w hG
 ·exact index_calls 3 (by decide) w hG
 ·exact index_calls 2 (by decide) w hG
 ·exact index_calls 0 (by decide) w hG
 ·exact index_none w hG
def numV (s:ByteArray):Int:=match parseIntB 64 s.data.toList with
 | .ok v=>v
 | _=>0
set_option maxHeartbeats 1000000 in
theorem size_calls (b:Nat) (k p m t z:Value) (s:ByteArray) (hs:¬ NoNum s 1099511627776) (w:World) (h:w.heap[b]?=some (.cells #[k,p,m,t,z] 190 (0,0))):Calls Tryz.prog 119 #[.pointer (some ⟨b,0,none⟩),.string s] w fun r w'=>r=.returned (.bool true)∧∃ w2,Below w.heap.size w w2∧w'=w2.setCell ⟨b,4,none⟩ (.int .i64 (numV s)):=by
 obtain ⟨u,hu,hd,h13⟩:=num_size hs;have hp:parseIntB 64 s.data.toList=.ok (u:Int):=by rw [hd,dec_int u (by omega)]
 have hv:numV s=u:=by unfold numV;rw [hp]
 rw [hv];have PI:=hid (Tryz.strconv_ParseInt_10_at64_ok s (by omega) u hp w);have PF:=hid (fun W=>Tryz.strings_HasPrefix s ⟨#[43]⟩ W);have hf:Lib.hasPrefix s.data.toList [43]=false:=by obtain ⟨c,r,e⟩:=List.exists_cons_of_ne_nil (dec_ne u);have hc:=(dec_digit u).1 c (by rw [e];simp);unfold digit at hc;rw [hd,e];unfold Lib.hasPrefix;simp only [List.isPrefixOf,Bool.and_true,beq_eq_false_iff_ne,ne_eq];intro h2;rw [← h2] at hc;revert hc;decide
 have e43:(⟨#[43]⟩:ByteArray).data.toList=[43]:=rfl;rw [e43,hf] at PF;have HB:=hid h;clear h hv hp hd hu h13 hf hs e43;go_enter Tryz.func119,Tryz.ntmps119
 go_wp2_with fail
 refine PI.out.mono ?_;rintro r w2 ⟨rfl,hw⟩;have B2:Hid (Below w.heap.size w w2):=hid (by
  rcases hw with rfl | ⟨t,rfl⟩
  ·exact Below.refl _ _
  ·exact bytes_below (Below.refl _ _) (Nat.le_refl _) 5 t)
 have h2:=(B2.out.block _ (blk_lt HB.out)).trans HB.out;have c4:w2.cell? ⟨b,4,none⟩=some z:=by simp [World.cell?,h2]
 have f4:w2.frozen? ⟨b,4,none⟩=false:=by simp [World.frozen?,h2]
 clear hw h2
 go_wp2_with fail
 refine (PF.out _).mono ?_;rintro r w3 ⟨rfl,rfl⟩
 go_wp2_with fail
 go_ret;exact ⟨rfl,w2,B2.out,rfl⟩
theorem stood125:Tryz.prog.stoodInHeld 125=false:=by kernel_rfl
theorem und125:Tryz.prog.underlying 125=some (.struct (Tryz.prog.fieldsOf 125)):=by kernel_rfl
theorem rec_diff (k1 k2 v1 v2:ByteArray) (hne:(⟨k1,v1⟩:Rec)≠⟨k2,v2⟩) (w:World): (binOp .neq 125 (.agg #[.string k1,.string v1]) (.agg #[.string k2,.string v2])).run Tryz.prog w=.ok (.bool true) w:=by
 have key:(Op.equalIn 10000 125 (.agg #[.string k1,.string v1]) (.agg #[.string k2,.string v2])).run Tryz.prog w=.ok false w:=by
  show (Op.equalIn (9999+1) 125 _ _).run Tryz.prog w=_;rw [run_equalIn_struct _ _ _ _ _ und125 stood125]
  go_simp
  intro h1 h2;exact hne (by rw [ZStr.toList_inj h1,ZStr.toList_inj h2])
 rw [run_neq_struct,key];rfl
set_option maxHeartbeats 2000000 in
theorem equal_any (v u:Value) (l m:List Rec) (hl:l.length≤1000) (hm:m.length≤1000) (w:World) (hv:RecRd w v l) (hu:RecRd w u m):Calls Tryz.prog 120 #[v,u] w fun r w'=>∃ b,r=.returned (.bool b)∧(b=true↔l=m)∧Below w.heap.size w w':=by
 obtain ⟨A,c,rfl,hc,hA⟩:=hv;obtain ⟨A2,c2,rfl,hc2,hA2⟩:=hu;have HA:=hid (And.intro hA hA2);clear hA hA2;by_cases hlm:l.length=m.length;rotate_left
 ·
  have bn:((l.length:Int) != (m.length:Int))=true:=by rw [bne_iff_ne];omega
  have HN:=hid (show l≠m from fun e=>hlm (by rw [e]));clear hlm;go_enter Tryz.func120,Tryz.ntmps120
  go_wp2_with fail
  go_ret;exact ⟨false,rfl,⟨fun h=>(by cases h),fun h=>absurd h HN.out⟩,Below.refl _ _⟩
 ·
  obtain ⟨n,hn⟩:∃ n,l.length=n:=⟨_,rfl⟩;have hn2:m.length=n:=by rw [← hlm,hn]
  have HN:=hid (And.intro hn hn2);rw [hn] at hc hl ⊢;rw [hn2] at hc2 hm ⊢;have bn:((n:Int) != (n:Int))=false:=by simp
  clear hlm hn hn2;go_enter Tryz.func120,Tryz.ntmps120
  go_wp2_with fail
  go_loopw [13] (fun i wr=>∃ j:Nat,j≤n∧i=.int .i64 j∧Hid (Below w.heap.size w wr∧l.take j=m.take j)) (fun i _=>n - (intOf i).toNat)
  case atStart=>exact ⟨0,Nat.zero_le _,rfl,hid ⟨Below.refl _ _,rfl⟩⟩
  case round =>
   obtain ⟨j,hj,rfl,HB⟩:=hrel;by_cases hlt:j < n
   ·
    have hltz:(j:Int) < (n:Int):=by omega
    obtain ⟨r,hr⟩:∃ r,l[j]?=some r:=⟨_,List.getElem?_eq_getElem (by rw [HN.out.1];exact hlt)⟩;obtain ⟨q,hq⟩:∃ r,m[j]?=some r:=⟨_,List.getElem?_eq_getElem (by rw [HN.out.2];exact hlt)⟩;obtain ⟨g,rfl,h1⟩:=HA.out.1 (by rw [HN.out.1];omega);obtain ⟨g2,rfl,h2⟩:=HA.out.2 (by rw [HN.out.2];omega);obtain ⟨c0,c1⟩:=(h1.of (HB.out.1.block _ h1.lt)).cell j r hr;obtain ⟨d0,d1⟩:=(h2.of (HB.out.1.block _ h2.lt)).cell j q hq;have HQ:=hid (And.intro hr hq);clear h1 h2 hr hq;obtain ⟨key,val⟩:=r;obtain ⟨key2,val2⟩:=q;dsimp only at c0 c1 d0 d1;by_cases he:key=key2∧val=val2
    ·
     obtain ⟨rfl,rfl⟩:=he
     go_wp2_with fail
     repeat (go_quiet (fail);try go_wp2_with fail)
     exact ⟨⟨j+1,by omega,by go_num,hid ⟨pw_below_drewN HB.out.1 _,by rw [List.take_add_one,List.take_add_one,HQ.out.1,HQ.out.2,HB.out.2]⟩⟩,by simp [intOf];omega⟩
    ·
     have HD:∀ W:World,(binOp .neq 125 (.agg #[.string key,.string val]) (.agg #[.string key2,.string val2])).run Tryz.prog W=.ok (.bool true) W:=fun W=>rec_diff _ _ _ _ (fun h=>he ⟨congrArg Rec.key h,congrArg Rec.val h⟩) W;have HE:=hid he;clear he
     go_wp2_with fail
     repeat (go_quiet (fail);try go_wp2_with fail)
     go_ret;refine ⟨false,rfl,⟨fun h=>(by cases h),fun h=>?_⟩,pw_below_drewN HB.out.1 _⟩;have h2:=HQ.out.1;rw [h,HQ.out.2] at h2;injection h2 with h2
     injection h2 with h3 h4
     exact absurd ⟨h3.symm,h4.symm⟩ HE.out
   ·
    obtain rfl:j=n:=by omega
    go_wp2_with fail
    go_ret;refine ⟨true,rfl,⟨fun _=>?_,fun _=>rfl⟩,HB.out.1⟩;have h:=HB.out.2;rw [List.take_of_length_le (by rw [HN.out.1];exact Nat.le_refl _),List.take_of_length_le (by rw [HN.out.2];exact Nat.le_refl _)] at h;exact h
end ZMergeN
end
namespace ZDecN
section
open ZBlock ZCheck ZPay ZDHead ZMergeA
open ZEntry (blkB blkB_len extH sPax blocks extended_calls)
open ZDRecA
theorem hdr_diff (t1 t2:Int) (n1 n2 p1 p2 l1 l2:ByteArray) (m1 m2 s1 s2:Int) (hne:(⟨t1,n1,p1,l1,m1,s1⟩:Hdr)≠⟨t2,n2,p2,l2,m2,s2⟩) (w:World): (binOp .neq 138 (.agg #[.int .u8 t1,.string n1,.string p1,.string l1,.int .i64 m1,.int .i64 s1]) (.agg #[.int .u8 t2,.string n2,.string p2,.string l2,.int .i64 m2,.int .i64 s2])).run Tryz.prog w=.ok (.bool true) w:=by
 have key:(Op.equalIn 10000 138 (.agg #[.int .u8 t1,.string n1,.string p1,.string l1,.int .i64 m1,.int .i64 s1]) (.agg #[.int .u8 t2,.string n2,.string p2,.string l2,.int .i64 m2,.int .i64 s2])).run Tryz.prog w=.ok false w:=by
  show (Op.equalIn (9999+1) 138 _ _).run Tryz.prog w=_;rw [run_equalIn_struct _ _ _ _ _ und138 stood138]
  go_simp
  intro h1 h2 h3 h4 h5 h6;exact hne (by rw [h1,ZStr.toList_inj h2,ZStr.toList_inj h3,ZStr.toList_inj h4,h5,h6])
 rw [run_neq_struct,key];rfl
set_option maxHeartbeats 4000000 in
theorem reject1 (w:World) (v0:Value) (typ:Int) (name pre lk:ByteArray) (mode:Int) (n:Nat) (hne:(⟨typ,name,pre,lk,mode,n⟩:Hdr)≠extH n): Calls Tryz.prog 77 #[v0,.agg #[.int .u8 typ,.string name,.string pre,.string lk,.int .i64 mode,.int .i64 n]] w (fun e w'=>e=.returned (.tuple #[.slice none 0 0,.int .i64 17])∧Below w.heap.size w w'):=by
 have HD:∀ W:World,(binOp .neq 138 (.agg #[.int .u8 typ,.string name,.string pre,.string lk,.int .i64 mode,.int .i64 n]) (.agg #[.int .u8 120,.string ⟨#[112,97,120]⟩,.string ⟨#[]⟩,.string ⟨#[]⟩,.int .i64 0,.int .i64 n])).run Tryz.prog W=.ok (.bool true) W:=fun W=>hdr_diff _ _ _ _ _ _ _ _ _ _ _ _ hne W;have SS0:=(Sx.start w typ name pre lk mode n).y;obtain ⟨⟨u0,u1,u2,u3,u4,u5⟩,SS⟩:=SS0;have EC:=hid (ext_calls w typ name pre lk mode n);clear hne;go_enter Tryz.func77,Tryz.ntmps77
 go_wp2_with fail
 apply ZHead.join (S:=Sx w typ name pre lk mode n)
 ·
  first | (go_region_with (go_at_call 94;refine (EC.out _ ?_).mono ?_;exact SS;rintro e w' ⟨rfl,⟨c0,c1,c2,c3,c4,c5⟩,hS⟩)) | fail
  all_goals exact ⟨rfl,hS.out⟩
 clear u0 u1 u2 u3 u4 u5 SS EC HD;intro W1 S1;replace S1:=hid S1.2
 go_wp2_with fail
 go_ret2
 exact ⟨rfl,S1.out⟩
set_option maxHeartbeats 4000000 in
theorem reject2 (w:World) (v0:Value) (n:Nat) (h0:n < 1): Calls Tryz.prog 77 #[v0,.agg #[.int .u8 120,.string ⟨#[112,97,120]⟩,.string ⟨#[]⟩,.string ⟨#[]⟩,.int .i64 0,.int .i64 n]] w (fun e w'=>e=.returned (.tuple #[.slice none 0 0,.int .i64 17])∧Below w.heap.size w w'):=by
 have HD:∀ W:World,(binOp .neq 138 (.agg #[.int .u8 120,.string ⟨#[112,97,120]⟩,.string ⟨#[]⟩,.string ⟨#[]⟩,.int .i64 0,.int .i64 n]) (.agg #[.int .u8 120,.string ⟨#[112,97,120]⟩,.string ⟨#[]⟩,.string ⟨#[]⟩,.int .i64 0,.int .i64 n])).run Tryz.prog W=.ok (.bool false) W:=fun W=>hdr_same _ _ _ _ _ _ W;have SS0:=(Sx.start w 120 ⟨#[112,97,120]⟩ ⟨#[]⟩ ⟨#[]⟩ 0 n).y;obtain ⟨⟨u0,u1,u2,u3,u4,u5⟩,SS⟩:=SS0;have EC:=hid (ext_calls w 120 ⟨#[112,97,120]⟩ ⟨#[]⟩ ⟨#[]⟩ 0 n);have g1:(n:Int) < 1:=by omega
 go_enter Tryz.func77,Tryz.ntmps77
 go_wp2_with fail
 apply ZHead.join (S:=Sx w 120 ⟨#[112,97,120]⟩ ⟨#[]⟩ ⟨#[]⟩ 0 n)
 ·
  first | (go_region_with (go_at_call 94;refine (EC.out _ ?_).mono ?_;exact SS;rintro e w' ⟨rfl,⟨c0,c1,c2,c3,c4,c5⟩,hS⟩)) | fail
  all_goals exact ⟨rfl,hS.out⟩
 clear u0 u1 u2 u3 u4 u5 SS EC HD;intro W1 S1;replace S1:=hid S1.2
 go_wp2_with fail
 go_ret2
 exact ⟨rfl,S1.out⟩
set_option maxHeartbeats 4000000 in
theorem reject3 (w:World) (v0:Value) (n:Nat) (h0:262144 < n): Calls Tryz.prog 77 #[v0,.agg #[.int .u8 120,.string ⟨#[112,97,120]⟩,.string ⟨#[]⟩,.string ⟨#[]⟩,.int .i64 0,.int .i64 n]] w (fun e w'=>e=.returned (.tuple #[.slice none 0 0,.int .i64 17])∧Below w.heap.size w w'):=by
 have HD:∀ W:World,(binOp .neq 138 (.agg #[.int .u8 120,.string ⟨#[112,97,120]⟩,.string ⟨#[]⟩,.string ⟨#[]⟩,.int .i64 0,.int .i64 n]) (.agg #[.int .u8 120,.string ⟨#[112,97,120]⟩,.string ⟨#[]⟩,.string ⟨#[]⟩,.int .i64 0,.int .i64 n])).run Tryz.prog W=.ok (.bool false) W:=fun W=>hdr_same _ _ _ _ _ _ W;have SS0:=(Sx.start w 120 ⟨#[112,97,120]⟩ ⟨#[]⟩ ⟨#[]⟩ 0 n).y;obtain ⟨⟨u0,u1,u2,u3,u4,u5⟩,SS⟩:=SS0;have EC:=hid (ext_calls w 120 ⟨#[112,97,120]⟩ ⟨#[]⟩ ⟨#[]⟩ 0 n);have g1:¬ (n:Int) < 1:=by omega
 have g2:(262144:Int) < (n:Int):=by omega
 go_enter Tryz.func77,Tryz.ntmps77
 go_wp2_with fail
 apply ZHead.join (S:=Sx w 120 ⟨#[112,97,120]⟩ ⟨#[]⟩ ⟨#[]⟩ 0 n)
 ·
  first | (go_region_with (go_at_call 94;refine (EC.out _ ?_).mono ?_;exact SS;rintro e w' ⟨rfl,⟨c0,c1,c2,c3,c4,c5⟩,hS⟩)) | fail
  all_goals exact ⟨rfl,hS.out⟩
 clear u0 u1 u2 u3 u4 u5 SS EC HD;intro W1 S1;replace S1:=hid S1.2
 go_wp2_with fail
 go_ret2
 exact ⟨rfl,S1.out⟩
end
section
open ZBlock ZCheck ZPay ZDHead ZMergeA ZDRecA ZFit
open ZEntry (blkB blkB_len extH sPax blocks extended_calls)
open ZDecA
set_option maxHeartbeats 8000000 in
theorem dec_bad (w:World) (rb sb:Nat) (off:Int) (av:List Int) (ε:Int) (h:Rd w rb sb off av ε) (hG:Gl w) (h20:20≤w.heap.size) (hsb:20≤sb) (hav:av.length≤1000000000) (hoff:0≤off∧off≤1000000000000) (hl:512≤av.length) (hz:∃ x∈av.take 512,x≠0) (hbad:∀ h:Hdr,h.Ok→av.take 512≠blkB h): Calls Tryz.prog 44 #[.pointer (some ⟨rb,0,none⟩)] w fun e w'=>Mo [sb,rb] w w'∧∃ x:Int,(x=9∨x=8∨x=6)∧e=.returned (.tuple #[zent,.int .i64 off,.int .i64 x]):=by
 have D0:=hid (Dw.start h);obtain ⟨X,hX⟩:∃ X,(w.alloc (.cells ecells 54)).alloc (.cells #[.pointer (some ⟨rb,0,none⟩),.int .i64 0] 137)=X:=⟨_,rfl⟩;have R0:=hid (h.below (((Below.refl w.heap.size w).alloc (Nat.le_refl _) (.cells ecells 54)).alloc (by simp) (.cells #[.pointer (some ⟨rb,0,none⟩),.int .i64 0] 137)));rw [hX] at D0 R0;have HH:=hid (And.intro hG (And.intro h20 (And.intro hsb (And.intro hav hoff))));have HB:=hid (Str.bytes h.str);have HE:=hid (Str.eps h.str);have OC:=hid (offset_calls X rb sb off 0 R0.out.rdr);have NC:=hid (next_ok X rb sb off av ε R0.out hl);have HZ:=hid hz;have HBAD:=hid hbad;clear hl hz hbad;clear h hG h20 hsb hav hoff;go_enter Tryz.func44,Tryz.ntmps44
 go_wp2_with fail
 refine OC.out.mono ?_;rintro e w' ⟨rfl,rfl⟩
 go_wp2_with fail
 refine NC.out.mono ?_;rintro e w2 ⟨g,cap,rfl,ho,hr,hm⟩;have D2:=hid (D0.out.step hm (by simp));have T2:=hid (And.intro ho hr);have ZC:=hid (ZZero.zero_calls (some ⟨g,0,none⟩) 512 cap (av.take 512) w2 ho.reads (by decide));clear ho hr hm NC
 go_wp2_with fail
 refine ZC.out.mono ?_;rintro e w3 ⟨b,rfl,hbz,rfl⟩;obtain rfl:b=false:=by
  cases b with
  | false=>rfl
  | true =>obtain ⟨x,h1,h2⟩:=HZ.out;exact absurd (hbz.1 rfl x h1) h2
 obtain ⟨q0,q1,q2⟩:=D2.out.dec.facts;have D3:=hid (D2.out.set off);have HD:=hid (ZUDec.decode_calls g cap (av.take 512) (w2.setCell ⟨w.heap.size+1,1,none⟩ (.int .i64 off)) (T2.out.1.blk (Below.heap_setCell _ _ _ _ (by
   have h1:=T2.out.1.from_;have h2:=D0.out.dec.lt;show g≠w.heap.size+1;omega))).reads (fun x hx=>HB.out x (List.mem_of_mem_take hx)) T2.out.1.le T2.out.1.max (HH.out.1.mo D3.out.mo HH.out.2.1 (by
   have h1:=D0.out.lo;have h2:=HH.out.2.2.1;simp;omega)))
 have R3:=hid (Rd.far T2.out.2 (p:=⟨w.heap.size+1,1,none⟩) (by have:=D0.out.lo;show rb < w.heap.size+1;omega) (.int .i64 off));clear hbz ZC
 go_wp2_with fail
 refine HD.out.mono ?_;rintro e w4 ⟨hb4,hres⟩;have D4:=hid (D3.out.below hb4);have R4:=hid (R3.out.below hb4);obtain ⟨x,hx,rfl⟩:∃ x:Int,(x=9∨x=8∨x=6)∧e=.returned (.tuple #[zhdr,.int .i64 x]):=by
  rcases hres with ⟨h,hk,hb,_⟩ | ⟨_,x,hx,he⟩
  ·exact absurd hb (HBAD.out h hk)
  ·exact ⟨x,hx,he⟩
 have HX:=hid hx;have bx:(x != 0)=true:=by rw [bne_iff_ne];omega
 have D5:=hid (D4.out.below (below_alloc (Below.refl _ _) (.cells #[.int .u8 0,.string ⟨#[]⟩,.string ⟨#[]⟩,.string ⟨#[]⟩,.int .i64 0,.int .i64 0] 138)));obtain ⟨⟨y0,y1,y2,y3,y4⟩,z0,z1,z2,z3,z4⟩:=D5.out.facts;clear hres hb4 HD hx q0 q1 q2;unfold zhdr Hdr.val Hdr.cells;dsimp only
 go_wp2_with fail
 refine bodyPost_ret (v:=.tuple #[zent,.int .i64 (off),.int .i64 x]) (by simp [results,Tryz.results44,go_sem,y0,y1,y2,y3,y4,z0,z1,z2,z3,z4]) rfl ⟨D5.out.five _ _ _ _ _,x,HX.out,rfl⟩
end
section
open ZBlock ZCheck ZPay ZDHead ZMergeA ZDRecA ZFit ZDecA ZDecB
open ZEntry (blkB blkB_len extH sPax blocks extended_calls)
set_option maxHeartbeats 8000000 in
theorem dec_rej (w:World) (rb sb:Nat) (off:Int) (av:List Int) (ε:Int) (h:Rd w rb sb off av ε) (hG:Gl w) (h20:20≤w.heap.size) (hsb:20≤sb) (hav:av.length≤1000000000) (hoff:0≤off∧off≤1000000000000) (hd:Hdr) (hk:hd.Ok) (hl:512≤av.length) (hz:∃ x∈av.take 512,x≠0) (hbl:av.take 512=blkB hd) (ht:hd.typ=120) (hr:¬ ∃ n:Nat,hd=extH n∧1≤n∧n≤262144): Calls Tryz.prog 44 #[.pointer (some ⟨rb,0,none⟩)] w fun e w'=>Mo [sb,rb] w w'∧e=.returned (.tuple #[zent,.int .i64 off,.int .i64 17]):=by
 have D0:=hid (Dw.start h);obtain ⟨X,hX⟩:∃ X,(w.alloc (.cells ecells 54)).alloc (.cells #[.pointer (some ⟨rb,0,none⟩),.int .i64 0] 137)=X:=⟨_,rfl⟩;have R0:=hid (h.below (((Below.refl w.heap.size w).alloc (Nat.le_refl _) (.cells ecells 54)).alloc (by simp) (.cells #[.pointer (some ⟨rb,0,none⟩),.int .i64 0] 137)));rw [hX] at D0 R0;have HH:=hid (And.intro hG (And.intro h20 (And.intro hsb (And.intro hav hoff))));have HB:=hid (Str.bytes h.str);have HE:=hid (Str.eps h.str);have OC:=hid (offset_calls X rb sb off 0 R0.out.rdr);have NC:=hid (next_ok X rb sb off av ε R0.out hl);have HZ:=hid hz;have HK:=hid (And.intro hk hbl);have RC:Hid (∀ W v0,Calls Tryz.prog 77 #[v0,hd.val] W (fun e w'=>e=.returned (.tuple #[.slice none 0 0,.int .i64 17])∧Below W.heap.size W w')):=hid (fun W v0=>by
  obtain ⟨typ,name,pre,lk,mode,size⟩:=hd;obtain ⟨n,hn⟩:∃ n:Nat,size=n:=⟨size.toNat,by have:=hk.size.1;dsimp only at this;omega⟩;subst hn;by_cases he:(⟨typ,name,pre,lk,mode,n⟩:Hdr)=extH n
  ·
   have hn:n < 1∨262144 < n:=by
    rcases Nat.lt_or_ge n 1 with h1 | h1
    ·exact .inl h1
    ·
     rcases Nat.lt_or_ge 262144 n with h2 | h2
     ·exact .inr h2
     ·exact absurd ⟨n,he,h1,h2⟩ hr
   rw [he];rcases hn with h1 | h1
   ·exact reject2 W v0 n h1
   ·exact reject3 W v0 n h1
  ·exact reject1 W v0 typ name pre lk mode n he)
 clear hl hz hk hbl hr;clear h hG h20 hsb hav hoff;go_enter Tryz.func44,Tryz.ntmps44
 go_wp2_with fail
 refine OC.out.mono ?_;rintro e w' ⟨rfl,rfl⟩
 go_wp2_with fail
 refine NC.out.mono ?_;rintro e w2 ⟨g,cap,rfl,ho,hr,hm⟩;have D2:=hid (D0.out.step hm (by simp));have T2:=hid (And.intro ho hr);have ZC:=hid (ZZero.zero_calls (some ⟨g,0,none⟩) 512 cap (av.take 512) w2 ho.reads (by decide));clear ho hr hm NC
 go_wp2_with fail
 refine ZC.out.mono ?_;rintro e w3 ⟨b,rfl,hbz,rfl⟩;obtain rfl:b=false:=by
  cases b with
  | false=>rfl
  | true =>obtain ⟨x,h1,h2⟩:=HZ.out;exact absurd (hbz.1 rfl x h1) h2
 obtain ⟨q0,q1,q2⟩:=D2.out.dec.facts;have D3:=hid (D2.out.set off);have HD:=hid (ZUDec.decode_calls g cap (av.take 512) (w2.setCell ⟨w.heap.size+1,1,none⟩ (.int .i64 off)) (T2.out.1.blk (Below.heap_setCell _ _ _ _ (by
   have h1:=T2.out.1.from_;have h2:=D0.out.dec.lt;show g≠w.heap.size+1;omega))).reads (fun x hx=>HB.out x (List.mem_of_mem_take hx)) T2.out.1.le T2.out.1.max (HH.out.1.mo D3.out.mo HH.out.2.1 (by
   have h1:=D0.out.lo;have h2:=HH.out.2.2.1;simp;omega)))
 have R3:=hid (Rd.far T2.out.2 (p:=⟨w.heap.size+1,1,none⟩) (by have:=D0.out.lo;show rb < w.heap.size+1;omega) (.int .i64 off));clear hbz ZC
 go_wp2_with fail
 refine HD.out.mono ?_;rintro e w4 ⟨hb4,hres⟩;have D4:=hid (D3.out.below hb4);have R4:=hid (R3.out.below hb4);have he:e=.returned (.tuple #[hd.val,.int .i64 0]):=by
  rcases hres with ⟨h,hk,hb,he⟩ | ⟨hbad,_⟩
  ·rw [he,ZHdr.blkB_inj hk HK.out.1 (hb.symm.trans HK.out.2)]
  ·exact absurd HK.out.2 (hbad hd HK.out.1)
 subst he;obtain ⟨typ,name,pre,lk,mode,size⟩:=hd;dsimp only at ht;subst ht;have bx:((0:Int) != 0)=false:=rfl;have BA:=hid (below_alloc (Below.refl _ w4) (.cells #[.int .u8 120,.string name,.string pre,.string lk,.int .i64 mode,.int .i64 size] 138));have D5:=hid (D4.out.below BA.out);have R5:=hid (R4.out.below BA.out);have G5:Hid (∀ W a,Dw w W rb sb a→Gl W):=hid (fun W a hd=>HH.out.1.mo hd.mo HH.out.2.1 (by
   have h1:=D0.out.lo;have h2:=HH.out.2.2.1;simp;omega))
 have b120:((120:Int) == 120)=true:=rfl;clear hres hb4 HD q0 q1 q2;unfold Hdr.val Hdr.cells at *;dsimp only at *
 go_wp2_with fail
 refine (RC.out _ _).mono ?_;rintro e w6 ⟨rfl,hb6⟩;have D6:=hid (D5.out.below hb6);have b17:((17:Int) != 0)=true:=rfl;clear hb6 RC;obtain ⟨⟨y0,y1,y2,y3,y4⟩,z0,z1,z2,z3,z4⟩:=D6.out.facts;obtain ⟨q0,q1,q2⟩:=D6.out.dec.facts
 go_wp2_with fail
 go_region
 all_goals
  go_wp2_with fail
  refine bodyPost_ret (v:=.tuple #[zent,.int .i64 (off),.int .i64 17]) (by simp [results,Tryz.results44,go_sem,y0,y1,y2,y3,y4,z0,z1,z2,z3,z4]) rfl ⟨?_,rfl⟩;exact (D6.out.below (Below.refl _ _).drew).five _ _ _ _ _
end
section
open ZBlock ZCheck ZPay ZDHead ZMergeA ZDRecA ZFit ZDecA ZDecB
open ZEntry (blkB blkB_len extH sPax blocks extended_calls)
set_option maxHeartbeats 8000000 in
theorem dec_paxF (w:World) (rb sb:Nat) (off:Int) (av:List Int) (ε:Int) (h:Rd w rb sb off av ε) (hG:Gl w) (h20:20≤w.heap.size) (hsb:20≤sb) (hav:av.length≤1000000000) (hoff:0≤off∧off≤1000000000000) (n:Nat) (h1:1≤n) (h2:n≤262144) (hl:512≤av.length) (hz:∃ x∈av.take 512,x≠0) (hbl:av.take 512=blkB (extH n)) (S:List Rec→Prop) (T:Int→Int→Prop) (hP:blocks n * 512≤(av.drop 512).length→(∀ x∈((av.drop 512).take (blocks n * 512)).drop n,x=0)→ParseC ((av.drop 512).take n) S T) (kk:Nat) (hkk:blocks n * 512=kk) (hK:kk≤(av.drop 512).length) (h0:∀ x∈((av.drop 512).take kk).drop n,x=0) (hT:∀ m x,¬ T m x) (hc:512≤((av.drop 512).drop kk).length) (hbad:∀ h2:Hdr,h2.Ok→((av.drop 512).drop kk).take 512≠blkB h2): Calls Tryz.prog 44 #[.pointer (some ⟨rb,0,none⟩)] w fun e w'=>Mo [sb,rb] w w'∧(∃ l,S l)∧∃ x:Int,(x=9∨x=8∨x=6)∧e=.returned (.tuple #[zent,.int .i64 (off+512+kk),.int .i64 x]):=by
 have D0:=hid (Dw.start h);obtain ⟨X,hX⟩:∃ X,(w.alloc (.cells ecells 54)).alloc (.cells #[.pointer (some ⟨rb,0,none⟩),.int .i64 0] 137)=X:=⟨_,rfl⟩;have R0:=hid (h.below (((Below.refl w.heap.size w).alloc (Nat.le_refl _) (.cells ecells 54)).alloc (by simp) (.cells #[.pointer (some ⟨rb,0,none⟩),.int .i64 0] 137)));rw [hX] at D0 R0;have HH:=hid (And.intro hG (And.intro h20 (And.intro hsb (And.intro hav hoff))));have HB:=hid (Str.bytes h.str);have HE:=hid (Str.eps h.str);have OC:=hid (offset_calls X rb sb off 0 R0.out.rdr);have hk:(extH n).Ok:=ZEntry.extH_ok n (by omega) (by omega);have NC:=hid (next_ok X rb sb off av ε R0.out hl);have HZ:=hid hz;have HK:=hid (And.intro hk hbl);have HP:=hid hP;have HN:=hid (And.intro h1 h2);have HT:=hid hT;have H0:=hid (And.intro hK h0);have HKK:=hid hkk;have HCUT:=hid (And.intro hc hbad);clear hc hbad;clear hT hK h0 hkk;clear hl hz hk hbl hP h1 h2;clear h hG h20 hsb hav hoff;go_enter Tryz.func44,Tryz.ntmps44
 go_wp2_with fail
 refine OC.out.mono ?_;rintro e w' ⟨rfl,rfl⟩
 go_wp2_with fail
 refine NC.out.mono ?_;rintro e w2 ⟨g,cap,rfl,ho,hr,hm⟩;have D2:=hid (D0.out.step hm (by simp));have T2:=hid (And.intro ho hr);have ZC:=hid (ZZero.zero_calls (some ⟨g,0,none⟩) 512 cap (av.take 512) w2 ho.reads (by decide));clear ho hr hm NC
 go_wp2_with fail
 refine ZC.out.mono ?_;rintro e w3 ⟨b,rfl,hbz,rfl⟩;obtain rfl:b=false:=by
  cases b with
  | false=>rfl
  | true =>obtain ⟨x,h1,h2⟩:=HZ.out;exact absurd (hbz.1 rfl x h1) h2
 obtain ⟨q0,q1,q2⟩:=D2.out.dec.facts;have D3:=hid (D2.out.set off);have HD:=hid (ZUDec.decode_calls g cap (av.take 512) (w2.setCell ⟨w.heap.size+1,1,none⟩ (.int .i64 off)) (T2.out.1.blk (Below.heap_setCell _ _ _ _ (by
   have h1:=T2.out.1.from_;have h2:=D0.out.dec.lt;show g≠w.heap.size+1;omega))).reads (fun x hx=>HB.out x (List.mem_of_mem_take hx)) T2.out.1.le T2.out.1.max (HH.out.1.mo D3.out.mo HH.out.2.1 (by
   have h1:=D0.out.lo;have h2:=HH.out.2.2.1;simp;omega)))
 have R3:=hid (Rd.far T2.out.2 (p:=⟨w.heap.size+1,1,none⟩) (by have:=D0.out.lo;show rb < w.heap.size+1;omega) (.int .i64 off));clear hbz ZC
 go_wp2_with fail
 refine HD.out.mono ?_;rintro e w4 ⟨hb4,hres⟩;have D4:=hid (D3.out.below hb4);have R4:=hid (R3.out.below hb4);have he:e=.returned (.tuple #[(extH n).val,.int .i64 0]):=by
  rcases hres with ⟨h,hk,hb,he⟩ | ⟨hbad,_⟩
  ·rw [he,ZHdr.blkB_inj hk HK.out.1 (hb.symm.trans HK.out.2)]
  ·exact absurd HK.out.2 (hbad (extH n) HK.out.1)
 subst he;have bx:((0:Int) != 0)=false:=rfl;have BA:=hid (below_alloc (Below.refl _ w4) (.cells #[.int .u8 120,.string ⟨#[112,97,120]⟩,.string ⟨#[]⟩,.string ⟨#[]⟩,.int .i64 0,.int .i64 n] 138));have D5:=hid (D4.out.below BA.out);have R5:=hid (R4.out.below BA.out);have G5:Hid (∀ W a,Dw w W rb sb a→Gl W):=hid (fun W a hd=>HH.out.1.mo hd.mo HH.out.2.1 (by
   have h1:=D0.out.lo;have h2:=HH.out.2.2.1;simp;omega))
 have b120:((120:Int) == 120)=true:=rfl;have AC:=hid (ZDRec.accept (w4.alloc (.cells #[.int .u8 120,.string ⟨#[112,97,120]⟩,.string ⟨#[]⟩,.string ⟨#[]⟩,.int .i64 0,.int .i64 n] 138)) (w.heap.size+1) rb sb (off+512) off (av.drop 512) ε R5.out D5.out.dec (by have:=D0.out.lo;omega) (G5.out _ _ D5.out) (by
   have h1:=HH.out.2.1;have h2:=D5.out.mo.size;omega) HH.out.2.2.1 n HN.out.1 HN.out.2 (by have:=HH.out.2.2.2.1;rw [List.length_drop];omega) (by have:=HH.out.2.2.2.2;omega) S T HP.out)
 clear hres hb4 HD q0 q1 q2;unfold RecPost at AC;rw [HKK.out] at AC;unfold extH sPax Hdr.val Hdr.cells;dsimp only
 go_wp2_with fail
 refine AC.out.mono ?_;rintro e w6 ⟨hm6,hres⟩;rcases hres with ⟨p1,_⟩ | ⟨_,⟨x,p2,p3⟩,_⟩ | ⟨_,_,⟨m,x,p3,_⟩,_⟩ | ⟨p1,p2,⟨l,v,p3,rfl,p4⟩,p5,p6⟩
 ·exact absurd H0.out.1 (by omega)
 ·exact absurd (H0.out.2 x p2) p3
 ·exact absurd p3 (HT.out m x)
 obtain ⟨hx,hhx⟩:∃ k,w4.heap.size=k:=⟨_,rfl⟩;have D6:=hid (D5.out.more hm6 p5);have K6:Hid (w6.heap[hx]?=some (.cells #[.int .u8 120,.string ⟨#[112,97,120]⟩,.string ⟨#[]⟩,.string ⟨#[]⟩,.int .i64 0,.int .i64 n] 138 (0,0))∧w.heap.size+1 < hx):=hid (by
  have h1:=D4.out.dec.lt;have h2:=D4.out.lo;have h3:(w4.alloc (.cells #[.int .u8 120,.string ⟨#[112,97,120]⟩,.string ⟨#[]⟩,.string ⟨#[]⟩,.int .i64 0,.int .i64 n] 138)).heap.size=w4.heap.size+1:=by simp
  refine ⟨(hm6.keep hx (by omega) (by simp;omega)).trans ?_,by omega⟩;rw [← hhx];exact heap_alloc_new _ _)
 have R6:=hid p6;have V6:=hid (And.intro p3 p4);rw [hhx];clear p1 p2 p3 p4 p5 p6 hm6 AC hhx
 go_wp2_with fail
 have HC:=hid (ZDHead.header_calls w6 (w.heap.size+1) rb sb _ _ _ ε R6.out D6.out.dec (by have:=D0.out.lo;omega) (G5.out _ _ D6.out) (by
   have h1:=HH.out.2.1;have h2:=D6.out.mo.size;omega) HH.out.2.2.1)
 refine HC.out.mono ?_;rintro e w7 ⟨hm7,hres⟩;have K7:=hid ((hm7.keep hx (blk_lt K6.out.1) (by have h1:=K6.out.2;have h2:=D0.out.lo;simp;omega)).trans K6.out.1);have Z7:Hid ((w7.cell? ⟨hx,0,none⟩=some (.int .u8 120)∧w7.cell? ⟨hx,1,none⟩=some (.string ⟨#[112,97,120]⟩)∧w7.cell? ⟨hx,2,none⟩=some (.string ⟨#[]⟩)∧w7.cell? ⟨hx,3,none⟩=some (.string ⟨#[]⟩)∧w7.cell? ⟨hx,4,none⟩=some (.int .i64 0)∧w7.cell? ⟨hx,5,none⟩=some (.int .i64 n)) ∧
  (w7.frozen? ⟨hx,0,none⟩=false∧w7.frozen? ⟨hx,1,none⟩=false∧w7.frozen? ⟨hx,2,none⟩=false∧w7.frozen? ⟨hx,3,none⟩=false∧w7.frozen? ⟨hx,4,none⟩=false∧w7.frozen? ⟨hx,5,none⟩=false)):=hid (by
  refine ⟨⟨row_cell K7.out 0 _ rfl,row_cell K7.out 1 _ rfl,row_cell K7.out 2 _ rfl,row_cell K7.out 3 _ rfl,row_cell K7.out 4 _ rfl,row_cell K7.out 5 _ rfl⟩,?_,?_,?_,?_,?_,?_⟩ <;> simp [World.frozen?,K7.out])
 have SIX:Hid (∀ a v0 v1 v2 v3 v4 v5,Dw w w7 rb sb a→Dw w ((((((w7.setCell ⟨hx,0,none⟩ v0).setCell ⟨hx,1,none⟩ v1).setCell ⟨hx,2,none⟩ v2).setCell ⟨hx,3,none⟩ v3).setCell ⟨hx,4,none⟩ v4).setCell ⟨hx,5,none⟩ v5) rb sb a):=hid (fun a v0 v1 v2 v3 v4 v5 hd=>by have h1:=K6.out.2;exact ⟨six_mo hd.mo hx (by omega) _ _ _ _ _ _,(six_keep _ _ _ (by omega) _ _ _ _ _ _).trans hd.box,hd.dec.of (six_keep _ _ _ (by omega) _ _ _ _ _ _),hd.lo⟩)
 obtain ⟨⟨s0,s1,s2,s3,s4,s5⟩,t0,t1,t2,t3,t4,t5⟩:=Z7.out;rcases hres with ⟨p1,_⟩ | ⟨p1,⟨h2,p2,p3,_⟩,_⟩ | ⟨p1,p2,⟨x,p3,rfl⟩,p4,p5⟩
 ·exact absurd p1 (by have:=HCUT.out.1;omega)
 ·exact absurd p3 (HCUT.out.2 h2 p2)
 ·
  have D7:=hid (D6.out.more hm7 p4);have HR:=hid p3;have b4:(x == 4)=false:=beq_eq_false_iff_ne.2 (by omega);have bc:(x != 0)=true:=by rw [bne_iff_ne];omega
  have D8:=hid (SIX.out _ (.int .u8 0) (.string ⟨#[]⟩) (.string ⟨#[]⟩) (.string ⟨#[]⟩) (.int .i64 0) (.int .i64 0) D7.out);clear p1 p2 p3 p4 p5 hm7 HC;obtain ⟨W8,hW8⟩:∃ Y,(((((w7.setCell ⟨hx,0,none⟩ (.int .u8 0)).setCell ⟨hx,1,none⟩ (.string ⟨#[]⟩)).setCell ⟨hx,2,none⟩ (.string ⟨#[]⟩)).setCell ⟨hx,3,none⟩ (.string ⟨#[]⟩)).setCell ⟨hx,4,none⟩ (.int .i64 0)).setCell ⟨hx,5,none⟩ (.int .i64 0)=Y:=⟨_,rfl⟩;rw [hW8] at D8;unfold zhdr Hdr.val Hdr.cells;dsimp only;obtain ⟨⟨y0,y1,y2,y3,y4⟩,z0,z1,z2,z3,z4⟩:=D8.out.facts;obtain ⟨q0,q1,q2⟩:=D8.out.dec.facts
  go_wp2_with fail
  go_region
  all_goals
   go_wp2_with fail
   refine bodyPost_ret (v:=.tuple #[zent,.int .i64 (off+512+kk),.int .i64 x]) (by simp [results,Tryz.results44,go_sem,y0,y1,y2,y3,y4,z0,z1,z2,z3,z4]) rfl ⟨?_,⟨l,V6.out.1⟩,x,HR.out,rfl⟩;exact (D8.out.below (Below.refl _ _).drew).five _ _ _ _ _
end
end ZDecN
namespace ZMergeN
open ZFmt ZFit ZPlan ZMap ZPath ZMergeA ZMerge ZNum ZNumA ZFirstN ZParseN ZPlanN
open Go.Lib (decDigits parseIntB)
open ZCheck (Hdr)
open ZDecB (MergeC)
open ZDecA (zent ecells)
def apply2 (e:Ent) (r:Rec):Ent:=if r.key=sLink then { e with target:=r.val } else if r.key=sPath then { e with path:=r.val } else { e with size:=numV r.val }
theorem map3_size:ZMap.get map3 sSize=some 119:=by decide
theorem C8.setN {Wm wr:World} {bb mb:Nat} {e:Ent} (h:C8 Wm wr bb mb e) (i:Nat) (n:Int) (e2:Ent) (he:e2.cells=e.cells.setIfInBounds i (.int .i64 n)):C8 Wm (wr.setCell ⟨bb,i,none⟩ (.int .i64 n)) bb mb e2:=by refine ⟨?_,h.mo.set (.inl (by simp)) _,MapAt.of h.map (Below.heap_setCell _ _ _ _ (by simpa using h.ne.1)),h.ne⟩;rw [setCell_eq_setRow _ _ _ _ 190 (0,0) _ h.blk,setRow_heap _ _ _ _ _ _ h.blk,he]
theorem five_cell {w:World} {k:Nat} {v0 v1 v2 v3 v4:Value} {t:TypeId} (h:w.heap[k]?=some (.cells #[v0,v1,v2,v3,v4] t (0,0))):w.cell? ⟨k,0,none⟩=some v0∧w.cell? ⟨k,1,none⟩=some v1∧w.cell? ⟨k,2,none⟩=some v2∧w.cell? ⟨k,3,none⟩=some v3∧w.cell? ⟨k,4,none⟩=some v4:=by simp [World.cell?,h]
theorem five_free {w:World} {k:Nat} {v0 v1 v2 v3 v4:Value} {t:TypeId} (h:w.heap[k]?=some (.cells #[v0,v1,v2,v3,v4] t (0,0))):w.frozen? ⟨k,0,none⟩=false∧w.frozen? ⟨k,1,none⟩=false∧w.frozen? ⟨k,2,none⟩=false∧w.frozen? ⟨k,3,none⟩=false∧w.frozen? ⟨k,4,none⟩=false:=by simp [World.frozen?,h]
theorem planR_le (e:Ent):(planR e).length≤3:=by unfold planR;simp only [List.length_append];split <;> split <;> split <;> simp
def MergePost (hd:Hdr) (rl:List Rec) (w:World) (r:Ending) (w':World):Prop:=Below w.heap.size w w' ∧
 ((∃ x:Ent,x.Ok∧planH x=hd∧planR x=rl∧r=.returned (.tuple #[x.val,.int .i64 0]))∨(∃ c:Int,(c=6∨c=17)∧r=.returned (.tuple #[zent,.int .i64 c])))
set_option maxHeartbeats 16000000 in
theorem merge_any (hd:Hdr) (hk:hd.Ok) (rl:List Rec) (hok:∀ r∈rl,RecOk r) (hlen:rl.length≤3) (v:Value) (w:World) (hG:Gl w) (hv:RecRd w v rl):Calls Tryz.prog 79 #[hd.val,v] w (MergePost hd rl w):=by
 have IC:=hid (fun W hW=>index_any hd.typ hk.typ W hW);obtain ⟨A,c,rfl,hc,hr⟩:=hv;have HR:=hid hr;have HG:=hid hG;have PC:=hid (fun e W hW=>plan_any e W hW);have ROK:=hid hok;have HK:=hid hk;have JC:=hid (fun W=>join_calls hd.pre hd.name (by
  have h1:=hk.pre;have h2:=hk.name;omega) W)
 obtain ⟨jp,hjp⟩:∃ q,joinP hd.pre hd.name=q:=⟨_,rfl⟩;rw [hjp] at JC;obtain ⟨k,hkk⟩:∃ k,kindOf hd.typ=k:=⟨_,rfl⟩;rw [hkk] at IC;clear hr hG hjp hkk hok hk;obtain ⟨typ,name,pre,lk,mode,size⟩:=hd;dsimp only at IC JC;unfold ZCheck.Hdr.val ZCheck.Hdr.cells;dsimp only;have hmm:=@run_makeMap Tryz.prog;have hmf:∀ (fn:Fn) (first cap:Array Value) (w:World),(Instr.makeFunc fn first cap).run Tryz.prog w=.ok (.func fn first cap) w:=fun _ _ _ _=>rfl;have B2:=hid (((Below.refl w.heap.size w).alloc (Nat.le_refl _) (.cells #[.int .u8 typ,.string name,.string pre,.string lk,.int .i64 mode,.int .i64 size] 138)).alloc (by simp) (.cells #[.int .i64 0,.string ⟨#[]⟩,.int .i64 0,.string ⟨#[]⟩,.int .i64 0] 54));have G2:=hid (HG.out.below B2.out);have G2d:=hid (HG.out.below B2.out.drew);have hW3:MapAt (((((w.alloc (.cells #[.int .u8 typ,.string name,.string pre,.string lk,.int .i64 mode,.int .i64 size] 138)).alloc (.cells #[.int .i64 0,.string ⟨#[]⟩,.int .i64 0,.string ⟨#[]⟩,.int .i64 0] 54)).alloc (.cells #[.int .i64 k,.string jp,.int .i64 mode,.string lk,.int .i64 size] 190)).alloc (.map #[] 0)).drew.drew) Value.string (fval (w.heap.size+1+1)) (w.heap.size+1+1+1) []:=by
  have:=heap_alloc_new (((w.alloc (.cells #[.int .u8 typ,.string name,.string pre,.string lk,.int .i64 mode,.int .i64 size] 138)).alloc (.cells #[.int .i64 0,.string ⟨#[]⟩,.int .i64 0,.string ⟨#[]⟩,.int .i64 0] 54)).alloc (.cells #[.int .i64 k,.string jp,.int .i64 mode,.string lk,.int .i64 size] 190)) (.map #[] 0);have hs:(((w.alloc (.cells #[.int .u8 typ,.string name,.string pre,.string lk,.int .i64 mode,.int .i64 size] 138)).alloc (.cells #[.int .i64 0,.string ⟨#[]⟩,.int .i64 0,.string ⟨#[]⟩,.int .i64 0] 54)).alloc (.cells #[.int .i64 k,.string jp,.int .i64 mode,.string lk,.int .i64 size] 190)).heap.size=w.heap.size+1+1+1:=by simp
  rw [hs] at this;exact this
 have hput0:=run_put map191 ZMerge.skeys hW3 (⟨#[108,105,110,107,112,97,116,104]⟩:ByteArray) 117;have hm0:=MapAt.put hW3 (ZMap.put ([]:List (ByteArray×Nat)) (⟨#[108,105,110,107,112,97,116,104]⟩:ByteArray) 117);obtain ⟨V0,hV0⟩:∃ X,(((((w.alloc (.cells #[.int .u8 typ,.string name,.string pre,.string lk,.int .i64 mode,.int .i64 size] 138)).alloc (.cells #[.int .i64 0,.string ⟨#[]⟩,.int .i64 0,.string ⟨#[]⟩,.int .i64 0] 54)).alloc (.cells #[.int .i64 k,.string jp,.int .i64 mode,.string lk,.int .i64 size] 190)).alloc (.map #[] 0)).drew.drew).putObj (w.heap.size+1+1+1) (.map (ents Value.string (fval (w.heap.size+1+1)) 0 (ZMap.put ([]:List (ByteArray×Nat)) (⟨#[108,105,110,107,112,97,116,104]⟩:ByteArray) 117)).toArray (ZMap.put ([]:List (ByteArray×Nat)) (⟨#[108,105,110,107,112,97,116,104]⟩:ByteArray) 117).length)=X:=⟨_,rfl⟩;rw [hV0] at hput0 hm0;have hput1:=run_put map191 ZMerge.skeys hm0 (⟨#[112,97,116,104]⟩:ByteArray) 118;have hm1:=MapAt.put hm0 (ZMap.put (ZMap.put ([]:List (ByteArray×Nat)) (⟨#[108,105,110,107,112,97,116,104]⟩:ByteArray) 117) (⟨#[112,97,116,104]⟩:ByteArray) 118);obtain ⟨V1,hV1⟩:∃ X,(V0).putObj (w.heap.size+1+1+1) (.map (ents Value.string (fval (w.heap.size+1+1)) 0 (ZMap.put (ZMap.put ([]:List (ByteArray×Nat)) (⟨#[108,105,110,107,112,97,116,104]⟩:ByteArray) 117) (⟨#[112,97,116,104]⟩:ByteArray) 118)).toArray (ZMap.put (ZMap.put ([]:List (ByteArray×Nat)) (⟨#[108,105,110,107,112,97,116,104]⟩:ByteArray) 117) (⟨#[112,97,116,104]⟩:ByteArray) 118).length)=X:=⟨_,rfl⟩;rw [hV1] at hput1 hm1;have hput2:=run_put map191 ZMerge.skeys hm1 (⟨#[115,105,122,101]⟩:ByteArray) 119;have hm2:=MapAt.put hm1 (ZMap.put (ZMap.put (ZMap.put ([]:List (ByteArray×Nat)) (⟨#[108,105,110,107,112,97,116,104]⟩:ByteArray) 117) (⟨#[112,97,116,104]⟩:ByteArray) 118) (⟨#[115,105,122,101]⟩:ByteArray) 119);obtain ⟨V2,hV2⟩:∃ X,(V1).putObj (w.heap.size+1+1+1) (.map (ents Value.string (fval (w.heap.size+1+1)) 0 (ZMap.put (ZMap.put (ZMap.put ([]:List (ByteArray×Nat)) (⟨#[108,105,110,107,112,97,116,104]⟩:ByteArray) 117) (⟨#[112,97,116,104]⟩:ByteArray) 118) (⟨#[115,105,122,101]⟩:ByteArray) 119)).toArray (ZMap.put (ZMap.put (ZMap.put ([]:List (ByteArray×Nat)) (⟨#[108,105,110,107,112,97,116,104]⟩:ByteArray) 117) (⟨#[112,97,116,104]⟩:ByteArray) 118) (⟨#[115,105,122,101]⟩:ByteArray) 119).length)=X:=⟨_,rfl⟩;rw [hV2] at hput2 hm2;have HV:Hid (C8 V2 V2 (w.heap.size+1+1) (w.heap.size+1+1+1) ⟨k,jp,mode,lk,size⟩∧V2.heap[w.heap.size]?=some (.cells #[.int .u8 typ,.string name,.string pre,.string lk,.int .i64 mode,.int .i64 size] 138 (0,0))∧V2.heap[w.heap.size+1]?=some (.cells #[.int .i64 0,.string ⟨#[]⟩,.int .i64 0,.string ⟨#[]⟩,.int .i64 0] 54 (0,0))∧Below w.heap.size w V2∧V2.heap.size=w.heap.size+4):=hid (by
  have q:∀ i,i≠(w.heap.size+1+1+1)→V2.heap[i]?=(((((w.alloc (.cells #[.int .u8 typ,.string name,.string pre,.string lk,.int .i64 mode,.int .i64 size] 138)).alloc (.cells #[.int .i64 0,.string ⟨#[]⟩,.int .i64 0,.string ⟨#[]⟩,.int .i64 0] 54)).alloc (.cells #[.int .i64 k,.string jp,.int .i64 mode,.string lk,.int .i64 size] 190)).alloc (.map #[] 0)).drew.drew).heap[i]?:=fun i hi=>by rw [← hV2,World.putObj_heap_other hi,← hV1,World.putObj_heap_other hi,← hV0,World.putObj_heap_other hi]
  have h1:(w.alloc (.cells #[.int .u8 typ,.string name,.string pre,.string lk,.int .i64 mode,.int .i64 size] 138)).heap.size=w.heap.size+1:=by simp
  have h2:((w.alloc (.cells #[.int .u8 typ,.string name,.string pre,.string lk,.int .i64 mode,.int .i64 size] 138)).alloc (.cells #[.int .i64 0,.string ⟨#[]⟩,.int .i64 0,.string ⟨#[]⟩,.int .i64 0] 54)).heap.size=w.heap.size+2:=by simp
  have h3:(((w.alloc (.cells #[.int .u8 typ,.string name,.string pre,.string lk,.int .i64 mode,.int .i64 size] 138)).alloc (.cells #[.int .i64 0,.string ⟨#[]⟩,.int .i64 0,.string ⟨#[]⟩,.int .i64 0] 54)).alloc (.cells #[.int .i64 k,.string jp,.int .i64 mode,.string lk,.int .i64 size] 190)).heap.size=w.heap.size+3:=by simp
  have hsz:V2.heap.size=w.heap.size+4:=by rw [← hV2,World.putObj_size,← hV1,World.putObj_size,← hV0,World.putObj_size];show ((((w.alloc (.cells #[.int .u8 typ,.string name,.string pre,.string lk,.int .i64 mode,.int .i64 size] 138)).alloc (.cells #[.int .i64 0,.string ⟨#[]⟩,.int .i64 0,.string ⟨#[]⟩,.int .i64 0] 54)).alloc (.cells #[.int .i64 k,.string jp,.int .i64 mode,.string lk,.int .i64 size] 190)).alloc (.map #[] 0)).heap.size=_;simp
  have b3:Below w.heap.size w (((((w.alloc (.cells #[.int .u8 typ,.string name,.string pre,.string lk,.int .i64 mode,.int .i64 size] 138)).alloc (.cells #[.int .i64 0,.string ⟨#[]⟩,.int .i64 0,.string ⟨#[]⟩,.int .i64 0] 54)).alloc (.cells #[.int .i64 k,.string jp,.int .i64 mode,.string lk,.int .i64 size] 190)).alloc (.map #[] 0)).drew.drew):=((B2.out.alloc B2.out.size _).alloc (by omega) _).drew.drew;have a1:(((((w.alloc (.cells #[.int .u8 typ,.string name,.string pre,.string lk,.int .i64 mode,.int .i64 size] 138)).alloc (.cells #[.int .i64 0,.string ⟨#[]⟩,.int .i64 0,.string ⟨#[]⟩,.int .i64 0] 54)).alloc (.cells #[.int .i64 k,.string jp,.int .i64 mode,.string lk,.int .i64 size] 190)).alloc (.map #[] 0)).drew.drew).heap[w.heap.size]?=some (.cells #[.int .u8 typ,.string name,.string pre,.string lk,.int .i64 mode,.int .i64 size] 138 (0,0)):=(heap_alloc_old _ _ (by omega)).trans ((heap_alloc_old _ _ (by omega)).trans ((heap_alloc_old _ _ (by omega)).trans (heap_alloc_new _ _)));have a2:(((((w.alloc (.cells #[.int .u8 typ,.string name,.string pre,.string lk,.int .i64 mode,.int .i64 size] 138)).alloc (.cells #[.int .i64 0,.string ⟨#[]⟩,.int .i64 0,.string ⟨#[]⟩,.int .i64 0] 54)).alloc (.cells #[.int .i64 k,.string jp,.int .i64 mode,.string lk,.int .i64 size] 190)).alloc (.map #[] 0)).drew.drew).heap[w.heap.size+1]?=some (.cells #[.int .i64 0,.string ⟨#[]⟩,.int .i64 0,.string ⟨#[]⟩,.int .i64 0] 54 (0,0)):=(heap_alloc_old _ _ (by omega)).trans ((heap_alloc_old _ _ (by omega)).trans (by rw [← h1];exact heap_alloc_new _ _));have a3:(((((w.alloc (.cells #[.int .u8 typ,.string name,.string pre,.string lk,.int .i64 mode,.int .i64 size] 138)).alloc (.cells #[.int .i64 0,.string ⟨#[]⟩,.int .i64 0,.string ⟨#[]⟩,.int .i64 0] 54)).alloc (.cells #[.int .i64 k,.string jp,.int .i64 mode,.string lk,.int .i64 size] 190)).alloc (.map #[] 0)).drew.drew).heap[w.heap.size+1+1]?=some (.cells #[.int .i64 k,.string jp,.int .i64 mode,.string lk,.int .i64 size] 190 (0,0)):=(heap_alloc_old _ _ (by omega)).trans (by rw [show w.heap.size+1+1=((w.alloc (.cells #[.int .u8 typ,.string name,.string pre,.string lk,.int .i64 mode,.int .i64 size] 138)).alloc (.cells #[.int .i64 0,.string ⟨#[]⟩,.int .i64 0,.string ⟨#[]⟩,.int .i64 0] 54)).heap.size by omega];exact heap_alloc_new _ _);refine ⟨⟨(q _ (by omega)).trans a3,Mo.refl _ _,hm2,by omega,by omega⟩,(q _ (by omega)).trans a1,(q _ (by omega)).trans a2,?_,hsz⟩;rw [← hV2,← hV1,← hV0];exact below_put (below_put (below_put b3 (by omega) _) (by omega) _) (by omega) _)
 clear hV0 hV1 hV2 hW3 hm0 hm1 hm2;by_cases h0:0 < rl.length
 ·
  have b0:(rl.length:Int) > 0:=by omega
  go_enter Tryz.func79,Tryz.ntmps79
  go_wp2_with fail
  go_region_with (go_at_call 115;refine (IC.out _ (by first | exact G2.out | exact G2d.out)).mono ?_;rintro e w' ⟨rfl,rfl⟩)
  all_goals go_wp2_with fail
  go_region_held3 (fun w'=>w'.cell? ⟨w.heap.size,1,none⟩=some (.string name)∧w'.cell? ⟨w.heap.size,2,none⟩=some (.string pre)∧w'.cell? ⟨w.heap.size,3,none⟩=some (.string lk)∧w'.cell? ⟨w.heap.size,4,none⟩=some (.int .i64 mode)∧w'.cell? ⟨w.heap.size,5,none⟩=some (.int .i64 size)) (go_keep) ((go_at_call 116;refine (JC.out _).mono ?_;rintro e w' ⟨rfl,rfl⟩))
  all_goals go_wp2_with fail
  go_loopw [49] (fun i wr=>∃ j:Nat,j≤rl.length∧i=.int .i64 j∧Hid (C8 V2 wr (w.heap.size+1+1) (w.heap.size+1+1+1) ((rl.take j).foldl apply2 ⟨k,jp,mode,lk,size⟩))) (fun i _=>rl.length - (intOf i).toNat)
  case atStart=>exact ⟨0,Nat.zero_le _,rfl,hid HV.out.1⟩
  case round =>
   obtain ⟨j,hj,rfl,HS⟩:=hrel;by_cases hlt:j < rl.length
   ·
    have hltz:(j:Int) < (rl.length:Int):=by omega
    obtain ⟨r,hrr⟩:∃ r,rl[j]?=some r:=⟨_,List.getElem?_eq_getElem hlt⟩;obtain ⟨g,rfl,hra⟩:=HR.out (by omega);have hne:∀ i,i < w.heap.size→i≠(w.heap.size+1+1):=fun i hi=>by omega
    have hkp:wr.heap[g]?=w.heap[g]?:=(HS.out.mo.keep g (by have:=HV.out.2.2.2.2;have:=hra.lt;omega) (by simpa using hne g hra.lt)).trans (HV.out.2.2.2.1.block g hra.lt);obtain ⟨c0,c1⟩:=(hra.of hkp).cell j r hrr;have hkey:=ROK.out r (List.mem_of_getElem? hrr);have HRR:=hid hrr;clear hra hrr hkp hne;obtain ⟨key,val⟩:=r;dsimp only at c0 c1;obtain ⟨E,hE⟩:∃ E,(rl.take j).foldl apply2 ⟨k,jp,mode,lk,size⟩=E:=⟨_,rfl⟩;rw [hE] at HS;have HEE:=hid hE;clear hE;have S1:=hid (HS.out.below (below_alloc (Below.refl _ wr) (.cells #[.string key,.string val] 125)));have hget:=run_get_ok map191 ZMerge.skeys S1.out.map key _ (zero122 _);by_cases hkl:key=sLink
    ·
     clear hkey;have hg:ZMap.get map3 key=some 117:=by rw [hkl];exact map3_link
     rw [hg] at hget;simp only [Option.map_some,Option.getD_some,Option.isSome_some] at hget;have TC:=hid (target_calls _ _ _ _ _ _ val _ S1.out.blk);have S2:=hid (S1.out.set 3 val { E with target:=val } rfl);have HA:Hid (apply2 E ⟨key,val⟩={ E with target:=val }):=hid (by unfold apply2;rw [if_pos hkl]);clear hg hkl
     go_wp2_with fail
     refine TC.out.mono ?_;rintro r w2 ⟨rfl,hw2⟩;rw [← hw2] at S2;clear hw2 TC
     go_wp2_with fail
     go_roundw
     case rel =>refine ⟨j+1,by omega,by go_num,hid ?_⟩;rw [List.take_add_one,HRR.out,List.foldl_append];show C8 V2 w2 _ _ (apply2 ((rl.take j).foldl apply2 ⟨k,jp,mode,lk,size⟩) ⟨key,val⟩);rw [HEE.out,HA.out];exact S2.out
     case measure=>simp [intOf];omega
    ·
     by_cases hkp2:key=sPath
     ·
      clear hkey;have hg:ZMap.get map3 key=some 118:=by rw [hkp2];exact map3_path
      rw [hg] at hget;simp only [Option.map_some,Option.getD_some,Option.isSome_some] at hget;have TC:=hid (path_calls _ _ _ _ _ _ val _ S1.out.blk);have S2:=hid (S1.out.set 1 val { E with path:=val } rfl);have HA:Hid (apply2 E ⟨key,val⟩={ E with path:=val }):=hid (by unfold apply2;rw [if_neg hkl,if_pos hkp2]);clear hg hkl hkp2
      go_wp2_with fail
      refine TC.out.mono ?_;rintro r w2 ⟨rfl,hw2⟩;rw [← hw2] at S2;clear hw2 TC
      go_wp2_with fail
      go_roundw
      case rel =>refine ⟨j+1,by omega,by go_num,hid ?_⟩;rw [List.take_add_one,HRR.out,List.foldl_append];show C8 V2 w2 _ _ (apply2 ((rl.take j).foldl apply2 ⟨k,jp,mode,lk,size⟩) ⟨key,val⟩);rw [HEE.out,HA.out];exact S2.out
      case measure=>simp [intOf];omega
     ·
      obtain ⟨hks,hnum⟩:key=sSize∧¬ NoNum val 1099511627776:=by
       rcases hkey with ⟨h | h,_⟩ | h
       ·exact absurd h hkl
       ·exact absurd h hkp2
       ·exact h
      have hg:ZMap.get map3 key=some 119:=by rw [hks];exact map3_size
      rw [hg] at hget;simp only [Option.map_some,Option.getD_some,Option.isSome_some] at hget;have TC:=hid (size_calls _ _ _ _ _ _ val hnum _ S1.out.blk);have HA:Hid (apply2 E ⟨key,val⟩={ E with size:=numV val }):=hid (by unfold apply2;rw [if_neg hkl,if_neg hkp2]);clear hg hkl hkp2 hkey hks hnum
      go_wp2_with fail
      refine TC.out.mono ?_;rintro r w2 ⟨rfl,w3,hb3,hw2⟩;have S2:=hid (ZMergeN.C8.setN (S1.out.below hb3) 4 (numV val) { E with size:=numV val } rfl);rw [← hw2] at S2;clear hw2 TC hb3
      go_wp2_with fail
      go_roundw
      case rel =>refine ⟨j+1,by omega,by go_num,hid ?_⟩;rw [List.take_add_one,HRR.out,List.foldl_append];show C8 V2 w2 _ _ (apply2 ((rl.take j).foldl apply2 ⟨k,jp,mode,lk,size⟩) ⟨key,val⟩);rw [HEE.out,HA.out];exact S2.out
      case measure=>simp [intOf];omega
   ·
    obtain rfl:j=rl.length:=by omega
    obtain ⟨e,hE⟩:∃ E,rl.foldl apply2 ⟨k,jp,mode,lk,size⟩=E:=⟨_,rfl⟩;have hE2:∀ J,rl.length≤J→(rl.take J).foldl apply2 ⟨k,jp,mode,lk,size⟩=e:=fun J hJ=>by rw [List.take_of_length_le hJ];exact hE
    rw [hE2 _ (Nat.le_refl _)] at HS;have BW:=hid (HV.out.2.2.2.1.trans (HS.out.mo.below (by have:=HV.out.2.2.2.2;omega) (by simp;omega)));have PC1:=hid (PC.out e wr (HG.out.below BW.out));have K1:Hid (wr.heap[w.heap.size]?=some (.cells #[.int .u8 typ,.string name,.string pre,.string lk,.int .i64 mode,.int .i64 size] 138 (0,0))):=hid ((HS.out.mo.keep _ (by have:=HV.out.2.2.2.2;omega) (by simp;omega)).trans HV.out.2.1);have K2:Hid (wr.heap[w.heap.size+1]?=some (.cells #[.int .i64 0,.string ⟨#[]⟩,.int .i64 0,.string ⟨#[]⟩,.int .i64 0] 54 (0,0))):=hid ((HS.out.mo.keep _ (by have:=HV.out.2.2.2.2;omega) (by simp)).trans HV.out.2.2.1);have VR:Hid (RecRd w (.slice A rl.length c) rl):=hid ⟨A,c,rfl,hc,HR.out⟩;have bl:=HS.out.blk;clear hE hE2;obtain ⟨kind,path,m2,tgt,sz2⟩:=e;unfold Ent.cells at bl;dsimp only at bl;obtain ⟨d0,d1,d2,d3,d4⟩:wr.cell? ⟨w.heap.size+1+1,0,none⟩=some (.int .i64 kind)∧wr.cell? ⟨w.heap.size+1+1,1,none⟩=some (.string path)∧wr.cell? ⟨w.heap.size+1+1,2,none⟩=some (.int .i64 m2)∧wr.cell? ⟨w.heap.size+1+1,3,none⟩=some (.string tgt)∧wr.cell? ⟨w.heap.size+1+1,4,none⟩=some (.int .i64 sz2):=by simp [World.cell?,bl]
    have BLK:=hid bl;clear bl
    go_wp2_with fail
    refine PC1.out.mono ?_;rintro r w3 ⟨hb,⟨hok,v2,rfl,hrow⟩ | ⟨hnok,x,hx,rfl⟩⟩;rotate_left
    ·
     have B3:=hid (below_step BW.out hb);have hx1:(x != 0)=true:=by rw [bne_iff_ne];exact hx
     have r1:=(heap_alloc_old w3 (.cells #[.int .u8 0,.string ⟨#[]⟩,.string ⟨#[]⟩,.string ⟨#[]⟩,.int .i64 0,.int .i64 0] 138) (Nat.lt_of_lt_of_le (blk_lt K2.out) hb.size)).trans ((hb.block _ (blk_lt K2.out)).trans K2.out);obtain ⟨y0,y1,y2,y3,y4⟩:=ZMergeN.five_cell r1;obtain ⟨z0,z1,z2,z3,z4⟩:=ZMergeN.five_free r1;unfold Hdr.val Hdr.cells;dsimp only;clear hb hnok hx r1 d0 d1 d2 d3 d4
     go_wp2_with fail
     refine bodyPost_ret (v:=.tuple #[zent,.int .i64 17]) (by simp [results,Tryz.results79,go_sem,Ent.val,Ent.cells,y0,y1,y2,y3,y4,z0,z1,z2,z3,z4]) rfl ⟨?_,.inr ⟨17,.inr rfl,rfl⟩⟩
     iterate 5 (refine Below.setCell ?_ (by show w.heap.size≤w.heap.size+1;omega) _)
     exact B3.out.alloc B3.out.size _
    ·
     obtain ⟨pl,hpl⟩:∃ h,planR ⟨kind,path,m2,tgt,sz2⟩=h:=⟨_,rfl⟩;have hpl3:pl.length≤3:=by rw [← hpl];exact planR_le _
     rw [hpl] at hrow;obtain ⟨ph,hph⟩:∃ h,planH ⟨kind,path,m2,tgt,sz2⟩=h:=⟨_,rfl⟩;rw [hph];have HP:=hid (And.intro hok (And.intro hpl (And.intro hph hpl3)));clear hpl hph hok hpl3;obtain ⟨typ',name',pre',lk',mode',size'⟩:=ph;unfold Hdr.val Hdr.cells;dsimp only;have B3:=hid (below_step BW.out hb);have L3:=hid (And.intro ((hb.block _ (blk_lt K1.out)).trans K1.out) (And.intro ((hb.block _ (blk_lt K2.out)).trans K2.out) ((hb.block _ (blk_lt BLK.out)).trans BLK.out)));obtain ⟨cr,hcr⟩:∃ v2',v2=v2':=⟨_,rfl⟩;have QC:=hid (equal_any (.slice A rl.length c) v2 rl pl (by omega) (by have:=HP.out.2.2.2;omega) (w3.alloc (.cells #[.int .u8 typ',.string name',.string pre',.string lk',.int .i64 mode',.int .i64 size'] 138)) ((VR.out.below B3.out).below (below_alloc (Below.refl _ _) _)) ((RecRd.of hrow).below (below_alloc (Below.refl _ _) _)));have K3:=hid (heap_alloc_new w3 (.cells #[.int .u8 typ',.string name',.string pre',.string lk',.int .i64 mode',.int .i64 size'] 138));have B4:=hid (B3.out.alloc B3.out.size (.cells #[.int .u8 typ',.string name',.string pre',.string lk',.int .i64 mode',.int .i64 size'] 138));have L4:=hid (And.intro ((heap_alloc_old w3 (.cells #[.int .u8 typ',.string name',.string pre',.string lk',.int .i64 mode',.int .i64 size'] 138) (blk_lt L3.out.1)).trans L3.out.1) (And.intro ((heap_alloc_old w3 (.cells #[.int .u8 typ',.string name',.string pre',.string lk',.int .i64 mode',.int .i64 size'] 138) (blk_lt L3.out.2.1)).trans L3.out.2.1) ((heap_alloc_old w3 (.cells #[.int .u8 typ',.string name',.string pre',.string lk',.int .i64 mode',.int .i64 size'] 138) (blk_lt L3.out.2.2)).trans L3.out.2.2)));obtain ⟨g0,g1,g2,g3,g4,g5⟩:(w3.alloc (.cells #[.int .u8 typ',.string name',.string pre',.string lk',.int .i64 mode',.int .i64 size'] 138)).cell? ⟨w.heap.size,0,none⟩=some (.int .u8 typ)∧(w3.alloc (.cells #[.int .u8 typ',.string name',.string pre',.string lk',.int .i64 mode',.int .i64 size'] 138)).cell? ⟨w.heap.size,1,none⟩=some (.string name)∧(w3.alloc (.cells #[.int .u8 typ',.string name',.string pre',.string lk',.int .i64 mode',.int .i64 size'] 138)).cell? ⟨w.heap.size,2,none⟩=some (.string pre)∧(w3.alloc (.cells #[.int .u8 typ',.string name',.string pre',.string lk',.int .i64 mode',.int .i64 size'] 138)).cell? ⟨w.heap.size,3,none⟩=some (.string lk)∧(w3.alloc (.cells #[.int .u8 typ',.string name',.string pre',.string lk',.int .i64 mode',.int .i64 size'] 138)).cell? ⟨w.heap.size,4,none⟩=some (.int .i64 mode)∧(w3.alloc (.cells #[.int .u8 typ',.string name',.string pre',.string lk',.int .i64 mode',.int .i64 size'] 138)).cell? ⟨w.heap.size,5,none⟩=some (.int .i64 size):=⟨cello L4.out.1 0 _ rfl,cello L4.out.1 1 _ rfl,cello L4.out.1 2 _ rfl,cello L4.out.1 3 _ rfl,cello L4.out.1 4 _ rfl,cello L4.out.1 5 _ rfl⟩;clear hrow hb hcr;by_cases hh:(⟨typ',name',pre',lk',mode',size'⟩:Hdr)=⟨typ,name,pre,lk,mode,size⟩
     ·
      injection hh with e1 e2 e3 e4 e5 e6
      subst e1 e2 e3 e4 e5 e6;have HD:∀ W:World,(binOp .neq 138 (.agg #[.int .u8 typ',.string name',.string pre',.string lk',.int .i64 mode',.int .i64 size']) (.agg #[.int .u8 typ',.string name',.string pre',.string lk',.int .i64 mode',.int .i64 size'])).run Tryz.prog W=.ok (.bool false) W:=fun W=>ZDRecA.hdr_same _ _ _ _ _ _ W
      go_wp2_with fail
      refine QC.out.mono ?_;rintro r w5 ⟨b,rfl,hbb,hb5⟩;have B5:=hid (below_step B4.out hb5);have r1:=(hb5.block _ (blk_lt L4.out.2.1)).trans L4.out.2.1;have r2:=(hb5.block _ (blk_lt L4.out.2.2)).trans L4.out.2.2;obtain ⟨y0,y1,y2,y3,y4⟩:=ZMergeN.five_cell r1;obtain ⟨x0,x1,x2,x3,x4⟩:=ZMergeN.five_cell r2;obtain ⟨z0,z1,z2,z3,z4⟩:=ZMergeN.five_free r1;have HB:=hid hbb;clear r1 r2 hb5 g0 g1 g2 g3 g4 g5 d0 d1 d2 d3 d4 hbb;cases b with
      | true =>
       go_wp2_with fail
       refine bodyPost_ret (v:=.tuple #[.agg #[.int .i64 kind,.string path,.int .i64 m2,.string tgt,.int .i64 sz2],.int .i64 0]) (by simp [results,Tryz.results79,go_sem,y0,y1,y2,y3,y4,z0,z1,z2,z3,z4]) rfl ⟨?_,.inl ⟨⟨kind,path,m2,tgt,sz2⟩,HP.out.1,HP.out.2.2.1,HP.out.2.1.trans (HB.out.1 trivial).symm,rfl⟩⟩
       iterate 5 (refine Below.setCell ?_ (by show w.heap.size≤w.heap.size+1;omega) _)
       exact B5.out
      | false =>
       go_wp2_with fail
       refine bodyPost_ret (v:=.tuple #[zent,.int .i64 17]) (by simp [results,Tryz.results79,go_sem,Ent.val,Ent.cells,y0,y1,y2,y3,y4,z0,z1,z2,z3,z4]) rfl ⟨?_,.inr ⟨17,.inr rfl,rfl⟩⟩
       iterate 5 (refine Below.setCell ?_ (by show w.heap.size≤w.heap.size+1;omega) _)
       exact B5.out
     ·
      have HD:∀ W:World,(binOp .neq 138 (.agg #[.int .u8 typ',.string name',.string pre',.string lk',.int .i64 mode',.int .i64 size']) (.agg #[.int .u8 typ,.string name,.string pre,.string lk,.int .i64 mode,.int .i64 size])).run Tryz.prog W=.ok (.bool true) W:=fun W=>ZDecN.hdr_diff _ _ _ _ _ _ _ _ _ _ _ _ hh W;obtain ⟨y0,y1,y2,y3,y4⟩:=ZMergeN.five_cell L4.out.2.1;obtain ⟨z0,z1,z2,z3,z4⟩:=ZMergeN.five_free L4.out.2.1;clear hh d0 d1 d2 d3 d4
      go_wp2_with fail
      refine bodyPost_ret (v:=.tuple #[zent,.int .i64 17]) (by simp [results,Tryz.results79,go_sem,Ent.val,Ent.cells,y0,y1,y2,y3,y4,z0,z1,z2,z3,z4]) rfl ⟨?_,.inr ⟨17,.inr rfl,rfl⟩⟩
      iterate 5 (refine Below.setCell ?_ (by show w.heap.size≤w.heap.size+1;omega) _)
      exact B4.out
 ·
  obtain rfl:rl=[]:=List.eq_nil_of_length_eq_zero (by omega);clear h0;go_enter Tryz.func79,Tryz.ntmps79
  go_wp2_with fail
  go_region_with (go_at_call 115;refine (IC.out _ (by first | exact G2.out | exact G2d.out)).mono ?_;rintro e w' ⟨rfl,rfl⟩)
  all_goals go_wp2_with fail
  go_region_held3 (fun w'=>w'.cell? ⟨w.heap.size,1,none⟩=some (.string name)∧w'.cell? ⟨w.heap.size,2,none⟩=some (.string pre)∧w'.cell? ⟨w.heap.size,3,none⟩=some (.string lk)∧w'.cell? ⟨w.heap.size,4,none⟩=some (.int .i64 mode)∧w'.cell? ⟨w.heap.size,5,none⟩=some (.int .i64 size)) (go_keep) ((go_at_call 116;refine (JC.out _).mono ?_;rintro e w' ⟨rfl,rfl⟩))
  all_goals go_wp2_with fail
  go_loopw [49] (fun i wr=>∃ j:Nat,j≤([]:List Rec).length∧i=.int .i64 j∧Hid (C8 V2 wr (w.heap.size+1+1) (w.heap.size+1+1+1) ((([]:List Rec).take j).foldl apply2 ⟨k,jp,mode,lk,size⟩))) (fun i _=>([]:List Rec).length - (intOf i).toNat)
  case atStart=>exact ⟨0,Nat.zero_le _,rfl,hid HV.out.1⟩
  case round =>
   obtain ⟨j,hj,rfl,HS⟩:=hrel
   ·
    obtain rfl:j=0:=by simpa using hj
    obtain ⟨e,hE⟩:∃ E,([]:List Rec).foldl apply2 ⟨k,jp,mode,lk,size⟩=E:=⟨_,rfl⟩;have hE2:∀ J,([]:List Rec).length≤J→(([]:List Rec).take J).foldl apply2 ⟨k,jp,mode,lk,size⟩=e:=fun J hJ=>by rw [List.take_of_length_le hJ];exact hE
    rw [hE2 _ (by simp)] at HS;have BW:=hid (HV.out.2.2.2.1.trans (HS.out.mo.below (by have:=HV.out.2.2.2.2;omega) (by simp;omega)));have PC1:=hid (PC.out e wr (HG.out.below BW.out));have K1:Hid (wr.heap[w.heap.size]?=some (.cells #[.int .u8 typ,.string name,.string pre,.string lk,.int .i64 mode,.int .i64 size] 138 (0,0))):=hid ((HS.out.mo.keep _ (by have:=HV.out.2.2.2.2;omega) (by simp;omega)).trans HV.out.2.1);have K2:Hid (wr.heap[w.heap.size+1]?=some (.cells #[.int .i64 0,.string ⟨#[]⟩,.int .i64 0,.string ⟨#[]⟩,.int .i64 0] 54 (0,0))):=hid ((HS.out.mo.keep _ (by have:=HV.out.2.2.2.2;omega) (by simp)).trans HV.out.2.2.1);have VR:Hid (RecRd w (.slice A 0 c) ([]:List Rec)):=hid ⟨A,c,rfl,hc,HR.out⟩;have bl:=HS.out.blk;clear hE hE2;obtain ⟨kind,path,m2,tgt,sz2⟩:=e;unfold Ent.cells at bl;dsimp only at bl;obtain ⟨d0,d1,d2,d3,d4⟩:wr.cell? ⟨w.heap.size+1+1,0,none⟩=some (.int .i64 kind)∧wr.cell? ⟨w.heap.size+1+1,1,none⟩=some (.string path)∧wr.cell? ⟨w.heap.size+1+1,2,none⟩=some (.int .i64 m2)∧wr.cell? ⟨w.heap.size+1+1,3,none⟩=some (.string tgt)∧wr.cell? ⟨w.heap.size+1+1,4,none⟩=some (.int .i64 sz2):=by simp [World.cell?,bl]
    have BLK:=hid bl;clear bl
    go_wp2_with fail
    refine PC1.out.mono ?_;rintro r w3 ⟨hb,⟨hok,v2,rfl,hrow⟩ | ⟨hnok,x,hx,rfl⟩⟩;rotate_left
    ·
     have B3:=hid (below_step BW.out hb);have hx1:(x != 0)=true:=by rw [bne_iff_ne];exact hx
     have r1:=(heap_alloc_old w3 (.cells #[.int .u8 0,.string ⟨#[]⟩,.string ⟨#[]⟩,.string ⟨#[]⟩,.int .i64 0,.int .i64 0] 138) (Nat.lt_of_lt_of_le (blk_lt K2.out) hb.size)).trans ((hb.block _ (blk_lt K2.out)).trans K2.out);obtain ⟨y0,y1,y2,y3,y4⟩:=ZMergeN.five_cell r1;obtain ⟨z0,z1,z2,z3,z4⟩:=ZMergeN.five_free r1;unfold Hdr.val Hdr.cells;dsimp only;clear hb hnok hx r1 d0 d1 d2 d3 d4
     go_wp2_with fail
     refine bodyPost_ret (v:=.tuple #[zent,.int .i64 6]) (by simp [results,Tryz.results79,go_sem,Ent.val,Ent.cells,y0,y1,y2,y3,y4,z0,z1,z2,z3,z4]) rfl ⟨?_,.inr ⟨6,.inl rfl,rfl⟩⟩
     iterate 5 (refine Below.setCell ?_ (by show w.heap.size≤w.heap.size+1;omega) _)
     exact B3.out.alloc B3.out.size _
    ·
     obtain ⟨pl,hpl⟩:∃ h,planR ⟨kind,path,m2,tgt,sz2⟩=h:=⟨_,rfl⟩;have hpl3:pl.length≤3:=by rw [← hpl];exact planR_le _
     rw [hpl] at hrow;obtain ⟨ph,hph⟩:∃ h,planH ⟨kind,path,m2,tgt,sz2⟩=h:=⟨_,rfl⟩;rw [hph];have HP:=hid (And.intro hok (And.intro hpl (And.intro hph hpl3)));clear hpl hph hok hpl3;obtain ⟨typ',name',pre',lk',mode',size'⟩:=ph;unfold Hdr.val Hdr.cells;dsimp only;have B3:=hid (below_step BW.out hb);have L3:=hid (And.intro ((hb.block _ (blk_lt K1.out)).trans K1.out) (And.intro ((hb.block _ (blk_lt K2.out)).trans K2.out) ((hb.block _ (blk_lt BLK.out)).trans BLK.out)));obtain ⟨cr,hcr⟩:∃ v2',v2=v2':=⟨_,rfl⟩;have QC:=hid (equal_any (.slice A 0 c) v2 ([]:List Rec) pl (by simp) (by have:=HP.out.2.2.2;omega) (w3.alloc (.cells #[.int .u8 typ',.string name',.string pre',.string lk',.int .i64 mode',.int .i64 size'] 138)) ((VR.out.below B3.out).below (below_alloc (Below.refl _ _) _)) ((RecRd.of hrow).below (below_alloc (Below.refl _ _) _)));have K3:=hid (heap_alloc_new w3 (.cells #[.int .u8 typ',.string name',.string pre',.string lk',.int .i64 mode',.int .i64 size'] 138));have B4:=hid (B3.out.alloc B3.out.size (.cells #[.int .u8 typ',.string name',.string pre',.string lk',.int .i64 mode',.int .i64 size'] 138));have L4:=hid (And.intro ((heap_alloc_old w3 (.cells #[.int .u8 typ',.string name',.string pre',.string lk',.int .i64 mode',.int .i64 size'] 138) (blk_lt L3.out.1)).trans L3.out.1) (And.intro ((heap_alloc_old w3 (.cells #[.int .u8 typ',.string name',.string pre',.string lk',.int .i64 mode',.int .i64 size'] 138) (blk_lt L3.out.2.1)).trans L3.out.2.1) ((heap_alloc_old w3 (.cells #[.int .u8 typ',.string name',.string pre',.string lk',.int .i64 mode',.int .i64 size'] 138) (blk_lt L3.out.2.2)).trans L3.out.2.2)));obtain ⟨g0,g1,g2,g3,g4,g5⟩:(w3.alloc (.cells #[.int .u8 typ',.string name',.string pre',.string lk',.int .i64 mode',.int .i64 size'] 138)).cell? ⟨w.heap.size,0,none⟩=some (.int .u8 typ)∧(w3.alloc (.cells #[.int .u8 typ',.string name',.string pre',.string lk',.int .i64 mode',.int .i64 size'] 138)).cell? ⟨w.heap.size,1,none⟩=some (.string name)∧(w3.alloc (.cells #[.int .u8 typ',.string name',.string pre',.string lk',.int .i64 mode',.int .i64 size'] 138)).cell? ⟨w.heap.size,2,none⟩=some (.string pre)∧(w3.alloc (.cells #[.int .u8 typ',.string name',.string pre',.string lk',.int .i64 mode',.int .i64 size'] 138)).cell? ⟨w.heap.size,3,none⟩=some (.string lk)∧(w3.alloc (.cells #[.int .u8 typ',.string name',.string pre',.string lk',.int .i64 mode',.int .i64 size'] 138)).cell? ⟨w.heap.size,4,none⟩=some (.int .i64 mode)∧(w3.alloc (.cells #[.int .u8 typ',.string name',.string pre',.string lk',.int .i64 mode',.int .i64 size'] 138)).cell? ⟨w.heap.size,5,none⟩=some (.int .i64 size):=⟨cello L4.out.1 0 _ rfl,cello L4.out.1 1 _ rfl,cello L4.out.1 2 _ rfl,cello L4.out.1 3 _ rfl,cello L4.out.1 4 _ rfl,cello L4.out.1 5 _ rfl⟩;clear hrow hb hcr;by_cases hh:(⟨typ',name',pre',lk',mode',size'⟩:Hdr)=⟨typ,name,pre,lk,mode,size⟩
     ·
      injection hh with e1 e2 e3 e4 e5 e6
      subst e1 e2 e3 e4 e5 e6;have HD:∀ W:World,(binOp .neq 138 (.agg #[.int .u8 typ',.string name',.string pre',.string lk',.int .i64 mode',.int .i64 size']) (.agg #[.int .u8 typ',.string name',.string pre',.string lk',.int .i64 mode',.int .i64 size'])).run Tryz.prog W=.ok (.bool false) W:=fun W=>ZDRecA.hdr_same _ _ _ _ _ _ W
      go_wp2_with fail
      refine QC.out.mono ?_;rintro r w5 ⟨b,rfl,hbb,hb5⟩;have B5:=hid (below_step B4.out hb5);have r1:=(hb5.block _ (blk_lt L4.out.2.1)).trans L4.out.2.1;have r2:=(hb5.block _ (blk_lt L4.out.2.2)).trans L4.out.2.2;obtain ⟨y0,y1,y2,y3,y4⟩:=ZMergeN.five_cell r1;obtain ⟨x0,x1,x2,x3,x4⟩:=ZMergeN.five_cell r2;obtain ⟨z0,z1,z2,z3,z4⟩:=ZMergeN.five_free r1;have HB:=hid hbb;clear r1 r2 hb5 g0 g1 g2 g3 g4 g5 d0 d1 d2 d3 d4 hbb;cases b with
      | true =>
       go_wp2_with fail
       refine bodyPost_ret (v:=.tuple #[.agg #[.int .i64 kind,.string path,.int .i64 m2,.string tgt,.int .i64 sz2],.int .i64 0]) (by simp [results,Tryz.results79,go_sem,y0,y1,y2,y3,y4,z0,z1,z2,z3,z4]) rfl ⟨?_,.inl ⟨⟨kind,path,m2,tgt,sz2⟩,HP.out.1,HP.out.2.2.1,HP.out.2.1.trans (HB.out.1 trivial).symm,rfl⟩⟩
       iterate 5 (refine Below.setCell ?_ (by show w.heap.size≤w.heap.size+1;omega) _)
       exact B5.out
      | false =>
       go_wp2_with fail
       refine bodyPost_ret (v:=.tuple #[zent,.int .i64 6]) (by simp [results,Tryz.results79,go_sem,Ent.val,Ent.cells,y0,y1,y2,y3,y4,z0,z1,z2,z3,z4]) rfl ⟨?_,.inr ⟨6,.inl rfl,rfl⟩⟩
       iterate 5 (refine Below.setCell ?_ (by show w.heap.size≤w.heap.size+1;omega) _)
       exact B5.out
     ·
      have HD:∀ W:World,(binOp .neq 138 (.agg #[.int .u8 typ',.string name',.string pre',.string lk',.int .i64 mode',.int .i64 size']) (.agg #[.int .u8 typ,.string name,.string pre,.string lk,.int .i64 mode,.int .i64 size])).run Tryz.prog W=.ok (.bool true) W:=fun W=>ZDecN.hdr_diff _ _ _ _ _ _ _ _ _ _ _ _ hh W;obtain ⟨y0,y1,y2,y3,y4⟩:=ZMergeN.five_cell L4.out.2.1;obtain ⟨z0,z1,z2,z3,z4⟩:=ZMergeN.five_free L4.out.2.1;clear hh d0 d1 d2 d3 d4
      go_wp2_with fail
      refine bodyPost_ret (v:=.tuple #[zent,.int .i64 6]) (by simp [results,Tryz.results79,go_sem,Ent.val,Ent.cells,y0,y1,y2,y3,y4,z0,z1,z2,z3,z4]) rfl ⟨?_,.inr ⟨6,.inl rfl,rfl⟩⟩
      iterate 5 (refine Below.setCell ?_ (by show w.heap.size≤w.heap.size+1;omega) _)
      exact B4.out
end ZMergeN
end Go.Proofs.YteikiojmcipkmaaGreatDoor
