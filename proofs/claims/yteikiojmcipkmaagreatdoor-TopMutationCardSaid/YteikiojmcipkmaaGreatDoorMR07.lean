/- Parts of the proof, gathered by a program: what calls of the functions answer, and what follows in plain lists. Conditions: those that each theorem states. -/
import Derived.Test.YteikiojmcipkmaaGreatDoorMR06
set_option linter.unusedVariables false
set_option linter.unusedSimpArgs false
namespace Go.Proofs.YteikiojmcipkmaaGreatDoor
open Go.Lib (hid)
set_option maxRecDepth 1000000
section
namespace ZStable
open Go Go.Proofs Go.Shelf Go.RowKit Go.Lib Go.Sort
open ZSortP ZNod ZSwap ZSym ZSym2
variable {P:Program} {k:Nat}
theorem swo {cf:NV→NV→Int} (O:ZSortP.Ord (le cf)):SWO (ltOf cf):=by
 have e:∀ x y,ltOf cf x y=false↔le cf y x:=fun x y=>by simp [ltOf,le]
 have e2:∀ x y,ltOf cf x y=true→¬ le cf y x:=fun x y h h2=>by rw [(e x y).2 h2] at h;cases h
 refine ⟨fun x=>(e x x).2 (O.refl x),fun x y z h1 h2=>?_,fun x y z h1 h2=>(e x z).2 (O.trans ((e y z).1 h2) ((e x y).1 h1))⟩;cases h:ltOf cf x z with
 | true=>rfl
 | false =>have h3:=(e x z).1 h;have h4:le cf x y:=(O.total x y).elim id fun h=>absurd h (e2 x y h1);exact absurd (O.trans h3 h4) (e2 y z h2)
theorem of_permIn {a b:Nat} {d d2:Array NV} (h:PermIn a b d d2) (ha:a≤b) (hb:b≤d.size):Re default a b d.toList d2.toList:=by
 have h0:=permIn_mono d d2 a b 0 d.size (Nat.zero_le _) hb (Nat.le_refl _) h;refine ⟨?_,fun i hi=>?_,fun i h1 h2=>?_⟩
 ·
  have h3:=h0.2.2;have e:d2.extract 0 d.size=d2:=by rw [← h.1];simp
  rw [e] at h3;simpa using h3
 ·rw [at_arr,at_arr];exact h.2.1 i (by omega)
 ·have:=permIn_all d d2 a b (fun x=>∃ j,a≤j∧j < b∧x=d[j]!) hb h (fun i h3 h4=>⟨i,h3,h4,rfl⟩) i h1 h2;obtain ⟨j,h3,h4,h5⟩:=this;exact ⟨j,h3,h4,by rw [at_arr,at_arr];exact h5⟩
theorem ins_calls (L:Ty P k) (cf:NV→NV→Int) (O:ZSortP.Ord (le cf)) (hc:CmpC P cf) (blk cap a b:Nat) (d:Array NV) (w:World) (hH:HoldsK NV.cells k w blk 0 d) (hblk:blk < w.heap.size) (hab:a≤b) (hb:b≤d.size) (hsz:d.size < 4611686018427387904): Calls P 98 #[.slice (some ⟨blk,0,none⟩) d.size cap,.int .i64 a,.int .i64 b,.func (.func 35) #[] #[]] w (After k cf w blk d.size a b d):=by
 refine (AnyQ.insertionSortCmpFunc L.lays k L.aE L.zE NV.cells L.hk cells_one cf 35 #[] blk 0 cap a b d w (enters_of L.f35 (by kernel_rfl) rfl) (hc.lays k blk d.size w) hH hblk hab hb hsz).mono ?_;rintro e w' ⟨rfl,n,os,rfl⟩;obtain ⟨h1,h2⟩:=insertionSort_holds (lt:=ltOf cf) (swo O) d a b hab hb;have h3:=of_permIn h1 hab hb;refine ⟨rfl,_,⟨⟨n,os,rfl⟩,h1.1,h3.perm⟩,h3,fun i j g1 g2 g3=>?_⟩;rw [at_arr,at_arr];have:=h2 i j g1 g2 g3;simpa [ltOf,le] using this
theorem ins_on (L:Ty P k) (cf:NV→NV→Int) (O:ZSortP.Ord (le cf)) (hc:CmpC P cf) (blk cap a b n:Nat) (d d1:Array NV) (w w1:World) (hH:HoldsK NV.cells k w blk 0 d) (hblk:blk < w.heap.size) (hsw:SW k w w1 blk d1) (hs:d1.size=n) (hn:d.size=n) (hab:a≤b) (hb:b≤n) (hsz:n < 4611686018427387904): Calls P 98 #[.slice (some ⟨blk,0,none⟩) n cap,.int .i64 a,.int .i64 b,.func (.func 35) #[] #[]] w1 (After k cf w blk n a b d1):=by
 subst hn;have:=ins_calls L cf O hc blk cap a b d1 w1 (hsw.holds hH hblk hs) (Nat.lt_of_lt_of_le hblk hsw.size) hab (by omega) (by omega);rw [hs] at this;refine this.mono ?_;rintro e w' ⟨rfl,d2,⟨g1,g2,g3⟩,g4,g5⟩;exact ⟨rfl,d2,⟨hsw.trans g1 hblk (by omega),g2,g3⟩,g4,g5⟩
theorem sym_on (L:Ty P k) (cf:NV→NV→Int) (O:ZSortP.Ord (le cf)) (hc:CmpC P cf) (blk cap a m b n:Nat) (d d1:Array NV) (w w1:World) (hH:HoldsK NV.cells k w blk 0 d) (hblk:blk < w.heap.size) (hsw:SW k w w1 blk d1) (hs:d1.size=n) (hn:d.size=n) (ham:a < m) (hmb:m < b) (hb:b≤n) (hsz:n < 4611686018427387904) (h1:Srt (le cf) default d1.toList a m) (h2:Srt (le cf) default d1.toList m b): Calls P 99 #[.slice (some ⟨blk,0,none⟩) n cap,.int .i64 a,.int .i64 m,.int .i64 b,.func (.func 35) #[] #[]] w1 (After k cf w blk n a b d1):=by
 subst hn;have:=sym_calls L cf O hc blk cap (b - a) a m b d1 w1 (hsw.holds hH hblk hs) (Nat.lt_of_lt_of_le hblk hsw.size) ham hmb (by omega) (by omega) (Nat.le_refl _) h1 h2;rw [hs] at this;refine this.mono ?_;rintro e w' ⟨rfl,d2,⟨g1,g2,g3⟩,g4,g5⟩;exact ⟨rfl,d2,⟨hsw.trans g1 hblk (by omega),g2,g3⟩,g4,g5⟩
def Done (k:Nat) (cf:NV→NV→Int) (w:World) (blk n:Nat) (d:Array NV) (e:Ending) (w':World):Prop :=
 e=.returned (.tuple #[])∧∃ d2,Mid k w w' blk n d d2∧Srt (le cf) default d2.toList 0 n
set_option maxHeartbeats 8000000 in
theorem stable_calls (L:Ty P k) (cf:NV→NV→Int) (O:ZSortP.Ord (le cf)) (hc:CmpC P cf) (blk cap n:Nat) (d:Array NV) (w:World) (hH:HoldsK NV.cells k w blk 0 d) (hblk:blk < w.heap.size) (hdn:d.size=n) (hn:n≤40): Calls P 62 #[.slice (some ⟨blk,0,none⟩) n cap,.int .i64 n,.func (.func 35) #[] #[]] w (Done k cf w blk n d):=by
 have mixed:=L.mixed;have t0:=L.t0;have a0:=L.a0;have z0:=L.z0;have v0:=L.v0;have t3:=L.t3;have a3:=L.a3;have z3:=L.z3;have v3:=L.v3;have t4:=L.t4;have a4:=L.a4;have z4:=L.z4;have v4:=L.v4;have t22:=L.t22;have a22:=L.a22;have z22:=L.z22;have v22:=L.v22;have t79:=L.t79;have a79:=L.a79;have z79:=L.z79;have v79:=L.v79;have aE:=L.aE;have zE:=L.zE
 have F:=L.f62;have e98:∀ args w,(callFunc 98 args).run P w=.ok (.enter 98 args) w:=enters_of L.f98 (by kernel_rfl) rfl;have e99:∀ args w,(callFunc 99 args).run P w=.ok (.enter 99 args) w:=enters_of L.f99 (by kernel_rfl) rfl;have INS:=hid (fun a b d1 w1=>ins_on L cf O hc blk cap a b n d d1 w w1 hH hblk);have SYM:=hid (fun a m b d1 w1=>sym_on L cf O hc blk cap a m b n d d1 w w1 hH hblk);have S0:Hid (Mid k w w blk n d d):=hid ⟨SW.start hH,hdn,List.Perm.refl _⟩;have HDN:=hid hdn;clear hH hc O hdn;by_cases c20:n < 20
 ·
  have x1:¬ (20:Int)≤(n:Int):=by omega
  have x2:¬ (20:Int) < (n:Int):=by omega
  have C1:Hid (Calls P 98 #[.slice (some ⟨blk,0,none⟩) n cap,.int .i64 0,.int .i64 n,.func (.func 35) #[] #[]] w (After k cf w blk n 0 n d)):=hid (INS.out 0 n d w S0.out.sw S0.out.size HDN.out (Nat.zero_le _) (Nat.le_refl _) (by omega));go_enter F,Tryz.ntmps62
  go_wp2_with fail
  refine wp_loop_rounds 1 ?_;rw [rounds_succ]
  go_wp2_with (go_at_fn 98;refine C1.out.mono ?_;rintro e1 w1 ⟨rfl,d1,G1⟩;replace G1:=hid G1)
  refine wp_loop_rounds 1 ?_;rw [rounds_succ]
  go_wp2_with fail
  go_end0
  exact ⟨rfl,d1,G1.out.1,G1.out.2.2⟩
 by_cases c21:n=20
 ·
  have x1:(20:Int)≤(n:Int):=by omega
  have x2:¬ (40:Int)≤(n:Int):=by omega
  have x3:¬ (20:Int) < (n:Int):=by omega
  have C1:Hid (Calls P 98 #[.slice (some ⟨blk,0,none⟩) n cap,.int .i64 0,.int .i64 20,.func (.func 35) #[] #[]] w (After k cf w blk n 0 20 d)):=hid (INS.out 0 20 d w S0.out.sw S0.out.size HDN.out (Nat.zero_le _) (by omega) (by omega));have C2:Hid (∀ d1 w1,Mid k w w1 blk n d d1→Calls P 98 #[.slice (some ⟨blk,0,none⟩) n cap,.int .i64 20,.int .i64 n,.func (.func 35) #[] #[]] w1 (After k cf w blk n 20 n d1)):=hid (fun d1 w1 h=>INS.out 20 n d1 w1 h.sw h.size HDN.out (by omega) (by omega) (by omega));have HN:=hid c21;clear c21;go_enter F,Tryz.ntmps62
  go_wp2_with fail
  refine wp_loop_rounds 2 ?_;rw [rounds_succ]
  go_wp2_with (go_at_fn 98;refine C1.out.mono ?_;rintro e1 w1 ⟨rfl,d1,G1⟩;replace G1:=hid G1)
  rw [rounds_succ]
  go_wp2_with (go_at_fn 98;refine (C2.out _ _ G1.out.1).mono ?_;rintro e2 w2 ⟨rfl,d2,G2⟩;replace G2:=hid G2)
  refine wp_loop_rounds 1 ?_;rw [rounds_succ]
  go_wp2_with fail
  go_end0
  refine ⟨rfl,d2,⟨G2.out.1.sw,G2.out.1.size,G2.out.1.perm.trans G1.out.1.perm⟩,?_⟩;have hN:=HN.out;subst hN;exact G1.out.2.2.same fun i _ _=>G2.out.2.1.out i (by omega)
 by_cases c40:n < 40
 ·
  have x1:(20:Int)≤(n:Int):=by omega
  have x2:¬ (40:Int)≤(n:Int):=by omega
  have x3:(20:Int) < (n:Int):=by omega
  have x4:¬ (40:Int) < (n:Int):=by omega
  have C1:Hid (Calls P 98 #[.slice (some ⟨blk,0,none⟩) n cap,.int .i64 0,.int .i64 20,.func (.func 35) #[] #[]] w (After k cf w blk n 0 20 d)):=hid (INS.out 0 20 d w S0.out.sw S0.out.size HDN.out (Nat.zero_le _) (by omega) (by omega));have C2:Hid (∀ d1 w1,Mid k w w1 blk n d d1→Calls P 98 #[.slice (some ⟨blk,0,none⟩) n cap,.int .i64 20,.int .i64 n,.func (.func 35) #[] #[]] w1 (After k cf w blk n 20 n d1)):=hid (fun d1 w1 h=>INS.out 20 n d1 w1 h.sw h.size HDN.out (by omega) (by omega) (by omega));have C3:Hid (∀ d0 d1 w1,Mid k w w1 blk n d0 d1→Srt (le cf) default d1.toList 0 20→Srt (le cf) default d1.toList 20 n→Calls P 99 #[.slice (some ⟨blk,0,none⟩) n cap,.int .i64 0,.int .i64 20,.int .i64 n,.func (.func 35) #[] #[]] w1 (After k cf w blk n 0 n d1)):=hid (fun d0 d1 w1 h h1 h2=>SYM.out 0 20 n d1 w1 h.sw h.size HDN.out (by omega) (by omega) (by omega) (by omega) h1 h2);go_enter F,Tryz.ntmps62
  go_wp2_with fail
  refine wp_loop_rounds 2 ?_;rw [rounds_succ]
  go_wp2_with (go_at_fn 98;refine C1.out.mono ?_;rintro e1 w1 ⟨rfl,d1,G1⟩;replace G1:=hid G1)
  rw [rounds_succ]
  go_wp2_with (go_at_fn 98;refine (C2.out _ _ G1.out.1).mono ?_;rintro e2 w2 ⟨rfl,d2,G2⟩;replace G2:=hid G2)
  refine wp_loop_rounds 2 ?_;rw [rounds_succ]
  go_wp2_with fail
  refine wp_loop_rounds 1 ?_;rw [rounds_succ];have CC:=hid (C3.out _ _ _ G2.out.1 (G1.out.2.2.same fun i _ _=>G2.out.2.1.out i (by omega)) G2.out.2.2)
  go_wp2_with (go_at_fn 99;refine CC.out.mono ?_;rintro e3 w3 ⟨rfl,d3,G3⟩;replace G3:=hid G3)
  rw [rounds_succ]
  go_wp2_with fail
  go_end0
  exact ⟨rfl,d3,⟨G3.out.1.sw,G3.out.1.size,G3.out.1.perm.trans (G2.out.1.perm.trans G1.out.1.perm)⟩,G3.out.2.2⟩
 ·
  have x1:(20:Int)≤(n:Int):=by omega
  have x2:(40:Int)≤(n:Int):=by omega
  have x3:(20:Int) < (n:Int):=by omega
  have x4:¬ (40:Int) < (n:Int):=by omega
  have x5:¬ (60:Int)≤(n:Int):=by omega
  have x6:¬ (60:Int) < (n:Int):=by omega
  have x7:¬ (80:Int)≤(n:Int):=by omega
  have hn40:Hid (n=40):=hid (by omega);have C1:Hid (Calls P 98 #[.slice (some ⟨blk,0,none⟩) n cap,.int .i64 0,.int .i64 20,.func (.func 35) #[] #[]] w (After k cf w blk n 0 20 d)):=hid (INS.out 0 20 d w S0.out.sw S0.out.size HDN.out (Nat.zero_le _) (by omega) (by omega));have C2:Hid (∀ d1 w1,Mid k w w1 blk n d d1→Calls P 98 #[.slice (some ⟨blk,0,none⟩) n cap,.int .i64 20,.int .i64 40,.func (.func 35) #[] #[]] w1 (After k cf w blk n 20 40 d1)):=hid (fun d1 w1 h=>INS.out 20 40 d1 w1 h.sw h.size HDN.out (by omega) (by omega) (by omega));have C4:Hid (∀ d0 d1 w1,Mid k w w1 blk n d0 d1→Calls P 98 #[.slice (some ⟨blk,0,none⟩) n cap,.int .i64 40,.int .i64 n,.func (.func 35) #[] #[]] w1 (After k cf w blk n 40 n d1)):=hid (fun d0 d1 w1 h=>INS.out 40 n d1 w1 h.sw h.size HDN.out (by omega) (by omega) (by omega));have C3:Hid (∀ d0 d1 w1,Mid k w w1 blk n d0 d1→Srt (le cf) default d1.toList 0 20→Srt (le cf) default d1.toList 20 40→Calls P 99 #[.slice (some ⟨blk,0,none⟩) n cap,.int .i64 0,.int .i64 20,.int .i64 40,.func (.func 35) #[] #[]] w1 (After k cf w blk n 0 40 d1)):=hid (fun d0 d1 w1 h h1 h2=>SYM.out 0 20 40 d1 w1 h.sw h.size HDN.out (by omega) (by omega) (by omega) (by omega) h1 h2);go_enter F,Tryz.ntmps62
  go_wp2_with fail
  refine wp_loop_rounds 3 ?_;rw [rounds_succ]
  go_wp2_with (go_at_fn 98;refine C1.out.mono ?_;rintro e1 w1 ⟨rfl,d1,G1⟩;replace G1:=hid G1)
  rw [rounds_succ]
  go_wp2_with (go_at_fn 98;refine (C2.out _ _ G1.out.1).mono ?_;rintro e2 w2 ⟨rfl,d2,G2⟩;replace G2:=hid G2)
  rw [rounds_succ]
  go_wp2_with (go_at_fn 98;refine (C4.out _ _ _ G2.out.1).mono ?_;rintro e4 w4 ⟨rfl,d4,G4⟩;replace G4:=hid G4)
  refine wp_loop_rounds 2 ?_;rw [rounds_succ]
  go_wp2_with fail
  refine wp_loop_rounds 2 ?_;rw [rounds_succ];have CC:=hid (C3.out _ _ _ G4.out.1 ((G1.out.2.2.same fun i _ _=>G2.out.2.1.out i (by omega)).same fun i _ _=>G4.out.2.1.out i (by omega)) (G2.out.2.2.same fun i _ _=>G4.out.2.1.out i (by omega)))
  go_wp2_with (go_at_fn 99;refine CC.out.mono ?_;rintro e3 w3 ⟨rfl,d3,G3⟩;replace G3:=hid G3)
  rw [rounds_succ]
  go_wp2_with fail
  rw [rounds_succ]
  go_wp2_with fail
  go_end0
  have hN:=hn40.out;subst hN;exact ⟨rfl,d3,⟨G3.out.1.sw,G3.out.1.size,G3.out.1.perm.trans (G4.out.1.perm.trans (G2.out.1.perm.trans G1.out.1.perm))⟩,G3.out.2.2⟩
set_option maxHeartbeats 1000000 in
theorem sortStable_calls (L:Ty P k) (cf:NV→NV→Int) (O:ZSortP.Ord (le cf)) (hc:CmpC P cf) (blk cap n:Nat) (d:Array NV) (w:World) (hH:HoldsK NV.cells k w blk 0 d) (hblk:blk < w.heap.size) (hdn:d.size=n) (hn:n≤40): Calls P 34 #[.slice (some ⟨blk,0,none⟩) n cap,.func (.func 35) #[] #[]] w (Done k cf w blk n d):=by
 have mixed:=L.mixed;have t0:=L.t0;have a0:=L.a0;have z0:=L.z0;have v0:=L.v0;have t3:=L.t3;have a3:=L.a3;have z3:=L.z3;have v3:=L.v3;have t22:=L.t22;have a22:=L.a22;have z22:=L.z22;have v22:=L.v22;have t79:=L.t79;have a79:=L.a79;have z79:=L.z79;have v79:=L.v79
 have F:=L.f34;have e62:∀ args w,(callFunc 62 args).run P w=.ok (.enter 62 args) w:=enters_of L.f62 (by kernel_rfl) rfl;have C1:=hid (stable_calls L cf O hc blk cap n d w hH hblk hdn hn);clear hH hc O hdn;go_enter F,Tryz.ntmps34
 go_wp2_with (go_at_fn 62;refine C1.out.mono ?_;rintro e1 w1 ⟨rfl,G1⟩;replace G1:=hid G1)
 go_end0
 exact ⟨rfl,G1.out⟩
end ZStable
end
end Go.Proofs.YteikiojmcipkmaaGreatDoor
