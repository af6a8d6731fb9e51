/- Parts of the proof, gathered by a program: what calls of the functions answer, and what follows in plain lists. Conditions: those that each theorem states. -/
import Derived.Test.YteikiojmcipkmaaGreatDoorMR18
import Derived.Shelf.Spec.SlicesGrow
set_option linter.unusedVariables false
set_option linter.unusedSimpArgs false
namespace Go.Proofs.YteikiojmcipkmaaGreatDoor
open Go.Lib (hid)
set_option maxRecDepth 100000
section
namespace ZConcat
open ZFit Go.RowKit YteikiojmcipkmaaGreatDoorW.PrintWords YteikiojmcipkmaaGreatDoorW.PrintLast YteikiojmcipkmaaGreatDoorW.PrintMore Oct ZBase ZGlob ZMo ZApp
def rho:Shelf.Ren:={ f:=fun n=>if n=4 then 136 else n,t:=fun n=>if n=25 then 5 else if n=22 then 30 else n,g:=fun n=>n }
theorem lays:Lays8.n4 Tryz.prog rho where
 mixed:=by kernel_rfl
 f4:=⟨ "slices.Grow[[]byte,byte]",by decide,by kernel_rfl⟩
 t0:=by kernel_rfl
 a0:=by intro w;kernel_rfl
 z0:=by intro w;kernel_rfl
 v0:=by intro w;kernel_rfl
 t3:=by kernel_rfl
 a3:=by intro w;kernel_rfl
 z3:=by intro w;kernel_rfl
 v3:=by intro w;kernel_rfl
 t4:=by kernel_rfl
 a4:=by intro w;kernel_rfl
 z4:=by intro w;kernel_rfl
 v4:=by intro w;kernel_rfl
 t9:=by kernel_rfl
 a9:=by intro w;kernel_rfl
 z9:=by intro w;kernel_rfl
 v9:=by intro w;kernel_rfl
 t20:=by kernel_rfl
 a20:=by intro w;kernel_rfl
 z20:=by intro w;kernel_rfl
 v20:=by intro w;kernel_rfl
 t22:=by kernel_rfl
 a22:=by intro w;kernel_rfl
 z22:=by intro w;kernel_rfl
 v22:=by intro w;kernel_rfl
theorem grow_calls (n:Nat) (h0:0 < n) (hn:n≤100000000) (w:World):Calls Tryz.prog 136 #[.slice none 0 0,.int .i64 n] w fun e w'=>∃ g cap,e=.returned (.slice (some ⟨g,0,none⟩) 0 cap)∧ZBase.Own w' w.heap.size g cap 0 []∧Below w.heap.size w w':=by obtain ⟨i,hi,hz⟩:=Option.map_eq_some_iff.1 info5;simp only [Prod.mk.injEq] at hz;refine (Any8.slices_Grow_grow lays i (.int .u8 0) hi hz.1 (by rw [hz.2.1];decide) none 0 0 n [] w (Nat.le_refl _) (by omega) (by rw [hz.2.2];omega) (by omega) (by simp) (fun _=>rfl) (fun a h=>by cases h)).mono ?_;rintro e w' ⟨rfl,rfl⟩;have hG:0+n≤grownCap w (0+n) 0 (rho.t 25):=grownCap_ge w _ _ _;have hM:=grownCap_le_maxLen w (0+n) 0 (rho.t 25) (by unfold maxLen;omega);refine ⟨w.heap.size,_,rfl,⟨⟨by simp [nums],.inr ⟨w.heap.size,_,_,rfl,Nat.le_refl _,heap_alloc_new _ _,Nat.zero_le _,hM,?_,by simp [nums]⟩⟩⟩,(below_drew (Below.refl _ _)).alloc (Nat.le_refl _) _⟩;simp only [Nat.zero_add] at *;simp [Builtin.zeroCells,Value.cells];omega
structure Part where
 addr:Option Addr
 cap:Nat
 data:List Int
def Parts (w:World) (b:Nat) (ps:List Part):Prop:=∀ (j:Nat) (p:Part),ps[j]?=some p→w.cell? ⟨b,j,none⟩=some (.slice p.addr p.data.length p.cap)∧Kd.C (Kd.int .u8) w p.addr p.data.length p.data
def sumLen (ps:List Part):Nat:=(ps.map fun p=>p.data.length).sum
def allData (ps:List Part):List Int:=ps.flatMap fun p=>p.data
theorem sum_take {ps:List Part} {j:Nat} {p:Part} (h:ps[j]?=some p):sumLen (ps.take (j+1))=sumLen (ps.take j)+p.data.length∧allData (ps.take (j+1))=allData (ps.take j)++p.data:=by rw [List.take_add_one,h];simp [sumLen,allData,List.flatMap_append]
theorem sum_le (ps:List Part) (j:Nat):sumLen (ps.take j)≤sumLen ps:=by
 have e:sumLen (ps.take j++ps.drop j)=sumLen (ps.take j)+sumLen (ps.drop j):=by unfold sumLen;rw [List.map_append,List.sum_append]
 rw [List.take_append_drop] at e;omega
set_option maxHeartbeats 4000000 in
theorem concat_calls (b cap:Nat) (ps:List Part) (w:World) (hb:b < w.heap.size) (hp:Parts w b ps) (h0:0 < sumLen ps) (hs:sumLen ps≤10000000) (hn:ps.length≤100): Calls Tryz.prog 95 #[.slice (some ⟨b,0,none⟩) ps.length cap] w fun e w'=>∃ g c,e=.returned (.slice (some ⟨g,0,none⟩) (sumLen ps) c)∧ZBase.Own w' w.heap.size g c (sumLen ps) (allData ps)∧Below w.heap.size w w':=by
 have HP:=hid hp;have GC:=hid (grow_calls (sumLen ps) h0 (by omega) w);have HS:=hid hs;clear hp hs h0;go_enter Tryz.func95,Tryz.ntmps95
 go_wp2_with fail
 go_loop [3,11] (fun n i=>∃ j:Nat,j≤ps.length∧i=.int .i64 j∧n=.int .i64 (sumLen (ps.take j))) (fun _ i=>ps.length - (intOf i).toNat)
 case atStart=>exact ⟨0,Nat.zero_le _,rfl,rfl⟩
 case round =>
  obtain ⟨j,hj,rfl,rfl⟩:=hrel;by_cases hlt:j < ps.length
  ·
   have hltz:(j:Int) < (ps.length:Int):=by omega
   obtain ⟨p,hpj⟩:∃ p,ps[j]?=some p:=⟨_,List.getElem?_eq_getElem hlt⟩;have hc:=(HP.out j p hpj).1;have e1:=(sum_take hpj).1;have e2:=sum_le ps (j+1);obtain ⟨s,hs⟩:∃ s,sumLen (ps.take j)=s:=⟨_,rfl⟩;rw [hs] at e1 ⊢;have hb1:s+p.data.length≤10000000:=by have:=HS.out;omega
   have hnn:¬ (s:Int)+(p.data.length:Int) < 0:=by omega
   have E1:=hid e1;clear e1 e2 hs hpj
   go_wp2_with fail
   go_round
   case rel=>exact ⟨j+1,by omega,by go_num,by rw [E1.out];go_num⟩
   case measure=>simp [intOf];omega
  ·
   obtain rfl:j=ps.length:=by omega
   rw [List.take_length]
   go_wp2_with fail
   refine GC.out.mono ?_;rintro e w1 ⟨g,c,rfl,ho,hbl⟩;have T0:=hid (And.intro ho hbl);clear ho hbl
   go_wp2_with fail
   go_loopw [6,27] (fun v i wr=>∃ (j g c:Nat),j≤ps.length∧i=.int .i64 j∧v=.slice (some ⟨g,0,none⟩) (sumLen (ps.take j)) c∧Hid (ZBase.Own wr w.heap.size g c (sumLen (ps.take j)) (allData (ps.take j))∧Below w.heap.size w wr)) (fun _ i _=>ps.length - (intOf i).toNat)
   case atStart=>exact ⟨0,g,c,Nat.zero_le _,rfl,rfl,T0⟩
   case round =>
    clear T0 hlt;obtain ⟨j,g,c,hj,rfl,rfl,HT⟩:=hrel;by_cases hlt:j < ps.length
    ·
     have hltz:(j:Int) < (ps.length:Int):=by omega
     obtain ⟨p,hpj⟩:∃ p,ps[j]?=some p:=⟨_,List.getElem?_eq_getElem hlt⟩;obtain ⟨hc0,hC0⟩:=HP.out j p hpj;have hc:=(cellb HT.out.2 b j hb).trans hc0;have HC:=hid (Kd.C_below hC0 HT.out.2);have EE:=hid (sum_take hpj);have e2:=sum_le ps (j+1);have hb1:Hid (sumLen (ps.take j)+p.data.length≤140737488355328):=hid (by have:=HS.out;have:=EE.out.1;omega);clear hc0 hC0 hpj e2;obtain ⟨s,hs⟩:∃ s,sumLen (ps.take j)=s:=⟨_,rfl⟩;rw [hs] at HT hb1 EE ⊢;clear hs
     go_wp2_with (at_builtin;refine append_own wr w.heap.size rfl (.tmp 31) (.tmp 32) rfl g c s (allData (ps.take j)) p.addr p.data.length p.cap p.data rfl rfl HT.out.1 HC.out HT.out.2.size hb1.out ?_;intro g3 c3 w3 ho3 hm3 hg3;replace ho3:=hid ho3;replace hm3:=hid hm3)
     go_roundw
     case rel =>refine ⟨j+1,g3,c3,by omega,by go_num,by rw [EE.out.1],?_⟩;rw [EE.out.1,EE.out.2];exact ⟨ho3.out,HT.out.2.trans (hm3.out.below HT.out.2.size (by intro t ht;obtain rfl:t=g:=(by simpa using ht);exact HT.out.1.from_))⟩
     case measure=>simp [intOf];omega
    ·
     obtain rfl:j=ps.length:=by omega
     rw [List.take_length] at HT ⊢
     go_wp2_with fail
     go_ret;exact ⟨g,c,rfl,HT.out.1,HT.out.2⟩
end ZConcat
end
end Go.Proofs.YteikiojmcipkmaaGreatDoor
