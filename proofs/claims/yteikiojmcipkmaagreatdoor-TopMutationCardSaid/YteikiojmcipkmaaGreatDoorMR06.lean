/- Parts of the proof, gathered by a program: what calls of the functions answer, and what follows in plain lists. Conditions: those that each theorem states. -/
import Derived.Test.YteikiojmcipkmaaGreatDoorMR04
import Derived.Shelf.SlSortCmp.InsertionK
import Derived.Test.YteikiojmcipkmaaGreatDoorMR05
set_option linter.unusedVariables false
set_option linter.unusedSimpArgs false
namespace Go.Proofs.YteikiojmcipkmaaGreatDoor
open Go.Lib (hid)
open Go Go.Proofs Go.Shelf Go.RowKit Go.Lib Go.Sort
set_option maxRecDepth 1000000
section
namespace ZIns
def rho:Ren:={ f:=fun n=>if n=20 then 98 else n,t:=fun n=>if n=24 then 46 else if n=25 then 79 else n,g:=fun n=>n }
end ZIns
namespace ZNod
open ZSortP
structure NV where
 kind:Int
 path:ByteArray
 mode:Int
 target:ByteArray
 addr:Option Addr
 cap:Nat
 data:List Int
 cls:Int
instance:Inhabited NV:=⟨⟨0,⟨#[]⟩,0,⟨#[]⟩,none,0,[],0⟩⟩
def NV.cells (x:NV):List Value:=[.int .i64 x.kind,.string x.path,.int .i64 x.mode,.string x.target,.slice x.addr x.data.length x.cap,.int .i64 x.cls]
theorem cells_len (x:NV):x.cells.length=6:=rfl
theorem cells_one (x:NV):∀ v∈x.cells,v.oneCell'=true:=by intro v hv;simp only [NV.cells,List.mem_cons,List.not_mem_nil,or_false] at hv;rcases hv with rfl | rfl | rfl | rfl | rfl | rfl <;> rfl
theorem at_arr (d:Array NV) (i:Nat):at_ default d.toList i=d[i]!:=by simp [at_,List.getD_eq_getElem?_getD,Array.getElem!_eq_getD,Array.getD_eq_getD_getElem?]
theorem swp_list (d:Array NV) (i j:Nat) (hi:i < d.size) (hj:j < d.size):(swp d i j).toList=swapL d.toList i j:=by unfold swp swapL;rw [dif_pos ⟨by simpa using hi,by simpa using hj⟩];simp [hi,hj]
def SW (k:Nat) (w wr:World) (blk:Nat) (dk:Array NV):Prop:=∃ m os,wr=sortWorldK NV.cells k w blk 0 m dk os
section
variable {k:Nat} {w wr w2:World} {blk:Nat} {d dk d2:Array NV}
theorem SW.start (hH:HoldsK NV.cells k w blk 0 d):SW k w w blk d:=⟨0,#[],by unfold sortWorldK;rw [grow_empty];exact (putRowK_self NV.cells k w blk 0 d hH).symm⟩
theorem SW.holds (h:SW k w wr blk dk) (hH:HoldsK NV.cells k w blk 0 d) (hblk:blk < w.heap.size) (hs:dk.size=d.size):HoldsK NV.cells k wr blk 0 dk:=by obtain ⟨m,os,rfl⟩:=h;exact holdsK_sortWorldK_c NV.cells k w blk 0 d dk m os hH hblk hs
theorem SW.size (h:SW k w wr blk dk):w.heap.size≤wr.heap.size:=by obtain ⟨m,os,rfl⟩:=h;exact size_sortWorldK_c NV.cells k w blk 0 m dk os
theorem SW.grown (h:SW k w wr blk dk) (n:Nat) (os:Array Obj):SW k w (grow (wr.drewN n) os) blk dk:=by obtain ⟨m,os0,rfl⟩:=h;exact ⟨_,_,sortWorldK_grown_c NV.cells k w blk 0 m n dk os0 os⟩
theorem SW.drew (h:SW k w wr blk dk):SW k w wr.drew blk dk:=by have:=h.grown 1 #[];rw [grow_empty] at this;exact this
theorem SW.swp (h:SW k w wr blk dk) (hk:∀ x:NV,x.cells.length=k) (hblk:blk < w.heap.size) (i j:Nat) (hi:i < dk.size) (hj:j < dk.size):SW k w ((wr.drew.setCells blk (i * k) (NV.cells dk[j]!)).setCells blk (j * k) (NV.cells dk[i]!)) blk (Sort.swp dk i j):=by rw [← Nat.zero_add (i * k),← Nat.zero_add (j * k)];obtain ⟨m,os0,rfl⟩:=h;exact ⟨_,_,sortWorldK_swp_c NV.cells k w blk 0 hk m dk os0 hblk i j hi hj⟩
theorem SW.trans (h:SW k w wr blk dk) (h2:SW k wr w2 blk d2) (hblk:blk < w.heap.size) (hs:d2.size=dk.size):SW k w w2 blk d2:=by obtain ⟨m,os,rfl⟩:=h;obtain ⟨m2,os2,rfl⟩:=h2;exact ⟨m+m2,os++os2,grow_step_growK NV.cells k w os os2 m m2 blk 0 dk d2 hblk hs⟩
theorem load_at (P:Program) (hk:∀ x:NV,x.cells.length=k) (hH:HoldsK NV.cells k wr blk 0 dk) (i:Nat) (hi:i < dk.size) (x:NV) (hx:dk[i]! = x):Sem.run P (loadCellsFrom ⟨blk,i * k,none⟩ 0 k #[]) wr=.ok x.cells.toArray wr:=by rw [← Nat.zero_add (i * k)];rw [← hx];exact run_loadCellsFrom_list P _ _ _ k (hk _) (HoldsK.cells hH hk hi)
theorem stores_at (P:Program) (hk:∀ x:NV,x.cells.length=k) (hH:HoldsK NV.cells k wr blk 0 dk) (i j:Nat) (hi:i < dk.size) (hj:j < dk.size) (x y:NV): Sem.run P (storeCells ⟨blk,i * k,none⟩ x.cells 0) wr=.ok () (wr.setCells blk (i * k) x.cells) ∧ Sem.run P (storeCells ⟨blk,j * k,none⟩ y.cells 0) (wr.setCells blk (i * k) x.cells)=.ok () ((wr.setCells blk (i * k) x.cells).setCells blk (j * k) y.cells):=by
 rw [← Nat.zero_add (i * k),← Nat.zero_add (j * k)];have bnd:∀ x,x < dk.size→x * k+k≤dk.size * k:=fun x hx=>by
  have:=Nat.mul_le_mul_right k (show x+1≤dk.size from hx)
  rwa [Nat.add_mul,Nat.one_mul] at this
 exact ⟨stores_of_holds P hH (i * k) _ (by rw [hk,size_flatK];exact bnd i hi) (cells_one _),
  stores_of_holds P (holds_setCells_c hH (i * k) _ (by rw [hk,size_flatK];exact bnd i hi)) (j * k) _ (by rw [hk,size_setMany,size_flatK];exact bnd j hj) (cells_one _)⟩
end
def CmpC (P:Program) (cf:NV→NV→Int):Prop:=∀ (W:World) (x y:NV),Calls P 35 #[.agg x.cells.toArray,.agg y.cells.toArray] W fun e w'=>e=.returned (.int .i64 (cf x y))∧∃ q os',w'=grow (W.drewN q) os'
theorem CmpC.lays {P:Program} {cf:NV→NV→Int} (h:CmpC P cf) (k blk n:Nat) (w:World):CmpLays P 35 #[] NV.cells k cf blk 0 n w:=fun _ _ _ _ x y=>h _ x y
structure Ty (P:Program) (k:Nat):Prop where
 mixed:P.follows .mixedOrders=true
 f163:P.funcs[163]?=some Tryz.f163
 f138:P.funcs[138]?=some Tryz.f138
 f99:P.funcs[99]?=some Tryz.f99
 f62:P.funcs[62]?=some Tryz.f62
 f34:P.funcs[34]?=some Tryz.f34
 f35:P.funcs[35]?=some Tryz.f35
 f98:P.funcs[98]?=some Tryz.f98
 aE:∀ w,(isAgg 46).run P w=.ok true w
 zE:∀ w,(Go.sizeOf 46).run P w=.ok k w
 hk:∀ x:NV,x.cells.length=k
 k0:0 < k
 t0:P.underlying 0=some (TypeDesc.tuple #[])
 a0:∀ w,(isAgg 0).run P w=.ok false w
 z0:∀ w,(Go.sizeOf 0).run P w=.ok 1 w
 v0:∀ w,(zeroValue 0).run P w=.ok (Value.tuple #[]) w
 t3:P.underlying 3=some (TypeDesc.int IntKind.i64)
 a3:∀ w,(isAgg 3).run P w=.ok false w
 z3:∀ w,(Go.sizeOf 3).run P w=.ok 1 w
 v3:∀ w,(zeroValue 3).run P w=.ok (Value.int IntKind.i64 0) w
 t4:P.underlying 4=some (TypeDesc.bool)
 a4:∀ w,(isAgg 4).run P w=.ok false w
 z4:∀ w,(Go.sizeOf 4).run P w=.ok 1 w
 v4:∀ w,(zeroValue 4).run P w=.ok (Value.bool false) w
 t22:P.underlying 22=some (TypeDesc.slice 46)
 a22:∀ w,(isAgg 22).run P w=.ok false w
 z22:∀ w,(Go.sizeOf 22).run P w=.ok 1 w
 v22:∀ w,(zeroValue 22).run P w=.ok (Value.slice none 0 0) w
 t79:P.underlying 79=some (TypeDesc.func #[46,46] #[3] false)
 a79:∀ w,(isAgg 79).run P w=.ok false w
 z79:∀ w,(Go.sizeOf 79).run P w=.ok 1 w
 v79:∀ w,(zeroValue 79).run P w=.ok (Value.nilFunc) w
 t213:P.underlying 213=some (TypeDesc.int IntKind.u64)
 a213:∀ w,(isAgg 213).run P w=.ok false w
 z213:∀ w,(Go.sizeOf 213).run P w=.ok 1 w
 v213:∀ w,(zeroValue 213).run P w=.ok (Value.int IntKind.u64 0) w
theorem tys:Ty Tryz.prog 6 where
 mixed:=by kernel_rfl
 f163:=Tryz.func163
 f138:=Tryz.func138
 f99:=Tryz.func99
 f62:=Tryz.func62
 f34:=Tryz.func34
 f35:=Tryz.func35
 f98:=Tryz.func98
 aE:=by intro w;kernel_rfl
 zE:=by intro w;kernel_rfl
 hk:=cells_len
 k0:=by decide
 t0:=by kernel_rfl
 a0:=by intro w;kernel_rfl
 z0:=by intro w;kernel_rfl
 v0:=by intro w;kernel_rfl
 t3:=by kernel_rfl
 a3:=by intro w;kernel_rfl
 z3:=by intro w;kernel_rfl
 v3:=by intro w;kernel_rfl
 t4:=by kernel_rfl
 a4:=by intro w;kernel_rfl
 z4:=by intro w;kernel_rfl
 v4:=by intro w;kernel_rfl
 t22:=by kernel_rfl
 a22:=by intro w;kernel_rfl
 z22:=by intro w;kernel_rfl
 v22:=by intro w;kernel_rfl
 t79:=by kernel_rfl
 a79:=by intro w;kernel_rfl
 z79:=by intro w;kernel_rfl
 v79:=by intro w;kernel_rfl
 t213:=by kernel_rfl
 a213:=by intro w;kernel_rfl
 z213:=by intro w;kernel_rfl
 v213:=by intro w;kernel_rfl
theorem Ty.lays {P:Program} {k:Nat} (L:Ty P k):SlLaysF0.n20 P ZIns.rho where
 mixed:=L.mixed
 f20:=⟨ "slices.insertionSortCmpFunc[paxtar/api.Node]",by decide,L.f98.trans (by kernel_rfl)⟩
 t0:=L.t0
 a0:=L.a0
 z0:=L.z0
 v0:=L.v0
 t3:=L.t3
 a3:=L.a3
 z3:=L.z3
 v3:=L.v3
 t4:=L.t4
 a4:=L.a4
 z4:=L.z4
 v4:=L.v4
 t22:=L.t22
 a22:=L.a22
 z22:=L.z22
 v22:=L.v22
 t25:=L.t79
 a25:=L.a79
 z25:=L.z79
 v25:=L.v79
end ZNod
namespace ZSwap
open ZSortP ZNod
variable {P:Program} {k:Nat}
set_option maxHeartbeats 4000000 in
theorem swapRange_calls (L:Ty P k) (f:Value) (blk cap p q n:Nat) (d:Array NV) (w:World) (hH:HoldsK NV.cells k w blk 0 d) (hblk:blk < w.heap.size) (hpq:p+n≤q) (hq:q+n≤d.size) (hsz:d.size < 4611686018427387904): Calls P 163 #[.slice (some ⟨blk,0,none⟩) d.size cap,.int .i64 p,.int .i64 q,.int .i64 n,f] w fun e w' =>e=.returned (.tuple #[])∧∃ dk,SW k w w' blk dk∧dk.size=d.size∧dk.toList.Perm d.toList∧SwR default d.toList dk.toList p q n:=by
 have mixed:=L.mixed;have t0:=L.t0;have a0:=L.a0;have z0:=L.z0;have v0:=L.v0;have t3:=L.t3;have a3:=L.a3;have z3:=L.z3;have v3:=L.v3;have t4:=L.t4;have a4:=L.a4;have z4:=L.z4;have v4:=L.v4;have t22:=L.t22;have a22:=L.a22;have z22:=L.z22;have v22:=L.v22;have t79:=L.t79;have a79:=L.a79;have z79:=L.z79;have v79:=L.v79;have aE:=L.aE;have zE:=L.zE
 have u22:=run_underlying L.t22;have F:=L.f163;have HK:=hid L.hk;have HST:=hid (SW.start hH);have HH:=hid hH;clear hH;go_enter F,Tryz.ntmps163;go_wp2
 go_loopg [10] n (fun g1 vi wr=>∃ (i:Nat) (dk:Array NV),vi=.int .i64 i∧i≤n∧n - i≤g1∧dk.size=d.size∧Hid (SW k w wr blk dk)∧Hid (dk.toList.Perm d.toList∧SwR default d.toList dk.toList p q i))
 case atStart=>exact ⟨0,d,rfl,by omega,by omega,rfl,HST,⟨List.Perm.refl _,SwR.start _ _ _⟩⟩
 case round =>
  obtain ⟨i,dk,rfl,hin,hg1,hsk,HW,HP⟩:=hrel;by_cases hlt:i < n
  ·
   have hltz:(i:Int) < (n:Int):=by omega
   obtain ⟨xp,hxp⟩:∃ x,dk[p+i]! = x:=⟨_,rfl⟩;obtain ⟨xq,hxq⟩:∃ x,dk[q+i]! = x:=⟨_,rfl⟩;have hHd:HoldsK NV.cells k wr.drew blk 0 dk:=SW.holds HW.out.drew HH.out hblk hsk;have lq:=load_at P HK.out hHd (q+i) (by omega) xq hxq;have lp:=load_at P HK.out hHd (p+i) (by omega) xp hxp;obtain ⟨s1,s2⟩:=stores_at P HK.out hHd (p+i) (q+i) (by omega) (by omega) xq xp;have w1:IntKind.i64.wrap ((p:Int)+(i:Int))=(p:Int)+(i:Int):=by rw [IntKind.wrap_i64];omega
   have w2:IntKind.i64.wrap ((q:Int)+(i:Int))=(q:Int)+(i:Int):=by rw [IntKind.wrap_i64];omega
   have e1:((p:Int)+(i:Int)).toNat=p+i:=by omega
   have e2:((q:Int)+(i:Int)).toNat=q+i:=by omega
   have p1:(0:Int)≤(p:Int)+(i:Int):=by omega
   have p2:(0:Int)≤(q:Int)+(i:Int):=by omega
   have b1:(p:Int)+(i:Int) < (d.size:Int):=by omega
   have b2:(q:Int)+(i:Int) < (d.size:Int):=by omega
   have HX:=hid (And.intro hxp hxq);have hsP:=HK.out xp;have hsQ:=HK.out xq;obtain ⟨cP,hcP⟩:∃ c,c=xp.cells:=⟨_,rfl⟩;obtain ⟨cQ,hcQ⟩:∃ c,c=xq.cells:=⟨_,rfl⟩;rw [← hcQ] at s1 s2 lq hsQ;rw [← hcP] at s2 lp hsP;have CC:=hid (And.intro hcP hcQ);clear hcP hcQ hHd hxp hxq
   go_wp2_with fail
   go_big_region_o
   all_goals go_wp2
   go_roundg (n - (i+1))
   case measure=>omega
   case rel =>
    refine ⟨i+1,Sort.swp dk (p+i) (q+i),by go_num,by omega,Nat.le_refl _,by rw [size_swp];exact hsk,hid ?_,hid ?_⟩
    ·rw [CC.out.1,CC.out.2,← HX.out.1,← HX.out.2];exact HW.out.swp HK.out hblk (p+i) (q+i) (by omega) (by omega)
    ·rw [swp_list _ _ _ (by omega) (by omega)];exact ⟨(swapL_perm _ _ _).trans HP.out.1,HP.out.2.step (by omega) (by simp;omega)⟩
  ·
   obtain rfl:i=n:=by omega
   go_wp2
   go_end0
   exact ⟨rfl,dk,HW.out,hsk,HP.out.1,HP.out.2⟩
set_option maxHeartbeats 4000000 in
theorem rotate_calls (L:Ty P k) (f:Value) (blk cap a m b:Nat) (d:Array NV) (w:World) (hH:HoldsK NV.cells k w blk 0 d) (hblk:blk < w.heap.size) (ham:a < m) (hmb:m < b) (hb:b≤d.size) (hsz:d.size < 4611686018427387904): Calls P 138 #[.slice (some ⟨blk,0,none⟩) d.size cap,.int .i64 a,.int .i64 m,.int .i64 b,f] w fun e w' =>e=.returned (.tuple #[])∧∃ dk,SW k w w' blk dk∧dk.size=d.size∧dk.toList.Perm d.toList∧Rot default d.toList dk.toList a m b:=by
 have mixed:=L.mixed;have t0:=L.t0;have a0:=L.a0;have z0:=L.z0;have v0:=L.v0;have t3:=L.t3;have a3:=L.a3;have z3:=L.z3;have v3:=L.v3;have t4:=L.t4;have a4:=L.a4;have z4:=L.z4;have v4:=L.v4;have t22:=L.t22;have a22:=L.a22;have z22:=L.z22;have v22:=L.v22;have t79:=L.t79;have a79:=L.a79;have z79:=L.z79;have v79:=L.v79;have aE:=L.aE;have zE:=L.zE
 have u22:=run_underlying L.t22;have F:=L.f138;have e163:∀ args w,(callFunc 163 args).run P w=.ok (.enter 163 args) w:=enters_of L.f163 (by kernel_rfl) rfl;have SC:Hid (∀ (p q n:Nat) (dk:Array NV) (wr:World),SW k w wr blk dk→dk.size=d.size→p+n≤q→q+n≤d.size→Calls P 163 #[.slice (some ⟨blk,0,none⟩) d.size cap,.int .i64 p,.int .i64 q,.int .i64 n,f] wr fun e w' =>
   e=.returned (.tuple #[])∧∃ d2,SW k w w' blk d2∧d2.size=d.size∧d2.toList.Perm dk.toList∧SwR default dk.toList d2.toList p q n):=hid (fun p q n dk wr hw hs h1 h2=>by
  have:=swapRange_calls L f blk cap p q n dk wr (hw.holds hH hblk hs) (Nat.lt_of_lt_of_le hblk hw.size) h1 (by omega) (by omega);rw [hs] at this;refine this.mono ?_;rintro e w' ⟨rfl,d2,h3,h4,h5,h6⟩;exact ⟨rfl,d2,hw.trans h3 hblk (by omega),h4,h5,h6⟩)
 have HST:=hid (SW.start hH);clear hH;obtain ⟨i0,hi0⟩:∃ i:Nat,(m:Int) - (a:Int)=(i:Int):=⟨m - a,by omega⟩;obtain ⟨j0,hj0⟩:∃ j:Nat,(b:Int) - (m:Int)=(j:Int):=⟨b - m,by omega⟩;go_enter F,Tryz.ntmps138
 go_wp2_with fail
 have HI:=hid (And.intro hi0 hj0);clear hi0 hj0
 go_loopg [10,11] (i0+j0) (fun g1 vi vj wr=>∃ (i j:Nat) (dk:Array NV),vi=.int .i64 i∧vj=.int .i64 j∧1≤i∧1≤j∧i≤m∧m+j≤b∧i+j≤g1∧dk.size=d.size∧Hid (SW k w wr blk dk)∧Hid (dk.toList.Perm d.toList∧∀ l',Rot default dk.toList l' (m - i) m (m+j)→Rot default d.toList l' a m b))
 case atStart =>have h:=HI.out;exact ⟨i0,j0,d,rfl,rfl,by omega,by omega,by omega,by omega,by omega,rfl,HST,List.Perm.refl _,fun l' hl=>by rwa [show m - i0=a by omega,show m+j0=b by omega] at hl⟩
 case round =>
  obtain ⟨i,j,dk,rfl,rfl,h1i,h1j,him,hjb,hg1,hsk,HW,HP⟩:=hrel;obtain ⟨p,hp⟩:∃ p:Nat,(m:Int) - (i:Int)=(p:Int):=⟨m - i,by omega⟩;have hpz:p=m - i:=by omega
  have HPZ:=hid hpz;clear hpz;have HJ:=hid (And.intro h1i h1j);by_cases hij:i=j
  ·
   subst hij;have hb1:((i:Int) != (i:Int))=false:=by simp
   have CC:=hid (SC.out p m i dk wr HW.out hsk (by have:=HPZ.out;omega) (by omega))
   go_wp2_with (go_at_fn 163;refine CC.out.mono ?_;rintro e w2 ⟨rfl,d2,k1,k2,k3,k4⟩;replace k1:=hid k1;replace k4:=hid k4;replace k2:=hid k2;replace k3:=hid k3)
   go_end0
   refine ⟨rfl,d2,k1.out,k2.out,k3.out.trans HP.out.1,HP.out.2 _ ?_⟩;have h4:=k4.out;rw [HPZ.out] at h4;exact Rot.both h4 him
  ·
   have hb1:((i:Int) != (j:Int))=true:=by rw [bne_iff_ne];omega
   by_cases hgt:j < i
   ·
    have hgz:(j:Int) < (i:Int):=by omega
    obtain ⟨r,hr⟩:∃ r:Nat,(i:Int) - (j:Int)=(r:Int):=⟨i - j,by omega⟩;have CC:=hid (SC.out p m j dk wr HW.out hsk (by have:=HPZ.out;omega) (by omega))
    go_wp2_with (go_at_fn 163;refine CC.out.mono ?_;rintro e w2 ⟨rfl,d2,k1,k2,k3,k4⟩;replace k1:=hid k1;replace k4:=hid k4;replace k2:=hid k2;replace k3:=hid k3)
    go_roundg (r+j)
    case measure=>omega
    case rel =>refine ⟨r,j,d2,rfl,rfl,by omega,h1j,by omega,hjb,Nat.le_refl _,k2.out,k1,hid ⟨k3.out.trans HP.out.1,fun l' hl=>HP.out.2 l' ?_⟩⟩;have h4:=k4.out;rw [HPZ.out] at h4;exact Rot.left h4 hgt him (by rwa [show i - j=r by omega])
   ·
    have hgz:¬ (j:Int) < (i:Int):=by omega
    obtain ⟨r,hr⟩:∃ r:Nat,(j:Int) - (i:Int)=(r:Int):=⟨j - i,by omega⟩;obtain ⟨t,ht⟩:∃ t:Nat,(m:Int)+(j:Int) - (i:Int)=(t:Int):=⟨m+j - i,by omega⟩;have htz:t=m+j - i:=by omega
    have HTZ:=hid htz;clear htz;have CC:=hid (SC.out p t i dk wr HW.out hsk (by have:=HPZ.out;have:=HTZ.out;omega) (by have:=HTZ.out;omega))
    go_wp2_with (go_at_fn 163;refine CC.out.mono ?_;rintro e w2 ⟨rfl,d2,k1,k2,k3,k4⟩;replace k1:=hid k1;replace k4:=hid k4;replace k2:=hid k2;replace k3:=hid k3)
    go_roundg (i+r)
    case measure=>omega
    case rel =>refine ⟨i,r,d2,rfl,rfl,h1i,by omega,him,by omega,Nat.le_refl _,k2.out,k1,hid ⟨k3.out.trans HP.out.1,fun l' hl=>HP.out.2 l' ?_⟩⟩;have h4:=k4.out;rw [HPZ.out,HTZ.out] at h4;exact Rot.right h4 (by omega) him (by rwa [show j - i=r by omega])
end ZSwap
namespace ZSym
open ZSortP ZNod ZSwap
variable {P:Program} {k:Nat}
def le (cf:NV→NV→Int) (x y:NV):Prop:=¬ cf y x < 0
structure Got (k:Nat) (w w':World) (blk:Nat) (d dk:Array NV):Prop where
 sw:SW k w w' blk dk
 size:dk.size=d.size
 perm:dk.toList.Perm d.toList
theorem cmp_at (L:Ty P k) {cf:NV→NV→Int} (hc:CmpC P cf) {w wr:World} {blk:Nat} {d dk:Array NV} (hw:SW k w wr blk dk) (hH:HoldsK NV.cells k w blk 0 d) (hblk:blk < w.heap.size) (hs:dk.size=d.size) (i j:Nat) (hi:i < d.size) (hj:j < d.size) (x y:NV) (hx:dk[i]! = x) (hy:dk[j]! = y) : (∀ n os,Sem.run P (loadCellsFrom ⟨blk,i * k,none⟩ 0 k #[]) (grow (wr.drewN n) os)=.ok x.cells.toArray (grow (wr.drewN n) os)) ∧ (∀ n os,Sem.run P (loadCellsFrom ⟨blk,j * k,none⟩ 0 k #[]) (grow (wr.drewN n) os)=.ok y.cells.toArray (grow (wr.drewN n) os)) ∧ (∀ n os,Calls P 35 #[.agg x.cells.toArray,.agg y.cells.toArray] (grow (wr.drewN n) os) fun e w'=>e=.returned (.int .i64 (cf x y))∧∃ q os',w'=grow ((grow (wr.drewN n) os).drewN q) os') :=
 ⟨fun n os=>load_at P L.hk ((hw.grown n os).holds hH hblk hs) i (by omega) x hx,fun n os=>load_at P L.hk ((hw.grown n os).holds hH hblk hs) j (by omega) y hy,fun _ _=>hc _ x y⟩
set_option maxHeartbeats 4000000 in
theorem sym_one (L:Ty P k) (cf:NV→NV→Int) (O:ZSortP.Ord (le cf)) (hc:CmpC P cf) (blk cap a m b:Nat) (hm:m=a+1) (d:Array NV) (w:World) (hH:HoldsK NV.cells k w blk 0 d) (hblk:blk < w.heap.size) (hmb:m < b) (hb:b≤d.size) (hsz:d.size < 4611686018427387904) (hs:Srt (le cf) default d.toList m b): Calls P 99 #[.slice (some ⟨blk,0,none⟩) d.size cap,.int .i64 a, .int .i64 m,.int .i64 b,.func (.func 35) #[] #[]] w fun e w' =>e=.returned (.tuple #[])∧∃ dk,Got k w w' blk d dk∧Re default a b d.toList dk.toList∧Srt (le cf) default dk.toList a b:=by
 have mixed:=L.mixed;have t0:=L.t0;have a0:=L.a0;have z0:=L.z0;have v0:=L.v0;have t3:=L.t3;have a3:=L.a3;have z3:=L.z3;have v3:=L.v3;have t4:=L.t4;have a4:=L.a4;have z4:=L.z4;have v4:=L.v4;have t22:=L.t22;have a22:=L.a22;have z22:=L.z22;have v22:=L.v22;have t79:=L.t79;have a79:=L.a79;have z79:=L.z79;have v79:=L.v79;have aE:=L.aE;have zE:=L.zE;have t213:=L.t213;have a213:=L.a213;have z213:=L.z213;have v213:=L.v213
 have u22:=run_underlying L.t22;have F:=L.f99;have e35:∀ args w,(callFunc 35 args).run P w=.ok (.enter 35 args) w:=enters_of L.f35 (by kernel_rfl) rfl;have HK:=hid L.hk;have HC:=hid hc;have HST:=hid (SW.start hH);have HH:=hid hH;have HS:=hid hs;have HO:=hid O;clear hH hs hc O;have hm1:(m:Int) - (a:Int)=1:=by omega
 have HM1:=hid hm;clear hm;go_enter F,Tryz.ntmps99
 go_wp2_with fail
 clear hm1;have hma:=HM1.out;replace hma:a < m∧m < a+2:=by omega
 go_loopg [10,11] (b - a) (fun g1 vi vj wr=>∃ (i j:Nat),vi=.int .i64 i∧vj=.int .i64 j∧m≤i∧i≤j∧j≤b∧j - i≤g1∧Hid (SW k w wr blk d)∧Hid ((∀ t,m≤t→t < i→cf d[t]! d[a]! < 0)∧(∀ t,j≤t→t < b→le cf d[a]! d[t]!)))
 case atStart=>exact ⟨m,b,rfl,rfl,by omega,by omega,by omega,by omega,HST,fun t h1 h2=>by omega,fun t h1 h2=>by omega⟩
 case round =>
  obtain ⟨i,j,rfl,rfl,hai,hij,hjb,hg1,HW,HP⟩:=hrel;by_cases hlt:i < j
  ·
   have hltz:(i:Int) < (j:Int):=by omega
   obtain ⟨h,hh⟩:∃ h:Nat,((i:Int)+(j:Int)) / 2=(h:Int):=⟨(i+j) / 2,by omega⟩;have hhb:i≤h∧h < j:=by omega
   obtain ⟨xh,hxh⟩:∃ x,d[h]! = x:=⟨_,rfl⟩;obtain ⟨xa,hxa⟩:∃ x,d[a]! = x:=⟨_,rfl⟩;obtain ⟨lh,la,hcg⟩:=cmp_at L HC.out HW.out HH.out hblk rfl h a (by omega) (by omega) xh xa hxh hxa;have hz1:(h:Int) < (d.size:Int):=by omega
   have hz2:(a:Int) < (d.size:Int):=by omega
   have HX:=hid (And.intro hxh hxa);have HCG:=hid hcg;clear hxh hxa hcg;have hmono:∀ t,m≤t→t < h→le cf d[t]! d[h]!:=fun t h1 h2=>by
    have:=HS.out t h h1 h2 (by omega)
    rwa [at_arr,at_arr] at this
   have hmono2:∀ t,h < t→t < b→le cf d[h]! d[t]!:=fun t h1 h2=>by
    have:=HS.out h t (by omega) h1 h2
    rwa [at_arr,at_arr] at this
   have HM:=hid (And.intro hmono hmono2);clear hmono hmono2;by_cases hv:cf xh xa < 0
   ·
    go_wp2_with fail
    go_quiet_grown (first | (go_at_fn 35;refine Calls.grown_of (HCG.out _ _)))
    go_wp2_with fail
    go_roundg (j - (h+1))
    case measure=>omega
    case rel =>
     refine ⟨h+1,j,by go_num,rfl,by omega,by omega,hjb,Nat.le_refl _,hid (HW.out.grown _ _),hid ⟨fun t h1 h2=>?_,HP.out.2⟩⟩;have hv':cf d[h]! d[a]! < 0:=by rw [HX.out.1,HX.out.2];exact hv
     rcases Nat.lt_or_ge t h with h3 | h3
     ·refine Classical.byContradiction fun hn=>?_;exact HO.out.trans (show le cf d[a]! d[t]! from hn) (HM.out.1 t h1 h3) hv'
     ·
      obtain rfl:t=h:=by omega
      exact hv'
   ·
    go_wp2_with fail
    go_quiet_grown (first | (go_at_fn 35;refine Calls.grown_of (HCG.out _ _)))
    go_wp2_with fail
    go_roundg (h - i)
    case measure=>omega
    case rel =>
     refine ⟨i,h,rfl,rfl,hai,by omega,by omega,Nat.le_refl _,hid (HW.out.grown _ _),hid ⟨HP.out.1,fun t h1 h2=>?_⟩⟩;have hv':le cf d[a]! d[h]!:=by rw [HX.out.1,HX.out.2];exact (show ¬ cf xh xa < 0 by omega)
     rcases Nat.lt_or_ge h t with h3 | h3
     ·exact HO.out.trans hv' (HM.out.2 t h3 h2)
     ·
      obtain rfl:t=h:=by omega
      exact hv'
  ·
   obtain rfl:i=j:=by omega
   have hltz:¬ (i:Int) < (i:Int):=by omega
   go_wp2_with fail
   obtain ⟨i1,hi1⟩:∃ i1:Nat,(i:Int) - 1=(i1:Int):=⟨i - 1,by omega⟩
   go_loopg [13] (i - a) (fun g1 vt wr=>∃ (t:Nat) (dk:Array NV),vt=.int .i64 t∧a≤t∧t≤i1∧i1 - t≤g1∧dk.size=d.size∧Hid (SW k w wr blk dk)∧Hid (dk.toList.Perm d.toList∧Up default d.toList dk.toList a t))
   case atStart=>exact ⟨a,d,rfl,by omega,by omega,by omega,rfl,HW,List.Perm.refl _,Up.start _ _⟩
   case round =>
    clear HW;obtain ⟨t,dk,rfl,hat,hti,hg1,hsk,HW,HU⟩:=hrel;by_cases hlt:t < i1
    ·
     have hltz:(t:Int) < (i1:Int):=by omega
     obtain ⟨xp,hxp⟩:∃ x,dk[t]! = x:=⟨_,rfl⟩;obtain ⟨xq,hxq⟩:∃ x,dk[t+1]! = x:=⟨_,rfl⟩;have hHd:HoldsK NV.cells k wr.drew blk 0 dk:=SW.holds HW.out.drew HH.out hblk hsk;have lq:=load_at P HK.out hHd (t+1) (by omega) xq hxq;have lp:=load_at P HK.out hHd t (by omega) xp hxp;obtain ⟨s1,s2⟩:=stores_at P HK.out hHd t (t+1) (by omega) (by omega) xq xp;have w2:IntKind.i64.wrap ((t:Int)+1)=(t:Int)+1:=by rw [IntKind.wrap_i64];omega
     have e2:((t:Int)+1).toNat=t+1:=by omega
     have p2:(0:Int)≤(t:Int)+1:=by omega
     have b1:(t:Int) < (d.size:Int):=by omega
     have b2:(t:Int)+1 < (d.size:Int):=by omega
     have HX:=hid (And.intro hxp hxq);have hsP:=HK.out xp;have hsQ:=HK.out xq;obtain ⟨cP,hcP⟩:∃ c,c=xp.cells:=⟨_,rfl⟩;obtain ⟨cQ,hcQ⟩:∃ c,c=xq.cells:=⟨_,rfl⟩;rw [← hcQ] at s1 s2 lq hsQ;rw [← hcP] at s2 lp hsP;have CC:=hid (And.intro hcP hcQ);clear hcP hcQ hHd hxp hxq
     go_wp2_with fail
     go_big_region_o
     all_goals go_wp2
     go_roundg (i1 - (t+1))
     case measure=>omega
     case rel =>
      refine ⟨t+1,Sort.swp dk t (t+1),by go_num,by omega,by omega,Nat.le_refl _,by rw [size_swp];exact hsk,hid ?_,hid ?_⟩
      ·rw [CC.out.1,CC.out.2,← HX.out.1,← HX.out.2];exact HW.out.swp HK.out hblk t (t+1) (by omega) (by omega)
      ·rw [swp_list _ _ _ (by omega) (by omega)];exact ⟨(swapL_perm _ _ _).trans HU.out.1,HU.out.2.step hat (by simp;omega)⟩
    ·
     obtain rfl:t=i1:=by omega
     have hltz:¬ (t:Int) < (t:Int):=by omega
     go_wp2;refine bodyPost_ret (results_none rfl _ _ _) rfl ?_;have hm:=HM1.out;subst hm;obtain rfl:t=i - 1:=by omega
     have hre:Re default a b d.toList dk.toList:=by
      refine ⟨HU.out.1,fun s hs=>?_,fun s h1 h2=>?_⟩
      ·rw [HU.out.2,if_neg (by omega),if_neg (by omega)]
      ·
       rw [HU.out.2]
       repeat' split
       ·exact ⟨a,by omega,by omega,rfl⟩
       ·exact ⟨s+1,by omega,by omega,rfl⟩
       ·exact ⟨s,h1,h2,rfl⟩
     refine ⟨rfl,dk,⟨HW.out,hsk,HU.out.1⟩,hre,HU.out.2.sorted HS.out hai hjb (fun s h1 h2=>?_) (fun s h1 h2=>?_)⟩
     ·rw [at_arr,at_arr];have h3:=HP.out.1 s h1 h2;exact (HO.out.total d[s]! d[a]!).elim id fun h=>absurd h3 h
     ·rw [at_arr,at_arr];exact HP.out.2 s h1 h2
set_option maxHeartbeats 4000000 in
theorem sym_last (L:Ty P k) (cf:NV→NV→Int) (O:ZSortP.Ord (le cf)) (hc:CmpC P cf) (blk cap a m b:Nat) (hm:b=m+1) (d:Array NV) (w:World) (hH:HoldsK NV.cells k w blk 0 d) (hblk:blk < w.heap.size) (hmb:a+1 < m) (hb:b≤d.size) (hsz:d.size < 4611686018427387904) (hs:Srt (le cf) default d.toList a m): Calls P 99 #[.slice (some ⟨blk,0,none⟩) d.size cap,.int .i64 a, .int .i64 m,.int .i64 b,.func (.func 35) #[] #[]] w fun e w' =>e=.returned (.tuple #[])∧∃ dk,Got k w w' blk d dk∧Re default a b d.toList dk.toList∧Srt (le cf) default dk.toList a b:=by
 have mixed:=L.mixed;have t0:=L.t0;have a0:=L.a0;have z0:=L.z0;have v0:=L.v0;have t3:=L.t3;have a3:=L.a3;have z3:=L.z3;have v3:=L.v3;have t4:=L.t4;have a4:=L.a4;have z4:=L.z4;have v4:=L.v4;have t22:=L.t22;have a22:=L.a22;have z22:=L.z22;have v22:=L.v22;have t79:=L.t79;have a79:=L.a79;have z79:=L.z79;have v79:=L.v79;have aE:=L.aE;have zE:=L.zE;have t213:=L.t213;have a213:=L.a213;have z213:=L.z213;have v213:=L.v213
 have u22:=run_underlying L.t22;have F:=L.f99;have e35:∀ args w,(callFunc 35 args).run P w=.ok (.enter 35 args) w:=enters_of L.f35 (by kernel_rfl) rfl;have HK:=hid L.hk;have HC:=hid hc;have HST:=hid (SW.start hH);have HH:=hid hH;have HS:=hid hs;have HO:=hid O;clear hH hs hc O;have hm1:(b:Int) - (m:Int)=1:=by omega
 obtain ⟨ma,hma⟩:∃ q:Nat,(m:Int) - (a:Int)=(q:Int):=⟨m - a,by omega⟩;have hm2:((ma:Int) == 1)=false:=by rw [beq_eq_false_iff_ne];omega
 have HM1:=hid hm;clear hm;go_enter F,Tryz.ntmps99
 go_wp2_with fail
 clear hm1 hm2 hma;have hma:=HM1.out;replace hma:m < b∧b < m+2:=by omega
 go_loopg [14,15] (m - a) (fun g1 vi vj wr=>∃ (i j:Nat),vi=.int .i64 i∧vj=.int .i64 j∧a≤i∧i≤j∧j≤m∧j - i≤g1∧Hid (SW k w wr blk d)∧Hid ((∀ t,a≤t→t < i→le cf d[t]! d[m]!)∧(∀ t,j≤t→t < m→cf d[m]! d[t]! < 0)))
 case atStart=>exact ⟨a,m,rfl,rfl,by omega,by omega,by omega,by omega,HST,fun t h1 h2=>by omega,fun t h1 h2=>by omega⟩
 case round =>
  obtain ⟨i,j,rfl,rfl,hai,hij,hjb,hg1,HW,HP⟩:=hrel;by_cases hlt:i < j
  ·
   have hltz:(i:Int) < (j:Int):=by omega
   obtain ⟨h,hh⟩:∃ h:Nat,((i:Int)+(j:Int)) / 2=(h:Int):=⟨(i+j) / 2,by omega⟩;have hhb:i≤h∧h < j:=by omega
   obtain ⟨xh,hxh⟩:∃ x,d[h]! = x:=⟨_,rfl⟩;obtain ⟨xa,hxa⟩:∃ x,d[m]! = x:=⟨_,rfl⟩;obtain ⟨la,lh,hcg⟩:=cmp_at L HC.out HW.out HH.out hblk rfl m h (by omega) (by omega) xa xh hxa hxh;have hz1:(h:Int) < (d.size:Int):=by omega
   have hz2:(m:Int) < (d.size:Int):=by omega
   have HX:=hid (And.intro hxh hxa);have HCG:=hid hcg;clear hxh hxa hcg;have hmono:∀ t,a≤t→t < h→le cf d[t]! d[h]!:=fun t h1 h2=>by
    have:=HS.out t h h1 h2 (by omega)
    rwa [at_arr,at_arr] at this
   have hmono2:∀ t,h < t→t < m→le cf d[h]! d[t]!:=fun t h1 h2=>by
    have:=HS.out h t (by omega) h1 h2
    rwa [at_arr,at_arr] at this
   have HM:=hid (And.intro hmono hmono2);clear hmono hmono2;by_cases hv:cf xa xh < 0
   ·
    have hv0:¬ 0≤cf xa xh:=by omega
    have hvb:decide (cf xa xh < 0)=true:=decide_eq_true hv
    go_wp2_with fail
    go_quiet_grown (first | (go_at_fn 35;refine Calls.grown_of (HCG.out _ _)))
    go_wp2_with fail
    go_roundg (h - i)
    case measure=>omega
    case rel =>
     refine ⟨i,h,rfl,rfl,hai,by omega,by omega,Nat.le_refl _,hid (HW.out.grown _ _),hid ⟨HP.out.1,fun t h1 h2=>?_⟩⟩;have hv':cf d[m]! d[h]! < 0:=by rw [HX.out.1,HX.out.2];exact hv
     rcases Nat.lt_or_ge h t with h3 | h3
     ·refine Classical.byContradiction fun hn=>?_;exact HO.out.trans (HM.out.2 t h3 h2) (show le cf d[t]! d[m]! from hn) hv'
     ·
      obtain rfl:t=h:=by omega
      exact hv'
   ·
    have hv0:0≤cf xa xh:=by omega
    have hvb:decide (cf xa xh < 0)=false:=decide_eq_false hv
    go_wp2_with fail
    go_quiet_grown (first | (go_at_fn 35;refine Calls.grown_of (HCG.out _ _)))
    go_wp2_with fail
    go_roundg (j - (h+1))
    case measure=>omega
    case rel =>
     refine ⟨h+1,j,by go_num,rfl,by omega,by omega,hjb,Nat.le_refl _,hid (HW.out.grown _ _),hid ⟨fun t h1 h2=>?_,HP.out.2⟩⟩;have hv':le cf d[h]! d[m]!:=by rw [HX.out.1,HX.out.2];exact (show ¬ cf xa xh < 0 by omega)
     rcases Nat.lt_or_ge t h with h3 | h3
     ·exact HO.out.trans (HM.out.1 t h1 h3) hv'
     ·
      obtain rfl:t=h:=by omega
      exact hv'
  ·
   obtain rfl:i=j:=by omega
   have hltz:¬ (i:Int) < (i:Int):=by omega
   go_wp2_with fail
   go_loopg [17] (m - i) (fun g1 vt wr=>∃ (t:Nat) (dk:Array NV),vt=.int .i64 t∧i≤t∧t≤m∧t - i≤g1∧dk.size=d.size∧Hid (SW k w wr blk dk)∧Hid (dk.toList.Perm d.toList∧Dn default d.toList dk.toList m t))
   case atStart=>exact ⟨m,d,rfl,by omega,by omega,by omega,rfl,HW,List.Perm.refl _,Dn.start _ _⟩
   case round =>
    clear HW;obtain ⟨t,dk,rfl,hat,hti,hg1,hsk,HW,HU⟩:=hrel;by_cases hlt:i < t
    ·
     have hltz:(i:Int) < (t:Int):=by omega
     obtain ⟨s,hs⟩:∃ s:Nat,(t:Int) - 1=(s:Int):=⟨t - 1,by omega⟩;have hst:t=s+1:=by omega
     have HST2:=hid hst;obtain ⟨xp,hxp⟩:∃ x,dk[t]! = x:=⟨_,rfl⟩;obtain ⟨xq,hxq⟩:∃ x,dk[s]! = x:=⟨_,rfl⟩;have hHd:HoldsK NV.cells k wr.drew blk 0 dk:=SW.holds HW.out.drew HH.out hblk hsk;have lq:=load_at P HK.out hHd s (by omega) xq hxq;have lp:=load_at P HK.out hHd t (by omega) xp hxp;obtain ⟨s1,s2⟩:=stores_at P HK.out hHd t s (by omega) (by omega) xq xp;have w2:IntKind.i64.wrap ((s:Int))=(s:Int):=by rw [IntKind.wrap_i64];omega
     have b1:(t:Int) < (d.size:Int):=by omega
     have b2:(s:Int) < (d.size:Int):=by omega
     have HX:=hid (And.intro hxp hxq);have hsP:=HK.out xp;have hsQ:=HK.out xq;obtain ⟨cP,hcP⟩:∃ c,c=xp.cells:=⟨_,rfl⟩;obtain ⟨cQ,hcQ⟩:∃ c,c=xq.cells:=⟨_,rfl⟩;rw [← hcQ] at s1 s2 lq hsQ;rw [← hcP] at s2 lp hsP;have CC:=hid (And.intro hcP hcQ);clear hcP hcQ hHd hxp hxq hst
     go_wp2_with fail
     go_big_region_o
     all_goals go_wp2
     go_roundg (s - i)
     case measure=>omega
     case rel =>
      have hst:=HST2.out;refine ⟨s,Sort.swp dk t s,by first | rfl | go_num,by omega,by omega,Nat.le_refl _,by rw [size_swp];exact hsk,hid ?_,hid ?_⟩
      ·rw [CC.out.1,CC.out.2,← HX.out.1,← HX.out.2];exact HW.out.swp HK.out hblk t s (by omega) (by omega)
      ·rw [swp_list _ _ _ (by omega) (by omega)];have:=HU.out.2.step hti (by omega) (by simp;omega);rw [show t - 1=s by omega] at this;exact ⟨(swapL_perm _ _ _).trans HU.out.1,this⟩
    ·
     obtain rfl:t=i:=by omega
     have hltz:¬ (t:Int) < (t:Int):=by omega
     go_wp2;refine bodyPost_ret (results_none rfl _ _ _) rfl ?_;have hm:=HM1.out;subst hm;have hre:Re default a (m+1) d.toList dk.toList:=by
      refine ⟨HU.out.1,fun s hs=>?_,fun s h1 h2=>?_⟩
      ·rw [HU.out.2,if_neg (by omega),if_neg (by omega)]
      ·
       rw [HU.out.2]
       repeat' split
       ·exact ⟨m,by omega,by omega,rfl⟩
       ·exact ⟨s - 1,by omega,by omega,rfl⟩
       ·exact ⟨s,h1,h2,rfl⟩
     refine ⟨rfl,dk,⟨HW.out,hsk,HU.out.1⟩,hre,HU.out.2.sorted HS.out hai hjb (fun s h1 h2=>?_) (fun s h1 h2=>?_)⟩
     ·rw [at_arr,at_arr];exact HP.out.1 s h1 h2
     ·rw [at_arr,at_arr];have h3:=HP.out.2 s h1 h2;exact (HO.out.total d[m]! d[s]!).elim id fun h=>absurd h3 h
end ZSym
namespace ZSym2
open ZSortP ZNod ZSwap ZSym
variable {P:Program} {k:Nat}
structure Mid (k:Nat) (w w1:World) (blk n:Nat) (d0 d1:Array NV):Prop where
 sw:SW k w w1 blk d1
 size:d1.size=n
 perm:d1.toList.Perm d0.toList
def After (k:Nat) (cf:NV→NV→Int) (w:World) (blk n a b:Nat) (d1:Array NV) (e:Ending) (w':World):Prop :=
 e=.returned (.tuple #[])∧∃ d2,Mid k w w' blk n d1 d2∧Re default a b d1.toList d2.toList∧Srt (le cf) default d2.toList a b
def SymSpec (P:Program) (k:Nat) (cf:NV→NV→Int) (blk cap N:Nat):Prop:=∀ (a m b:Nat) (d:Array NV) (w:World),HoldsK NV.cells k w blk 0 d→blk < w.heap.size→a < m→m < b→b≤d.size→d.size < 4611686018427387904→b - a≤N →
 Srt (le cf) default d.toList a m→Srt (le cf) default d.toList m b→Calls P 99 #[.slice (some ⟨blk,0,none⟩) d.size cap,.int .i64 a,.int .i64 m,.int .i64 b,.func (.func 35) #[] #[]] w (After k cf w blk d.size a b d)
def RotAfter (k:Nat) (w:World) (blk n a m b:Nat) (d1:Array NV) (e:Ending) (w':World):Prop :=
 e=.returned (.tuple #[])∧∃ d2,Mid k w w' blk n d1 d2∧Rot default d1.toList d2.toList a m b
theorem finish {cf:NV→NV→Int} {a m b mid s:Nat} {d d1 d2 d3:Array NV} (c:Cut (le cf) default d.toList a m b mid s) (h1:Srt (le cf) default d.toList a m) (h2:Srt (le cf) default d.toList m b) (ha:a≤mid) (hb:mid≤b) (hp:d1.toList.Perm d.toList) (hr:Rot default d.toList d1.toList s m (mid+m - s)) (r1:Re default a mid d1.toList d2.toList) (s1:Srt (le cf) default d2.toList a mid) (r2:Re default mid b d2.toList d3.toList) (s2:Srt (le cf) default d3.toList mid b):Re default a b d.toList d3.toList∧Srt (le cf) default d3.toList a b:=by
 obtain ⟨_,_,_,_,hx⟩:=c.rot h1 h2 hr ha;exact ⟨((hr.re hp c.hi c.lo2).more c.lo c.hi2).trans ((r1.more (Nat.le_refl _) hb).trans (r2.more ha (Nat.le_refl _))),halves hx r1 s1 r2 s2⟩
set_option maxHeartbeats 16000000 in
theorem sym_step (L:Ty P k) (cf:NV→NV→Int) (O:ZSortP.Ord (le cf)) (hc:CmpC P cf) (blk cap N:Nat) (IH:SymSpec P k cf blk cap N) (a m b:Nat) (d:Array NV) (w:World) (hH:HoldsK NV.cells k w blk 0 d) (hblk:blk < w.heap.size) (ham:a+1 < m) (hmb:m+1 < b) (hb:b≤d.size) (hsz:d.size < 4611686018427387904) (hN:b - a≤N+1) (hs1:Srt (le cf) default d.toList a m) (hs2:Srt (le cf) default d.toList m b): Calls P 99 #[.slice (some ⟨blk,0,none⟩) d.size cap,.int .i64 a,.int .i64 m,.int .i64 b,.func (.func 35) #[] #[]] w (After k cf w blk d.size a b d):=by
 have mixed:=L.mixed;have t0:=L.t0;have a0:=L.a0;have z0:=L.z0;have v0:=L.v0;have t3:=L.t3;have a3:=L.a3;have z3:=L.z3;have v3:=L.v3;have t4:=L.t4;have a4:=L.a4;have z4:=L.z4;have v4:=L.v4;have t22:=L.t22;have a22:=L.a22;have z22:=L.z22;have v22:=L.v22;have t79:=L.t79;have a79:=L.a79;have z79:=L.z79;have v79:=L.v79;have aE:=L.aE;have zE:=L.zE;have t213:=L.t213;have a213:=L.a213;have z213:=L.z213;have v213:=L.v213
 have u22:=run_underlying L.t22;have F:=L.f99;have e35:∀ args w,(callFunc 35 args).run P w=.ok (.enter 35 args) w:=enters_of L.f35 (by kernel_rfl) rfl;have e138:∀ args w,(callFunc 138 args).run P w=.ok (.enter 138 args) w:=enters_of L.f138 (by kernel_rfl) rfl;have e99:∀ args w,(callFunc 99 args).run P w=.ok (.enter 99 args) w:=enters_of L.f99 (by kernel_rfl) rfl;have IHw:Hid (∀ (a' m' b':Nat) (d1:Array NV) (w1:World),SW k w w1 blk d1→d1.size=d.size→a' < m'→m' < b'→b'≤d.size→b' - a'≤N→Srt (le cf) default d1.toList a' m'→Srt (le cf) default d1.toList m' b' →
   Calls P 99 #[.slice (some ⟨blk,0,none⟩) d.size cap,.int .i64 a',.int .i64 m',.int .i64 b',.func (.func 35) #[] #[]] w1 (After k cf w blk d.size a' b' d1)):=hid (fun a' m' b' d1 w1 hw hs h1 h2 h3 h4 h5 h6=>by
  have:=IH a' m' b' d1 w1 (hw.holds hH hblk hs) (Nat.lt_of_lt_of_le hblk hw.size) h1 h2 (by omega) (by omega) h4 h5 h6;rw [hs] at this;refine this.mono ?_;rintro e w' ⟨rfl,d2,⟨g1,g2,g3⟩,g4,g5⟩;exact ⟨rfl,d2,⟨hw.trans g1 hblk (by omega),g2,g3⟩,g4,g5⟩)
 have RTw:Hid (∀ (a' m' b':Nat) (d1:Array NV) (w1:World),SW k w w1 blk d1→d1.size=d.size→a' < m'→m' < b'→b'≤d.size →
   Calls P 138 #[.slice (some ⟨blk,0,none⟩) d.size cap,.int .i64 a',.int .i64 m',.int .i64 b',.func (.func 35) #[] #[]] w1 (RotAfter k w blk d.size a' m' b' d1)):=hid (fun a' m' b' d1 w1 hw hs h1 h2 h3=>by
  have:=rotate_calls L (.func (.func 35) #[] #[]) blk cap a' m' b' d1 w1 (hw.holds hH hblk hs) (Nat.lt_of_lt_of_le hblk hw.size) h1 h2 (by omega) (by omega);rw [hs] at this;refine this.mono ?_;rintro e w' ⟨rfl,d2,g1,g2,g3,g4⟩;exact ⟨rfl,d2,⟨hw.trans g1 hblk (by omega),g2,g3⟩,g4⟩)
 have HC:=hid hc;have HST:=hid (SW.start hH);have HH:=hid hH;have HS:=hid (And.intro hs1 hs2);have HO:=hid O;clear hH hs1 hs2 hc O IH;obtain ⟨ma,hma⟩:∃ q:Nat,(m:Int) - (a:Int)=(q:Int):=⟨m - a,by omega⟩;obtain ⟨bm,hbm⟩:∃ q:Nat,(b:Int) - (m:Int)=(q:Int):=⟨b - m,by omega⟩;have hma1:((ma:Int) == 1)=false:=by rw [beq_eq_false_iff_ne];omega
 have hbm1:((bm:Int) == 1)=false:=by rw [beq_eq_false_iff_ne];omega
 obtain ⟨mid,hmid⟩:∃ q:Nat,((a:Int)+(b:Int)) / 2=(q:Int):=⟨(a+b) / 2,by omega⟩;obtain ⟨n,hn⟩:∃ q:Nat,(mid:Int)+(m:Int)=(q:Int):=⟨mid+m,by omega⟩;obtain ⟨p,hp⟩:∃ q:Nat,(n:Int) - 1=(q:Int):=⟨n - 1,by omega⟩;have hmidb:a < mid∧mid < b∧a+b≤2 * mid+1∧2 * mid≤a+b∧n=mid+m∧p+1=n:=by omega
 obtain ⟨s0,r0,hsr⟩:∃ s0 r0:Nat,(mid < m∧(n:Int) - (b:Int)=(s0:Int)∧r0=mid)∨(m≤mid∧s0=a∧r0=m):=by
  by_cases h:mid < m
  ·exact ⟨n - b,mid,.inl ⟨h,by omega,rfl⟩⟩
  ·exact ⟨a,m,.inr ⟨by omega,rfl,rfl⟩⟩
 have hs0r0:a≤s0∧s0 < r0∧r0≤m∧r0≤mid∧n - s0≤b∧m≤n - r0:=by omega
 have HEND:Hid ((s0=a∨n - s0=b)∧(r0=m∨n - r0=m)):=hid (by omega);have HMB:=hid hmidb;rcases hsr with ⟨hc,hs0,hr0⟩ | ⟨hc,hs0,hr0⟩;rotate_left
 ·
  have hcz:¬ (mid:Int) < (m:Int):=by omega
  obtain rfl:a=s0:=hs0.symm;obtain rfl:m=r0:=hr0.symm;have hnz:mid+m≤n∧n≤mid+m∧p < n∧n≤p+1∧mid < b∧a < mid:=by omega
  clear hmidb;go_enter F,Tryz.ntmps99
  go_wp2_with fail
  clear hma hbm hma1 hbm1 hmid hn hp
  try clear hs0
  go_loopg [20,21] (m - a) (fun g1 vi vj wr=>∃ (s r:Nat),vi=.int .i64 s∧vj=.int .i64 r∧a≤s∧s≤r∧r≤m∧r - s≤g1∧Hid (SW k w wr blk d)∧Hid ((a < s→le cf d[s - 1]! d[n - s]!)∧(r < m→cf d[p - r]! d[r]! < 0)))
  case atStart=>exact ⟨a,m,rfl,rfl,by omega,by omega,by omega,by omega,HST,fun h=>by omega,fun h=>by omega⟩
  case round =>
   obtain ⟨s,r,rfl,rfl,hss,hsr,hrr,hg1,HW,HP⟩:=hrel;by_cases hlt:s < r
   ·
    have hltz:(s:Int) < (r:Int):=by omega
    obtain ⟨c,hcc⟩:∃ c:Nat,((s:Int)+(r:Int)) / 2=(c:Int):=⟨(s+r) / 2,by omega⟩;have hcb:s≤c∧c < r:=by omega
    obtain ⟨q,hq⟩:∃ q:Nat,(p:Int) - (c:Int)=(q:Int):=⟨p - c,by omega⟩;have hqz:q=p - c:=by omega
    obtain ⟨xq,hxq⟩:∃ x,d[q]! = x:=⟨_,rfl⟩;obtain ⟨xc,hxc⟩:∃ x,d[c]! = x:=⟨_,rfl⟩;obtain ⟨lq,lc,hcg⟩:=cmp_at L HC.out HW.out HH.out hblk rfl q c (by omega) (by omega) xq xc hxq hxc;have hz1:(q:Int) < (d.size:Int):=by omega
    have hz2:(c:Int) < (d.size:Int):=by omega
    have wq:IntKind.i64.wrap (q:Int)=(q:Int):=by rw [IntKind.wrap_i64];omega
    have HX:=hid (And.intro hxq (And.intro hxc hqz));have HCG:=hid hcg;clear hxq hxc hcg hqz;by_cases hv:cf xq xc < 0
    ·
     have hv0:¬ 0≤cf xq xc:=by omega
     have hvb:decide (cf xq xc < 0)=true:=decide_eq_true hv
     go_wp2_with fail
     go_quiet_grown (first | (go_at_fn 35;refine Calls.grown_of (HCG.out _ _)))
     go_wp2_with fail
     go_roundg (c - s)
     case measure=>omega
     case rel =>refine ⟨s,c,rfl,rfl,hss,by omega,by omega,Nat.le_refl _,hid (HW.out.grown _ _),hid ⟨HP.out.1,fun _=>?_⟩⟩;rw [← HX.out.2.2,HX.out.1,HX.out.2.1];exact hv
    ·
     have hv0:0≤cf xq xc:=by omega
     have hvb:decide (cf xq xc < 0)=false:=decide_eq_false hv
     go_wp2_with fail
     go_quiet_grown (first | (go_at_fn 35;refine Calls.grown_of (HCG.out _ _)))
     go_wp2_with fail
     go_roundg (r - (c+1))
     case measure=>omega
     case rel =>refine ⟨c+1,r,by go_num,rfl,by omega,by omega,hrr,Nat.le_refl _,hid (HW.out.grown _ _),hid ⟨fun _=>?_,HP.out.2⟩⟩;rw [show c+1 - 1=c by omega,show n - (c+1)=q by have:=HX.out.2.2;omega,HX.out.1,HX.out.2.1];exact (show ¬ cf xq xc < 0 by omega)
   ·
    obtain rfl:s=r:=by omega
    have hltz:¬ (s:Int) < (s:Int):=by omega
    obtain ⟨e,he⟩:∃ q:Nat,(n:Int) - (s:Int)=(q:Int):=⟨n - s,by omega⟩;have hez:e=mid+m - s:=by omega
    have hlim:a≤s∧s≤m∧s≤mid∧m≤e∧mid≤e∧e≤b:=by omega
    have CUT:Hid (Cut (le cf) default d.toList a m b mid s):=hid (by
     refine Cut.mk' HO.out HS.out.1 HS.out.2 (by omega) (by omega) (by omega) (by omega) (fun h1 h2=>?_) (fun h1 h2=>?_)
     ·
      rw [at_arr,at_arr];have h3:=HEND.out;have:=HP.out.1 (by omega)
      rwa [show n - s=mid+m - s by omega] at this
     ·rw [at_arr,at_arr];have h3:=HEND.out;have:=HP.out.2 (by omega);rw [show p - s=mid+m - s - 1 by omega] at this;exact (HO.out.total d[mid+m - s - 1]! d[s]!).elim id fun h=>absurd this h)
    have HEZ:=hid hez;clear hez;have d1c:(s < m∧m < e)∨(¬ (s < m∧m < e)):=Classical.em _;have d2c:(a < s∧s < mid)∨(¬ (a < s∧s < mid)):=Classical.em _;have d3c:(mid < e∧e < b)∨(¬ (mid < e∧e < b)):=Classical.em _;rcases d1c with c1 | c1
    ·
     have c1a:(s:Int) < (m:Int):=by omega
     have c1b:(m:Int) < (e:Int):=by omega
     rcases d2c with c2 | c2
     ·
      have c2a:(a:Int) < (s:Int):=by omega
      have c2b:(s:Int) < (mid:Int):=by omega
      rcases d3c with c3 | c3
      ·
       have c3a:(mid:Int) < (e:Int):=by omega
       have c3b:(e:Int) < (b:Int):=by omega
       have C1:=hid (RTw.out s m e d wr HW.out rfl (by omega) (by omega) (by omega))
       go_wp2_with (go_at_fn 138;refine C1.out.mono ?_;rintro e1 w1 ⟨rfl,d1,G1⟩;replace G1:=hid G1)
       have R1:Hid (Mid k w w1 blk d.size d d1∧Rot default d.toList d1.toList s m (mid+m - s)):=hid (by have:=G1.out;rw [HEZ.out] at this;exact this);have Q1:=hid (CUT.out.rot HS.out.1 HS.out.2 R1.out.2 (by omega));have C2:=hid (IHw.out a s mid d1 w1 R1.out.1.sw R1.out.1.size (by omega) (by omega) (by omega) (by omega) Q1.out.1 Q1.out.2.1)
       go_wp2_with (go_at_fn 99;refine C2.out.mono ?_;rintro e2 w2 ⟨rfl,d2,G2⟩;replace G2:=hid G2)
       have R2:Hid (Mid k w w2 blk d.size d1 d2∧Re default a mid d1.toList d2.toList∧Srt (le cf) default d2.toList a mid):=G2;have C3:=hid (IHw.out mid e b d2 w2 R2.out.1.sw R2.out.1.size (by omega) (by omega) (by omega) (by omega) (Srt.same (by have:=Q1.out.2.2.1;rwa [← HEZ.out] at this) (fun i h1 h2=>R2.out.2.1.out i (by omega))) (Srt.same (by have:=Q1.out.2.2.2.1;rwa [← HEZ.out] at this) (fun i h1 h2=>R2.out.2.1.out i (by omega))))
       go_wp2_with (go_at_fn 99;refine C3.out.mono ?_;rintro e3 w3 ⟨rfl,d3,G3⟩;replace G3:=hid G3)
       have R3:Hid (Mid k w w3 blk d.size d2 d3∧Re default mid b d2.toList d3.toList∧Srt (le cf) default d3.toList mid b):=G3
       go_end0
       have FIN:=finish CUT.out HS.out.1 HS.out.2 (by omega) (by omega) R1.out.1.perm R1.out.2 R2.out.2.1 R2.out.2.2 R3.out.2.1 R3.out.2.2;exact ⟨rfl,_,⟨R3.out.1.sw,R3.out.1.size,R3.out.1.perm.trans (R2.out.1.perm.trans R1.out.1.perm)⟩,FIN.1,FIN.2⟩
      ·
       have c3n:¬ (mid:Int) < (e:Int)∨((mid:Int) < (e:Int)∧¬ (e:Int) < (b:Int)):=by omega
       rcases c3n with c3a | ⟨c3a,c3b⟩
       all_goals try (exfalso;omega)
       all_goals
        have C1:=hid (RTw.out s m e d wr HW.out rfl (by omega) (by omega) (by omega))
        go_wp2_with (go_at_fn 138;refine C1.out.mono ?_;rintro e1 w1 ⟨rfl,d1,G1⟩;replace G1:=hid G1)
        have R1:Hid (Mid k w w1 blk d.size d d1∧Rot default d.toList d1.toList s m (mid+m - s)):=hid (by have:=G1.out;rw [HEZ.out] at this;exact this);have Q1:=hid (CUT.out.rot HS.out.1 HS.out.2 R1.out.2 (by omega));have C2:=hid (IHw.out a s mid d1 w1 R1.out.1.sw R1.out.1.size (by omega) (by omega) (by omega) (by omega) Q1.out.1 Q1.out.2.1)
        go_wp2_with (go_at_fn 99;refine C2.out.mono ?_;rintro e2 w2 ⟨rfl,d2,G2⟩;replace G2:=hid G2)
        have R2:Hid (Mid k w w2 blk d.size d1 d2∧Re default a mid d1.toList d2.toList∧Srt (le cf) default d2.toList a mid):=G2;have R3:Hid (Mid k w w2 blk d.size d2 d2∧Re default mid b d2.toList d2.toList∧Srt (le cf) default d2.toList mid b):=hid ⟨⟨R2.out.1.sw,R2.out.1.size,List.Perm.refl _⟩,Re.refl _,Srt.same (l:=d1.toList) (by
         rcases (show e=mid∨e=b by omega) with hh | hh
         ·have:=Q1.out.2.2.2.1;rwa [← HEZ.out,hh] at this
         ·have:=Q1.out.2.2.1;rwa [← HEZ.out,hh] at this) (fun i h1 h2=>R2.out.2.1.out i (by omega))⟩
        go_end0
        have FIN:=finish CUT.out HS.out.1 HS.out.2 (by omega) (by omega) R1.out.1.perm R1.out.2 R2.out.2.1 R2.out.2.2 R3.out.2.1 R3.out.2.2;exact ⟨rfl,_,⟨R3.out.1.sw,R3.out.1.size,R3.out.1.perm.trans (R2.out.1.perm.trans R1.out.1.perm)⟩,FIN.1,FIN.2⟩
     ·
      have c2n:¬ (a:Int) < (s:Int)∨((a:Int) < (s:Int)∧¬ (s:Int) < (mid:Int)):=by omega
      rcases c2n with c2a | ⟨c2a,c2b⟩
      all_goals try (exfalso;omega)
      all_goals
       rcases d3c with c3 | c3
       ·
        have c3a:(mid:Int) < (e:Int):=by omega
        have c3b:(e:Int) < (b:Int):=by omega
        have C1:=hid (RTw.out s m e d wr HW.out rfl (by omega) (by omega) (by omega))
        go_wp2_with (go_at_fn 138;refine C1.out.mono ?_;rintro e1 w1 ⟨rfl,d1,G1⟩;replace G1:=hid G1)
        have R1:Hid (Mid k w w1 blk d.size d d1∧Rot default d.toList d1.toList s m (mid+m - s)):=hid (by have:=G1.out;rw [HEZ.out] at this;exact this);have Q1:=hid (CUT.out.rot HS.out.1 HS.out.2 R1.out.2 (by omega));have R2:Hid (Mid k w w1 blk d.size d1 d1∧Re default a mid d1.toList d1.toList∧Srt (le cf) default d1.toList a mid):=hid ⟨⟨R1.out.1.sw,R1.out.1.size,List.Perm.refl _⟩,Re.refl _,by
         rcases (show s=a∨s=mid by omega) with hh | hh
         ·have:=Q1.out.2.1;rwa [hh] at this
         ·have:=Q1.out.1;rwa [hh] at this⟩
        have C3:=hid (IHw.out mid e b d1 w1 R2.out.1.sw R2.out.1.size (by omega) (by omega) (by omega) (by omega) (Srt.same (by have:=Q1.out.2.2.1;rwa [← HEZ.out] at this) (fun i h1 h2=>R2.out.2.1.out i (by omega))) (Srt.same (by have:=Q1.out.2.2.2.1;rwa [← HEZ.out] at this) (fun i h1 h2=>R2.out.2.1.out i (by omega))))
        go_wp2_with (go_at_fn 99;refine C3.out.mono ?_;rintro e3 w3 ⟨rfl,d3,G3⟩;replace G3:=hid G3)
        have R3:Hid (Mid k w w3 blk d.size d1 d3∧Re default mid b d1.toList d3.toList∧Srt (le cf) default d3.toList mid b):=G3
        go_end0
        have FIN:=finish CUT.out HS.out.1 HS.out.2 (by omega) (by omega) R1.out.1.perm R1.out.2 R2.out.2.1 R2.out.2.2 R3.out.2.1 R3.out.2.2;exact ⟨rfl,_,⟨R3.out.1.sw,R3.out.1.size,R3.out.1.perm.trans (R2.out.1.perm.trans R1.out.1.perm)⟩,FIN.1,FIN.2⟩
       ·
        have c3n:¬ (mid:Int) < (e:Int)∨((mid:Int) < (e:Int)∧¬ (e:Int) < (b:Int)):=by omega
        rcases c3n with c3a | ⟨c3a,c3b⟩
        all_goals try (exfalso;omega)
        all_goals
         have C1:=hid (RTw.out s m e d wr HW.out rfl (by omega) (by omega) (by omega))
         go_wp2_with (go_at_fn 138;refine C1.out.mono ?_;rintro e1 w1 ⟨rfl,d1,G1⟩;replace G1:=hid G1)
         have R1:Hid (Mid k w w1 blk d.size d d1∧Rot default d.toList d1.toList s m (mid+m - s)):=hid (by have:=G1.out;rw [HEZ.out] at this;exact this);have Q1:=hid (CUT.out.rot HS.out.1 HS.out.2 R1.out.2 (by omega));have R2:Hid (Mid k w w1 blk d.size d1 d1∧Re default a mid d1.toList d1.toList∧Srt (le cf) default d1.toList a mid):=hid ⟨⟨R1.out.1.sw,R1.out.1.size,List.Perm.refl _⟩,Re.refl _,by
          rcases (show s=a∨s=mid by omega) with hh | hh
          ·have:=Q1.out.2.1;rwa [hh] at this
          ·have:=Q1.out.1;rwa [hh] at this⟩
         have R3:Hid (Mid k w w1 blk d.size d1 d1∧Re default mid b d1.toList d1.toList∧Srt (le cf) default d1.toList mid b):=hid ⟨⟨R2.out.1.sw,R2.out.1.size,List.Perm.refl _⟩,Re.refl _,Srt.same (l:=d1.toList) (by
          rcases (show e=mid∨e=b by omega) with hh | hh
          ·have:=Q1.out.2.2.2.1;rwa [← HEZ.out,hh] at this
          ·have:=Q1.out.2.2.1;rwa [← HEZ.out,hh] at this) (fun i h1 h2=>R2.out.2.1.out i (by omega))⟩
         go_end0
         have FIN:=finish CUT.out HS.out.1 HS.out.2 (by omega) (by omega) R1.out.1.perm R1.out.2 R2.out.2.1 R2.out.2.2 R3.out.2.1 R3.out.2.2;exact ⟨rfl,_,⟨R3.out.1.sw,R3.out.1.size,R3.out.1.perm.trans (R2.out.1.perm.trans R1.out.1.perm)⟩,FIN.1,FIN.2⟩
    ·
     have c1n:¬ (s:Int) < (m:Int)∨((s:Int) < (m:Int)∧¬ (m:Int) < (e:Int)):=by omega
     rcases c1n with c1a | ⟨c1a,c1b⟩
     all_goals try (exfalso;omega)
     all_goals
      rcases d2c with c2 | c2
      ·
       have c2a:(a:Int) < (s:Int):=by omega
       have c2b:(s:Int) < (mid:Int):=by omega
       rcases d3c with c3 | c3
       ·
        have c3a:(mid:Int) < (e:Int):=by omega
        have c3b:(e:Int) < (b:Int):=by omega
        have R1:Hid (Mid k w wr blk d.size d d∧Rot default d.toList d.toList s m (mid+m - s)):=hid ⟨⟨HW.out,rfl,List.Perm.refl _⟩,Rot.none (by have:=HEZ.out;omega) (by omega) (by have:=HEZ.out;omega)⟩;have Q1:=hid (CUT.out.rot HS.out.1 HS.out.2 R1.out.2 (by omega));have C2:=hid (IHw.out a s mid d wr R1.out.1.sw R1.out.1.size (by omega) (by omega) (by omega) (by omega) Q1.out.1 Q1.out.2.1)
        go_wp2_with (go_at_fn 99;refine C2.out.mono ?_;rintro e2 w2 ⟨rfl,d2,G2⟩;replace G2:=hid G2)
        have R2:Hid (Mid k w w2 blk d.size d d2∧Re default a mid d.toList d2.toList∧Srt (le cf) default d2.toList a mid):=G2;have C3:=hid (IHw.out mid e b d2 w2 R2.out.1.sw R2.out.1.size (by omega) (by omega) (by omega) (by omega) (Srt.same (by have:=Q1.out.2.2.1;rwa [← HEZ.out] at this) (fun i h1 h2=>R2.out.2.1.out i (by omega))) (Srt.same (by have:=Q1.out.2.2.2.1;rwa [← HEZ.out] at this) (fun i h1 h2=>R2.out.2.1.out i (by omega))))
        go_wp2_with (go_at_fn 99;refine C3.out.mono ?_;rintro e3 w3 ⟨rfl,d3,G3⟩;replace G3:=hid G3)
        have R3:Hid (Mid k w w3 blk d.size d2 d3∧Re default mid b d2.toList d3.toList∧Srt (le cf) default d3.toList mid b):=G3
        go_end0
        have FIN:=finish CUT.out HS.out.1 HS.out.2 (by omega) (by omega) R1.out.1.perm R1.out.2 R2.out.2.1 R2.out.2.2 R3.out.2.1 R3.out.2.2;exact ⟨rfl,_,⟨R3.out.1.sw,R3.out.1.size,R3.out.1.perm.trans (R2.out.1.perm.trans R1.out.1.perm)⟩,FIN.1,FIN.2⟩
       ·
        have c3n:¬ (mid:Int) < (e:Int)∨((mid:Int) < (e:Int)∧¬ (e:Int) < (b:Int)):=by omega
        rcases c3n with c3a | ⟨c3a,c3b⟩
        all_goals try (exfalso;omega)
        all_goals
         have R1:Hid (Mid k w wr blk d.size d d∧Rot default d.toList d.toList s m (mid+m - s)):=hid ⟨⟨HW.out,rfl,List.Perm.refl _⟩,Rot.none (by have:=HEZ.out;omega) (by omega) (by have:=HEZ.out;omega)⟩;have Q1:=hid (CUT.out.rot HS.out.1 HS.out.2 R1.out.2 (by omega));have C2:=hid (IHw.out a s mid d wr R1.out.1.sw R1.out.1.size (by omega) (by omega) (by omega) (by omega) Q1.out.1 Q1.out.2.1)
         go_wp2_with (go_at_fn 99;refine C2.out.mono ?_;rintro e2 w2 ⟨rfl,d2,G2⟩;replace G2:=hid G2)
         have R2:Hid (Mid k w w2 blk d.size d d2∧Re default a mid d.toList d2.toList∧Srt (le cf) default d2.toList a mid):=G2;have R3:Hid (Mid k w w2 blk d.size d2 d2∧Re default mid b d2.toList d2.toList∧Srt (le cf) default d2.toList mid b):=hid ⟨⟨R2.out.1.sw,R2.out.1.size,List.Perm.refl _⟩,Re.refl _,Srt.same (l:=d.toList) (by
          rcases (show e=mid∨e=b by omega) with hh | hh
          ·have:=Q1.out.2.2.2.1;rwa [← HEZ.out,hh] at this
          ·have:=Q1.out.2.2.1;rwa [← HEZ.out,hh] at this) (fun i h1 h2=>R2.out.2.1.out i (by omega))⟩
         go_end0
         have FIN:=finish CUT.out HS.out.1 HS.out.2 (by omega) (by omega) R1.out.1.perm R1.out.2 R2.out.2.1 R2.out.2.2 R3.out.2.1 R3.out.2.2;exact ⟨rfl,_,⟨R3.out.1.sw,R3.out.1.size,R3.out.1.perm.trans (R2.out.1.perm.trans R1.out.1.perm)⟩,FIN.1,FIN.2⟩
      ·
       have c2n:¬ (a:Int) < (s:Int)∨((a:Int) < (s:Int)∧¬ (s:Int) < (mid:Int)):=by omega
       rcases c2n with c2a | ⟨c2a,c2b⟩
       all_goals try (exfalso;omega)
       all_goals
        rcases d3c with c3 | c3
        ·
         have c3a:(mid:Int) < (e:Int):=by omega
         have c3b:(e:Int) < (b:Int):=by omega
         have R1:Hid (Mid k w wr blk d.size d d∧Rot default d.toList d.toList s m (mid+m - s)):=hid ⟨⟨HW.out,rfl,List.Perm.refl _⟩,Rot.none (by have:=HEZ.out;omega) (by omega) (by have:=HEZ.out;omega)⟩;have Q1:=hid (CUT.out.rot HS.out.1 HS.out.2 R1.out.2 (by omega));have R2:Hid (Mid k w wr blk d.size d d∧Re default a mid d.toList d.toList∧Srt (le cf) default d.toList a mid):=hid ⟨⟨R1.out.1.sw,R1.out.1.size,List.Perm.refl _⟩,Re.refl _,by
          rcases (show s=a∨s=mid by omega) with hh | hh
          ·have:=Q1.out.2.1;rwa [hh] at this
          ·have:=Q1.out.1;rwa [hh] at this⟩
         have C3:=hid (IHw.out mid e b d wr R2.out.1.sw R2.out.1.size (by omega) (by omega) (by omega) (by omega) (Srt.same (by have:=Q1.out.2.2.1;rwa [← HEZ.out] at this) (fun i h1 h2=>R2.out.2.1.out i (by omega))) (Srt.same (by have:=Q1.out.2.2.2.1;rwa [← HEZ.out] at this) (fun i h1 h2=>R2.out.2.1.out i (by omega))))
         go_wp2_with (go_at_fn 99;refine C3.out.mono ?_;rintro e3 w3 ⟨rfl,d3,G3⟩;replace G3:=hid G3)
         have R3:Hid (Mid k w w3 blk d.size d d3∧Re default mid b d.toList d3.toList∧Srt (le cf) default d3.toList mid b):=G3
         go_end0
         have FIN:=finish CUT.out HS.out.1 HS.out.2 (by omega) (by omega) R1.out.1.perm R1.out.2 R2.out.2.1 R2.out.2.2 R3.out.2.1 R3.out.2.2;exact ⟨rfl,_,⟨R3.out.1.sw,R3.out.1.size,R3.out.1.perm.trans (R2.out.1.perm.trans R1.out.1.perm)⟩,FIN.1,FIN.2⟩
        ·
         have c3n:¬ (mid:Int) < (e:Int)∨((mid:Int) < (e:Int)∧¬ (e:Int) < (b:Int)):=by omega
         rcases c3n with c3a | ⟨c3a,c3b⟩
         all_goals try (exfalso;omega)
         all_goals
          have R1:Hid (Mid k w wr blk d.size d d∧Rot default d.toList d.toList s m (mid+m - s)):=hid ⟨⟨HW.out,rfl,List.Perm.refl _⟩,Rot.none (by have:=HEZ.out;omega) (by omega) (by have:=HEZ.out;omega)⟩;have Q1:=hid (CUT.out.rot HS.out.1 HS.out.2 R1.out.2 (by omega));have R2:Hid (Mid k w wr blk d.size d d∧Re default a mid d.toList d.toList∧Srt (le cf) default d.toList a mid):=hid ⟨⟨R1.out.1.sw,R1.out.1.size,List.Perm.refl _⟩,Re.refl _,by
           rcases (show s=a∨s=mid by omega) with hh | hh
           ·have:=Q1.out.2.1;rwa [hh] at this
           ·have:=Q1.out.1;rwa [hh] at this⟩
          go_wp2_with fail
          have R3:Hid (Mid k w wr blk d.size d d∧Re default mid b d.toList d.toList∧Srt (le cf) default d.toList mid b):=hid ⟨⟨R2.out.1.sw,R2.out.1.size,List.Perm.refl _⟩,Re.refl _,Srt.same (l:=d.toList) (by
           rcases (show e=mid∨e=b by omega) with hh | hh
           ·have:=Q1.out.2.2.2.1;rwa [← HEZ.out,hh] at this
           ·have:=Q1.out.2.2.1;rwa [← HEZ.out,hh] at this) (fun i h1 h2=>R2.out.2.1.out i (by omega))⟩
          go_end0
          have FIN:=finish CUT.out HS.out.1 HS.out.2 (by omega) (by omega) R1.out.1.perm R1.out.2 R2.out.2.1 R2.out.2.2 R3.out.2.1 R3.out.2.2;exact ⟨rfl,_,⟨R3.out.1.sw,R3.out.1.size,R3.out.1.perm.trans (R2.out.1.perm.trans R1.out.1.perm)⟩,FIN.1,FIN.2⟩
 ·
  have hcz:(mid:Int) < (m:Int):=by omega
  obtain rfl:mid=r0:=hr0.symm;have hnz:mid+m≤n∧n≤mid+m∧p < n∧n≤p+1∧mid < b∧a < mid:=by omega
  clear hmidb;go_enter F,Tryz.ntmps99
  go_wp2_with fail
  clear hma hbm hma1 hbm1 hmid hn hp
  try clear hs0
  go_loopg [20,21] (mid - s0) (fun g1 vi vj wr=>∃ (s r:Nat),vi=.int .i64 s∧vj=.int .i64 r∧s0≤s∧s≤r∧r≤mid∧r - s≤g1∧Hid (SW k w wr blk d)∧Hid ((s0 < s→le cf d[s - 1]! d[n - s]!)∧(r < mid→cf d[p - r]! d[r]! < 0)))
  case atStart=>exact ⟨s0,mid,rfl,rfl,by omega,by omega,by omega,by omega,HST,fun h=>by omega,fun h=>by omega⟩
  case round =>
   obtain ⟨s,r,rfl,rfl,hss,hsr,hrr,hg1,HW,HP⟩:=hrel;by_cases hlt:s < r
   ·
    have hltz:(s:Int) < (r:Int):=by omega
    obtain ⟨c,hcc⟩:∃ c:Nat,((s:Int)+(r:Int)) / 2=(c:Int):=⟨(s+r) / 2,by omega⟩;have hcb:s≤c∧c < r:=by omega
    obtain ⟨q,hq⟩:∃ q:Nat,(p:Int) - (c:Int)=(q:Int):=⟨p - c,by omega⟩;have hqz:q=p - c:=by omega
    obtain ⟨xq,hxq⟩:∃ x,d[q]! = x:=⟨_,rfl⟩;obtain ⟨xc,hxc⟩:∃ x,d[c]! = x:=⟨_,rfl⟩;obtain ⟨lq,lc,hcg⟩:=cmp_at L HC.out HW.out HH.out hblk rfl q c (by omega) (by omega) xq xc hxq hxc;have hz1:(q:Int) < (d.size:Int):=by omega
    have hz2:(c:Int) < (d.size:Int):=by omega
    have wq:IntKind.i64.wrap (q:Int)=(q:Int):=by rw [IntKind.wrap_i64];omega
    have HX:=hid (And.intro hxq (And.intro hxc hqz));have HCG:=hid hcg;clear hxq hxc hcg hqz;by_cases hv:cf xq xc < 0
    ·
     have hv0:¬ 0≤cf xq xc:=by omega
     have hvb:decide (cf xq xc < 0)=true:=decide_eq_true hv
     go_wp2_with fail
     go_quiet_grown (first | (go_at_fn 35;refine Calls.grown_of (HCG.out _ _)))
     go_wp2_with fail
     go_roundg (c - s)
     case measure=>omega
     case rel =>refine ⟨s,c,rfl,rfl,hss,by omega,by omega,Nat.le_refl _,hid (HW.out.grown _ _),hid ⟨HP.out.1,fun _=>?_⟩⟩;rw [← HX.out.2.2,HX.out.1,HX.out.2.1];exact hv
    ·
     have hv0:0≤cf xq xc:=by omega
     have hvb:decide (cf xq xc < 0)=false:=decide_eq_false hv
     go_wp2_with fail
     go_quiet_grown (first | (go_at_fn 35;refine Calls.grown_of (HCG.out _ _)))
     go_wp2_with fail
     go_roundg (r - (c+1))
     case measure=>omega
     case rel =>refine ⟨c+1,r,by go_num,rfl,by omega,by omega,hrr,Nat.le_refl _,hid (HW.out.grown _ _),hid ⟨fun _=>?_,HP.out.2⟩⟩;rw [show c+1 - 1=c by omega,show n - (c+1)=q by have:=HX.out.2.2;omega,HX.out.1,HX.out.2.1];exact (show ¬ cf xq xc < 0 by omega)
   ·
    obtain rfl:s=r:=by omega
    have hltz:¬ (s:Int) < (s:Int):=by omega
    obtain ⟨e,he⟩:∃ q:Nat,(n:Int) - (s:Int)=(q:Int):=⟨n - s,by omega⟩;have hez:e=mid+m - s:=by omega
    have hlim:a≤s∧s≤m∧s≤mid∧m≤e∧mid≤e∧e≤b:=by omega
    have CUT:Hid (Cut (le cf) default d.toList a m b mid s):=hid (by
     refine Cut.mk' HO.out HS.out.1 HS.out.2 (by omega) (by omega) (by omega) (by omega) (fun h1 h2=>?_) (fun h1 h2=>?_)
     ·
      rw [at_arr,at_arr];have h3:=HEND.out;have:=HP.out.1 (by omega)
      rwa [show n - s=mid+m - s by omega] at this
     ·rw [at_arr,at_arr];have h3:=HEND.out;have:=HP.out.2 (by omega);rw [show p - s=mid+m - s - 1 by omega] at this;exact (HO.out.total d[mid+m - s - 1]! d[s]!).elim id fun h=>absurd this h)
    have HEZ:=hid hez;clear hez;have d1c:(s < m∧m < e)∨(¬ (s < m∧m < e)):=Classical.em _;have d2c:(a < s∧s < mid)∨(¬ (a < s∧s < mid)):=Classical.em _;have d3c:(mid < e∧e < b)∨(¬ (mid < e∧e < b)):=Classical.em _;rcases d1c with c1 | c1
    ·
     have c1a:(s:Int) < (m:Int):=by omega
     have c1b:(m:Int) < (e:Int):=by omega
     rcases d2c with c2 | c2
     ·
      have c2a:(a:Int) < (s:Int):=by omega
      have c2b:(s:Int) < (mid:Int):=by omega
      rcases d3c with c3 | c3
      ·
       have c3a:(mid:Int) < (e:Int):=by omega
       have c3b:(e:Int) < (b:Int):=by omega
       have C1:=hid (RTw.out s m e d wr HW.out rfl (by omega) (by omega) (by omega))
       go_wp2_with (go_at_fn 138;refine C1.out.mono ?_;rintro e1 w1 ⟨rfl,d1,G1⟩;replace G1:=hid G1)
       have R1:Hid (Mid k w w1 blk d.size d d1∧Rot default d.toList d1.toList s m (mid+m - s)):=hid (by have:=G1.out;rw [HEZ.out] at this;exact this);have Q1:=hid (CUT.out.rot HS.out.1 HS.out.2 R1.out.2 (by omega));have C2:=hid (IHw.out a s mid d1 w1 R1.out.1.sw R1.out.1.size (by omega) (by omega) (by omega) (by omega) Q1.out.1 Q1.out.2.1)
       go_wp2_with (go_at_fn 99;refine C2.out.mono ?_;rintro e2 w2 ⟨rfl,d2,G2⟩;replace G2:=hid G2)
       have R2:Hid (Mid k w w2 blk d.size d1 d2∧Re default a mid d1.toList d2.toList∧Srt (le cf) default d2.toList a mid):=G2;have C3:=hid (IHw.out mid e b d2 w2 R2.out.1.sw R2.out.1.size (by omega) (by omega) (by omega) (by omega) (Srt.same (by have:=Q1.out.2.2.1;rwa [← HEZ.out] at this) (fun i h1 h2=>R2.out.2.1.out i (by omega))) (Srt.same (by have:=Q1.out.2.2.2.1;rwa [← HEZ.out] at this) (fun i h1 h2=>R2.out.2.1.out i (by omega))))
       go_wp2_with (go_at_fn 99;refine C3.out.mono ?_;rintro e3 w3 ⟨rfl,d3,G3⟩;replace G3:=hid G3)
       have R3:Hid (Mid k w w3 blk d.size d2 d3∧Re default mid b d2.toList d3.toList∧Srt (le cf) default d3.toList mid b):=G3
       go_end0
       have FIN:=finish CUT.out HS.out.1 HS.out.2 (by omega) (by omega) R1.out.1.perm R1.out.2 R2.out.2.1 R2.out.2.2 R3.out.2.1 R3.out.2.2;exact ⟨rfl,_,⟨R3.out.1.sw,R3.out.1.size,R3.out.1.perm.trans (R2.out.1.perm.trans R1.out.1.perm)⟩,FIN.1,FIN.2⟩
      ·
       have c3n:¬ (mid:Int) < (e:Int)∨((mid:Int) < (e:Int)∧¬ (e:Int) < (b:Int)):=by omega
       rcases c3n with c3a | ⟨c3a,c3b⟩
       all_goals try (exfalso;omega)
       all_goals
        have C1:=hid (RTw.out s m e d wr HW.out rfl (by omega) (by omega) (by omega))
        go_wp2_with (go_at_fn 138;refine C1.out.mono ?_;rintro e1 w1 ⟨rfl,d1,G1⟩;replace G1:=hid G1)
        have R1:Hid (Mid k w w1 blk d.size d d1∧Rot default d.toList d1.toList s m (mid+m - s)):=hid (by have:=G1.out;rw [HEZ.out] at this;exact this);have Q1:=hid (CUT.out.rot HS.out.1 HS.out.2 R1.out.2 (by omega));have C2:=hid (IHw.out a s mid d1 w1 R1.out.1.sw R1.out.1.size (by omega) (by omega) (by omega) (by omega) Q1.out.1 Q1.out.2.1)
        go_wp2_with (go_at_fn 99;refine C2.out.mono ?_;rintro e2 w2 ⟨rfl,d2,G2⟩;replace G2:=hid G2)
        have R2:Hid (Mid k w w2 blk d.size d1 d2∧Re default a mid d1.toList d2.toList∧Srt (le cf) default d2.toList a mid):=G2;have R3:Hid (Mid k w w2 blk d.size d2 d2∧Re default mid b d2.toList d2.toList∧Srt (le cf) default d2.toList mid b):=hid ⟨⟨R2.out.1.sw,R2.out.1.size,List.Perm.refl _⟩,Re.refl _,Srt.same (l:=d1.toList) (by
         rcases (show e=mid∨e=b by omega) with hh | hh
         ·have:=Q1.out.2.2.2.1;rwa [← HEZ.out,hh] at this
         ·have:=Q1.out.2.2.1;rwa [← HEZ.out,hh] at this) (fun i h1 h2=>R2.out.2.1.out i (by omega))⟩
        go_end0
        have FIN:=finish CUT.out HS.out.1 HS.out.2 (by omega) (by omega) R1.out.1.perm R1.out.2 R2.out.2.1 R2.out.2.2 R3.out.2.1 R3.out.2.2;exact ⟨rfl,_,⟨R3.out.1.sw,R3.out.1.size,R3.out.1.perm.trans (R2.out.1.perm.trans R1.out.1.perm)⟩,FIN.1,FIN.2⟩
     ·
      have c2n:¬ (a:Int) < (s:Int)∨((a:Int) < (s:Int)∧¬ (s:Int) < (mid:Int)):=by omega
      rcases c2n with c2a | ⟨c2a,c2b⟩
      all_goals try (exfalso;omega)
      all_goals
       rcases d3c with c3 | c3
       ·
        have c3a:(mid:Int) < (e:Int):=by omega
        have c3b:(e:Int) < (b:Int):=by omega
        have C1:=hid (RTw.out s m e d wr HW.out rfl (by omega) (by omega) (by omega))
        go_wp2_with (go_at_fn 138;refine C1.out.mono ?_;rintro e1 w1 ⟨rfl,d1,G1⟩;replace G1:=hid G1)
        have R1:Hid (Mid k w w1 blk d.size d d1∧Rot default d.toList d1.toList s m (mid+m - s)):=hid (by have:=G1.out;rw [HEZ.out] at this;exact this);have Q1:=hid (CUT.out.rot HS.out.1 HS.out.2 R1.out.2 (by omega));have R2:Hid (Mid k w w1 blk d.size d1 d1∧Re default a mid d1.toList d1.toList∧Srt (le cf) default d1.toList a mid):=hid ⟨⟨R1.out.1.sw,R1.out.1.size,List.Perm.refl _⟩,Re.refl _,by
         rcases (show s=a∨s=mid by omega) with hh | hh
         ·have:=Q1.out.2.1;rwa [hh] at this
         ·have:=Q1.out.1;rwa [hh] at this⟩
        have C3:=hid (IHw.out mid e b d1 w1 R2.out.1.sw R2.out.1.size (by omega) (by omega) (by omega) (by omega) (Srt.same (by have:=Q1.out.2.2.1;rwa [← HEZ.out] at this) (fun i h1 h2=>R2.out.2.1.out i (by omega))) (Srt.same (by have:=Q1.out.2.2.2.1;rwa [← HEZ.out] at this) (fun i h1 h2=>R2.out.2.1.out i (by omega))))
        go_wp2_with (go_at_fn 99;refine C3.out.mono ?_;rintro e3 w3 ⟨rfl,d3,G3⟩;replace G3:=hid G3)
        have R3:Hid (Mid k w w3 blk d.size d1 d3∧Re default mid b d1.toList d3.toList∧Srt (le cf) default d3.toList mid b):=G3
        go_end0
        have FIN:=finish CUT.out HS.out.1 HS.out.2 (by omega) (by omega) R1.out.1.perm R1.out.2 R2.out.2.1 R2.out.2.2 R3.out.2.1 R3.out.2.2;exact ⟨rfl,_,⟨R3.out.1.sw,R3.out.1.size,R3.out.1.perm.trans (R2.out.1.perm.trans R1.out.1.perm)⟩,FIN.1,FIN.2⟩
       ·
        have c3n:¬ (mid:Int) < (e:Int)∨((mid:Int) < (e:Int)∧¬ (e:Int) < (b:Int)):=by omega
        rcases c3n with c3a | ⟨c3a,c3b⟩
        all_goals try (exfalso;omega)
        all_goals
         have C1:=hid (RTw.out s m e d wr HW.out rfl (by omega) (by omega) (by omega))
         go_wp2_with (go_at_fn 138;refine C1.out.mono ?_;rintro e1 w1 ⟨rfl,d1,G1⟩;replace G1:=hid G1)
         have R1:Hid (Mid k w w1 blk d.size d d1∧Rot default d.toList d1.toList s m (mid+m - s)):=hid (by have:=G1.out;rw [HEZ.out] at this;exact this);have Q1:=hid (CUT.out.rot HS.out.1 HS.out.2 R1.out.2 (by omega));have R2:Hid (Mid k w w1 blk d.size d1 d1∧Re default a mid d1.toList d1.toList∧Srt (le cf) default d1.toList a mid):=hid ⟨⟨R1.out.1.sw,R1.out.1.size,List.Perm.refl _⟩,Re.refl _,by
          rcases (show s=a∨s=mid by omega) with hh | hh
          ·have:=Q1.out.2.1;rwa [hh] at this
          ·have:=Q1.out.1;rwa [hh] at this⟩
         have R3:Hid (Mid k w w1 blk d.size d1 d1∧Re default mid b d1.toList d1.toList∧Srt (le cf) default d1.toList mid b):=hid ⟨⟨R2.out.1.sw,R2.out.1.size,List.Perm.refl _⟩,Re.refl _,Srt.same (l:=d1.toList) (by
          rcases (show e=mid∨e=b by omega) with hh | hh
          ·have:=Q1.out.2.2.2.1;rwa [← HEZ.out,hh] at this
          ·have:=Q1.out.2.2.1;rwa [← HEZ.out,hh] at this) (fun i h1 h2=>R2.out.2.1.out i (by omega))⟩
         go_end0
         have FIN:=finish CUT.out HS.out.1 HS.out.2 (by omega) (by omega) R1.out.1.perm R1.out.2 R2.out.2.1 R2.out.2.2 R3.out.2.1 R3.out.2.2;exact ⟨rfl,_,⟨R3.out.1.sw,R3.out.1.size,R3.out.1.perm.trans (R2.out.1.perm.trans R1.out.1.perm)⟩,FIN.1,FIN.2⟩
    ·
     have c1n:¬ (s:Int) < (m:Int)∨((s:Int) < (m:Int)∧¬ (m:Int) < (e:Int)):=by omega
     rcases c1n with c1a | ⟨c1a,c1b⟩
     all_goals try (exfalso;omega)
     all_goals
      rcases d2c with c2 | c2
      ·
       have c2a:(a:Int) < (s:Int):=by omega
       have c2b:(s:Int) < (mid:Int):=by omega
       rcases d3c with c3 | c3
       ·
        have c3a:(mid:Int) < (e:Int):=by omega
        have c3b:(e:Int) < (b:Int):=by omega
        have R1:Hid (Mid k w wr blk d.size d d∧Rot default d.toList d.toList s m (mid+m - s)):=hid ⟨⟨HW.out,rfl,List.Perm.refl _⟩,Rot.none (by have:=HEZ.out;omega) (by omega) (by have:=HEZ.out;omega)⟩;have Q1:=hid (CUT.out.rot HS.out.1 HS.out.2 R1.out.2 (by omega));have C2:=hid (IHw.out a s mid d wr R1.out.1.sw R1.out.1.size (by omega) (by omega) (by omega) (by omega) Q1.out.1 Q1.out.2.1)
        go_wp2_with (go_at_fn 99;refine C2.out.mono ?_;rintro e2 w2 ⟨rfl,d2,G2⟩;replace G2:=hid G2)
        have R2:Hid (Mid k w w2 blk d.size d d2∧Re default a mid d.toList d2.toList∧Srt (le cf) default d2.toList a mid):=G2;have C3:=hid (IHw.out mid e b d2 w2 R2.out.1.sw R2.out.1.size (by omega) (by omega) (by omega) (by omega) (Srt.same (by have:=Q1.out.2.2.1;rwa [← HEZ.out] at this) (fun i h1 h2=>R2.out.2.1.out i (by omega))) (Srt.same (by have:=Q1.out.2.2.2.1;rwa [← HEZ.out] at this) (fun i h1 h2=>R2.out.2.1.out i (by omega))))
        go_wp2_with (go_at_fn 99;refine C3.out.mono ?_;rintro e3 w3 ⟨rfl,d3,G3⟩;replace G3:=hid G3)
        have R3:Hid (Mid k w w3 blk d.size d2 d3∧Re default mid b d2.toList d3.toList∧Srt (le cf) default d3.toList mid b):=G3
        go_end0
        have FIN:=finish CUT.out HS.out.1 HS.out.2 (by omega) (by omega) R1.out.1.perm R1.out.2 R2.out.2.1 R2.out.2.2 R3.out.2.1 R3.out.2.2;exact ⟨rfl,_,⟨R3.out.1.sw,R3.out.1.size,R3.out.1.perm.trans (R2.out.1.perm.trans R1.out.1.perm)⟩,FIN.1,FIN.2⟩
       ·
        have c3n:¬ (mid:Int) < (e:Int)∨((mid:Int) < (e:Int)∧¬ (e:Int) < (b:Int)):=by omega
        rcases c3n with c3a | ⟨c3a,c3b⟩
        all_goals try (exfalso;omega)
        all_goals
         have R1:Hid (Mid k w wr blk d.size d d∧Rot default d.toList d.toList s m (mid+m - s)):=hid ⟨⟨HW.out,rfl,List.Perm.refl _⟩,Rot.none (by have:=HEZ.out;omega) (by omega) (by have:=HEZ.out;omega)⟩;have Q1:=hid (CUT.out.rot HS.out.1 HS.out.2 R1.out.2 (by omega));have C2:=hid (IHw.out a s mid d wr R1.out.1.sw R1.out.1.size (by omega) (by omega) (by omega) (by omega) Q1.out.1 Q1.out.2.1)
         go_wp2_with (go_at_fn 99;refine C2.out.mono ?_;rintro e2 w2 ⟨rfl,d2,G2⟩;replace G2:=hid G2)
         have R2:Hid (Mid k w w2 blk d.size d d2∧Re default a mid d.toList d2.toList∧Srt (le cf) default d2.toList a mid):=G2;have R3:Hid (Mid k w w2 blk d.size d2 d2∧Re default mid b d2.toList d2.toList∧Srt (le cf) default d2.toList mid b):=hid ⟨⟨R2.out.1.sw,R2.out.1.size,List.Perm.refl _⟩,Re.refl _,Srt.same (l:=d.toList) (by
          rcases (show e=mid∨e=b by omega) with hh | hh
          ·have:=Q1.out.2.2.2.1;rwa [← HEZ.out,hh] at this
          ·have:=Q1.out.2.2.1;rwa [← HEZ.out,hh] at this) (fun i h1 h2=>R2.out.2.1.out i (by omega))⟩
         go_end0
         have FIN:=finish CUT.out HS.out.1 HS.out.2 (by omega) (by omega) R1.out.1.perm R1.out.2 R2.out.2.1 R2.out.2.2 R3.out.2.1 R3.out.2.2;exact ⟨rfl,_,⟨R3.out.1.sw,R3.out.1.size,R3.out.1.perm.trans (R2.out.1.perm.trans R1.out.1.perm)⟩,FIN.1,FIN.2⟩
      ·
       have c2n:¬ (a:Int) < (s:Int)∨((a:Int) < (s:Int)∧¬ (s:Int) < (mid:Int)):=by omega
       rcases c2n with c2a | ⟨c2a,c2b⟩
       all_goals try (exfalso;omega)
       all_goals
        rcases d3c with c3 | c3
        ·
         have c3a:(mid:Int) < (e:Int):=by omega
         have c3b:(e:Int) < (b:Int):=by omega
         have R1:Hid (Mid k w wr blk d.size d d∧Rot default d.toList d.toList s m (mid+m - s)):=hid ⟨⟨HW.out,rfl,List.Perm.refl _⟩,Rot.none (by have:=HEZ.out;omega) (by omega) (by have:=HEZ.out;omega)⟩;have Q1:=hid (CUT.out.rot HS.out.1 HS.out.2 R1.out.2 (by omega));have R2:Hid (Mid k w wr blk d.size d d∧Re default a mid d.toList d.toList∧Srt (le cf) default d.toList a mid):=hid ⟨⟨R1.out.1.sw,R1.out.1.size,List.Perm.refl _⟩,Re.refl _,by
          rcases (show s=a∨s=mid by omega) with hh | hh
          ·have:=Q1.out.2.1;rwa [hh] at this
          ·have:=Q1.out.1;rwa [hh] at this⟩
         have C3:=hid (IHw.out mid e b d wr R2.out.1.sw R2.out.1.size (by omega) (by omega) (by omega) (by omega) (Srt.same (by have:=Q1.out.2.2.1;rwa [← HEZ.out] at this) (fun i h1 h2=>R2.out.2.1.out i (by omega))) (Srt.same (by have:=Q1.out.2.2.2.1;rwa [← HEZ.out] at this) (fun i h1 h2=>R2.out.2.1.out i (by omega))))
         go_wp2_with (go_at_fn 99;refine C3.out.mono ?_;rintro e3 w3 ⟨rfl,d3,G3⟩;replace G3:=hid G3)
         have R3:Hid (Mid k w w3 blk d.size d d3∧Re default mid b d.toList d3.toList∧Srt (le cf) default d3.toList mid b):=G3
         go_end0
         have FIN:=finish CUT.out HS.out.1 HS.out.2 (by omega) (by omega) R1.out.1.perm R1.out.2 R2.out.2.1 R2.out.2.2 R3.out.2.1 R3.out.2.2;exact ⟨rfl,_,⟨R3.out.1.sw,R3.out.1.size,R3.out.1.perm.trans (R2.out.1.perm.trans R1.out.1.perm)⟩,FIN.1,FIN.2⟩
        ·
         have c3n:¬ (mid:Int) < (e:Int)∨((mid:Int) < (e:Int)∧¬ (e:Int) < (b:Int)):=by omega
         rcases c3n with c3a | ⟨c3a,c3b⟩
         all_goals try (exfalso;omega)
         all_goals
          have R1:Hid (Mid k w wr blk d.size d d∧Rot default d.toList d.toList s m (mid+m - s)):=hid ⟨⟨HW.out,rfl,List.Perm.refl _⟩,Rot.none (by have:=HEZ.out;omega) (by omega) (by have:=HEZ.out;omega)⟩;have Q1:=hid (CUT.out.rot HS.out.1 HS.out.2 R1.out.2 (by omega));have R2:Hid (Mid k w wr blk d.size d d∧Re default a mid d.toList d.toList∧Srt (le cf) default d.toList a mid):=hid ⟨⟨R1.out.1.sw,R1.out.1.size,List.Perm.refl _⟩,Re.refl _,by
           rcases (show s=a∨s=mid by omega) with hh | hh
           ·have:=Q1.out.2.1;rwa [hh] at this
           ·have:=Q1.out.1;rwa [hh] at this⟩
          go_wp2_with fail
          have R3:Hid (Mid k w wr blk d.size d d∧Re default mid b d.toList d.toList∧Srt (le cf) default d.toList mid b):=hid ⟨⟨R2.out.1.sw,R2.out.1.size,List.Perm.refl _⟩,Re.refl _,Srt.same (l:=d.toList) (by
           rcases (show e=mid∨e=b by omega) with hh | hh
           ·have:=Q1.out.2.2.2.1;rwa [← HEZ.out,hh] at this
           ·have:=Q1.out.2.2.1;rwa [← HEZ.out,hh] at this) (fun i h1 h2=>R2.out.2.1.out i (by omega))⟩
          go_end0
          have FIN:=finish CUT.out HS.out.1 HS.out.2 (by omega) (by omega) R1.out.1.perm R1.out.2 R2.out.2.1 R2.out.2.2 R3.out.2.1 R3.out.2.2;exact ⟨rfl,_,⟨R3.out.1.sw,R3.out.1.size,R3.out.1.perm.trans (R2.out.1.perm.trans R1.out.1.perm)⟩,FIN.1,FIN.2⟩
theorem sym_calls (L:Ty P k) (cf:NV→NV→Int) (O:ZSortP.Ord (le cf)) (hc:CmpC P cf) (blk cap:Nat):∀ N,SymSpec P k cf blk cap N:=by
 intro N
 induction N with
 | zero=>intro a m b d w _ _ h1 h2 _ _ h3;omega
 | succ N IH =>
  intro a m b d w hH hblk h1 h2 hb hsz hN hs1 hs2;by_cases ha:m=a+1
  ·refine (sym_one L cf O hc blk cap a m b ha d w hH hblk h2 hb hsz hs2).mono ?_;rintro e w' ⟨rfl,dk,g,r,s⟩;exact ⟨rfl,dk,⟨g.sw,g.size,g.perm⟩,r,s⟩
  by_cases hm:b=m+1
  ·refine (sym_last L cf O hc blk cap a m b hm d w hH hblk (by omega) hb hsz hs1).mono ?_;rintro e w' ⟨rfl,dk,g,r,s⟩;exact ⟨rfl,dk,⟨g.sw,g.size,g.perm⟩,r,s⟩
  exact sym_step L cf O hc blk cap N IH a m b d w hH hblk (by omega) (by omega) hb hsz hN hs1 hs2
end ZSym2
end
end Go.Proofs.YteikiojmcipkmaaGreatDoor
