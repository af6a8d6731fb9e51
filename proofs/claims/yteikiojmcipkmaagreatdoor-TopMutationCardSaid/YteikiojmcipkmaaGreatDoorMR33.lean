/- Parts of the proof, gathered by a program: what calls of the functions answer, and what follows in plain lists. Conditions: those that each theorem states. -/
import Derived.Test.YteikiojmcipkmaaGreatDoorMR32
import Derived.Test.YteikiojmcipkmaaGreatDoorMR28
import Derived.Test.YteikiojmcipkmaaGreatDoorMR25
set_option linter.unusedVariables false
set_option linter.unusedSimpArgs false
namespace Go.Proofs.YteikiojmcipkmaaGreatDoor
open Go.Lib (hid)
open Go.RowKit YteikiojmcipkmaaGreatDoorW.PrintWords YteikiojmcipkmaaGreatDoorW.PrintLast YteikiojmcipkmaaGreatDoorW.PrintMore Oct ZBase
set_option maxRecDepth 100000
section
namespace ZStep
open ZGlob ZMo ZSink
theorem setCell_one {w:World} {b:Nat} {v:Value} {t:TypeId} (h:w.heap[b]?=some (.cells #[v] t (0,0))):w.setCell ⟨b,0,none⟩ v=w:=by rw [setCell_eq_setRow w b 0 _ t (0,0) v h];exact setRow_self w b _ t (0,0) h
theorem wrote_keep {w w':World} {wb sb base:Nat} {v:Value} {l:List Int} (h:Wrote w w' wb sb base v l) {k:Nat} {o:Obj} (hk:w.heap[k]?=some o) (h1:k≠wb) (h2:k≠sb) (h3:k∉ob v):w'.heap[k]?=some o:=by obtain ⟨v',n',_,hm,_⟩:=h;exact (hm.keep k (blk_lt hk) (by simp [h1,h2,h3])).trans hk
set_option maxHeartbeats 1000000 in
theorem call55 (w:World) (w8 b13 wb sb base:Nat) (v:Value) (l:List Int) (n:Int) (A:Option Addr) (m c:Nat) (data:List Int) (h8:w.heap[w8]?=some (.cells #[.pointer (some ⟨wb,0,none⟩)] 112 (0,0))) (h13:w.heap[b13]?=some (.cells #[.slice A m c] 30 (0,0))) (h:Wtr w wb sb base v l n) (hd:Kd.C (Kd.int .u8) w A m data) (hm:m≤1000000) (hmc:m≤c) (hl:l.length≤100000000): Calls Tryz.prog 55 #[.pointer (some ⟨w8,0,none⟩),.pointer (some ⟨b13,0,none⟩)] w fun e w'=>e=.returned (.int .i64 0)∧Wrote w w' wb sb base v (l++data):=by
 have WC:=hid (wwrite_calls w wb sb base v l n A m c data h hd hm hmc hl);have C8:=cell_of_one h8;have C13:=cell_of_one h13;clear h13 hd;clear h8 h;go_enter Tryz.func55,Tryz.ntmps55
 go_wp2_with fail
 refine WC.out.mono ?_;rintro r w2 ⟨rfl,hw⟩;have HW:=hid hw;clear hw
 go_wp2_with fail
 go_ret;exact ⟨rfl,HW.out⟩
set_option maxHeartbeats 1000000 in
theorem step55 (w:World) (e9:Nat) (w8 b13 wb sb base:Nat) (v:Value) (l:List Int) (n:Int) (A:Option Addr) (m c:Nat) (data:List Int) (h8:w.heap[w8]?=some (.cells #[.pointer (some ⟨wb,0,none⟩)] 112 (0,0))) (h13:w.heap[b13]?=some (.cells #[.slice A m c] 30 (0,0))) (h9:w.heap[e9]?=some (.cells #[.int .i64 0] 33 (0,0))) (hne:e9≠wb∧e9≠sb∧e9∉ob v) (h:Wtr w wb sb base v l n) (hd:Kd.C (Kd.int .u8) w A m data) (hm:m≤1000000) (hmc:m≤c) (hl:l.length≤100000000): Calls Tryz.prog 53 #[.func (.func 55) #[] #[.pointer (some ⟨w8,0,none⟩),.pointer (some ⟨b13,0,none⟩)],.pointer (some ⟨e9,0,none⟩)] w fun e w'=>e=.returned (.tuple #[])∧Wrote w w' wb sb base v (l++data):=by
 have WC:=hid (call55 w w8 b13 wb sb base v l n A m c data h8 h13 h hd hm hmc hl);have C9:=cell_of_one h9;have HH:=hid (And.intro h9 hne);clear h8 h9 hne h;go_enter Tryz.func53,Tryz.ntmps53
 go_wp2_with fail
 refine WC.out.mono ?_;rintro r w2 ⟨rfl,hw⟩;have h92:=wrote_keep hw HH.out.1 HH.out.2.1 HH.out.2.2.1 HH.out.2.2.2;have C92:=cell_of_one h92;have F92:=free_of_one h92;have E92:=setCell_one h92;have HW:=hid hw;clear hw h92
 go_wp2_with fail
 go_end0
 exact ⟨rfl,HW.out⟩
set_option maxHeartbeats 1000000 in
theorem call57 (w:World) (w8 b13 wb sb base:Nat) (v:Value) (l:List Int) (n:Int) (A:Option Addr) (m c:Nat) (data:List Int) (h8:w.heap[w8]?=some (.cells #[.pointer (some ⟨wb,0,none⟩)] 112 (0,0))) (h13:w.cell? ⟨b13,5,none⟩=some (.slice A m c)) (h:Wtr w wb sb base v l n) (hd:Kd.C (Kd.int .u8) w A m data) (hm:m≤1000000) (hmc:m≤c) (hl:l.length≤50000000): Calls Tryz.prog 57 #[.pointer (some ⟨w8,0,none⟩),.pointer (some ⟨b13,0,none⟩)] w fun e w'=>e=.returned (.int .i64 0)∧Wrote w w' wb sb base v (l++(data++List.replicate (pad5 (l.length+data.length)) 0)):=by
 have WC:=hid (payload_calls w wb sb base v l n A m c data h hd hm hmc hl);have C8:=cell_of_one h8;clear hd;clear h8 h;go_enter Tryz.func57,Tryz.ntmps57
 go_wp2_with fail
 refine WC.out.mono ?_;rintro r w2 ⟨rfl,hw⟩;have HW:=hid hw;clear hw
 go_wp2_with fail
 go_ret;exact ⟨rfl,HW.out⟩
set_option maxHeartbeats 1000000 in
theorem step57 (w:World) (e9:Nat) (w8 b13 wb sb base:Nat) (v:Value) (l:List Int) (n:Int) (A:Option Addr) (m c:Nat) (data:List Int) (h8:w.heap[w8]?=some (.cells #[.pointer (some ⟨wb,0,none⟩)] 112 (0,0))) (h13:w.cell? ⟨b13,5,none⟩=some (.slice A m c)) (h9:w.heap[e9]?=some (.cells #[.int .i64 0] 33 (0,0))) (hne:e9≠wb∧e9≠sb∧e9∉ob v) (h:Wtr w wb sb base v l n) (hd:Kd.C (Kd.int .u8) w A m data) (hm:m≤1000000) (hmc:m≤c) (hl:l.length≤50000000): Calls Tryz.prog 53 #[.func (.func 57) #[] #[.pointer (some ⟨w8,0,none⟩),.pointer (some ⟨b13,0,none⟩)],.pointer (some ⟨e9,0,none⟩)] w fun e w'=>e=.returned (.tuple #[])∧Wrote w w' wb sb base v (l++(data++List.replicate (pad5 (l.length+data.length)) 0)):=by
 have WC:=hid (call57 w w8 b13 wb sb base v l n A m c data h8 h13 h hd hm hmc hl);have C9:=cell_of_one h9;have HH:=hid (And.intro h9 hne);clear h8 h9 hne h;go_enter Tryz.func53,Tryz.ntmps53
 go_wp2_with fail
 refine WC.out.mono ?_;rintro r w2 ⟨rfl,hw⟩;have h92:=wrote_keep hw HH.out.1 HH.out.2.1 HH.out.2.2.1 HH.out.2.2.2;have C92:=cell_of_one h92;have F92:=free_of_one h92;have E92:=setCell_one h92;have HW:=hid hw;clear hw h92
 go_wp2_with fail
 go_end0
 exact ⟨rfl,HW.out⟩
set_option maxHeartbeats 1000000 in
theorem call59 (w:World) (w8 wb sb base:Nat) (v:Value) (l:List Int) (n:Int) (h8:w.heap[w8]?=some (.cells #[.pointer (some ⟨wb,0,none⟩)] 112 (0,0))) (h:Wtr w wb sb base v l n) (hl:l.length≤100000000): Calls Tryz.prog 59 #[.pointer (some ⟨w8,0,none⟩)] w fun e w'=>e=.returned (.int .i64 0)∧Wrote w w' wb sb base v (l++List.replicate 1024 0):=by
 have WC:=hid (zeros_calls w wb sb base v l n h hl);have C8:=cell_of_one h8
 clear h8 h;go_enter Tryz.func59,Tryz.ntmps59
 go_wp2_with fail
 refine WC.out.mono ?_;rintro r w2 ⟨rfl,hw⟩;have HW:=hid hw;clear hw
 go_wp2_with fail
 go_ret;exact ⟨rfl,HW.out⟩
set_option maxHeartbeats 1000000 in
theorem step59 (w:World) (e9:Nat) (w8 wb sb base:Nat) (v:Value) (l:List Int) (n:Int) (h8:w.heap[w8]?=some (.cells #[.pointer (some ⟨wb,0,none⟩)] 112 (0,0))) (h9:w.heap[e9]?=some (.cells #[.int .i64 0] 33 (0,0))) (hne:e9≠wb∧e9≠sb∧e9∉ob v) (h:Wtr w wb sb base v l n) (hl:l.length≤100000000): Calls Tryz.prog 53 #[.func (.func 59) #[] #[.pointer (some ⟨w8,0,none⟩)],.pointer (some ⟨e9,0,none⟩)] w fun e w'=>e=.returned (.tuple #[])∧Wrote w w' wb sb base v (l++List.replicate 1024 0):=by
 have WC:=hid (call59 w w8 wb sb base v l n h8 h hl);have C9:=cell_of_one h9;have HH:=hid (And.intro h9 hne);clear h8 h9 hne h;go_enter Tryz.func53,Tryz.ntmps53
 go_wp2_with fail
 refine WC.out.mono ?_;rintro r w2 ⟨rfl,hw⟩;have h92:=wrote_keep hw HH.out.1 HH.out.2.1 HH.out.2.2.1 HH.out.2.2.2;have C92:=cell_of_one h92;have F92:=free_of_one h92;have E92:=setCell_one h92;have HW:=hid hw;clear hw h92
 go_wp2_with fail
 go_end0
 exact ⟨rfl,HW.out⟩
end ZStep
namespace ZCreate
open ZGlob ZMo ZPath ZFit ZNod ZMap ZTree ZTCheck ZCount ZCanon ZMem ZSink ZStep ZEntry
open ZStr (lt)
open ZPlan (planH planR)
open ZFmt (fmtB fmtB_le)
open ZPlanOk (planR_ok planH_ok)
theorem encE_len {e:Ent} (he:e.Ok) (hs:e.size≤8589934591):(encE e).length≤200000∧(encE e).length % 512=0:=by
 obtain ⟨h1,h2⟩:=planR_ok he hs;have h3:=blkB_len (planH_ok he hs);have h4:=fmtB_le (planR e) (fun r hr=>h1.rest hr);have h5:(fmtB (planR e)).length≤131108:=by have:(planR e).length * 65554≤2 * 65554:=Nat.mul_le_mul_right _ h2;omega
 unfold encE;split
 ·omega
 ·
  have h6:=blkB_len (extH_ok ((fmtB (planR e)).length:Int) (by omega) (by omega));have h7:=padN_eq (fmtB (planR e)).length;have h8:padN (fmtB (planR e)).length≤512:=by unfold padN blocks;omega
  simp only [List.length_append,List.length_replicate,h3,h6];omega
def encM (m:MB):List Int:=encE m.ent++(m.data++List.replicate (pad5 m.data.length) 0)
def encAll (l:List MB):List Int:=l.flatMap encM
structure MemOk (m:MB):Prop where
 ent:m.ent.Ok
 data:m.data.length≤100000
 size:m.ent.size=m.data.length
theorem MemOk.small {m:MB} (h:MemOk m):m.ent.size≤8589934591:=by have:=h.size;have:=h.data;omega
theorem pad5_add (n:Nat):(n+pad5 n) % 512=0:=by unfold pad5;omega
theorem pad5_mod (a n:Nat) (h:a % 512=0):pad5 (a+n)=pad5 n:=by unfold pad5;omega
theorem encM_len {m:MB} (h:MemOk m):(encM m).length≤301000∧(encM m).length % 512=0:=by
 obtain ⟨h1,h2⟩:=encE_len h.ent h.small;have h3:=h.data;have h4:=pad5_add m.data.length;have h5:pad5 m.data.length < 512:=by unfold pad5;omega
 unfold encM;simp only [List.length_append,List.length_replicate];omega
theorem encAll_snoc (l:List MB) (m:MB):encAll (l++[m])=encAll l++encM m:=by simp [encAll]
theorem encAll_len (l:List MB) (h:∀ m∈l,MemOk m):(encAll l).length≤l.length * 301000∧(encAll l).length % 512=0:=by
 induction l with
 | nil=>simp [encAll]
 | cons m l ih =>obtain ⟨h1,h2⟩:=ih fun x hx=>h x (List.mem_cons_of_mem _ hx);obtain ⟨h3,h4⟩:=encM_len (h m List.mem_cons_self);simp only [encAll,List.flatMap_cons,List.length_append,List.length_cons] at *;omega
structure NOk (x:NV):Prop where
 ent:(entOf x).Ok
 data:x.data.length≤100000
 none:x.kind≠1→x.data=[]
theorem memOf_ok {m:List (Int×ByteArray)} {x:NV} (hm:∀ c p,ZMap.get m c=some p→okPath p) (hx:NOk x):MemOk (memOf m x)∧∀ c p,ZMap.get (memStep m x) c=some p→okPath p:=by
 have hp:okPath x.path:=hx.ent.path;cases hl:ZMem.linked m x with
 | some p =>
  obtain ⟨e1,e2⟩:=link_some hl;rw [e1,e2];unfold ZMem.linked at hl;split at hl
  ·
   rename_i hk;have hpo:=hm _ _ hl;refine ⟨⟨⟨show (0:Int)≤3∧(3:Int)≤3 by omega,hp,hx.ent.mode,fun h=>absurd h (by simp),?_,?_⟩,Nat.zero_le _,rfl⟩,hm⟩
   ·simp only [targetOk];rw [if_pos trivial];exact hpo
   ·unfold sizeOk;simp
  ·cases hl
 | none =>
  by_cases hk:x.kind=1
  ·
   obtain ⟨e1,e2⟩:=link_file hl hk;rw [e1,e2];have he:=hx.ent;unfold entOf at he;rw [if_pos hk] at he;refine ⟨⟨he,hx.data,rfl⟩,fun c p h=>?_⟩;rw [get_put] at h;split at h
   ·cases h;exact hp
   ·exact hm _ _ h
  ·obtain ⟨e1,e2⟩:=link_none hl hk;rw [e1,e2];have he:=hx.ent;unfold entOf at he;rw [if_neg hk] at he;exact ⟨⟨he,Nat.zero_le _,rfl⟩,hm⟩
theorem memS_ok (C:List NV) (hC:∀ x∈C,NOk x):(∀ m∈(memS C).2,MemOk m)∧(memS C).2.length=C.length:=by
 have key:∀ n,∀ C:List NV,C.length=n→(∀ x∈C,NOk x)→(∀ c p,ZMap.get (memS C).1 c=some p→okPath p)∧(∀ m∈(memS C).2,MemOk m)∧(memS C).2.length=C.length:=by
  intro n
  induction n with
  | zero =>intro C hl _;obtain rfl:=List.eq_nil_of_length_eq_zero hl;exact ⟨fun c p h=>by simp [memS,ZMap.get] at h,fun m h=>by simp [memS] at h,rfl⟩
  | succ n ih =>
   intro C hl hC;obtain ⟨C0,x,rfl⟩:∃ l0 x,C=l0++[x]:=⟨C.dropLast,C.getLast (by intro e;rw [e] at hl;cases hl),(List.dropLast_concat_getLast _).symm⟩;obtain ⟨h1,h2,h3⟩:=ih C0 (by simpa using hl) fun y hy=>hC y (List.mem_append_left _ hy);obtain ⟨h4,h5⟩:=memOf_ok h1 (hC x (by simp));rw [memS_snoc];refine ⟨h5,fun m hm=>?_,by simp [h3]⟩;rcases List.mem_append.1 hm with h | h
   ·exact h2 m h
   ·obtain rfl:=List.mem_singleton.1 h;exact h4
 exact (key _ C rfl hC).2
theorem memOf_data (m:List (Int×ByteArray)) (x:NV):((memOf m x).addr=none∧(memOf m x).cap=0∧(memOf m x).data=[])∨((memOf m x).addr=x.addr∧(memOf m x).cap=x.cap∧(memOf m x).data=x.data):=by
 unfold memOf;cases ZMem.linked m x with
 | some p=>exact .inl ⟨rfl,rfl,rfl⟩
 | none =>
  dsimp only;split
  ·exact .inr ⟨rfl,rfl,rfl⟩
  ·exact .inl ⟨rfl,rfl,rfl⟩
theorem memS_data (C:List NV):∀ m∈(memS C).2,(m.addr=none∧m.cap=0∧m.data=[])∨∃ y∈C,m.addr=y.addr∧m.cap=y.cap∧m.data=y.data:=by
 have key:∀ n,∀ C:List NV,C.length=n→∀ m∈(memS C).2,(m.addr=none∧m.cap=0∧m.data=[])∨∃ y∈C,m.addr=y.addr∧m.cap=y.cap∧m.data=y.data:=by
  intro n
  induction n with
  | zero =>intro C hl m hm;obtain rfl:=List.eq_nil_of_length_eq_zero hl;simp [memS] at hm
  | succ n ih =>
   intro C hl m hm;obtain ⟨C0,x,rfl⟩:∃ l0 x,C=l0++[x]:=⟨C.dropLast,C.getLast (by intro e;rw [e] at hl;cases hl),(List.dropLast_concat_getLast _).symm⟩;rw [memS_snoc] at hm;rcases List.mem_append.1 hm with h | h
   ·
    rcases ih C0 (by simpa using hl) m h with h2 | ⟨y,h2,h3⟩
    ·exact .inl h2
    ·exact .inr ⟨y,List.mem_append_left _ h2,h3⟩
   ·
    obtain rfl:=List.mem_singleton.1 h;rcases memOf_data (memS C0).1 x with h2 | h2
    ·exact .inl h2
    ·exact .inr ⟨x,by simp,h2⟩
 exact key _ C rfl
theorem renum_mem {cnt:Int→Int} {S:List NV} {y:NV} (h:y∈renum cnt S):∃ x∈S,y={ x with cls:=y.cls }:=by unfold renum at h;obtain ⟨i,hi⟩:=List.getElem?_of_mem h;rw [List.getElem?_mapIdx] at hi;obtain ⟨x,hx,e⟩:=Option.map_eq_some_iff.1 hi;refine ⟨x,List.mem_of_getElem? hx,?_⟩;rw [← e];rfl
theorem canon_mem {l K S:List NV} {cnt:Int→Int} (h1:K.map strip=l.map strip) (h2:S.Perm K) {y:NV} (h:y∈renum cnt S):∃ x∈l,y.kind=x.kind∧y.path=x.path∧y.mode=x.mode∧y.target=x.target∧y.data=x.data:=by
 obtain ⟨x,hx,e⟩:=renum_mem h;have hk:strip x∈l.map strip:=by rw [← h1];exact List.mem_map_of_mem (h2.mem_iff.1 hx)
 obtain ⟨z,hz,ez⟩:=List.mem_map.1 hk;refine ⟨z,hz,?_⟩;rw [e];obtain ⟨zk,zp,zm,zt,za,zc,zd,zl⟩:=z;obtain ⟨xk,xp,xm,xt,xa,xc,xd,xl⟩:=x;simp only [strip,NV.mk.injEq] at ez;obtain ⟨e1,e2,e3,e4,_,_,e7,_⟩:=ez;exact ⟨e1.symm,e2.symm,e3.symm,e4.symm,e7.symm⟩
theorem canon_ok {l K S:List NV} {cnt:Int→Int} (h1:K.map strip=l.map strip) (h2:S.Perm K) (hT:TreeOk l) (hd:∀ x∈l,x.data.length≤100000):∀ y∈renum cnt S,NOk y:=by
 intro y hy;obtain ⟨x,hx,e1,e2,e3,e4,e5⟩:=canon_mem h1 h2 hy;have hn:=hT.node x hx;refine ⟨?_,by rw [e5];exact hd x hx,fun h=>by rw [e5];exact hn.data (by rw [← e1];exact h)⟩;have:entOf y=entOf x:=by unfold entOf;rw [e1,e2,e3,e4,e5]
 rw [this];exact hn.ent
def C7 (w3 wr:World) (wb sb:Nat) (out:List Int):Prop:=∃ v n,Wtr wr wb sb w3.heap.size v out n∧Mo [wb,sb] w3 wr
theorem C7.below {w3 wr w2:World} {wb sb:Nat} {out:List Int} (h:C7 w3 wr wb sb out) (hb:Below wr.heap.size wr w2):C7 w3 w2 wb sb out:=by obtain ⟨v,n,h1,h2⟩:=h;exact ⟨v,n,h1.below hb,h2.step hb⟩
theorem C7.wrote {w3 wr w2:World} {wb sb:Nat} {v:Value} {n:Int} {out out2:List Int} (h1:Wtr wr wb sb w3.heap.size v out n) (h2:Mo [wb,sb] w3 wr) (hw:Wrote wr w2 wb sb w3.heap.size v out2):C7 w3 w2 wb sb out2:=by
 obtain ⟨v',n',h3,h4,_⟩:=hw;refine ⟨v',n',h3,h2.then_ h4 fun t ht=>?_⟩;simp only [List.mem_cons] at ht;rcases ht with rfl | rfl | ht
 ·exact .inl (by simp)
 ·exact .inl (by simp)
 ·refine .inr (own_base h1.snk.own t ?_);simpa [ob] using ht
theorem ob_ge {w:World} {wb sb base:Nat} {v:Value} {l:List Int} {n:Int} (h:Wtr w wb sb base v l n):∀ k∈ob v,base≤k∧k < w.heap.size:=by
 intro k hk;have hk2:v.ownBlock=some k:=by simpa [ob] using hk
 exact ⟨own_base h.snk.own k hk2,own_lt h.snk.own k hk2⟩
theorem C_first {w:World} {A:Option Addr} {n:Nat} {l:List Int} (h:Kd.C (Kd.int .u8) w A n l) (ad:Addr) (ha:A=some ad) (hn:0 < n):∃ (x:Int) (q:Addr),q.block=ad.block∧∃ _:Unit,w.cell? q=some (.int .u8 x):=by have hlen:=Kd.C_len h;obtain ⟨ad',e,hc⟩:=h.2.2 hn;rw [ha] at e;cases e;obtain ⟨c,hl,hk,hv⟩:=hc 0 l[0] (List.getElem?_eq_getElem (by omega));have hk2:c=[.int .u8 l[0]]:=hk;refine ⟨l[0],ad.add (0 * (Kd.int .u8).sz+0),ZMo.add_block _ _,(),hv 0 _ ?_⟩;rw [hk2];rfl
theorem C_ne_block {w:World} {A:Option Addr} {n:Nat} {l:List Int} (h:Kd.C (Kd.int .u8) w A n l) {k:Nat} {cs:Array Value} {t:TypeId} {fr:Nat×Nat} (hm:w.heap[k]?=some (.cells cs t fr)) (hcs:∀ (i:Nat) (x:Int),cs[i]?≠some (.int .u8 x)) (ad:Addr) (ha:A=some ad) (hn:0 < n):ad.block≠k:=by
 intro hb;obtain ⟨x,q,hq,hv⟩:=C_first h ad ha hn;obtain ⟨o,hq2⟩:=hv;simp only [World.cell?,hq,hb,hm] at hq2;split at hq2
 ·cases hq2
 ·exact hcs _ _ hq2
theorem C_lt {w:World} {A:Option Addr} {n:Nat} {l:List Int} (h:Kd.C (Kd.int .u8) w A n l) (ad:Addr) (ha:A=some ad) (hn:0 < n):ad.block < w.heap.size:=by obtain ⟨x,q,hq,hv⟩:=C_first h ad ha hn;obtain ⟨o,hq2⟩:=hv;rw [← hq];refine Nat.lt_of_not_le fun hle=>?_;simp only [World.cell?,Array.getElem?_eq_none hle] at hq2;cases hq2
theorem memCells_get (l:List MB) (i j:Nat) (m:MB) (hi:l[i]?=some m) (hj:j < 6):(memCells l)[i * 6+j]?=m.cells[j]?:=by
 induction l generalizing i with
 | nil=>simp at hi
 | cons x l ih =>
  have h6:x.cells.length=6:=rfl;simp only [memCells,List.flatMap_cons];cases i with
  | zero =>simp only [List.getElem?_cons_zero,Option.some.injEq] at hi;subst hi;rw [List.getElem?_append_left (by omega)];simp
  | succ i =>rw [List.getElem?_append_right (by omega),h6,show (i+1) * 6+j - 6=i * 6+j by omega];exact ih i (by simpa using hi)
structure Src (w3:World) (wb sb g:Nat) (ms:List MB):Prop where
 cell:∀ (j:Nat) (m:MB),ms[j]?=some m→∀ (i:Nat) (u:Value),m.cells[i]?=some u→w3.cell? ⟨g,j * 6+i,none⟩=some u
 ne:g≠wb∧g≠sb∧g < w3.heap.size
 data:∀ m∈ms,Kd.C (Kd.int .u8) w3 m.addr m.data.length m.data∧m.data.length≤m.cap∧∀ ad,m.addr=some ad→0 < m.data.length→ad.block≠wb∧ad.block≠sb∧ad.block < w3.heap.size
theorem Src.cells {w3 wr:World} {wb sb g:Nat} {ms:List MB} (h:Src w3 wb sb g ms) (hm:Mo [wb,sb] w3 wr) {j:Nat} {m:MB} (hj:ms[j]?=some m): wr.cell? ⟨g,j * 6,none⟩=some (.int .i64 m.ent.kind)∧wr.cell? ⟨g,j * 6+1,none⟩=some (.string m.ent.path)∧wr.cell? ⟨g,j * 6+2,none⟩=some (.int .i64 m.ent.mode)∧wr.cell? ⟨g,j * 6+3,none⟩=some (.string m.ent.target)∧wr.cell? ⟨g,j * 6+4,none⟩=some (.int .i64 m.ent.size)∧wr.cell? ⟨g,j * 6+5,none⟩=some (.slice m.addr m.data.length m.cap):=by
 have e:∀ o,wr.cell? ⟨g,o,none⟩=w3.cell? ⟨g,o,none⟩:=fun o=>cell_of_heap (hm.keep g h.ne.2.2 (by simp [h.ne.1,h.ne.2.1]));refine ⟨?_,?_,?_,?_,?_,?_⟩ <;> rw [e]
 ·exact h.cell j m hj 0 _ rfl
 ·exact h.cell j m hj 1 _ rfl
 ·exact h.cell j m hj 2 _ rfl
 ·exact h.cell j m hj 3 _ rfl
 ·exact h.cell j m hj 4 _ rfl
 ·exact h.cell j m hj 5 _ rfl
theorem Src.reads {w3 wr:World} {wb sb g:Nat} {ms:List MB} (h:Src w3 wb sb g ms) (hm:Mo [wb,sb] w3 wr) {m:MB} (hj:m∈ms):Kd.C (Kd.int .u8) wr m.addr m.data.length m.data∧m.data.length≤m.cap:=by obtain ⟨h1,h2,h3⟩:=h.data m hj;exact ⟨C_of h1 fun ad ha hn=>hm.keep _ (h3 ad ha hn).2.2 (by simp [(h3 ad ha hn).1,(h3 ad ha hn).2.1]),h2⟩
theorem src_of {w1 w3:World} {wb sb g cm:Nat} {C:List NV} (ho:w1.ownsRow 0 56 6 (.slice (some ⟨g,0,none⟩) C.length cm) C.length (memCells (memS C).2)) (hlen:(memS C).2.length=C.length) (hr:∀ y∈C,Reads w1 y) (hs:w1.heap[sb]?=some (.cells #[.slice none 0 0,.int .i64 (-1),.slice none 0 0,.int .i64 0] 109 (0,0))) (hwb:wb=w1.heap.size) (hb:Below w1.heap.size w1 w3):Src w3 wb sb g (memS C).2:=by
 have hg:g < w1.heap.size:=own_lt ho g rfl;obtain ⟨cc,hcc⟩:=own_typed ho g rfl;have hne:g≠sb:=by rintro rfl;rw [hs] at hcc;simp at hcc
 refine ⟨fun j m hj i u hi=>?_,⟨by omega,hne,by have:=hb.size;omega⟩,fun m hm=>?_⟩
 ·
  have h6:i < 6:=by
   have:=(List.getElem?_eq_some_iff.1 hi).1
   rwa [show m.cells.length=6 from rfl] at this
  have hjl:=(List.getElem?_eq_some_iff.1 hj).1;rw [cell_of_heap (hb.block g hg),ho.cellAt _ (by omega),memCells_get _ j i m hj h6];exact hi
 ·
  rcases memS_data C m hm with ⟨e1,e2,e3⟩ | ⟨y,hy,e1,e2,e3⟩
  ·rw [e1,e2,e3];exact ⟨⟨rfl,by decide,fun h=>absurd h (by decide)⟩,Nat.le_refl _,fun ad h=>by cases h⟩
  ·obtain ⟨h1,h2⟩:=hr y hy;rw [e1,e2,e3];have hlt:=fun ad ha hn=>C_lt h1 ad ha hn;refine ⟨C_of h1 fun ad ha hn=>hb.block _ (hlt ad ha hn),h2,fun ad ha hn=>⟨by have:=hlt ad ha hn;omega,?_,by have:=hlt ad ha hn;have:=hb.size;omega⟩⟩;refine C_ne_block h1 hs (fun i x=>?_) ad ha hn;rcases i with _ | _ | _ | _ | i <;> simp
set_option maxHeartbeats 8000000 in
theorem create_calls (A:Option Addr) (cap:Nat) (l:List NV) (hn:l.length≤40) (hd:∀ x∈l,x.data.length≤100000) (hp:∀ x∈l,x.path.size≤1000000) (w:World) (hG:Gl w) (hl:NodesAt w A l) (hc:l.length≤cap) (sb:Nat) (hs:w.heap[sb]?=some (.cells #[.slice none 0 0,.int .i64 (-1),.slice none 0 0,.int .i64 0] 109 (0,0))) (h20:20≤sb): Calls Tryz.prog 28 #[.slice A l.length cap,.pointer (some ⟨sb,0,none⟩)] w fun r w'=>Mo [sb] w w' ∧ ((∃ e:Int,r=.returned (.int .i64 e)∧e≠0∧¬ TreeOk l) ∨ (TreeOk l∧r=.returned (.int .i64 0)∧∃ K S C,K.map strip=l.map strip∧S.Perm K∧S.Pairwise (fun x y=>lt y.path x.path=false)∧C=renum (num (countsOf (l.map (·.cls)))) S ∧ ∃ B v n,Snk w' sb B v (encAll (memS C).2++List.replicate 1024 0) n)):=by
 have MC:=hid (members_calls A cap l hn (fun x hx=>by have:=hd x hx;omega) hp w hG hl hc);have HSB:=hid hs;have HG:=hid hG;have HD:=hid hd;have NW:=hid newWriter_calls;clear hG hl hs hd;go_enter Tryz.func28,Tryz.ntmps28
 go_wp2_with fail
 refine MC.out.mono ?_;rintro r w1 ⟨hb1,hr⟩;have HB1:=hid hb1;clear hb1 MC;rcases hr with ⟨i,e,rfl,he,ht⟩ | ⟨hT,v,K,S,C,rfl,q1,q2,q3,q4,q5,q6⟩
 ·
  have be:(e != 0)=true:=by rw [bne_iff_ne];exact he
  have HE:=hid (And.intro he ht);clear he ht
  go_wp2_with fail
  go_ret;exact ⟨Mo.of_below HB1.out,.inl ⟨e,rfl,HE.out.1,HE.out.2⟩⟩
 ·
  have be:((0:Int) != 0)=false:=rfl;obtain ⟨gm,cm,hv⟩:=ZMem.own_slice q5;subst hv;have HQ:=hid (And.intro hT (And.intro q1 (And.intro q2 (And.intro q3 (And.intro q4 (And.intro q5 q6))))));clear hT q1 q2 q3 q4 q5 q6
  go_wp2_with fail
  refine (NW.out w1 sb).mono ?_;rintro r w2 ⟨rfl,hw2⟩;obtain ⟨wb,hwb⟩:∃ n,w1.heap.size=n:=⟨_,rfl⟩;have hs2:w2.heap.size=wb+1:=by rw [hw2,← hwb];simp
  have HW2:=hid (And.intro hw2 hs2);have HWB:=hid hwb;rw [hwb];clear hw2;obtain ⟨w8,hw8⟩:∃ n,w2.heap.size=n:=⟨_,rfl⟩
  go_wp2_with fail
  obtain ⟨W3,hW3⟩:∃ X,(w2.alloc (.cells #[.pointer (some ⟨wb,0,none⟩)] 112)).alloc (.cells #[.int .i64 0] 33)=X:=⟨_,rfl⟩;rw [hW3];have FACT:Hid (Gl W3∧W3.heap[w8]?=some (.cells #[.pointer (some ⟨wb,0,none⟩)] 112 (0,0))∧W3.heap[w8+1]?=some (.cells #[.int .i64 0] 33 (0,0))∧w8=wb+1∧W3.heap.size=wb+3∧C7 W3 W3 wb sb []∧Mo [sb] w W3∧sb < wb∧∃ g,(0 < l.length→gm=some ⟨g,0,none⟩)∧Src W3 wb sb g (memS C).2):=hid (by
   obtain ⟨z1,z2,z3,z4,z5,z6,z7⟩:=HQ.out;obtain ⟨hw2,hs2⟩:=HW2.out;have hwb:=HWB.out;have hb1:=HB1.out;have hsb:=HSB.out;have hsl:=(Array.getElem?_eq_some_iff.1 hsb).1;have h1s:=hb1.size;have hsb1:w1.heap[sb]?=_:=(hb1.block sb hsl).trans hsb;have b2:Below w1.heap.size w1 w2:=by rw [hw2];exact below_alloc (Below.refl _ _) _
   have b3:Below w1.heap.size w1 W3:=by rw [← hW3];exact (b2.alloc b2.size _).alloc (by simp;omega) _
   have hs3:W3.heap.size=wb+3:=by rw [← hW3];simp;omega
   have bw:Below w.heap.size w W3:=hb1.trans (b3.mono h1s);have hblk:W3.heap[wb]?=some (.cells #[.int .i64 0,.int .i64 0,.pointer (some ⟨sb,0,none⟩)] 159 (0,0)):=by
    have q:W3.heap[wb]?=w2.heap[wb]?:=by rw [← hW3];exact (heap_alloc_old _ _ (by simp;omega)).trans (heap_alloc_old _ _ (by omega))
    rw [q,hw2,← hwb];exact heap_alloc_new _ _
   refine ⟨HG.out.below bw,?_,?_,by omega,hs3,⟨.slice none 0 0,0,⟨hblk,⟨(b3.block sb (by omega)).trans hsb1,World.ownsRow_nil _ _ _ _,by simp⟩,by omega,by omega,Nat.le_refl _⟩,Mo.refl _ _⟩,Mo.of_below bw,by omega,?_⟩
   ·rw [← hW3,← hw8];exact heap_alloc2_old _ _ _
   ·rw [← hW3,← hw8];exact heap_alloc2_new _ _ _
   ·
    have hCl:C.length=l.length:=by have e1:=congrArg List.length z2;have e2:=z3.length_eq;simp only [List.length_map] at e1;rw [z5];simp [renum,e2,e1]
    have hml:=(memS_ok C (by rw [z5];exact canon_ok z2 z3 z1 HD.out)).2;rcases Nat.eq_zero_or_pos l.length with h0 | h0
    ·
     refine ⟨0,fun h=>by omega,⟨fun j m hj=>?_,by omega,fun m hm=>?_⟩⟩
     ·have:=(List.getElem?_eq_some_iff.1 hj).1;omega
     ·have:=List.length_pos_of_mem hm;omega
    ·obtain ⟨g,cap',e1,_,_⟩:=World.ownsRow.form z6 h0;simp only [Value.slice.injEq] at e1;obtain ⟨rfl,_,rfl⟩:=e1;refine ⟨g,fun _=>rfl,src_of (own_weaken (by rw [hCl];exact z6) (Nat.zero_le _)) hml z7 hsb1 hwb.symm b3⟩)
  have HL:Hid ((memS C).2.length=l.length∧∀ m∈(memS C).2,MemOk m):=hid (by
   obtain ⟨z1,z2,z3,z4,z5,z6,z7⟩:=HQ.out;have e1:=congrArg List.length z2;have e2:=z3.length_eq;simp only [List.length_map] at e1;have h:=memS_ok C (by rw [z5];exact canon_ok z2 z3 z1 HD.out);refine ⟨by rw [h.2,z5];simp [renum,e2,e1],h.1⟩)
  obtain ⟨ms,hms⟩:∃ ms,(memS C).2=ms:=⟨_,rfl⟩;rw [hms] at FACT HL;have HMS:=hid hms;obtain ⟨GL,F8,F9,F10,F11,F12,F13,F14,g,hgm,SRC⟩:=FACT.out;have FF:=hid (And.intro GL (And.intro F8 (And.intro F9 (And.intro F10 (And.intro F11 (And.intro F12 (And.intro F13 (And.intro F14 (And.intro hgm SRC)))))))));clear FACT hms hW3 GL F8 F9 F10 F11 F12 F13 F14 hgm SRC hs2;clear hw8
  go_loopw [31] (fun i wr=>∃ j:Nat,j≤l.length∧i=.int .i64 j∧Hid (C7 W3 wr wb sb (encAll (ms.take j)))) (fun i _=>l.length - (intOf i).toNat)
  case atStart=>exact ⟨0,Nat.zero_le _,rfl,hid FF.out.2.2.2.2.2.1⟩
  case round =>
   obtain ⟨j,hj,rfl,HS⟩:=hrel;obtain ⟨v,n,W1,M1⟩:=HS.out;by_cases hlt:j < l.length
   ·
    have hltz:(j:Int) < (l.length:Int):=by omega
    have hgs:=FF.out.2.2.2.2.2.2.2.2.1 (by omega);subst hgs;obtain ⟨m,hm⟩:∃ m,ms[j]?=some m:=⟨_,List.getElem?_eq_getElem (by rw [HL.out.1];exact hlt)⟩;have SRC:=FF.out.2.2.2.2.2.2.2.2.2;obtain ⟨c0,c1,c2,c3,c4,c5⟩:=SRC.cells M1 hm;have HM:=hid (And.intro hm (And.intro (List.mem_of_getElem? hm) (HL.out.2 m (List.mem_of_getElem? hm))));have EC:=hid (fun W hW=>encode_calls m.ent HM.out.2.2.ent HM.out.2.2.small W hW);have WW:=hid (And.intro W1 M1);clear hm SRC W1 M1;obtain ⟨⟨kind,path,mode,target,size⟩,addr,xcap,data⟩:=m;unfold Ent.val Ent.cells at EC;dsimp only at *;have B4:=hid (below_alloc (Below.refl wr.heap.size wr) (.cells #[.int .i64 kind,.string path,.int .i64 mode,.string target,.int .i64 size,.slice addr data.length xcap] 56));have HBX:=hid (heap_alloc_new wr (.cells #[.int .i64 kind,.string path,.int .i64 mode,.string target,.int .i64 size,.slice addr data.length xcap] 56));have GW:Hid (Gl wr):=hid (FF.out.1.mo WW.out.2 (by have:=FF.out.2.2.2.2.1;have:=FF.out.2.2.2.2.2.2.2.1;omega) (by
     have:=FF.out.2.2.2.2.2.2.2.1;simp;omega))
    go_wp2_with fail
    refine (EC.out _ (GW.out.below B4.out)).mono ?_;rintro r w5 ⟨g5,cap5,rfl,ho,hb5⟩;have B5:=hid (below_step B4.out hb5);have HB5:=hid ((hb5.block _ (by simp)).trans HBX.out);have HO:=hid ho;have S5:Hid (w5.heap.size ≥ wr.heap.size+1):=hid (by have:=hb5.size;simp at this;omega);clear ho hb5;obtain ⟨L5,hL5⟩:∃ L,(encE ⟨kind,path,mode,target,size⟩)=L:=⟨_,rfl⟩;rw [hL5] at HO ⊢;have HL5:=hid hL5;clear hL5
    go_wp2_with fail
    have hL5:=HL5.out;have ST:Hid (Calls Tryz.prog 53 #[.func (.func 55) #[] #[.pointer (some ⟨wb+1,0,none⟩),.pointer (some ⟨w5.heap.size,0,none⟩)],.pointer (some ⟨wb+1+1,0,none⟩)] (w5.alloc (.cells #[.slice (some ⟨g5,0,none⟩) L5.length cap5] 30)) fun e w'=>e=.returned (.tuple #[])∧C7 W3 w' wb sb (encAll (ms.take j)++L5)∧w'.heap[wr.heap.size]?=some (.cells #[.int .i64 kind,.string path,.int .i64 mode,.string target,.int .i64 size,.slice addr data.length xcap] 56 (0,0))):=hid (by
     obtain ⟨W1,M1⟩:=WW.out;have F:=FF.out;have bA:=below_alloc (Below.refl _ w5) (.cells #[.slice (some ⟨g5,0,none⟩) L5.length cap5] 30);have bAll:Below wr.heap.size wr (w5.alloc (.cells #[.slice (some ⟨g5,0,none⟩) L5.length cap5] 30)):=below_step B5.out bA;have W6:=W1.below bAll;have M6:=M1.step bAll;have hs3:=F.2.2.2.2.1;have hw8:=F.2.2.2.1;have hsb:=F.2.2.2.2.2.2.2.1;have h8:=F.2.1;rw [hw8] at h8;have h9:=F.2.2.1;rw [hw8] at h9;have hob:=ob_ge W6;have hob1:=ob_ge W1;have hlen:=(encE_len HM.out.2.2.ent HM.out.2.2.small).1;rw [hL5] at hlen;have hal:=(encAll_len (ms.take j) (fun x hx=>HL.out.2 x (List.mem_of_mem_take hx))).1;have htk:(ms.take j).length≤40:=by simp;omega
     have h5:=S5.out;refine (step55 _ (wb+1+1) (wb+1) w5.heap.size wb sb W3.heap.size v (encAll (ms.take j)) n (some ⟨g5,0,none⟩) L5.length cap5 L5 ((M6.keep _ (by omega) (by simp;omega)).trans h8) (heap_alloc_new _ _) ((M6.keep _ (by omega) (by simp;omega)).trans h9) ⟨by omega,by omega,fun h=>by have:=hob _ h;omega⟩ W6 (HO.out.below bA).reads (by omega) HO.out.le (by
      have:(ms.take j).length * 301000≤40 * 301000:=Nat.mul_le_mul_right _ htk;omega)).mono ?_
     rintro r w6 ⟨rfl,hw6⟩;have hr3:=W1.ord.2.2;refine ⟨rfl,C7.wrote W6 M6 hw6,wrote_keep hw6 ((bA.block _ (by omega)).trans HB5.out) (by omega) (by omega) fun h=>?_⟩;have:=hob1 _ h;omega)
    refine ST.out.mono ?_;rintro r w6 ⟨rfl,h6,hbx6⟩;obtain ⟨v6,n6,W6,M6⟩:=h6;have W66:=hid (And.intro W6 (And.intro M6 hbx6));clear ST W6 M6 hbx6
    go_wp2_with fail
    have ST2:Hid (Calls Tryz.prog 53 #[.func (.func 57) #[] #[.pointer (some ⟨wb+1,0,none⟩),.pointer (some ⟨wr.heap.size,0,none⟩)],.pointer (some ⟨wb+1+1,0,none⟩)] w6 fun e w'=>e=.returned (.tuple #[])∧C7 W3 w' wb sb (encAll (ms.take (j+1)))):=hid (by
     obtain ⟨W6,M6,hbx6⟩:=W66.out;have F:=FF.out;have hs3:=F.2.2.2.2.1;have hw8:=F.2.2.2.1;have hsb:=F.2.2.2.2.2.2.2.1;have h8:=F.2.1;rw [hw8] at h8;have h9:=F.2.2.1;rw [hw8] at h9;have hob:=ob_ge W6;have hlen:=(encE_len HM.out.2.2.ent HM.out.2.2.small);rw [hL5] at hlen;obtain ⟨hal,hal2⟩:=(encAll_len (ms.take j) (fun x hx=>HL.out.2 x (List.mem_of_mem_take hx)));have htk:(ms.take j).length≤40:=by simp;omega
     have hR:=F.2.2.2.2.2.2.2.2.2.reads M6 HM.out.2.1;have hdl:=HM.out.2.2.data;dsimp only at hR hdl;have hbig:(ms.take j).length * 301000≤40 * 301000:=Nat.mul_le_mul_right _ htk;refine (step57 _ (wb+1+1) (wb+1) wr.heap.size wb sb W3.heap.size v6 (encAll (ms.take j)++L5) n6 addr data.length xcap data ((M6.keep _ (by omega) (by simp;omega)).trans h8) (cell_of hbx6 5 _ rfl) ((M6.keep _ (by omega) (by simp;omega)).trans h9) ⟨by omega,by omega,fun h=>by have:=hob _ h;omega⟩ W6 hR.1 (by omega) hR.2 (by rw [List.length_append];omega)).mono ?_;rintro r w7 ⟨rfl,hw7⟩;refine ⟨rfl,?_⟩;have h7:=C7.wrote W6 M6 hw7;have e1:ms.take (j+1)=ms.take j++[⟨⟨kind,path,mode,target,size⟩,addr,xcap,data⟩]:=by rw [List.take_add_one,HM.out.1];rfl
     rw [e1,encAll_snoc];unfold encM;dsimp only;rw [hL5,← List.append_assoc,← List.append_assoc];rw [← List.append_assoc,pad5_mod _ _ (by rw [List.length_append];omega)] at h7;exact h7)
    refine ST2.out.mono ?_;rintro r w7 ⟨rfl,h7⟩;have H7:=hid h7;clear ST2 h7
    go_wp2_with fail
    go_roundw
    case rel=>exact ⟨j+1,by omega,by go_num,H7⟩
    case measure=>simp [intOf];omega
   ·
    obtain rfl:j=l.length:=by omega
    have ST:Hid (Calls Tryz.prog 53 #[.func (.func 59) #[] #[.pointer (some ⟨wb+1,0,none⟩)],.pointer (some ⟨wb+1+1,0,none⟩)] wr fun e w'=>e=.returned (.tuple #[])∧C7 W3 w' wb sb (encAll ms++List.replicate 1024 0)∧w'.cell? ⟨wb+1+1,0,none⟩=some (.int .i64 0)):=hid (by
     have F:=FF.out;have hs3:=F.2.2.2.2.1;have hw8:=F.2.2.2.1;have hsb:=F.2.2.2.2.2.2.2.1;have h8:=F.2.1;rw [hw8] at h8;have h9:=F.2.2.1;rw [hw8] at h9;have hob:=ob_ge W1;have e1:ms.take l.length=ms:=by rw [← HL.out.1,List.take_length]
     rw [e1] at W1;obtain ⟨hal,hal2⟩:=encAll_len ms HL.out.2;have hbig:ms.length * 301000≤40 * 301000:=Nat.mul_le_mul_right _ (by rw [HL.out.1];exact hn);have h9':=(M1.keep _ (by omega) (by simp;omega)).trans h9;refine (step59 _ (wb+1+1) (wb+1) wb sb W3.heap.size v (encAll ms) n ((M1.keep _ (by omega) (by simp;omega)).trans h8) h9' ⟨by omega,by omega,fun h=>by have:=hob _ h;omega⟩ W1 (by omega)).mono ?_;rintro r w7 ⟨rfl,hw7⟩;exact ⟨rfl,C7.wrote W1 M1 hw7,cell_of_one (wrote_keep hw7 h9' (by omega) (by omega) fun h=>by have:=hob _ h;omega)⟩)
    clear W1 M1
    go_wp2_with fail
    refine ST.out.mono ?_;rintro r w7 ⟨rfl,h7,h79⟩;have H7:=hid h7;clear ST h7
    go_wp2_with fail
    go_ret;obtain ⟨z1,z2,z3,z4,z5,z6,z7⟩:=HQ.out;obtain ⟨v7,n7,W7,M7⟩:=H7.out;refine ⟨?_,.inr ⟨z1,rfl,K,S,C,z2,z3,z4,z5,W3.heap.size,v7,n7,by rw [HMS.out];exact W7.snk⟩⟩;have F:=FF.out;refine F.2.2.2.2.2.2.1.then_ M7 fun t ht=>?_;simp only [List.mem_cons,List.not_mem_nil,or_false] at ht;rcases ht with rfl | rfl
    ·refine .inr ?_;have:=HWB.out;have:=HB1.out.size;omega
    ·exact .inl (by simp)
end ZCreate
namespace ZBld
open ZStr ZGlob ZMo ZPath ZRec ZFit ZNod ZMap ZTree ZTCheck ZCount ZRow ZCanon
open ZSink (ob)
open ZCreate (C_lt)
structure Bd (w:World) (db base:Nat) (nv:Value) (N:List NV) (dm:List (ByteArray×Bool)) (fm:List (ByteArray×Int)):Prop where
 blk:w.heap[db+2]?=some (.cells #[nv,.map (some db),.map (some (db+1))] 98 (0,0))
 own:w.ownsRow base 46 6 nv N.length (rowCells N)
 dirs:MapAt w Value.string Value.bool db dm
 files:MapAt w Value.string ival (db+1) fm
 data:∀ x∈N,Reads w x∧∀ ad,x.addr=some ad→0 < x.data.length→base≤ad.block∧ad.block∉ob nv
 lo:db+3≤base∧base≤w.heap.size
section
variable {w w1:World} {db base:Nat} {nv:Value} {N:List NV} {dm:List (ByteArray×Bool)} {fm:List (ByteArray×Int)}
theorem Bd.step (h:Bd w db base nv N dm fm) (hs:w.heap.size≤w1.heap.size) (hk:∀ k,db≤k→k < w.heap.size→w1.heap[k]?=w.heap[k]?):Bd w1 db base nv N dm fm:=by have h1:=blk_lt h.blk;refine ⟨(hk _ (by omega) h1).trans h.blk,own_move h.own fun k hb=>hk k (by have:=own_base h.own k hb;have:=h.lo;omega) (own_lt h.own k hb),MapAt.of h.dirs (hk _ (by omega) h.dirs.lt),MapAt.of h.files (hk _ (by omega) h.files.lt),fun x hx=>?_,by have:=h.lo;omega⟩;obtain ⟨h2,h3⟩:=h.data x hx;refine ⟨⟨C_of h2.1 fun ad ha hn=>hk _ (by have:=(h3 ad ha hn).1;have:=h.lo;omega) (C_lt h2.1 ad ha hn),h2.2⟩,h3⟩
theorem Bd.below (h:Bd w db base nv N dm fm) (hb:Below w.heap.size w w1):Bd w1 db base nv N dm fm:=h.step hb.size fun k _ hk=>hb.block k hk
structure BOk (N:List NV) (dm:List (ByteArray×Bool)) (fm:List (ByteArray×Int)) (e:Ent):Prop where
 order:∀ x,N.getLast?=some x→lt x.path e.path=true
 parent:has dm (parentP e.path)=true
 link:e.kind=3→∃ (i:Nat) (x:NV),ZMap.get fm e.target=some (i:Int)∧N[i]?=some x∧x.mode=e.mode
end
theorem cmp81 (a b:ByteArray) (w:World):Calls Tryz.prog 81 #[.string a,.string b] w fun e w'=>e=.returned (.int .i64 (cmpV a b))∧w=w':=by
 have CC:=hid (compare_calls a b w);go_enter Tryz.func81,Tryz.ntmps81
 go_wp2_with fail
 refine CC.out.mono ?_;rintro e w' ⟨rfl,rfl⟩
 go_wp2_with fail
 go_ret;exact ⟨rfl,rfl⟩
theorem map96:Tryz.prog.underlying 96=some (.map 9 3):=Tryz.underlying96
theorem own_nil' (w:World) (base:Nat):w.ownsRow base 46 6 (.slice none 0 0) ([]:List NV).length (rowCells []):=World.ownsRow_nil _ _ _ _
theorem new_calls (w:World):Calls Tryz.prog 21 #[] w fun e w'=>e=.returned (.pointer (some ⟨w.heap.size+2,0,none⟩))∧Below w.heap.size w w'∧w'.heap.size=w.heap.size+3∧Bd w' w.heap.size (w.heap.size+3) (.slice none 0 0) [] [(⟨#[]⟩,true)] []:=by
 have hmm:=@run_makeMap Tryz.prog;have h0:=MapAt.new (kv:=(Value.string:ByteArray→Value)) (ve:=Value.bool) w;have hp:=run_put map95 skeys h0 ⟨#[]⟩ true;have hq:=MapAt.put h0 [((⟨#[]⟩:ByteArray),true)];obtain ⟨W1,hW1⟩:∃ X,(w.alloc (.map #[] 0)).putObj w.heap.size (.map (ents Value.string Value.bool 0 [((⟨#[]⟩:ByteArray),true)]).toArray [((⟨#[]⟩:ByteArray),true)].length)=X:=⟨_,rfl⟩;have hp':(Instr.mapUpdate 95 (.map (some w.heap.size)) (.string ⟨#[]⟩) (.bool true)).run Tryz.prog (w.alloc (.map #[] 0))=.ok () W1:=by rw [← hW1];exact hp
 have hs:W1.heap.size=w.heap.size+1:=by rw [← hW1,World.putObj_size];simp
 have hb:Below w.heap.size w W1:=by rw [← hW1];exact below_put (below_alloc (Below.refl _ _) _) (Nat.le_refl _) _
 rw [hW1] at hq;have HQ:=hid (And.intro hq (And.intro hs hb));clear h0 hp hq hW1 hs hb;go_enter Tryz.func21,Tryz.ntmps21
 go_wp2_with fail
 go_ret;obtain ⟨h1,h2,h3⟩:=HQ.out;rw [h2];have hs2:(W1.alloc (.map #[] 0)).heap.size=w.heap.size+1+1:=by simp [h2]
 have hb1:=below_alloc (Below.refl W1.heap.size W1) (.map #[] 0);have hb2:=below_alloc (Below.refl _ (W1.alloc (.map #[] 0))) (.cells #[.slice none 0 0,.map (some w.heap.size),.map (some (w.heap.size+1))] 98);have hb3:=below_step hb1 hb2;refine ⟨rfl,below_step h3 hb3,by simp [h2],?_,by simpa using own_nil' _ _,MapAt.of h1 (hb3.block _ (by omega)),?_,fun x hx=>absurd hx (by simp),by simp [h2]⟩
 ·rw [show w.heap.size+2=(W1.alloc (.map #[] 0)).heap.size by omega];exact heap_alloc_new _ _
 ·refine MapAt.of (w:=W1.alloc (.map #[] 0)) (b:=w.heap.size+1) ?_ (hb2.block _ (by omega));rw [← h2];exact MapAt.new W1
theorem last_at {N:List NV} {x:NV} (h:N.getLast?=some x):∃ i,N.length=i+1∧N[i]?=some x:=by
 cases N with
 | nil=>cases h
 | cons y l =>refine ⟨l.length,rfl,?_⟩;rw [List.getLast?_eq_getElem?] at h;exact h
theorem Bd.cell {w:World} {db base:Nat} {nv:Value} {N:List NV} {dm:List (ByteArray×Bool)} {fm:List (ByteArray×Int)} (h:Bd w db base nv N dm fm) {i:Nat} {x:NV} (hx:N[i]?=some x):∃ g cap,nv=.slice (some ⟨g,0,none⟩) N.length cap∧base≤g∧g < w.heap.size∧∀ (j:Nat) (v:Value),x.cells[j]?=some v→w.cell? ⟨g,i * 6+j,none⟩=some v:=by
 have hi:=(List.getElem?_eq_some_iff.1 hx).1;obtain ⟨g,cap,rfl,hg,_⟩:=World.ownsRow.form h.own (by omega);refine ⟨g,cap,rfl,hg,own_lt h.own g rfl,fun j v hv=>?_⟩;have hj:j < 6:=by
  have:=(List.getElem?_eq_some_iff.1 hv).1
  rwa [cells_len] at this
 rw [h.own.cellAt _ (by omega),rowCells_get N i j hi hj,(List.getElem?_eq_some_iff.1 hx).2];exact hv
set_option maxHeartbeats 8000000 in
theorem check_calls (w:World) (db base:Nat) (nv:Value) (N:List NV) (dm:List (ByteArray×Bool)) (fm:List (ByteArray×Int)) (h:Bd w db base nv N dm fm) (e:Ent) (he:e.Ok) (hG:Gl w) (hn:N.length≤1000000) (hfm:∀ k i,ZMap.get fm k=some i→0≤i∧i < N.length): Calls Tryz.prog 45 #[.pointer (some ⟨db+2,0,none⟩),e.val] w fun r w'=>Below w.heap.size w w'∧((r=.returned (.int .i64 0)∧BOk N dm fm e)∨(∃ c:Int,(c=12∨c=13∨c=15)∧r=.returned (.int .i64 c)∧¬ BOk N dm fm e)):=by
 obtain ⟨kind,path,mode,tgt,size⟩:=e;have B0:=hid (below_alloc (Below.refl w.heap.size w) (.cells #[.int .i64 kind,.string path,.int .i64 mode,.string tgt,.int .i64 size] 54));have X0:=hid (heap_alloc_new w (.cells #[.int .i64 kind,.string path,.int .i64 mode,.string tgt,.int .i64 size] 54));have FC:=hid (ZFit.check_calls ⟨kind,path,mode,tgt,size⟩ (w.alloc (.cells #[.int .i64 kind,.string path,.int .i64 mode,.string tgt,.int .i64 size] 54)) (hG.below B0.out));have HH:=hid (And.intro h (And.intro he (And.intro hn hfm)));clear h he hG hfm hn;unfold Ent.val Ent.cells at *;dsimp only at *;go_enter Tryz.func45,Tryz.ntmps45
 go_wp2_with fail
 refine FC.out.mono ?_;rintro r w1 ⟨x,rfl,hx,hb1⟩;obtain rfl:x=0:=hx.2 HH.out.2.1;have bx:((0:Int) != 0)=false:=rfl;have B1:=hid (below_step B0.out hb1);have X1:=hid ((hb1.block _ (by simp)).trans X0.out);have D1:=hid (HH.out.1.below B1.out);obtain ⟨q0,q1,q2⟩:w1.cell? ⟨db+2,0,none⟩=some nv∧w1.cell? ⟨db+2,1,none⟩=some (.map (some db))∧w1.cell? ⟨db+2,2,none⟩=some (.map (some (db+1))):=⟨cell_of D1.out.blk 0 _ rfl,cell_of D1.out.blk 1 _ rfl,cell_of D1.out.blk 2 _ rfl⟩;obtain ⟨e0,e1,e2,e3,e4⟩:w1.cell? ⟨w.heap.size,0,none⟩=some (.int .i64 kind)∧w1.cell? ⟨w.heap.size,1,none⟩=some (.string path)∧w1.cell? ⟨w.heap.size,2,none⟩=some (.int .i64 mode)∧w1.cell? ⟨w.heap.size,3,none⟩=some (.string tgt)∧w1.cell? ⟨w.heap.size,4,none⟩=some (.int .i64 size):=⟨cell_of X1.out 0 _ rfl,cell_of X1.out 1 _ rfl,cell_of X1.out 2 _ rfl,cell_of X1.out 3 _ rfl,cell_of X1.out 4 _ rfl⟩;obtain ⟨A,cap,hnv⟩:=ZMem.own_slice D1.out.own;subst hnv;have PARC:=hid (fun W=>parent_calls path (by have:path.size≤65536:=HH.out.2.1.path.1;omega) W);have GD:∀ q,(Instr.lookup 95 (.map (some db)) (.string (parentP path)) false).run Tryz.prog (w1.drewN q)=.ok (.bool (has dm (parentP path))) (w1.drewN q):=fun q=>by have h1:MapAt (w1.drewN q) Value.string Value.bool db dm:=D1.out.dirs;have:=run_get map95 skeys h1 (parentP path) (.bool false) (zero4 _);rw [bool_get] at this;exact this
 have HPS:=hid (show path.size≤65536 from HH.out.2.1.path.1);clear hx hb1 FC;have ORD:Hid ((N.length=0∧∀ x,N.getLast?=some x→lt x.path path=true)∨∃ i y,N.length=i+1∧N[i]?=some y∧N.getLast?=some y):=hid (by
  cases hl:N.getLast? with
  | none=>exact .inl ⟨by rw [List.getLast?_eq_none_iff.1 hl];rfl,fun x h=>by cases h⟩
  | some y =>obtain ⟨i,h1,h2⟩:=last_at hl;exact .inr ⟨i,y,h1,h2,rfl⟩)
 have PC9q:=hid (fun (a b:Nat)=>(PARC.out (w1.drewN (a+b))).mono (R':=fun e w'=>e=.returned (.string (parentP path))∧∃ n,w'=w1.drewN (a+n)) fun e w' hq=>⟨hq.1,b,hq.2.symm⟩);have GF:∀ q,(Instr.lookup 96 (.map (some (db+1))) (.string tgt) true).run Tryz.prog (w1.drewN q)=.ok (.tuple #[((ZMap.get fm tgt).map ival).getD (.int .i64 0),.bool (ZMap.get fm tgt).isSome]) (w1.drewN q):=fun q=>by have h1:MapAt (w1.drewN q) Value.string ival (db+1) fm:=D1.out.files;exact run_get_ok map96 skeys h1 tgt (.int .i64 0) (zero3 _)
 rcases ORD.out with ⟨hn0,hord⟩ | ⟨i,y,hn1,hy,hlast⟩
 ·
  have HORD:=hid hord;rw [hn0] at q0;clear hord
  go_wp2_with fail
  go_quiet (fail)
  go_wp2_with fail
  by_cases hp:has dm (parentP path)=true
  ·
   rw [hp] at GD;have HP:=hid hp;clear hp;by_cases hk3:kind=3
   ·
    have k3:(kind == 3)=true:=by rw [hk3];rfl
    have HK3:=hid hk3;clear hk3;cases hg:ZMap.get fm tgt with
    | none =>
     rw [hg] at GF;have HGET:=hid hg;clear hg
     go_quiet (exact PC9q.out _ _)
     go_wp2_with fail
     go_quiet (fail)
     go_wp2_with fail
     go_quiet (fail)
     go_wp2_with fail
     go_ret;refine ⟨by repeat (first | exact B1.out | refine pw_below_drewN ?_ _),.inr ⟨15,.inr (.inr rfl),rfl,fun hb=>?_⟩⟩;obtain ⟨i',x,h1,_⟩:=hb.link HK3.out;rw [HGET.out] at h1;cases h1
    | some i' =>obtain ⟨hi0,hi1⟩:=HH.out.2.2.2 tgt i' hg;omega
   ·
    have k3:(kind == 3)=false:=beq_eq_false_iff_ne.2 hk3;have HK3:=hid hk3;clear hk3
    go_quiet (exact PC9q.out _ _)
    go_wp2_with fail
    go_ret;refine ⟨by repeat (first | exact B1.out | refine pw_below_drewN ?_ _),.inl ⟨rfl,HORD.out,HP.out,fun h=>absurd h HK3.out⟩⟩
  ·
   have hp':has dm (parentP path)=false:=by simpa using hp
   rw [hp'] at GD;have HP:=hid hp';clear hp hp'
   go_quiet (exact PC9q.out _ _)
   go_wp2_with fail
   go_ret;refine ⟨by repeat (first | exact B1.out | refine pw_below_drewN ?_ _),.inr ⟨13,.inr (.inl rfl),rfl,fun hb=>?_⟩⟩;have h1:=hb.parent;rw [HP.out] at h1;cases h1
 ·
  obtain ⟨g,cap2,hnv2,_,_,hcy⟩:=D1.out.cell hy;simp only [Value.slice.injEq] at hnv2;obtain ⟨rfl,_,rfl⟩:=hnv2;have y1:=hcy 1 _ rfl;obtain ⟨yp,hyp⟩:∃ t,y.path=t:=⟨_,rfl⟩;rw [hyp] at y1;obtain ⟨nn,hnn⟩:∃ t,N.length=t:=⟨_,rfl⟩;rw [hnn] at q0;have hn3:(0:Int) < (nn:Int):=by omega
  have hn4:0 < nn:=by omega
  have hi:(nn:Int) - 1=(i:Int):=by omega
  have w2':IntKind.i64.wrap ((i:Int))=(i:Int):=by have:=HH.out.2.2.1;rw [IntKind.wrap_i64];omega
  have b3:(i:Int) < (nn:Int):=by omega
  have HNN:=hid hnn;have CQ:=hid (fun (b:Nat)=>(cmp81 yp path (w1.drewN b)).mono (R':=fun e w'=>e=.returned (.int .i64 (cmpV yp path))∧∃ n,w'=w1.drewN n) fun e w' hq=>⟨hq.1,b,hq.2.symm⟩);have HY:=hid (And.intro hlast (And.intro hyp hn1));clear hy hcy hlast hyp hn1 hnn;by_cases hlt:lt yp path=true
  ·
   have hv:cmpV yp path=-1:=by unfold cmpV;rw [if_pos hlt]
   rw [hv] at CQ;have HORD:Hid (∀ x,N.getLast?=some x→lt x.path path=true):=hid (fun x hx=>by rw [HY.out.1] at hx;cases hx;rw [HY.out.2.1];exact hlt)
   clear hlt hv
   go_wp2_with fail
   go_quiet (exact CQ.out _)
   go_wp2_with fail
   by_cases hp:has dm (parentP path)=true
   ·
    rw [hp] at GD;have HP:=hid hp;clear hp;by_cases hk3:kind=3
    ·
     have k3:(kind == 3)=true:=by rw [hk3];rfl
     have HK3:=hid hk3;clear hk3;cases hg:ZMap.get fm tgt with
     | none =>
      rw [hg] at GF;have HGET:=hid hg;clear hg
      go_quiet (exact PC9q.out _ _)
      go_wp2_with fail
      go_quiet (fail)
      go_wp2_with fail
      go_quiet (fail)
      go_wp2_with fail
      go_ret;refine ⟨by repeat (first | exact B1.out | refine pw_below_drewN ?_ _),.inr ⟨15,.inr (.inr rfl),rfl,fun hb=>?_⟩⟩;obtain ⟨i',x,h1,_⟩:=hb.link HK3.out;rw [HGET.out] at h1;cases h1
     | some i' =>
      obtain ⟨hi0,hi1⟩:=HH.out.2.2.2 tgt i' hg;obtain ⟨q,rfl⟩:∃ q:Nat,i'=q:=⟨i'.toNat,by omega⟩;obtain ⟨z,hz⟩:∃ z,N[q]?=some z:=⟨_,List.getElem?_eq_getElem (by omega)⟩;obtain ⟨g',cap',hnv',_,_,hcz⟩:=D1.out.cell hz;simp only [Value.slice.injEq,Option.some.injEq] at hnv';obtain ⟨hg1,_,_⟩:=hnv';obtain rfl:g'=g:=by simpa using hg1.symm
      have m0:=hcz 2 _ rfl;have hql:(q:Int) < (nn:Int):=by have:=HNN.out;omega
      rw [hg] at GF;have HGET:=hid (And.intro hg hz);clear hg hz hcz hi0 hi1 hg1;obtain ⟨zm,hzm⟩:∃ t,z.mode=t:=⟨_,rfl⟩;rw [hzm] at m0;have HZM:=hid hzm;clear hzm;by_cases hmm:zm=mode
      ·
       have bm:(zm != mode)=false:=by rw [hmm];simp
       have HMM:=hid hmm;clear hmm
       go_quiet (exact PC9q.out _ _)
       go_wp2_with fail
       go_quiet (fail)
       go_wp2_with fail
       go_quiet (fail)
       go_wp2_with fail
       go_ret;refine ⟨by repeat (first | exact B1.out | refine pw_below_drewN ?_ _),.inl ⟨rfl,HORD.out,HP.out,fun _=>⟨q,z,HGET.out.1,HGET.out.2,HZM.out.trans HMM.out⟩⟩⟩
      ·
       have bm:(zm != mode)=true:=by rw [bne_iff_ne];exact hmm
       have HMM:=hid hmm;clear hmm
       go_quiet (exact PC9q.out _ _)
       go_wp2_with fail
       go_quiet (fail)
       go_wp2_with fail
       go_quiet (fail)
       go_wp2_with fail
       go_ret;refine ⟨by repeat (first | exact B1.out | refine pw_below_drewN ?_ _),.inr ⟨15,.inr (.inr rfl),rfl,fun hb=>?_⟩⟩;obtain ⟨i2,x,h1,h2,h3⟩:=hb.link HK3.out;rw [HGET.out.1] at h1;have e1:i2=q:=by have:=Option.some.inj h1;omega
       rw [e1,HGET.out.2] at h2;cases h2;exact HMM.out (HZM.out.symm.trans h3)
    ·
     have k3:(kind == 3)=false:=beq_eq_false_iff_ne.2 hk3;have HK3:=hid hk3;clear hk3
     go_quiet (exact PC9q.out _ _)
     go_wp2_with fail
     go_ret;refine ⟨by repeat (first | exact B1.out | refine pw_below_drewN ?_ _),.inl ⟨rfl,HORD.out,HP.out,fun h=>absurd h HK3.out⟩⟩
   ·
    have hp':has dm (parentP path)=false:=by simpa using hp
    rw [hp'] at GD;have HP:=hid hp';clear hp hp'
    go_quiet (exact PC9q.out _ _)
    go_wp2_with fail
    go_ret;refine ⟨by repeat (first | exact B1.out | refine pw_below_drewN ?_ _),.inr ⟨13,.inr (.inl rfl),rfl,fun hb=>?_⟩⟩;have h1:=hb.parent;rw [HP.out] at h1;cases h1
  ·
   have hv:∃ v:Int,cmpV yp path=v∧0≤v:=by
    unfold cmpV;rw [if_neg hlt];split
    ·exact ⟨1,rfl,by decide⟩
    ·exact ⟨0,rfl,by decide⟩
   obtain ⟨v,hv1,hv2⟩:=hv;rw [hv1] at CQ;have HNO:Hid (¬ lt yp path=true):=hid hlt;clear hlt hv1
   go_wp2_with fail
   go_quiet (exact CQ.out _)
   go_wp2_with fail
   go_ret;refine ⟨by repeat (first | exact B1.out | refine pw_below_drewN ?_ _),.inr ⟨12,.inl rfl,rfl,fun hb=>?_⟩⟩;refine HNO.out ?_;have:=hb.order y HY.out.1
   rwa [HY.out.2.1] at this
end ZBld
namespace ZEncode
open ZGlob ZMo ZPath ZFit ZNod ZMap ZTree ZTCheck ZCount ZCanon ZMem ZSink ZStep ZEntry ZCreate
open ZStr (lt)
def arc (C:List NV):List Int:=encAll (memS C).2++List.replicate 1024 0
def Canonical (l C:List NV):Prop:=∃ K S,K.map strip=l.map strip∧S.Perm K∧S.Pairwise (fun x y=>lt y.path x.path=false)∧C=renum (num (countsOf (l.map (·.cls)))) S
theorem Canonical.len {l C:List NV} (h:Canonical l C):C.length=l.length:=by obtain ⟨K,S,h1,h2,_,h4⟩:=h;have e1:=congrArg List.length h1;have e2:=h2.length_eq;simp only [List.length_map] at e1;rw [h4];simp [renum,e2,e1]
theorem arc_len {l C:List NV} (h:Canonical l C) (hT:TreeOk l) (hd:∀ x∈l,x.data.length≤100000) (hn:l.length≤40):1024≤(arc C).length∧(arc C).length≤13000000:=by have hl:=h.len;obtain ⟨K,S,h1,h2,_,h4⟩:=h;have hm:=memS_ok C (by rw [h4];exact canon_ok h1 h2 hT hd);have ha:=(encAll_len _ hm.1).1;have hb:(memS C).2.length * 301000≤40 * 301000:=Nat.mul_le_mul_right _ (by omega);unfold arc;rw [List.length_append,List.length_replicate];omega
set_option maxHeartbeats 4000000 in
theorem encode_calls (A:Option Addr) (cap:Nat) (l:List NV) (hn:l.length≤40) (hd:∀ x∈l,x.data.length≤100000) (hp:∀ x∈l,x.path.size≤1000000) (w:World) (hG:Gl w) (h20:20≤w.heap.size) (hl:NodesAt w A l) (hc:l.length≤cap): Calls Tryz.prog 12 #[.slice A l.length cap] w fun r w'=>Below w.heap.size w w' ∧ ((∃ e:Int,r=.returned (.tuple #[.slice none 0 0,.int .i64 e])∧e≠0∧¬ TreeOk l) ∨ (TreeOk l∧∃ C,Canonical l C∧∃ g cap',r=.returned (.tuple #[.slice (some ⟨g,0,none⟩) (arc C).length cap',.int .i64 0])∧ZBase.Own w' w.heap.size g cap' (arc C).length (arc C))):=by
 have NC:=hid (new_calls w);have CR:=hid (fun w1 sb (hg:Gl w1) (hl:NodesAt w1 A l) h1 h2=>create_calls A cap l hn hd hp w1 hg hl hc sb h1 h2);have HN:=hid hl;have HG:=hid hG;have H20:=hid (And.intro h20 (And.intro hd hn));clear hl hG h20 hd hn;go_enter Tryz.func12,Tryz.ntmps12
 go_wp2_with fail
 refine NC.out.mono ?_;rintro r w1 ⟨sb,rfl,hsb,hsn,hb1⟩;have HB:=hid (And.intro hsb (And.intro hsn hb1));clear hsb hsn hb1
 go_wp2_with fail
 refine (CR.out w1 sb (HG.out.below HB.out.2.2) (HN.out.below HB.out.2.2) HB.out.2.1.blk (by have:=HB.out.1;have:=H20.out.1;omega)).mono ?_;rintro r w2 ⟨hm,hr⟩;have B2:Hid (Below w.heap.size w w2):=hid (HB.out.2.2.trans (hm.below HB.out.2.2.size (by simpa using HB.out.1)));clear hm;rcases hr with ⟨e,rfl,he,ht⟩ | ⟨hT,rfl,K,S,C,q1,q2,q3,q4,B,v,n,hs⟩
 ·
  have be:(e != 0)=true:=by rw [bne_iff_ne];exact he
  have HE:=hid (And.intro he ht);clear he ht
  go_wp2_with fail
  go_ret2
  exact ⟨B2.out,.inl ⟨e,rfl,HE.out.1,HE.out.2⟩⟩
 ·
  have be:((0:Int) != 0)=false:=rfl;have HC:=hid (show Canonical l C from ⟨K,S,q1,q2,q3,q4⟩);have AL:=hid (arc_len HC.out hT H20.out.2.1 H20.out.2.2);have BC:=hid (bytes_calls w2 sb B v (arc C) n hs (by have:=AL.out;omega) (by have:=AL.out;omega));have HT:=hid hT;clear hT q1 q2 q3 q4 hs
  go_wp2_with fail
  refine BC.out.mono ?_;rintro r w3 ⟨g,cap',rfl,ho,hb3⟩;have HO:=hid (And.intro ho hb3);clear ho hb3
  go_wp2_with fail
  go_ret2
  exact ⟨B2.out.trans (HO.out.2.mono B2.out.size),.inr ⟨HT.out,C,HC.out,g,cap',rfl,HO.out.1.lower B2.out.size⟩⟩
end ZEncode
namespace ZEqual
open ZNod ZTree ZRow ZCanon ZEncode ZSame
theorem nodes_of {w:World} {g:Nat} {C:List NV} (h:Row w g C) (hc:∀ y∈C,Cl w g y):NodesAt w (some ⟨g,0,none⟩) C :=
 ⟨fun _=>⟨g,0,rfl,h.lt,fun i x hi j v hv=>by rw [Nat.zero_add];exact row_cellD h i j x v hi hv⟩,fun y hy=>(hc y hy).reads⟩
set_option maxHeartbeats 4000000 in
theorem equal_calls (A A2:Option Addr) (c cb:Nat) (l l2:List NV) (hn:l.length≤40) (hn2:l2.length≤40) (hd:∀ x∈l,x.data.length≤1000000) (hd2:∀ x∈l2,x.data.length≤1000000) (hl:l2.length=l.length) (ha:∀ C C2,Canonical l C→Canonical l2 C2→∀ (i:Nat) (x y:NV),C[i]?=some x→C2[i]?=some y→ZSame.Alike x y) (w:World) (h1:NodesAt w A l) (h2:NodesAt w A2 l2) (hc:l.length≤c) (hc2:l2.length≤cb): Calls Tryz.prog 15 #[.slice A l.length c,.slice A2 l2.length cb] w fun e w'=>e=.returned (.bool true)∧Below w.heap.size w w':=by
 have C1:=hid (canon_calls A c l hn hd w h1 hc);have H2:=hid h2;have HA:=hid (And.intro ha hl);clear h1 h2 ha;rw [hl] at hn2 hc2 ⊢;go_enter Tryz.func15,Tryz.ntmps15
 go_wp2_with fail
 refine C1.out.mono ?_;rintro r w1 ⟨g,K,S,rfl,q1,q2,q3,q4,q5,q6,q7⟩;have HC1:=hid (show Canonical l _ from ⟨K,S,q1,q2,q3,rfl⟩);have R1:=hid (And.intro q4 (nodes_of q6 q7));clear q1 q2 q3 q4 q5 q6 q7;have C2:=hid (hl ▸ canon_calls A2 cb l2 (by omega) hd2 w1 (H2.out.below R1.out.1) (by omega):Calls Tryz.prog 16 #[.slice A2 l.length cb] w1 _)
 go_wp2_with fail
 refine C2.out.mono ?_;rintro r w2 ⟨g2,K2,S2,rfl,q1,q2,q3,q4,q5,q6,q7⟩;have HC2:=hid (show Canonical l2 _ from ⟨K2,S2,q1,q2,q3,rfl⟩);have R2:=hid (And.intro q4 (nodes_of q6 q7));clear q1 q2 q3 q4 q5 q6 q7;have e1:=HC1.out.len;have e2:=HC2.out.len;have EF:=equalFunc_calls (some ⟨g,0,none⟩) (some ⟨g2,0,none⟩) l.length l.length _ _ (by rw [e1,e2,HA.out.2]) (by omega) (HA.out.1 _ _ HC1.out HC2.out) w2 (R1.out.2.below R2.out.1) R2.out.2 (by omega) (by omega);rw [e1] at EF;have EFF:=hid EF;clear EF e1 e2
 go_wp2_with fail
 refine EFF.out.mono ?_;rintro r w3 ⟨rfl,hb⟩;have B3:=hid (below_step (below_step R1.out.1 R2.out.1) hb);clear hb
 go_wp2_with fail
 go_ret;exact ⟨rfl,B3.out⟩
end ZEqual
end
end Go.Proofs.YteikiojmcipkmaaGreatDoor
