/- Parts of the proof, gathered by a program: what calls of the functions answer, and what follows in plain lists. Conditions: those that each theorem states. -/
import Derived.Test.YteikiojmcipkmaaGreatDoorMR11
import Derived.Test.YteikiojmcipkmaaGreatDoorMR12
import Derived.Test.YteikiojmcipkmaaGreatDoorMR16
set_option linter.unusedVariables false
set_option linter.unusedSimpArgs false
namespace Go.Proofs.YteikiojmcipkmaaGreatDoor
open Go.Lib (hid)
open Go.RowKit YteikiojmcipkmaaGreatDoorW.PrintWords YteikiojmcipkmaaGreatDoorW.PrintLast YteikiojmcipkmaaGreatDoorW.PrintMore Oct ZBase ZGlob ZMo ZPath ZRec ZFit ZMap ZCheck
set_option maxRecDepth 100000
section
namespace ZPlan
def typOf (kind:Int):Int:=if kind=0 then 53 else if kind=1 then 48 else if kind=2 then 50 else 49
def planH (e:Ent):Hdr:={ typ:=typOf e.kind,name:=(splitP e.path).2.1,pre:=(splitP e.path).1,link:=if e.target.size≤100 then e.target else ⟨#[]⟩,mode:=e.mode,size:=if e.size≤8589934591 then e.size else 0 }
def planR (e:Ent):List Rec:=(if e.target.size≤100 then [] else [⟨sLink,e.target⟩])++(if (splitP e.path).2.2=true then [] else [⟨sPath,e.path⟩])++(if e.size≤8589934591 then [] else [⟨sSize,⟨(Lib.itoa e.size).toArray⟩⟩])
def recKd:Kd Rec:=Kd.iso (Kd.pair Kd.string Kd.string) (fun r=>(r.key,r.val))
def RecRow (w:World) (base:Nat) (v:Value) (l:List Rec):Prop:=recKd.R 125 w base (fun _=>True) v l
theorem RecRow.upto {w w1:World} {base:Nat} {v:Value} {l:List Rec} (h:RecRow w base v l) (hk:∀ k,base≤k→k < w.heap.size→w1.heap[k]?=w.heap[k]?):RecRow w1 base v l :=
 Kd.R_mono (Kd.R_move (Kd.R_bound h) (fun k hk'=>hk k hk'.2.1 hk'.2.2.1)) (fun _ _=>trivial)
theorem RecRow.lower {w:World} {base b:Nat} {v:Value} {l:List Rec} (h:RecRow w base v l) (hb:b≤base):RecRow w b v l:=Kd.R_lower h hb
def StrRow (w:World) (g:Nat) (ks:List ByteArray):Prop:=∃ cs t fr,w.heap[g]?=some (.cells cs t fr)∧∀ (i:Nat) (s:ByteArray),ks[i]?=some s→cs[i]?=some (Value.string s)
theorem StrRow.of {w w1:World} {g:Nat} {ks:List ByteArray} (h:StrRow w g ks) (hb:w1.heap[g]?=w.heap[g]?):StrRow w1 g ks:=by obtain ⟨cs,t,fr,h1,h2⟩:=h;exact ⟨cs,t,fr,hb.trans h1,h2⟩
theorem StrRow.lt {w:World} {g:Nat} {ks:List ByteArray} (h:StrRow w g ks):g < w.heap.size:=by obtain ⟨cs,t,fr,h1,h2⟩:=h;exact blk_lt h1
theorem StrRow.cell {w:World} {g:Nat} {ks:List ByteArray} (h:StrRow w g ks) (i:Nat) (s:ByteArray) (hs:ks[i]?=some s):w.cell? ⟨g,i,none⟩=some (.string s):=by obtain ⟨cs,t,fr,h1,h2⟩:=h;simp [World.cell?,h1,h2 i s hs]
set_option maxHeartbeats 1000000 in
theorem keys_calls (w:World) (hG:Gl w):Calls Tryz.prog 129 #[] w fun r w'=>∃ g cap,r=.returned (.slice (some ⟨g,0,none⟩) 3 cap)∧w.heap.size≤g∧StrRow w' g [sLink,sPath,sSize]∧Below w.heap.size w w':=by
 have C:=hid (Tryz.slices_Clone_string 13 0 3 3 [sLink,sPath,sSize] w (by decide) (by decide) (fun j hj=>by
  have hj:j < 3:=hj;rw [Nat.zero_add];refine VarIs.cell hG.keys j _ ?_;obtain rfl | rfl | rfl:j=0∨j=1∨j=2:=by omega
  ·rfl
  ·rfl
  ·rfl))
 clear hG;go_enter Tryz.func129,Tryz.ntmps129
 go_wp2_with fail
 refine C.out.mono ?_;rintro r w1 ⟨v,rfl,ho,hne,hb⟩;obtain ⟨g,cap,rfl,h1,h2⟩:=World.ownsRow.form ho (by decide);have T:=hid (And.intro ho (And.intro h1 hb));clear ho hb hne h1 h2
 go_wp2_with fail
 go_ret;refine ⟨g,cap,rfl,T.out.2.1,?_,T.out.2.2⟩;obtain ⟨hl,hn | ⟨g',cap',cur,e,h3,h4,h5,h6,h7,h8⟩⟩:=T.out.1
 ·cases hn.1
 ·
  cases e;refine ⟨cur,9,_,h4,fun i s hs=>?_⟩;have h9:i < 3:=(List.getElem?_eq_some_iff.1 hs).1;have:=congrArg (fun l=>l[i]?) h8;simp only [Nat.mul_one] at this;rw [List.getElem?_take_of_lt h9] at this;rw [← Array.getElem?_toList,this];obtain rfl | rfl | rfl:i=0∨i=1∨i=2:=by omega
  ·cases hs;rfl
  ·cases hs;rfl
  ·cases hs;rfl
structure Ps (w W:World) (e:Ent) (hb mb:Nat) (h:Hdr) (m:List (ByteArray×ByteArray)):Prop where
 bel:Below w.heap.size w W
 box:W.heap[w.heap.size]?=some (.cells #[.int .i64 e.kind,.string e.path,.int .i64 e.mode,.string e.target,.int .i64 e.size] 54 (0,0))
 res:W.heap[w.heap.size+1]?=some (.cells #[.int .u8 0,.string ⟨#[]⟩,.string ⟨#[]⟩,.string ⟨#[]⟩,.int .i64 0,.int .i64 0] 138 (0,0))
 hdr:W.heap[hb]?=some (.cells #[.int .u8 h.typ,.string h.name,.string h.pre,.string h.link,.int .i64 h.mode,.int .i64 h.size] 138 (0,0))
 mp:MapAt W Value.string Value.string mb m
 lt:w.heap.size+1 < hb
 lt2:hb < mb
section
variable {w W W1:World} {e:Ent} {hb mb:Nat} {h:Hdr} {m:List (ByteArray×ByteArray)}
theorem Ps.step (p:Ps w W e hb mb h m) (hbl:Below W.heap.size W W1):Ps w W1 e hb mb h m :=
 ⟨below_step p.bel hbl,(hbl.block _ (blk_lt p.box)).trans p.box,(hbl.block _ (blk_lt p.res)).trans p.res,(hbl.block _ (blk_lt p.hdr)).trans p.hdr,MapAt.of p.mp (hbl.block _ p.mp.lt),p.lt,p.lt2⟩
theorem Ps.set (p:Ps w W e hb mb h m) (i:Nat) (v:Value) (h':Hdr) (hv:(#[.int .u8 h.typ,.string h.name,.string h.pre,.string h.link,.int .i64 h.mode,.int .i64 h.size]:Array Value).setIfInBounds i v=#[.int .u8 h'.typ,.string h'.name,.string h'.pre,.string h'.link,.int .i64 h'.mode,.int .i64 h'.size]):Ps w (W.setCell ⟨hb,i,none⟩ v) e hb mb h' m:=by
 have l1:=p.lt;have l2:=p.lt2;refine ⟨p.bel.setCell (p:=⟨hb,i,none⟩) (by show w.heap.size≤hb;omega) v,?_,?_,?_,?_,p.lt,p.lt2⟩
 ·rw [Below.heap_setCell _ _ _ _ (by show w.heap.size≠hb;omega)];exact p.box
 ·rw [Below.heap_setCell _ _ _ _ (by show w.heap.size+1≠hb;omega)];exact p.res
 ·rw [heap_setCell_same W hb i _ _ v p.hdr,hv]
 ·exact MapAt.of p.mp (Below.heap_setCell _ _ _ _ (by show mb≠hb;omega))
theorem Ps.put (p:Ps w W e hb mb h m) (l2:List (ByteArray×ByteArray)):Ps w (W.putObj mb (.map (ents Value.string Value.string 0 l2).toArray l2.length)) e hb mb h l2:=by
 have l1:=p.lt;have l2':=p.lt2;refine ⟨below_put p.bel (by omega) _,?_,?_,?_,MapAt.put p.mp l2,p.lt,p.lt2⟩
 ·rw [World.putObj_heap_other (by omega)];exact p.box
 ·rw [World.putObj_heap_other (by omega)];exact p.res
 ·rw [World.putObj_heap_other (by omega)];exact p.hdr
theorem Ps.cells (p:Ps w W e hb mb h m):W.cell? ⟨w.heap.size,1,none⟩=some (.string e.path)∧W.cell? ⟨w.heap.size,3,none⟩=some (.string e.target)∧W.cell? ⟨w.heap.size,4,none⟩=some (.int .i64 e.size):=by simp [World.cell?,p.box]
theorem Ps.hcells (p:Ps w W e hb mb h m):W.cell? ⟨hb,0,none⟩=some (.int .u8 h.typ)∧W.cell? ⟨hb,1,none⟩=some (.string h.name)∧W.cell? ⟨hb,2,none⟩=some (.string h.pre)∧W.cell? ⟨hb,3,none⟩=some (.string h.link)∧W.cell? ⟨hb,4,none⟩=some (.int .i64 h.mode)∧W.cell? ⟨hb,5,none⟩=some (.int .i64 h.size):=by simp [World.cell?,p.hdr]
theorem Ps.free (p:Ps w W e hb mb h m):W.frozen? ⟨hb,0,none⟩=false∧W.frozen? ⟨hb,1,none⟩=false∧W.frozen? ⟨hb,2,none⟩=false∧W.frozen? ⟨hb,3,none⟩=false∧W.frozen? ⟨hb,4,none⟩=false∧W.frozen? ⟨hb,5,none⟩=false:=by simp [World.frozen?,p.hdr]
end
theorem zero9 (w:World):(zeroValue 9).run Tryz.prog w=.ok (.string ⟨#[]⟩) w:=by kernel_rfl
theorem map200:Tryz.prog.underlying 200=some (.map 9 9):=Tryz.underlying200
theorem skeys:Keys Tryz.prog 9 .string (Value.string:ByteArray→Value):=string_keys Tryz.underlying9
def upR (m:List (ByteArray×ByteArray)) (j:Nat):List Rec:=([sLink,sPath,sSize].take j).filterMap fun k=>(get m k).map fun v=>⟨k,v⟩
theorem upR_succ {m:List (ByteArray×ByteArray)} {j:Nat} {key:ByteArray} (h:[sLink,sPath,sSize][j]?=some key):upR m (j+1)=upR m j++(match get m key with | some v=>[⟨key,v⟩] | none=>[]):=by unfold upR;rw [List.take_add_one,h,List.filterMap_append];congr 1;simp only [Option.toList,List.filterMap_cons,List.filterMap_nil];cases get m key <;> rfl
theorem upR_len (m:List (ByteArray×ByteArray)) (j:Nat):(upR m j).length≤3:=by unfold upR;refine Nat.le_trans (List.length_filterMap_le _ _) ?_;rw [List.length_take];simp;omega
theorem Ps.keepB {w W W1:World} {e:Ent} {hb mb B:Nat} {h:Hdr} {m:List (ByteArray×ByteArray)} (p:Ps w W e hb mb h m) (hbB:mb < B) (hbl:Below B W W1):Ps w W1 e hb mb h m:=by have l1:=p.lt;have l2:=p.lt2;exact ⟨p.bel.trans (hbl.mono (by omega)),(hbl.block _ (by omega)).trans p.box,(hbl.block _ (by omega)).trans p.res,(hbl.block _ (by omega)).trans p.hdr,MapAt.of p.mp (hbl.block _ (by omega)),p.lt,p.lt2⟩
theorem Ps.rcells {w W:World} {e:Ent} {hb mb:Nat} {h:Hdr} {m:List (ByteArray×ByteArray)} (p:Ps w W e hb mb h m):W.cell? ⟨w.heap.size+1,0,none⟩=some (.int .u8 0)∧W.cell? ⟨w.heap.size+1,1,none⟩=some (.string ⟨#[]⟩)∧W.cell? ⟨w.heap.size+1,2,none⟩=some (.string ⟨#[]⟩)∧W.cell? ⟨w.heap.size+1,3,none⟩=some (.string ⟨#[]⟩)∧W.cell? ⟨w.heap.size+1,4,none⟩=some (.int .i64 0)∧W.cell? ⟨w.heap.size+1,5,none⟩=some (.int .i64 0):=by simp [World.cell?,p.res]
theorem Ps.rfree {w W:World} {e:Ent} {hb mb:Nat} {h:Hdr} {m:List (ByteArray×ByteArray)} (p:Ps w W e hb mb h m):W.frozen? ⟨w.heap.size+1,0,none⟩=false∧W.frozen? ⟨w.heap.size+1,1,none⟩=false∧W.frozen? ⟨w.heap.size+1,2,none⟩=false∧W.frozen? ⟨w.heap.size+1,3,none⟩=false∧W.frozen? ⟨w.heap.size+1,4,none⟩=false∧W.frozen? ⟨w.heap.size+1,5,none⟩=false:=by simp [World.frozen?,p.res]
structure Lp (w w8 wr:World) (e:Ent) (hb mb:Nat) (h:Hdr) (m:List (ByteArray×ByteArray)) (g:Nat) (v:Value) (j:Nat):Prop where
 ps:Ps w wr e hb mb h m
 keys:StrRow wr g [sLink,sPath,sSize]
 bel8:Below w8.heap.size w8 wr
 mlt:mb < w8.heap.size
 glt:g < w8.heap.size
 row:RecRow wr w8.heap.size v (upR m j)
theorem Lp.skip {w w8 wr:World} {e:Ent} {hb mb:Nat} {h:Hdr} {m:List (ByteArray×ByteArray)} {g:Nat} {v:Value} {j:Nat} {key:ByteArray} (p:Lp w w8 wr e hb mb h m g v j) (hk:[sLink,sPath,sSize][j]?=some key) (hg:get m key=none):Lp w w8 wr e hb mb h m g v (j+1) :=
 ⟨p.ps,p.keys,p.bel8,p.mlt,p.glt,by rw [upR_succ hk,hg,List.append_nil];exact p.row⟩
theorem Lp.app {w w8 wr w9:World} {e:Ent} {hb mb:Nat} {h:Hdr} {m:List (ByteArray×ByteArray)} {g:Nat} {v v1:Value} {j:Nat} {key x:ByteArray} (p:Lp w w8 wr e hb mb h m g v j) (hk:[sLink,sPath,sSize][j]?=some key) (hg:get m key=some x) (hr:RecRow w9 w8.heap.size v1 (upR m j++[⟨key,x⟩])) (hb9:Below w8.heap.size wr w9):Lp w w8 w9 e hb mb h m g v1 (j+1) :=
 ⟨p.ps.keepB p.mlt hb9,p.keys.of (hb9.block _ p.glt),p.bel8.trans hb9,p.mlt,p.glt,by rw [upR_succ hk,hg];exact hr⟩
theorem Lp.len {w w8 wr:World} {e:Ent} {hb mb:Nat} {h:Hdr} {m:List (ByteArray×ByteArray)} {g:Nat} {v:Value} {j:Nat} (_:Lp w w8 wr e hb mb h m g v j):((upR m j).length+1) * 32≤140737488355328:=by have:=upR_len m j;omega
theorem info125:(Tryz.prog.info? 125).map (fun i=>(i.zero,i.size,i.bytes))=some (some (.agg #[.string ⟨#[]⟩,.string ⟨#[]⟩]),2,32):=by kernel_rfl
theorem lp_ne:¬ sLink=sPath:=fun h=>by have:=congrArg (fun x:ByteArray=>x.data.size) h;cases this
theorem ls_ne:¬ sLink=sSize:=fun h=>by have:=congrArg (fun x:ByteArray=>x.data.size) h;cases this
theorem ps_ne:¬ sPath=sSize:=fun h=>by have:=congrArg (fun x:ByteArray=>x.data[0]!) h;cases this
theorem plan_h {kind mode size:Int} {path target pre name lk:ByteArray} {ok:Bool} (h1:splitP path=(pre,name,ok)) (h2:lk=if target.size≤100 then target else ⟨#[]⟩) (hs:size≤8589934591):planH ⟨kind,path,mode,target,size⟩=⟨typOf kind,name,pre,lk,mode,size⟩:=by simp [planH,h1,h2,hs]
theorem plan_r {kind mode size:Int} {path target pre name:ByteArray} {ok:Bool} {m m6:List (ByteArray×ByteArray)} (h1:splitP path=(pre,name,ok)) (h2:m=if target.size≤100 then [] else [(sLink,target)]) (h3:m6=if ok=true then m else ZMap.put m sPath path) (hs:size≤8589934591):planR ⟨kind,path,mode,target,size⟩=upR m6 3:=by
 have n1:=lp_ne;have n2:=ls_ne;have n3:=ps_ne;have n4:¬ sPath=sLink:=fun h=>n1 h.symm;have n5:¬ sSize=sLink:=fun h=>n2 h.symm;have n6:¬ sSize=sPath:=fun h=>n3 h.symm;subst h2 h3;by_cases ht:target.size≤100
 ·
  cases ok with
  | true=>simp [planR,upR,h1,ht,hs,ZMap.get,ZMap.put]
  | false=>simp [planR,upR,h1,ht,hs,ZMap.get,ZMap.put,List.filterMap_cons,n1,n6]
 ·
  cases ok with
  | true=>simp [planR,upR,h1,ht,hs,ZMap.get,ZMap.put,n4,n5]
  | false=>simp [planR,upR,h1,ht,hs,ZMap.get,ZMap.put,n1,n4,n5,n6]
set_option maxHeartbeats 4000000 in
theorem plan_calls (e:Ent) (hs:e.size≤8589934591) (he:e.Ok) (w:World) (hG:Gl w):Calls Tryz.prog 91 #[e.val] w fun r w'=>∃ v,r=.returned (.tuple #[(planH e).val,v,.int .i64 0])∧RecRow w' w.heap.size v (planR e)∧Below w.heap.size w w':=by
 have HE:=hid he;have hk:=he.kind;obtain ⟨kind,path,mode,target,size⟩:=e;dsimp only at hs hk;have CC:=hid (fun W hW=>check_calls ⟨kind,path,mode,target,size⟩ W hW);have SC:=hid (fun W=>split_calls path he.path.1 W);have KC:=hid keys_calls;have q0:=hid ((below_alloc (Below.refl w.heap.size w) (.cells #[.int .i64 kind,.string path,.int .i64 mode,.string target,.int .i64 size] 54)).trans ((below_alloc (Below.refl _ (w.alloc (.cells #[.int .i64 kind,.string path,.int .i64 mode,.string target,.int .i64 size] 54))) (.cells #[.int .u8 0,.string ⟨#[]⟩,.string ⟨#[]⟩,.string ⟨#[]⟩,.int .i64 0,.int .i64 0] 138)).mono (by simp)));have G0:=hid (hG.below q0.out);unfold Ent.val Ent.cells at *;dsimp only at *;have hsz1:¬ (8589934591:Int) < size:=by omega
 have HG:=hid hG;clear hG he;go_enter Tryz.func91,Tryz.ntmps91
 go_wp2_with fail
 refine (CC.out _ G0.out).mono ?_;rintro r w1 ⟨x,rfl,hx,hb⟩;have hx0:=hx.2 HE.out;subst hx0;have bx:((0:Int) != 0)=false:=rfl;have B1:=hid (below_step q0.out hb);have G1:=G0.out.below hb;clear hx;have c6:w1.cell? ⟨6,kind.toNat,none⟩=some (.int .u8 (typOf kind)):=VarIs.cell G1.types _ _ (by
  obtain rfl | rfl | rfl | rfl:kind=0∨kind=1∨kind=2∨kind=3:=by omega
  ·rfl
  ·rfl
  ·rfl
  ·rfl)
 have k0:0≤kind:=hk.1;have k4:kind < 4:=by omega
 have H1:Hid (w1.heap[w.heap.size]?=some (.cells #[.int .i64 kind,.string path,.int .i64 mode,.string target,.int .i64 size] 54 (0,0))):=hid ((hb.block _ (by simp;omega)).trans (heap_alloc2_old _ _ _));have R1:Hid (w1.heap[w.heap.size+1]?=some (.cells #[.int .u8 0,.string ⟨#[]⟩,.string ⟨#[]⟩,.string ⟨#[]⟩,.int .i64 0,.int .i64 0] 138 (0,0))):=hid ((hb.block _ (by simp)).trans (heap_alloc2_new _ _ _));obtain ⟨c0,c1,c2,c3,c4⟩:=box_cells H1.out;have G2:=hid G1;have l1:=blk_lt H1.out;have d6:=(World.cell?_alloc_lt w1 (.cells #[.int .u8 0,.string ⟨#[]⟩,.string ⟨#[]⟩,.string ⟨#[]⟩,.int .i64 0,.int .i64 0] 138) ⟨6,kind.toNat,none⟩ (VarIs.lt G1.types)).trans c6;have d0:=(World.cell?_alloc_lt w1 (.cells #[.int .u8 0,.string ⟨#[]⟩,.string ⟨#[]⟩,.string ⟨#[]⟩,.int .i64 0,.int .i64 0] 138) ⟨w.heap.size,0,none⟩ l1).trans c0;have d2:=(World.cell?_alloc_lt w1 (.cells #[.int .u8 0,.string ⟨#[]⟩,.string ⟨#[]⟩,.string ⟨#[]⟩,.int .i64 0,.int .i64 0] 138) ⟨w.heap.size,2,none⟩ l1).trans c2;clear G1 hb l1
 go_wp2_with fail
 go_region
 have T2:=hid (And.intro B1.out (And.intro H1.out R1.out));have l1:Hid (w.heap.size+1 < w1.heap.size):=hid (blk_lt R1.out);obtain ⟨W2,hW2⟩:∃ X,((w1.alloc (.cells #[.int .u8 (typOf kind),.string ⟨#[]⟩,.string ⟨#[]⟩,.string ⟨#[]⟩,.int .i64 mode,.int .i64 0] 138)).drew)=X:=⟨_,rfl⟩;have P3:Hid (Ps w (W2.alloc (.map #[] 0)) ⟨kind,path,mode,target,size⟩ w1.heap.size W2.heap.size ⟨typOf kind,⟨#[]⟩,⟨#[]⟩,⟨#[]⟩,mode,0⟩ []):=hid (by
  subst hW2;have b2:Below w1.heap.size w1 (w1.alloc (.cells #[.int .u8 (typOf kind),.string ⟨#[]⟩,.string ⟨#[]⟩,.string ⟨#[]⟩,.int .i64 mode,.int .i64 0] 138)).drew:=below_drew (below_alloc (Below.refl _ w1) _);have b3:=below_alloc (Below.refl _ (w1.alloc (.cells #[.int .u8 (typOf kind),.string ⟨#[]⟩,.string ⟨#[]⟩,.string ⟨#[]⟩,.int .i64 mode,.int .i64 0] 138)).drew) (.map #[] 0);have l2:w1.heap.size < (w1.alloc (.cells #[.int .u8 (typOf kind),.string ⟨#[]⟩,.string ⟨#[]⟩,.string ⟨#[]⟩,.int .i64 mode,.int .i64 0] 138)).drew.heap.size:=by simp
  have l3:=l1.out;refine ⟨below_step (below_step B1.out b2) b3,?_,?_,?_,?_,l1.out,l2⟩
  ·exact (b3.block _ (by simp;omega)).trans ((b2.block _ (by omega)).trans H1.out)
  ·exact (b3.block _ (by simp;omega)).trans ((b2.block _ (by omega)).trans R1.out)
  ·exact (b3.block _ l2).trans (heap_alloc_new w1 _)
  ·exact MapAt.new _)
 obtain ⟨hb,hhb⟩:∃ n,w1.heap.size=n:=⟨_,rfl⟩;rw [hW2,hhb];rw [hhb] at P3;clear hW2 hhb c6 c0 c1 c2 c3 c4 d0 d2 d6 l1 T2 B1 H1 G2 R1 k0 k4;obtain ⟨f1,f3,f4⟩:=P3.out.cells;obtain ⟨g0,g1,g2,g3,g4,g5⟩:=P3.out.hcells;obtain ⟨z0,z1,z2,z3,z4,z5⟩:=P3.out.free;have hmm:=@run_makeMap Tryz.prog;obtain ⟨pre,name,ok,hsp⟩:∃ pre name ok,splitP path=(pre,name,ok):=⟨_,_,_,rfl⟩;have HSP:=hid hsp;rw [hsp] at SC;clear hsp;dsimp only at SC;have M4:∃ W4 lk m,Hid (Ps w W4 ⟨kind,path,mode,target,size⟩ hb W2.heap.size ⟨typOf kind,⟨#[]⟩,⟨#[]⟩,lk,mode,0⟩ m)∧Hid (lk=(if target.size≤100 then target else ⟨#[]⟩))∧Hid (m=(if target.size≤100 then [] else [(sLink,target)])) ∧
   ((target.size≤100∧W4=(W2.alloc (.map #[] 0)).setCell ⟨hb,3,none⟩ (.string target))∨(¬ target.size≤100∧(Instr.mapUpdate 200 (.map (some W2.heap.size)) (.string ⟨#[108,105,110,107,112,97,116,104]⟩) (.string target)).run Tryz.prog (W2.alloc (.map #[] 0))=.ok () W4)):=by
  by_cases ht:target.size≤100
  ·exact ⟨_,_,_,hid (P3.out.set 3 (.string target) ⟨typOf kind,⟨#[]⟩,⟨#[]⟩,target,mode,0⟩ rfl),hid (by rw [if_pos ht]),hid (by rw [if_pos ht]),.inl ⟨ht,rfl⟩⟩
  ·exact ⟨_,_,_,hid (P3.out.put _),hid (by rw [if_neg ht]),hid (by rw [if_neg ht];rfl),.inr ⟨ht,run_put map200 skeys P3.out.mp sLink target⟩⟩
 obtain ⟨W4,lk,m,P4,HLK,HM,hM⟩:=M4;obtain ⟨mb,hmb⟩:∃ n,W2.heap.size=n:=⟨_,rfl⟩;rw [hmb] at P4 hM;have HSC:=hid SC;clear SC;rcases hM with ⟨ht,hW4⟩ | ⟨ht,hput⟩
 ·
  have htz:¬ (100:Int) < (target.size:Int):=by omega
  have HW4:=hid hW4;clear hW4 ht
  go_wp2_with fail
  rw [← HW4.out];clear HW4 f1 f3 f4 g0 g1 g2 g3 g4 g5 z0 z1 z2 z3 z4 z5;obtain ⟨f1,f3,f4⟩:=P4.out.cells;obtain ⟨g0,g1,g2,g3,g4,g5⟩:=P4.out.hcells;obtain ⟨z0,z1,z2,z3,z4,z5⟩:=P4.out.free;refine (HSC.out W4).mono ?_;rintro r w5 ⟨rfl,⟨⟨q,rfl⟩⟩⟩;have P5:Hid (Ps w (((W4.drewN q).setCell ⟨hb,2,none⟩ (.string pre)).setCell ⟨hb,1,none⟩ (.string name)) ⟨kind,path,mode,target,size⟩ hb mb ⟨typOf kind,name,pre,lk,mode,0⟩ m):=hid (((P4.out.step (pw_below_drewN (Below.refl _ _) q)).set 2 (.string pre) ⟨typOf kind,⟨#[]⟩,pre,lk,mode,0⟩ rfl).set 1 (.string name) ⟨typOf kind,name,pre,lk,mode,0⟩ rfl);have M6:∃ W6 m6,Hid (Ps w W6 ⟨kind,path,mode,target,size⟩ hb mb ⟨typOf kind,name,pre,lk,mode,0⟩ m6)∧Hid (m6=(if ok=true then m else ZMap.put m sPath path)) ∧
    ((ok=true∧W6=((W4.drewN q).setCell ⟨hb,2,none⟩ (.string pre)).setCell ⟨hb,1,none⟩ (.string name))∨(ok=false∧(Instr.mapUpdate 200 (.map (some mb)) (.string ⟨#[112,97,116,104]⟩) (.string path)).run Tryz.prog (((W4.drewN q).setCell ⟨hb,2,none⟩ (.string pre)).setCell ⟨hb,1,none⟩ (.string name))=.ok () W6)):=by
   cases ok with
   | true=>exact ⟨_,_,P5,hid (by rw [if_pos rfl]),.inl ⟨rfl,rfl⟩⟩
   | false=>exact ⟨_,_,hid (P5.out.put _),hid (by rw [if_neg (by decide)]),.inr ⟨rfl,run_put map200 skeys P5.out.mp sPath path⟩⟩
  obtain ⟨W6,m6,P6,HM6,hM6⟩:=M6;have P7:Hid (Ps w (W6.setCell ⟨hb,5,none⟩ (.int .i64 size)) ⟨kind,path,mode,target,size⟩ hb mb ⟨typOf kind,name,pre,lk,mode,size⟩ m6):=hid (P6.out.set 5 (.int .i64 size) ⟨typOf kind,name,pre,lk,mode,size⟩ rfl);have KC7:=hid (KC.out _ (HG.out.below P7.out.bel));rcases hM6 with ⟨hok,hW6⟩ | ⟨hok,hput⟩
  ·
   subst hok;have HW6:=hid hW6;clear hW6
   go_wp2_with fail
   rw [← HW6.out];clear HW6;refine KC7.out.mono ?_;rintro r w8 ⟨g,cap,rfl,hg,hrow,hbl⟩;have T8:=hid (show Lp w w8 w8 ⟨kind,path,mode,target,size⟩ hb mb ⟨typOf kind,name,pre,lk,mode,size⟩ m6 g (.slice none 0 0) 0 from ⟨P7.out.step hbl,hrow,Below.refl _ _,(P7.out.step hbl).mp.lt,hrow.lt,Kd.R_nil _ _ _ _ _⟩);clear hg hrow hbl
   go_wp2_with fail
   go_loopw [9,64] (fun v i wr=>∃ j:Nat,j≤3∧i=.int .i64 j∧Lp w w8 wr ⟨kind,path,mode,target,size⟩ hb mb ⟨typOf kind,name,pre,lk,mode,size⟩ m6 g v j) (fun _ i _=>3 - (intOf i).toNat)
   case atStart=>exact ⟨0,by decide,rfl,T8.out⟩
   case round =>
    clear T8;obtain ⟨j,hj,rfl,hS⟩:=hrel;by_cases hlt:j < 3
    ·
     have hltz:(j:Int) < 3:=by omega
     obtain ⟨key,hkey⟩:∃ key,[sLink,sPath,sSize][j]?=some key:=⟨_,List.getElem?_eq_getElem (by simpa using hlt)⟩;have ck:=hS.keys.cell j key hkey;have hget:=run_get_ok map200 skeys hS.ps.mp key (.string ⟨#[]⟩) (zero9 wr);have S:=hid hS;have HK:=hid hkey;cases hgm:get m6 key with
     | none =>
      rw [hgm] at hget;have HG2:=hid hgm;clear hS hkey hgm
      go_wp2_with fail
      go_roundw
      case rel=>exact ⟨j+1,by omega,by go_num,S.out.skip HK.out HG2.out⟩
      case measure=>simp [intOf];omega
     | some x =>
      rw [hgm] at hget;have HG2:=hid hgm;obtain ⟨A,cc,hv⟩:=Kd.R_slice hS.row;clear hS hkey hgm;have hlen:=S.out.len
      go_wp2_with (at_builtin;refine Kd.R_append recKd (w0:=wr) w8.heap.size rfl (.tmp 75) (.tmp 79) 86 125 (.agg #[.string ⟨#[]⟩,.string ⟨#[]⟩]) 32 rfl Tryz.underlying86 info125 rfl (by decide) (by decide) _ (upR m6 j) ⟨key,x⟩ [.string key,.string x] (fun _=>True) (fun _=>False) rfl rfl ⟨[.string key],[.string x],rfl,rfl,rfl⟩ (fun _ h=>h.elim) (fun _ _=>trivial) S.out.row (Below.refl _ _) S.out.bel8.size hlen ?_;intro v1 w9 hr9 hb9 _ _;replace hr9:=hid hr9;replace hb9:=hid hb9)
      go_roundw
      case rel=>exact ⟨j+1,by omega,by go_num,S.out.app HK.out HG2.out hr9.out hb9.out⟩
      case measure=>simp [intOf];omega
    ·
     obtain rfl:j=3:=by omega
     have S:=hid hS;obtain ⟨f1,f3,f4⟩:=hS.ps.cells;obtain ⟨g0,g1,g2,g3,g4,g5⟩:=hS.ps.hcells;obtain ⟨z0,z1,z2,z3,z4,z5⟩:=hS.ps.rfree;obtain ⟨y0,y1,y2,y3,y4,y5⟩:=hS.ps.rcells;clear hS
     go_wp2_with fail
     have E1:planH ⟨kind,path,mode,target,size⟩=⟨typOf kind,name,pre,lk,mode,size⟩:=plan_h HSP.out HLK.out hs;have E2:planR ⟨kind,path,mode,target,size⟩=upR m6 3:=plan_r HSP.out HM.out HM6.out hs;rw [E1,E2];refine bodyPost_ret (v:=.tuple #[(⟨typOf kind,name,pre,lk,mode,size⟩:Hdr).val,u9,.int .i64 0]) (by simp [results,Tryz.results91,go_sem,Hdr.val,Hdr.cells,y0,y1,y2,y3,y4,y5,z0,z1,z2,z3,z4,z5]) rfl ⟨u9,rfl,?_,?_⟩
     ·
      have hl:=S.out.ps.lt;have hl2:=S.out.ps.lt2;have hl3:=S.out.mlt;refine (RecRow.upto S.out.row fun k hk _=>?_).lower (by omega);have hne:k≠w.heap.size+1:=by omega
      repeat rw [Below.heap_setCell _ _ _ _ (by exact hne)]
     ·
      iterate 6 (refine Below.setCell ?_ (by show w.heap.size≤w.heap.size+1;omega) _)
      exact S.out.ps.bel
  ·
   subst hok;obtain ⟨x1,x3,x4⟩:=P6.out.cells;have hne1:¬ w.heap.size=hb:=by have:=P4.out.lt;omega
   have hne2:¬ hb=w.heap.size:=by have:=P4.out.lt;omega
   obtain ⟨v0,v1,v2,v3,v4,v5⟩:=P6.out.free;obtain ⟨u0,u1,u2,u3,u4,u5⟩:=P6.out.hcells
   go_wp2_with fail
   clear x1 x3 x4 v0 v1 v2 v3 v4 v5 u0 u1 u2 u3 u4 u5;refine KC7.out.mono ?_;rintro r w8 ⟨g,cap,rfl,hg,hrow,hbl⟩;have T8:=hid (show Lp w w8 w8 ⟨kind,path,mode,target,size⟩ hb mb ⟨typOf kind,name,pre,lk,mode,size⟩ m6 g (.slice none 0 0) 0 from ⟨P7.out.step hbl,hrow,Below.refl _ _,(P7.out.step hbl).mp.lt,hrow.lt,Kd.R_nil _ _ _ _ _⟩);clear hg hrow hbl
   go_wp2_with fail
   go_loopw [9,64] (fun v i wr=>∃ j:Nat,j≤3∧i=.int .i64 j∧Lp w w8 wr ⟨kind,path,mode,target,size⟩ hb mb ⟨typOf kind,name,pre,lk,mode,size⟩ m6 g v j) (fun _ i _=>3 - (intOf i).toNat)
   case atStart=>exact ⟨0,by decide,rfl,T8.out⟩
   case round =>
    clear T8;obtain ⟨j,hj,rfl,hS⟩:=hrel;by_cases hlt:j < 3
    ·
     have hltz:(j:Int) < 3:=by omega
     obtain ⟨key,hkey⟩:∃ key,[sLink,sPath,sSize][j]?=some key:=⟨_,List.getElem?_eq_getElem (by simpa using hlt)⟩;have ck:=hS.keys.cell j key hkey;have hget:=run_get_ok map200 skeys hS.ps.mp key (.string ⟨#[]⟩) (zero9 wr);have S:=hid hS;have HK:=hid hkey;cases hgm:get m6 key with
     | none =>
      rw [hgm] at hget;have HG2:=hid hgm;clear hS hkey hgm
      go_wp2_with fail
      go_roundw
      case rel=>exact ⟨j+1,by omega,by go_num,S.out.skip HK.out HG2.out⟩
      case measure=>simp [intOf];omega
     | some x =>
      rw [hgm] at hget;have HG2:=hid hgm;obtain ⟨A,cc,hv⟩:=Kd.R_slice hS.row;clear hS hkey hgm;have hlen:=S.out.len
      go_wp2_with (at_builtin;refine Kd.R_append recKd (w0:=wr) w8.heap.size rfl (.tmp 75) (.tmp 79) 86 125 (.agg #[.string ⟨#[]⟩,.string ⟨#[]⟩]) 32 rfl Tryz.underlying86 info125 rfl (by decide) (by decide) _ (upR m6 j) ⟨key,x⟩ [.string key,.string x] (fun _=>True) (fun _=>False) rfl rfl ⟨[.string key],[.string x],rfl,rfl,rfl⟩ (fun _ h=>h.elim) (fun _ _=>trivial) S.out.row (Below.refl _ _) S.out.bel8.size hlen ?_;intro v1 w9 hr9 hb9 _ _;replace hr9:=hid hr9;replace hb9:=hid hb9)
      go_roundw
      case rel=>exact ⟨j+1,by omega,by go_num,S.out.app HK.out HG2.out hr9.out hb9.out⟩
      case measure=>simp [intOf];omega
    ·
     obtain rfl:j=3:=by omega
     have S:=hid hS;obtain ⟨f1,f3,f4⟩:=hS.ps.cells;obtain ⟨g0,g1,g2,g3,g4,g5⟩:=hS.ps.hcells;obtain ⟨z0,z1,z2,z3,z4,z5⟩:=hS.ps.rfree;obtain ⟨y0,y1,y2,y3,y4,y5⟩:=hS.ps.rcells;clear hS
     go_wp2_with fail
     have E1:planH ⟨kind,path,mode,target,size⟩=⟨typOf kind,name,pre,lk,mode,size⟩:=plan_h HSP.out HLK.out hs;have E2:planR ⟨kind,path,mode,target,size⟩=upR m6 3:=plan_r HSP.out HM.out HM6.out hs;rw [E1,E2];refine bodyPost_ret (v:=.tuple #[(⟨typOf kind,name,pre,lk,mode,size⟩:Hdr).val,u9,.int .i64 0]) (by simp [results,Tryz.results91,go_sem,Hdr.val,Hdr.cells,y0,y1,y2,y3,y4,y5,z0,z1,z2,z3,z4,z5]) rfl ⟨u9,rfl,?_,?_⟩
     ·
      have hl:=S.out.ps.lt;have hl2:=S.out.ps.lt2;have hl3:=S.out.mlt;refine (RecRow.upto S.out.row fun k hk _=>?_).lower (by omega);have hne:k≠w.heap.size+1:=by omega
      repeat rw [Below.heap_setCell _ _ _ _ (by exact hne)]
     ·
      iterate 6 (refine Below.setCell ?_ (by show w.heap.size≤w.heap.size+1;omega) _)
      exact S.out.ps.bel
 ·
  have htz:(100:Int) < (target.size:Int):=by omega
  clear ht;have y:=P4.out.cells;obtain ⟨y1,y3,y4⟩:=y
  go_wp2_with fail
  clear f1 f3 f4 g0 g1 g2 g3 g4 g5 z0 z1 z2 z3 z4 z5 y1 y3 y4 hput;obtain ⟨f1,f3,f4⟩:=P4.out.cells;obtain ⟨g0,g1,g2,g3,g4,g5⟩:=P4.out.hcells;obtain ⟨z0,z1,z2,z3,z4,z5⟩:=P4.out.free;refine (HSC.out W4).mono ?_;rintro r w5 ⟨rfl,⟨⟨q,rfl⟩⟩⟩;have P5:Hid (Ps w (((W4.drewN q).setCell ⟨hb,2,none⟩ (.string pre)).setCell ⟨hb,1,none⟩ (.string name)) ⟨kind,path,mode,target,size⟩ hb mb ⟨typOf kind,name,pre,lk,mode,0⟩ m):=hid (((P4.out.step (pw_below_drewN (Below.refl _ _) q)).set 2 (.string pre) ⟨typOf kind,⟨#[]⟩,pre,lk,mode,0⟩ rfl).set 1 (.string name) ⟨typOf kind,name,pre,lk,mode,0⟩ rfl);have M6:∃ W6 m6,Hid (Ps w W6 ⟨kind,path,mode,target,size⟩ hb mb ⟨typOf kind,name,pre,lk,mode,0⟩ m6)∧Hid (m6=(if ok=true then m else ZMap.put m sPath path)) ∧
    ((ok=true∧W6=((W4.drewN q).setCell ⟨hb,2,none⟩ (.string pre)).setCell ⟨hb,1,none⟩ (.string name))∨(ok=false∧(Instr.mapUpdate 200 (.map (some mb)) (.string ⟨#[112,97,116,104]⟩) (.string path)).run Tryz.prog (((W4.drewN q).setCell ⟨hb,2,none⟩ (.string pre)).setCell ⟨hb,1,none⟩ (.string name))=.ok () W6)):=by
   cases ok with
   | true=>exact ⟨_,_,P5,hid (by rw [if_pos rfl]),.inl ⟨rfl,rfl⟩⟩
   | false=>exact ⟨_,_,hid (P5.out.put _),hid (by rw [if_neg (by decide)]),.inr ⟨rfl,run_put map200 skeys P5.out.mp sPath path⟩⟩
  obtain ⟨W6,m6,P6,HM6,hM6⟩:=M6;have P7:Hid (Ps w (W6.setCell ⟨hb,5,none⟩ (.int .i64 size)) ⟨kind,path,mode,target,size⟩ hb mb ⟨typOf kind,name,pre,lk,mode,size⟩ m6):=hid (P6.out.set 5 (.int .i64 size) ⟨typOf kind,name,pre,lk,mode,size⟩ rfl);have KC7:=hid (KC.out _ (HG.out.below P7.out.bel));rcases hM6 with ⟨hok,hW6⟩ | ⟨hok,hput⟩
  ·
   subst hok;have HW6:=hid hW6;clear hW6
   go_wp2_with fail
   rw [← HW6.out];clear HW6;refine KC7.out.mono ?_;rintro r w8 ⟨g,cap,rfl,hg,hrow,hbl⟩;have T8:=hid (show Lp w w8 w8 ⟨kind,path,mode,target,size⟩ hb mb ⟨typOf kind,name,pre,lk,mode,size⟩ m6 g (.slice none 0 0) 0 from ⟨P7.out.step hbl,hrow,Below.refl _ _,(P7.out.step hbl).mp.lt,hrow.lt,Kd.R_nil _ _ _ _ _⟩);clear hg hrow hbl
   go_wp2_with fail
   go_loopw [9,64] (fun v i wr=>∃ j:Nat,j≤3∧i=.int .i64 j∧Lp w w8 wr ⟨kind,path,mode,target,size⟩ hb mb ⟨typOf kind,name,pre,lk,mode,size⟩ m6 g v j) (fun _ i _=>3 - (intOf i).toNat)
   case atStart=>exact ⟨0,by decide,rfl,T8.out⟩
   case round =>
    clear T8;obtain ⟨j,hj,rfl,hS⟩:=hrel;by_cases hlt:j < 3
    ·
     have hltz:(j:Int) < 3:=by omega
     obtain ⟨key,hkey⟩:∃ key,[sLink,sPath,sSize][j]?=some key:=⟨_,List.getElem?_eq_getElem (by simpa using hlt)⟩;have ck:=hS.keys.cell j key hkey;have hget:=run_get_ok map200 skeys hS.ps.mp key (.string ⟨#[]⟩) (zero9 wr);have S:=hid hS;have HK:=hid hkey;cases hgm:get m6 key with
     | none =>
      rw [hgm] at hget;have HG2:=hid hgm;clear hS hkey hgm
      go_wp2_with fail
      go_roundw
      case rel=>exact ⟨j+1,by omega,by go_num,S.out.skip HK.out HG2.out⟩
      case measure=>simp [intOf];omega
     | some x =>
      rw [hgm] at hget;have HG2:=hid hgm;obtain ⟨A,cc,hv⟩:=Kd.R_slice hS.row;clear hS hkey hgm;have hlen:=S.out.len
      go_wp2_with (at_builtin;refine Kd.R_append recKd (w0:=wr) w8.heap.size rfl (.tmp 75) (.tmp 79) 86 125 (.agg #[.string ⟨#[]⟩,.string ⟨#[]⟩]) 32 rfl Tryz.underlying86 info125 rfl (by decide) (by decide) _ (upR m6 j) ⟨key,x⟩ [.string key,.string x] (fun _=>True) (fun _=>False) rfl rfl ⟨[.string key],[.string x],rfl,rfl,rfl⟩ (fun _ h=>h.elim) (fun _ _=>trivial) S.out.row (Below.refl _ _) S.out.bel8.size hlen ?_;intro v1 w9 hr9 hb9 _ _;replace hr9:=hid hr9;replace hb9:=hid hb9)
      go_roundw
      case rel=>exact ⟨j+1,by omega,by go_num,S.out.app HK.out HG2.out hr9.out hb9.out⟩
      case measure=>simp [intOf];omega
    ·
     obtain rfl:j=3:=by omega
     have S:=hid hS;obtain ⟨f1,f3,f4⟩:=hS.ps.cells;obtain ⟨g0,g1,g2,g3,g4,g5⟩:=hS.ps.hcells;obtain ⟨z0,z1,z2,z3,z4,z5⟩:=hS.ps.rfree;obtain ⟨y0,y1,y2,y3,y4,y5⟩:=hS.ps.rcells;clear hS
     go_wp2_with fail
     have E1:planH ⟨kind,path,mode,target,size⟩=⟨typOf kind,name,pre,lk,mode,size⟩:=plan_h HSP.out HLK.out hs;have E2:planR ⟨kind,path,mode,target,size⟩=upR m6 3:=plan_r HSP.out HM.out HM6.out hs;rw [E1,E2];refine bodyPost_ret (v:=.tuple #[(⟨typOf kind,name,pre,lk,mode,size⟩:Hdr).val,u9,.int .i64 0]) (by simp [results,Tryz.results91,go_sem,Hdr.val,Hdr.cells,y0,y1,y2,y3,y4,y5,z0,z1,z2,z3,z4,z5]) rfl ⟨u9,rfl,?_,?_⟩
     ·
      have hl:=S.out.ps.lt;have hl2:=S.out.ps.lt2;have hl3:=S.out.mlt;refine (RecRow.upto S.out.row fun k hk _=>?_).lower (by omega);have hne:k≠w.heap.size+1:=by omega
      repeat rw [Below.heap_setCell _ _ _ _ (by exact hne)]
     ·
      iterate 6 (refine Below.setCell ?_ (by show w.heap.size≤w.heap.size+1;omega) _)
      exact S.out.ps.bel
  ·
   subst hok;obtain ⟨x1,x3,x4⟩:=P6.out.cells;have hne1:¬ w.heap.size=hb:=by have:=P4.out.lt;omega
   have hne2:¬ hb=w.heap.size:=by have:=P4.out.lt;omega
   obtain ⟨v0,v1,v2,v3,v4,v5⟩:=P6.out.free;obtain ⟨u0,u1,u2,u3,u4,u5⟩:=P6.out.hcells
   go_wp2_with fail
   clear x1 x3 x4 v0 v1 v2 v3 v4 v5 u0 u1 u2 u3 u4 u5;refine KC7.out.mono ?_;rintro r w8 ⟨g,cap,rfl,hg,hrow,hbl⟩;have T8:=hid (show Lp w w8 w8 ⟨kind,path,mode,target,size⟩ hb mb ⟨typOf kind,name,pre,lk,mode,size⟩ m6 g (.slice none 0 0) 0 from ⟨P7.out.step hbl,hrow,Below.refl _ _,(P7.out.step hbl).mp.lt,hrow.lt,Kd.R_nil _ _ _ _ _⟩);clear hg hrow hbl
   go_wp2_with fail
   go_loopw [9,64] (fun v i wr=>∃ j:Nat,j≤3∧i=.int .i64 j∧Lp w w8 wr ⟨kind,path,mode,target,size⟩ hb mb ⟨typOf kind,name,pre,lk,mode,size⟩ m6 g v j) (fun _ i _=>3 - (intOf i).toNat)
   case atStart=>exact ⟨0,by decide,rfl,T8.out⟩
   case round =>
    clear T8;obtain ⟨j,hj,rfl,hS⟩:=hrel;by_cases hlt:j < 3
    ·
     have hltz:(j:Int) < 3:=by omega
     obtain ⟨key,hkey⟩:∃ key,[sLink,sPath,sSize][j]?=some key:=⟨_,List.getElem?_eq_getElem (by simpa using hlt)⟩;have ck:=hS.keys.cell j key hkey;have hget:=run_get_ok map200 skeys hS.ps.mp key (.string ⟨#[]⟩) (zero9 wr);have S:=hid hS;have HK:=hid hkey;cases hgm:get m6 key with
     | none =>
      rw [hgm] at hget;have HG2:=hid hgm;clear hS hkey hgm
      go_wp2_with fail
      go_roundw
      case rel=>exact ⟨j+1,by omega,by go_num,S.out.skip HK.out HG2.out⟩
      case measure=>simp [intOf];omega
     | some x =>
      rw [hgm] at hget;have HG2:=hid hgm;obtain ⟨A,cc,hv⟩:=Kd.R_slice hS.row;clear hS hkey hgm;have hlen:=S.out.len
      go_wp2_with (at_builtin;refine Kd.R_append recKd (w0:=wr) w8.heap.size rfl (.tmp 75) (.tmp 79) 86 125 (.agg #[.string ⟨#[]⟩,.string ⟨#[]⟩]) 32 rfl Tryz.underlying86 info125 rfl (by decide) (by decide) _ (upR m6 j) ⟨key,x⟩ [.string key,.string x] (fun _=>True) (fun _=>False) rfl rfl ⟨[.string key],[.string x],rfl,rfl,rfl⟩ (fun _ h=>h.elim) (fun _ _=>trivial) S.out.row (Below.refl _ _) S.out.bel8.size hlen ?_;intro v1 w9 hr9 hb9 _ _;replace hr9:=hid hr9;replace hb9:=hid hb9)
      go_roundw
      case rel=>exact ⟨j+1,by omega,by go_num,S.out.app HK.out HG2.out hr9.out hb9.out⟩
      case measure=>simp [intOf];omega
    ·
     obtain rfl:j=3:=by omega
     have S:=hid hS;obtain ⟨f1,f3,f4⟩:=hS.ps.cells;obtain ⟨g0,g1,g2,g3,g4,g5⟩:=hS.ps.hcells;obtain ⟨z0,z1,z2,z3,z4,z5⟩:=hS.ps.rfree;obtain ⟨y0,y1,y2,y3,y4,y5⟩:=hS.ps.rcells;clear hS
     go_wp2_with fail
     have E1:planH ⟨kind,path,mode,target,size⟩=⟨typOf kind,name,pre,lk,mode,size⟩:=plan_h HSP.out HLK.out hs;have E2:planR ⟨kind,path,mode,target,size⟩=upR m6 3:=plan_r HSP.out HM.out HM6.out hs;rw [E1,E2];refine bodyPost_ret (v:=.tuple #[(⟨typOf kind,name,pre,lk,mode,size⟩:Hdr).val,u9,.int .i64 0]) (by simp [results,Tryz.results91,go_sem,Hdr.val,Hdr.cells,y0,y1,y2,y3,y4,y5,z0,z1,z2,z3,z4,z5]) rfl ⟨u9,rfl,?_,?_⟩
     ·
      have hl:=S.out.ps.lt;have hl2:=S.out.ps.lt2;have hl3:=S.out.mlt;refine (RecRow.upto S.out.row fun k hk _=>?_).lower (by omega);have hne:k≠w.heap.size+1:=by omega
      repeat rw [Below.heap_setCell _ _ _ _ (by exact hne)]
     ·
      iterate 6 (refine Below.setCell ?_ (by show w.heap.size≤w.heap.size+1;omega) _)
      exact S.out.ps.bel
end ZPlan
end
section
section
open Go Go.Shelf
def _root_.Go.Proofs.Tryz.laysM173_ren:Go.Shelf.Ren:=⟨fun | 173=>128 | 246=>153 | 283=>174 | 284=>175 | 285=>176 | 286=>177 | 129=>198 | 317=>197 | 318=>199 | 319=>200 | 320=>201 | 337=>209 | 338=>210 | n=>n,fun | 2=>2 | 3=>3 | 9=>9 | 4=>4 | 171=>247 | 0=>0 | 53=>248 | 37=>30 | 5=>5 | 173=>251 | 212=>264 | 51=>244 | 20=>20 | 213=>265 | 46=>213 | 232=>277 | 233=>278 | n=>n,fun | 17=>15 | 18=>18 | 19=>19 | n=>n⟩
theorem _root_.Go.Proofs.Tryz.laysM173:Go.Proofs.LaysM.n173 Tryz.prog Tryz.laysM173_ren:={
 mixed:=by kernel_rfl
 f129:=Tryz.func198.trans (congrArg some (by kernel_rfl))
 f173:=Tryz.func128.trans (congrArg some (by kernel_rfl))
 f246:=Tryz.func153.trans (congrArg some (by kernel_rfl))
 f283:=Tryz.func174.trans (congrArg some (by kernel_rfl))
 f284:=Tryz.func175.trans (congrArg some (by kernel_rfl))
 f285:=Tryz.func176.trans (congrArg some (by kernel_rfl))
 f286:=Tryz.func177.trans (congrArg some (by kernel_rfl))
 f317:=Tryz.func197.trans (congrArg some (by kernel_rfl))
 f318:=Tryz.func199.trans (congrArg some (by kernel_rfl))
 f319:=Tryz.func200.trans (congrArg some (by kernel_rfl))
 f320:=Tryz.func201.trans (congrArg some (by kernel_rfl))
 f337:=Tryz.func209.trans (congrArg some (by kernel_rfl))
 f338:=Tryz.func210.trans (congrArg some (by kernel_rfl))
 t0:=Tryz.underlying0
 a0:=Tryz.isAgg0
 z0:=Tryz.sizeOf0
 v0:=Tryz.zeroValue0
 t2:=Tryz.underlying2
 a2:=Tryz.isAgg2
 z2:=Tryz.sizeOf2
 v2:=Tryz.zeroValue2
 t3:=Tryz.underlying3
 a3:=Tryz.isAgg3
 z3:=Tryz.sizeOf3
 v3:=Tryz.zeroValue3
 t4:=Tryz.underlying4
 a4:=Tryz.isAgg4
 z4:=Tryz.sizeOf4
 v4:=Tryz.zeroValue4
 t5:=Tryz.underlying5
 a5:=Tryz.isAgg5
 z5:=Tryz.sizeOf5
 v5:=Tryz.zeroValue5
 t9:=Tryz.underlying9
 a9:=Tryz.isAgg9
 z9:=Tryz.sizeOf9
 v9:=Tryz.zeroValue9
 t20:=Tryz.underlying20
 a20:=Tryz.isAgg20
 z20:=Tryz.sizeOf20
 v20:=Tryz.zeroValue20
 t37:=Tryz.underlying30
 a37:=Tryz.isAgg30
 z37:=Tryz.sizeOf30
 v37:=Tryz.zeroValue30
 t46:=Tryz.underlying213
 a46:=Tryz.isAgg213
 z46:=Tryz.sizeOf213
 v46:=Tryz.zeroValue213
 t51:=Tryz.underlying244
 a51:=Tryz.isAgg244
 z51:=Tryz.sizeOf244
 v51:=Tryz.zeroValue244
 t53:=Tryz.underlying248
 a53:=Tryz.isAgg248
 z53:=Tryz.sizeOf248
 v53:=Tryz.zeroValue248
 t171:=Tryz.underlying247
 a171:=Tryz.isAgg247
 z171:=Tryz.sizeOf247
 v171:=Tryz.zeroValue247
 t173:=Tryz.underlying251
 a173:=Tryz.isAgg251
 z173:=Tryz.sizeOf251
 v173:=Tryz.zeroValue251
 t212:=Tryz.underlying264
 a212:=Tryz.isAgg264
 z212:=Tryz.sizeOf264
 v212:=Tryz.zeroValue264
 t213:=Tryz.underlying265
 a213:=Tryz.isAgg265
 z213:=Tryz.sizeOf265
 t232:=Tryz.underlying277
 a232:=Tryz.isAgg277
 z232:=Tryz.sizeOf277
 v232:=Tryz.zeroValue277
 t233:=Tryz.underlying278
 a233:=Tryz.isAgg278
 z233:=Tryz.sizeOf278
 v233:=Tryz.zeroValue278
 g17:=by kernel_rfl
 g18:=by kernel_rfl
 g19:=by kernel_rfl
 i0:=by kernel_rfl
 i2:=by kernel_rfl
 i3:=by kernel_rfl
 i4:=by kernel_rfl
 i5:=by kernel_rfl
 i9:=by kernel_rfl
 i20:=by kernel_rfl
 i37:=by kernel_rfl
 i46:=by kernel_rfl
 i51:=by kernel_rfl
 i53:=by kernel_rfl
 i171:=by kernel_rfl
 i173:=by kernel_rfl
 i212:=by kernel_rfl
 i232:=by kernel_rfl
 i233:=by kernel_rfl
 m17:=by kernel_rfl
 m18:=by kernel_rfl
 m19:=by kernel_rfl }
open Go.RowKit Go.Sort Go.Lib in
theorem _root_.Go.Proofs.Tryz.strconv_FormatInt_10 (n:Int) (h0:-9223372036854775808≤n) (h1:n≤9223372036854775807) (w:World) (htab:Lib.TabIs Tryz.prog w "internal/strconv.uint64pow10" .u64 Lib.pow10Tab) : Calls Tryz.prog 128 #[.int .i64 n,.int .i64 10] w fun e w'=>e=.returned (.string ⟨(Lib.itoa n).toArray⟩)∧∃ k os,w'=grow (w.drewN k) os:=Any.strconv_FormatInt_10 Tryz.laysM173 n h0 h1 w htab
end
namespace ZPlanN
open ZPlan
theorem plan_h_big {kind mode size:Int} {path target pre name lk:ByteArray} {ok:Bool} (h1:splitP path=(pre,name,ok)) (h2:lk=if target.size≤100 then target else ⟨#[]⟩) (hs:8589934591 < size):planH ⟨kind,path,mode,target,size⟩=⟨typOf kind,name,pre,lk,mode,0⟩:=by
 have hs2:¬ size≤8589934591:=by omega
 simp [planH,h1,h2,hs2]
theorem plan_r_big {kind mode size:Int} {path target pre name:ByteArray} {ok:Bool} {m m6:List (ByteArray×ByteArray)} (h1:splitP path=(pre,name,ok)) (h2:m=if target.size≤100 then [] else [(sLink,target)]) (h3:m6=if ok=true then m else ZMap.put m sPath path) (hs:8589934591 < size):planR ⟨kind,path,mode,target,size⟩=upR (ZMap.put m6 sSize ⟨(Lib.itoa size).toArray⟩) 3:=by
 have hs2:¬ size≤8589934591:=by omega
 have n1:=lp_ne;have n2:=ls_ne;have n3:=ps_ne;have n4:¬ sPath=sLink:=fun h=>n1 h.symm;have n5:¬ sSize=sLink:=fun h=>n2 h.symm;have n6:¬ sSize=sPath:=fun h=>n3 h.symm;subst h2 h3;by_cases ht:target.size≤100
 ·
  cases ok with
  | true=>simp [planR,upR,h1,ht,hs2,ZMap.get,ZMap.put,List.filterMap_cons,n1,n2,n3,n4,n5,n6]
  | false=>simp [planR,upR,h1,ht,hs2,ZMap.get,ZMap.put,List.filterMap_cons,n1,n2,n3,n4,n5,n6]
 ·
  cases ok with
  | true=>simp [planR,upR,h1,ht,hs2,ZMap.get,ZMap.put,List.filterMap_cons,n1,n2,n3,n4,n5,n6]
  | false=>simp [planR,upR,h1,ht,hs2,ZMap.get,ZMap.put,List.filterMap_cons,n1,n2,n3,n4,n5,n6]
set_option maxHeartbeats 4000000 in
theorem plan_big (e:Ent) (hs:8589934591 < e.size) (he:e.Ok) (w:World) (hG:Gl w):Calls Tryz.prog 91 #[e.val] w fun r w'=>∃ v,r=.returned (.tuple #[(planH e).val,v,.int .i64 0])∧RecRow w' w.heap.size v (planR e)∧Below w.heap.size w w':=by
 have HE:=hid he;have hk:=he.kind;obtain ⟨kind,path,mode,target,size⟩:=e;dsimp only at hs hk;have hbd:size≤1099511627776:=by have h:=he.size;unfold sizeOk at h;dsimp only at h;split at h <;> omega
 have CC:=hid (fun W hW=>check_calls ⟨kind,path,mode,target,size⟩ W hW);have SC:=hid (fun W=>split_calls path he.path.1 W);have KC:=hid keys_calls;have q0:=hid ((below_alloc (Below.refl w.heap.size w) (.cells #[.int .i64 kind,.string path,.int .i64 mode,.string target,.int .i64 size] 54)).trans ((below_alloc (Below.refl _ (w.alloc (.cells #[.int .i64 kind,.string path,.int .i64 mode,.string target,.int .i64 size] 54))) (.cells #[.int .u8 0,.string ⟨#[]⟩,.string ⟨#[]⟩,.string ⟨#[]⟩,.int .i64 0,.int .i64 0] 138)).mono (by simp)));have G0:=hid (hG.below q0.out);unfold Ent.val Ent.cells at *;dsimp only at *;have hsz1:(8589934591:Int) < size:=hs;have FI:=hid (fun W hW=>Tryz.strconv_FormatInt_10 size (by omega) (by have:=hbd;omega) W hW);obtain ⟨sz,hszv⟩:∃ s,(⟨(Lib.itoa size).toArray⟩:ByteArray)=s:=⟨_,rfl⟩;rw [hszv] at FI;have HSZ:=hid hszv;clear hszv hbd;have HG:=hid hG;clear hG he;go_enter Tryz.func91,Tryz.ntmps91
 go_wp2_with fail
 refine (CC.out _ G0.out).mono ?_;rintro r w1 ⟨x,rfl,hx,hb⟩;have hx0:=hx.2 HE.out;subst hx0;have bx:((0:Int) != 0)=false:=rfl;have B1:=hid (below_step q0.out hb);have G1:=G0.out.below hb;clear hx;have c6:w1.cell? ⟨6,kind.toNat,none⟩=some (.int .u8 (typOf kind)):=VarIs.cell G1.types _ _ (by
  obtain rfl | rfl | rfl | rfl:kind=0∨kind=1∨kind=2∨kind=3:=by omega
  ·rfl
  ·rfl
  ·rfl
  ·rfl)
 have k0:0≤kind:=hk.1;have k4:kind < 4:=by omega
 have H1:Hid (w1.heap[w.heap.size]?=some (.cells #[.int .i64 kind,.string path,.int .i64 mode,.string target,.int .i64 size] 54 (0,0))):=hid ((hb.block _ (by simp;omega)).trans (heap_alloc2_old _ _ _));have R1:Hid (w1.heap[w.heap.size+1]?=some (.cells #[.int .u8 0,.string ⟨#[]⟩,.string ⟨#[]⟩,.string ⟨#[]⟩,.int .i64 0,.int .i64 0] 138 (0,0))):=hid ((hb.block _ (by simp)).trans (heap_alloc2_new _ _ _));obtain ⟨c0,c1,c2,c3,c4⟩:=box_cells H1.out;have G2:=hid G1;have l1:=blk_lt H1.out;have d6:=(World.cell?_alloc_lt w1 (.cells #[.int .u8 0,.string ⟨#[]⟩,.string ⟨#[]⟩,.string ⟨#[]⟩,.int .i64 0,.int .i64 0] 138) ⟨6,kind.toNat,none⟩ (VarIs.lt G1.types)).trans c6;have d0:=(World.cell?_alloc_lt w1 (.cells #[.int .u8 0,.string ⟨#[]⟩,.string ⟨#[]⟩,.string ⟨#[]⟩,.int .i64 0,.int .i64 0] 138) ⟨w.heap.size,0,none⟩ l1).trans c0;have d2:=(World.cell?_alloc_lt w1 (.cells #[.int .u8 0,.string ⟨#[]⟩,.string ⟨#[]⟩,.string ⟨#[]⟩,.int .i64 0,.int .i64 0] 138) ⟨w.heap.size,2,none⟩ l1).trans c2;clear G1 hb l1
 go_wp2_with fail
 go_region
 have T2:=hid (And.intro B1.out (And.intro H1.out R1.out));have l1:Hid (w.heap.size+1 < w1.heap.size):=hid (blk_lt R1.out);obtain ⟨W2,hW2⟩:∃ X,((w1.alloc (.cells #[.int .u8 (typOf kind),.string ⟨#[]⟩,.string ⟨#[]⟩,.string ⟨#[]⟩,.int .i64 mode,.int .i64 0] 138)).drew)=X:=⟨_,rfl⟩;have P3:Hid (Ps w (W2.alloc (.map #[] 0)) ⟨kind,path,mode,target,size⟩ w1.heap.size W2.heap.size ⟨typOf kind,⟨#[]⟩,⟨#[]⟩,⟨#[]⟩,mode,0⟩ []):=hid (by
  subst hW2;have b2:Below w1.heap.size w1 (w1.alloc (.cells #[.int .u8 (typOf kind),.string ⟨#[]⟩,.string ⟨#[]⟩,.string ⟨#[]⟩,.int .i64 mode,.int .i64 0] 138)).drew:=below_drew (below_alloc (Below.refl _ w1) _);have b3:=below_alloc (Below.refl _ (w1.alloc (.cells #[.int .u8 (typOf kind),.string ⟨#[]⟩,.string ⟨#[]⟩,.string ⟨#[]⟩,.int .i64 mode,.int .i64 0] 138)).drew) (.map #[] 0);have l2:w1.heap.size < (w1.alloc (.cells #[.int .u8 (typOf kind),.string ⟨#[]⟩,.string ⟨#[]⟩,.string ⟨#[]⟩,.int .i64 mode,.int .i64 0] 138)).drew.heap.size:=by simp
  have l3:=l1.out;refine ⟨below_step (below_step B1.out b2) b3,?_,?_,?_,?_,l1.out,l2⟩
  ·exact (b3.block _ (by simp;omega)).trans ((b2.block _ (by omega)).trans H1.out)
  ·exact (b3.block _ (by simp;omega)).trans ((b2.block _ (by omega)).trans R1.out)
  ·exact (b3.block _ l2).trans (heap_alloc_new w1 _)
  ·exact MapAt.new _)
 obtain ⟨hb,hhb⟩:∃ n,w1.heap.size=n:=⟨_,rfl⟩;rw [hW2,hhb];rw [hhb] at P3;clear hW2 hhb c6 c0 c1 c2 c3 c4 d0 d2 d6 l1 T2 B1 H1 G2 R1 k0 k4;obtain ⟨f1,f3,f4⟩:=P3.out.cells;obtain ⟨g0,g1,g2,g3,g4,g5⟩:=P3.out.hcells;obtain ⟨z0,z1,z2,z3,z4,z5⟩:=P3.out.free;have hmm:=@run_makeMap Tryz.prog;obtain ⟨pre,name,ok,hsp⟩:∃ pre name ok,splitP path=(pre,name,ok):=⟨_,_,_,rfl⟩;have HSP:=hid hsp;rw [hsp] at SC;clear hsp;dsimp only at SC;have M4:∃ W4 lk m,Hid (Ps w W4 ⟨kind,path,mode,target,size⟩ hb W2.heap.size ⟨typOf kind,⟨#[]⟩,⟨#[]⟩,lk,mode,0⟩ m)∧Hid (lk=(if target.size≤100 then target else ⟨#[]⟩))∧Hid (m=(if target.size≤100 then [] else [(sLink,target)])) ∧
   ((target.size≤100∧W4=(W2.alloc (.map #[] 0)).setCell ⟨hb,3,none⟩ (.string target))∨(¬ target.size≤100∧(Instr.mapUpdate 200 (.map (some W2.heap.size)) (.string ⟨#[108,105,110,107,112,97,116,104]⟩) (.string target)).run Tryz.prog (W2.alloc (.map #[] 0))=.ok () W4)):=by
  by_cases ht:target.size≤100
  ·exact ⟨_,_,_,hid (P3.out.set 3 (.string target) ⟨typOf kind,⟨#[]⟩,⟨#[]⟩,target,mode,0⟩ rfl),hid (by rw [if_pos ht]),hid (by rw [if_pos ht]),.inl ⟨ht,rfl⟩⟩
  ·exact ⟨_,_,_,hid (P3.out.put _),hid (by rw [if_neg ht]),hid (by rw [if_neg ht];rfl),.inr ⟨ht,run_put map200 skeys P3.out.mp sLink target⟩⟩
 obtain ⟨W4,lk,m,P4,HLK,HM,hM⟩:=M4;obtain ⟨mb,hmb⟩:∃ n,W2.heap.size=n:=⟨_,rfl⟩;rw [hmb] at P4 hM;have HSC:=hid SC;clear SC;rcases hM with ⟨ht,hW4⟩ | ⟨ht,hput⟩
 ·
  have htz:¬ (100:Int) < (target.size:Int):=by omega
  have HW4:=hid hW4;clear hW4 ht
  go_wp2_with fail
  rw [← HW4.out];clear HW4 f1 f3 f4 g0 g1 g2 g3 g4 g5 z0 z1 z2 z3 z4 z5;obtain ⟨f1,f3,f4⟩:=P4.out.cells;obtain ⟨g0,g1,g2,g3,g4,g5⟩:=P4.out.hcells;obtain ⟨z0,z1,z2,z3,z4,z5⟩:=P4.out.free;refine (HSC.out W4).mono ?_;rintro r w5 ⟨rfl,⟨⟨q,rfl⟩⟩⟩;have P5:Hid (Ps w (((W4.drewN q).setCell ⟨hb,2,none⟩ (.string pre)).setCell ⟨hb,1,none⟩ (.string name)) ⟨kind,path,mode,target,size⟩ hb mb ⟨typOf kind,name,pre,lk,mode,0⟩ m):=hid (((P4.out.step (pw_below_drewN (Below.refl _ _) q)).set 2 (.string pre) ⟨typOf kind,⟨#[]⟩,pre,lk,mode,0⟩ rfl).set 1 (.string name) ⟨typOf kind,name,pre,lk,mode,0⟩ rfl);have M6:∃ W6 m6,Hid (Ps w W6 ⟨kind,path,mode,target,size⟩ hb mb ⟨typOf kind,name,pre,lk,mode,0⟩ m6)∧Hid (m6=(if ok=true then m else ZMap.put m sPath path)) ∧
    ((ok=true∧W6=((W4.drewN q).setCell ⟨hb,2,none⟩ (.string pre)).setCell ⟨hb,1,none⟩ (.string name))∨(ok=false∧(Instr.mapUpdate 200 (.map (some mb)) (.string ⟨#[112,97,116,104]⟩) (.string path)).run Tryz.prog (((W4.drewN q).setCell ⟨hb,2,none⟩ (.string pre)).setCell ⟨hb,1,none⟩ (.string name))=.ok () W6)):=by
   cases ok with
   | true=>exact ⟨_,_,P5,hid (by rw [if_pos rfl]),.inl ⟨rfl,rfl⟩⟩
   | false=>exact ⟨_,_,hid (P5.out.put _),hid (by rw [if_neg (by decide)]),.inr ⟨rfl,run_put map200 skeys P5.out.mp sPath path⟩⟩
  obtain ⟨W6,m6,P6,HM6,hM6⟩:=M6;rcases hM6 with ⟨hok,hW6⟩ | ⟨hok,hput⟩
  ·
   subst hok;have HW6:=hid hW6;clear hW6
   go_wp2_with fail
   rw [← HW6.out];clear HW6;refine (FI.out W6 (HG.out.below P6.out.bel).pow10).mono ?_;rintro r wf ⟨rfl,kf,os,hwf⟩;have PF:=hid (P6.out.step (W1:=wf) (by
    subst hwf;refine ⟨rfl,rfl,rfl,by simp [Sort.grow],fun j hj=>?_⟩;simp only [Sort.grow];rw [Array.getElem?_append_left (by simpa using hj)];rfl))
   have hput2:(Instr.mapUpdate 200 (.map (some mb)) (.string ⟨#[115,105,122,101]⟩) (.string sz)).run Tryz.prog wf=.ok () _:=run_put map200 skeys PF.out.mp sSize sz;obtain ⟨m7,hm7⟩:∃ m,ZMap.put m6 sSize sz=m:=⟨_,rfl⟩;have P7:=hid (PF.out.put m7);rw [hm7] at hput2;have HM7:=hid hm7;have KC7:=hid (KC.out _ (HG.out.below P7.out.bel));clear hwf hm7
   go_wp2_with fail
   refine KC7.out.mono ?_;rintro r w8 ⟨g,cap,rfl,hg,hrow,hbl⟩;have T8:=hid (show Lp w w8 w8 ⟨kind,path,mode,target,size⟩ hb mb ⟨typOf kind,name,pre,lk,mode,0⟩ m7 g (.slice none 0 0) 0 from ⟨P7.out.step hbl,hrow,Below.refl _ _,(P7.out.step hbl).mp.lt,hrow.lt,Kd.R_nil _ _ _ _ _⟩);clear hg hrow hbl
   go_wp2_with fail
   go_loopw [9,64] (fun v i wr=>∃ j:Nat,j≤3∧i=.int .i64 j∧Lp w w8 wr ⟨kind,path,mode,target,size⟩ hb mb ⟨typOf kind,name,pre,lk,mode,0⟩ m7 g v j) (fun _ i _=>3 - (intOf i).toNat)
   case atStart=>exact ⟨0,by decide,rfl,T8.out⟩
   case round =>
    clear T8;obtain ⟨j,hj,rfl,hS⟩:=hrel;by_cases hlt:j < 3
    ·
     have hltz:(j:Int) < 3:=by omega
     obtain ⟨key,hkey⟩:∃ key,[sLink,sPath,sSize][j]?=some key:=⟨_,List.getElem?_eq_getElem (by simpa using hlt)⟩;have ck:=hS.keys.cell j key hkey;have hget:=run_get_ok map200 skeys hS.ps.mp key (.string ⟨#[]⟩) (zero9 wr);have S:=hid hS;have HK:=hid hkey;cases hgm:get m7 key with
     | none =>
      rw [hgm] at hget;have HG2:=hid hgm;clear hS hkey hgm
      go_wp2_with fail
      go_roundw
      case rel=>exact ⟨j+1,by omega,by go_num,S.out.skip HK.out HG2.out⟩
      case measure=>simp [intOf];omega
     | some x =>
      rw [hgm] at hget;have HG2:=hid hgm;obtain ⟨A,cc,hv⟩:=Kd.R_slice hS.row;clear hS hkey hgm;have hlen:=S.out.len
      go_wp2_with (at_builtin;refine Kd.R_append recKd (w0:=wr) w8.heap.size rfl (.tmp 75) (.tmp 79) 86 125 (.agg #[.string ⟨#[]⟩,.string ⟨#[]⟩]) 32 rfl Tryz.underlying86 info125 rfl (by decide) (by decide) _ (upR m7 j) ⟨key,x⟩ [.string key,.string x] (fun _=>True) (fun _=>False) rfl rfl ⟨[.string key],[.string x],rfl,rfl,rfl⟩ (fun _ h=>h.elim) (fun _ _=>trivial) S.out.row (Below.refl _ _) S.out.bel8.size hlen ?_;intro v1 w9 hr9 hb9 _ _;replace hr9:=hid hr9;replace hb9:=hid hb9)
      go_roundw
      case rel=>exact ⟨j+1,by omega,by go_num,S.out.app HK.out HG2.out hr9.out hb9.out⟩
      case measure=>simp [intOf];omega
    ·
     obtain rfl:j=3:=by omega
     have S:=hid hS;obtain ⟨f1,f3,f4⟩:=hS.ps.cells;obtain ⟨g0,g1,g2,g3,g4,g5⟩:=hS.ps.hcells;obtain ⟨z0,z1,z2,z3,z4,z5⟩:=hS.ps.rfree;obtain ⟨y0,y1,y2,y3,y4,y5⟩:=hS.ps.rcells;clear hS
     go_wp2_with fail
     have E1:planH ⟨kind,path,mode,target,size⟩=⟨typOf kind,name,pre,lk,mode,0⟩:=plan_h_big HSP.out HLK.out hs;have E2:planR ⟨kind,path,mode,target,size⟩=upR m7 3:=(plan_r_big HSP.out HM.out HM6.out hs).trans (by rw [HSZ.out,HM7.out]);rw [E1,E2];refine bodyPost_ret (v:=.tuple #[(⟨typOf kind,name,pre,lk,mode,0⟩:Hdr).val,u9,.int .i64 0]) (by simp [results,Tryz.results91,go_sem,Hdr.val,Hdr.cells,y0,y1,y2,y3,y4,y5,z0,z1,z2,z3,z4,z5]) rfl ⟨u9,rfl,?_,?_⟩
     ·
      have hl:=S.out.ps.lt;have hl2:=S.out.ps.lt2;have hl3:=S.out.mlt;refine (RecRow.upto S.out.row fun k hk _=>?_).lower (by omega);have hne:k≠w.heap.size+1:=by omega
      repeat rw [Below.heap_setCell _ _ _ _ (by exact hne)]
     ·
      iterate 6 (refine Below.setCell ?_ (by show w.heap.size≤w.heap.size+1;omega) _)
      exact S.out.ps.bel
  ·
   subst hok;obtain ⟨x1,x3,x4⟩:=P6.out.cells;have hne1:¬ w.heap.size=hb:=by have:=P4.out.lt;omega
   have hne2:¬ hb=w.heap.size:=by have:=P4.out.lt;omega
   obtain ⟨v0,v1,v2,v3,v4,v5⟩:=P6.out.free;obtain ⟨u0,u1,u2,u3,u4,u5⟩:=P6.out.hcells
   go_wp2_with fail
   clear x1 x3 x4 v0 v1 v2 v3 v4 v5 u0 u1 u2 u3 u4 u5;refine (FI.out W6 (HG.out.below P6.out.bel).pow10).mono ?_;rintro r wf ⟨rfl,kf,os,hwf⟩;have PF:=hid (P6.out.step (W1:=wf) (by
    subst hwf;refine ⟨rfl,rfl,rfl,by simp [Sort.grow],fun j hj=>?_⟩;simp only [Sort.grow];rw [Array.getElem?_append_left (by simpa using hj)];rfl))
   have hput2:(Instr.mapUpdate 200 (.map (some mb)) (.string ⟨#[115,105,122,101]⟩) (.string sz)).run Tryz.prog wf=.ok () _:=run_put map200 skeys PF.out.mp sSize sz;obtain ⟨m7,hm7⟩:∃ m,ZMap.put m6 sSize sz=m:=⟨_,rfl⟩;have P7:=hid (PF.out.put m7);rw [hm7] at hput2;have HM7:=hid hm7;have KC7:=hid (KC.out _ (HG.out.below P7.out.bel));clear hwf hm7
   go_wp2_with fail
   refine KC7.out.mono ?_;rintro r w8 ⟨g,cap,rfl,hg,hrow,hbl⟩;have T8:=hid (show Lp w w8 w8 ⟨kind,path,mode,target,size⟩ hb mb ⟨typOf kind,name,pre,lk,mode,0⟩ m7 g (.slice none 0 0) 0 from ⟨P7.out.step hbl,hrow,Below.refl _ _,(P7.out.step hbl).mp.lt,hrow.lt,Kd.R_nil _ _ _ _ _⟩);clear hg hrow hbl
   go_wp2_with fail
   go_loopw [9,64] (fun v i wr=>∃ j:Nat,j≤3∧i=.int .i64 j∧Lp w w8 wr ⟨kind,path,mode,target,size⟩ hb mb ⟨typOf kind,name,pre,lk,mode,0⟩ m7 g v j) (fun _ i _=>3 - (intOf i).toNat)
   case atStart=>exact ⟨0,by decide,rfl,T8.out⟩
   case round =>
    clear T8;obtain ⟨j,hj,rfl,hS⟩:=hrel;by_cases hlt:j < 3
    ·
     have hltz:(j:Int) < 3:=by omega
     obtain ⟨key,hkey⟩:∃ key,[sLink,sPath,sSize][j]?=some key:=⟨_,List.getElem?_eq_getElem (by simpa using hlt)⟩;have ck:=hS.keys.cell j key hkey;have hget:=run_get_ok map200 skeys hS.ps.mp key (.string ⟨#[]⟩) (zero9 wr);have S:=hid hS;have HK:=hid hkey;cases hgm:get m7 key with
     | none =>
      rw [hgm] at hget;have HG2:=hid hgm;clear hS hkey hgm
      go_wp2_with fail
      go_roundw
      case rel=>exact ⟨j+1,by omega,by go_num,S.out.skip HK.out HG2.out⟩
      case measure=>simp [intOf];omega
     | some x =>
      rw [hgm] at hget;have HG2:=hid hgm;obtain ⟨A,cc,hv⟩:=Kd.R_slice hS.row;clear hS hkey hgm;have hlen:=S.out.len
      go_wp2_with (at_builtin;refine Kd.R_append recKd (w0:=wr) w8.heap.size rfl (.tmp 75) (.tmp 79) 86 125 (.agg #[.string ⟨#[]⟩,.string ⟨#[]⟩]) 32 rfl Tryz.underlying86 info125 rfl (by decide) (by decide) _ (upR m7 j) ⟨key,x⟩ [.string key,.string x] (fun _=>True) (fun _=>False) rfl rfl ⟨[.string key],[.string x],rfl,rfl,rfl⟩ (fun _ h=>h.elim) (fun _ _=>trivial) S.out.row (Below.refl _ _) S.out.bel8.size hlen ?_;intro v1 w9 hr9 hb9 _ _;replace hr9:=hid hr9;replace hb9:=hid hb9)
      go_roundw
      case rel=>exact ⟨j+1,by omega,by go_num,S.out.app HK.out HG2.out hr9.out hb9.out⟩
      case measure=>simp [intOf];omega
    ·
     obtain rfl:j=3:=by omega
     have S:=hid hS;obtain ⟨f1,f3,f4⟩:=hS.ps.cells;obtain ⟨g0,g1,g2,g3,g4,g5⟩:=hS.ps.hcells;obtain ⟨z0,z1,z2,z3,z4,z5⟩:=hS.ps.rfree;obtain ⟨y0,y1,y2,y3,y4,y5⟩:=hS.ps.rcells;clear hS
     go_wp2_with fail
     have E1:planH ⟨kind,path,mode,target,size⟩=⟨typOf kind,name,pre,lk,mode,0⟩:=plan_h_big HSP.out HLK.out hs;have E2:planR ⟨kind,path,mode,target,size⟩=upR m7 3:=(plan_r_big HSP.out HM.out HM6.out hs).trans (by rw [HSZ.out,HM7.out]);rw [E1,E2];refine bodyPost_ret (v:=.tuple #[(⟨typOf kind,name,pre,lk,mode,0⟩:Hdr).val,u9,.int .i64 0]) (by simp [results,Tryz.results91,go_sem,Hdr.val,Hdr.cells,y0,y1,y2,y3,y4,y5,z0,z1,z2,z3,z4,z5]) rfl ⟨u9,rfl,?_,?_⟩
     ·
      have hl:=S.out.ps.lt;have hl2:=S.out.ps.lt2;have hl3:=S.out.mlt;refine (RecRow.upto S.out.row fun k hk _=>?_).lower (by omega);have hne:k≠w.heap.size+1:=by omega
      repeat rw [Below.heap_setCell _ _ _ _ (by exact hne)]
     ·
      iterate 6 (refine Below.setCell ?_ (by show w.heap.size≤w.heap.size+1;omega) _)
      exact S.out.ps.bel
 ·
  have htz:(100:Int) < (target.size:Int):=by omega
  clear ht;have y:=P4.out.cells;obtain ⟨y1,y3,y4⟩:=y
  go_wp2_with fail
  clear f1 f3 f4 g0 g1 g2 g3 g4 g5 z0 z1 z2 z3 z4 z5 y1 y3 y4 hput;obtain ⟨f1,f3,f4⟩:=P4.out.cells;obtain ⟨g0,g1,g2,g3,g4,g5⟩:=P4.out.hcells;obtain ⟨z0,z1,z2,z3,z4,z5⟩:=P4.out.free;refine (HSC.out W4).mono ?_;rintro r w5 ⟨rfl,⟨⟨q,rfl⟩⟩⟩;have P5:Hid (Ps w (((W4.drewN q).setCell ⟨hb,2,none⟩ (.string pre)).setCell ⟨hb,1,none⟩ (.string name)) ⟨kind,path,mode,target,size⟩ hb mb ⟨typOf kind,name,pre,lk,mode,0⟩ m):=hid (((P4.out.step (pw_below_drewN (Below.refl _ _) q)).set 2 (.string pre) ⟨typOf kind,⟨#[]⟩,pre,lk,mode,0⟩ rfl).set 1 (.string name) ⟨typOf kind,name,pre,lk,mode,0⟩ rfl);have M6:∃ W6 m6,Hid (Ps w W6 ⟨kind,path,mode,target,size⟩ hb mb ⟨typOf kind,name,pre,lk,mode,0⟩ m6)∧Hid (m6=(if ok=true then m else ZMap.put m sPath path)) ∧
    ((ok=true∧W6=((W4.drewN q).setCell ⟨hb,2,none⟩ (.string pre)).setCell ⟨hb,1,none⟩ (.string name))∨(ok=false∧(Instr.mapUpdate 200 (.map (some mb)) (.string ⟨#[112,97,116,104]⟩) (.string path)).run Tryz.prog (((W4.drewN q).setCell ⟨hb,2,none⟩ (.string pre)).setCell ⟨hb,1,none⟩ (.string name))=.ok () W6)):=by
   cases ok with
   | true=>exact ⟨_,_,P5,hid (by rw [if_pos rfl]),.inl ⟨rfl,rfl⟩⟩
   | false=>exact ⟨_,_,hid (P5.out.put _),hid (by rw [if_neg (by decide)]),.inr ⟨rfl,run_put map200 skeys P5.out.mp sPath path⟩⟩
  obtain ⟨W6,m6,P6,HM6,hM6⟩:=M6;rcases hM6 with ⟨hok,hW6⟩ | ⟨hok,hput⟩
  ·
   subst hok;have HW6:=hid hW6;clear hW6
   go_wp2_with fail
   rw [← HW6.out];clear HW6;refine (FI.out W6 (HG.out.below P6.out.bel).pow10).mono ?_;rintro r wf ⟨rfl,kf,os,hwf⟩;have PF:=hid (P6.out.step (W1:=wf) (by
    subst hwf;refine ⟨rfl,rfl,rfl,by simp [Sort.grow],fun j hj=>?_⟩;simp only [Sort.grow];rw [Array.getElem?_append_left (by simpa using hj)];rfl))
   have hput2:(Instr.mapUpdate 200 (.map (some mb)) (.string ⟨#[115,105,122,101]⟩) (.string sz)).run Tryz.prog wf=.ok () _:=run_put map200 skeys PF.out.mp sSize sz;obtain ⟨m7,hm7⟩:∃ m,ZMap.put m6 sSize sz=m:=⟨_,rfl⟩;have P7:=hid (PF.out.put m7);rw [hm7] at hput2;have HM7:=hid hm7;have KC7:=hid (KC.out _ (HG.out.below P7.out.bel));clear hwf hm7
   go_wp2_with fail
   refine KC7.out.mono ?_;rintro r w8 ⟨g,cap,rfl,hg,hrow,hbl⟩;have T8:=hid (show Lp w w8 w8 ⟨kind,path,mode,target,size⟩ hb mb ⟨typOf kind,name,pre,lk,mode,0⟩ m7 g (.slice none 0 0) 0 from ⟨P7.out.step hbl,hrow,Below.refl _ _,(P7.out.step hbl).mp.lt,hrow.lt,Kd.R_nil _ _ _ _ _⟩);clear hg hrow hbl
   go_wp2_with fail
   go_loopw [9,64] (fun v i wr=>∃ j:Nat,j≤3∧i=.int .i64 j∧Lp w w8 wr ⟨kind,path,mode,target,size⟩ hb mb ⟨typOf kind,name,pre,lk,mode,0⟩ m7 g v j) (fun _ i _=>3 - (intOf i).toNat)
   case atStart=>exact ⟨0,by decide,rfl,T8.out⟩
   case round =>
    clear T8;obtain ⟨j,hj,rfl,hS⟩:=hrel;by_cases hlt:j < 3
    ·
     have hltz:(j:Int) < 3:=by omega
     obtain ⟨key,hkey⟩:∃ key,[sLink,sPath,sSize][j]?=some key:=⟨_,List.getElem?_eq_getElem (by simpa using hlt)⟩;have ck:=hS.keys.cell j key hkey;have hget:=run_get_ok map200 skeys hS.ps.mp key (.string ⟨#[]⟩) (zero9 wr);have S:=hid hS;have HK:=hid hkey;cases hgm:get m7 key with
     | none =>
      rw [hgm] at hget;have HG2:=hid hgm;clear hS hkey hgm
      go_wp2_with fail
      go_roundw
      case rel=>exact ⟨j+1,by omega,by go_num,S.out.skip HK.out HG2.out⟩
      case measure=>simp [intOf];omega
     | some x =>
      rw [hgm] at hget;have HG2:=hid hgm;obtain ⟨A,cc,hv⟩:=Kd.R_slice hS.row;clear hS hkey hgm;have hlen:=S.out.len
      go_wp2_with (at_builtin;refine Kd.R_append recKd (w0:=wr) w8.heap.size rfl (.tmp 75) (.tmp 79) 86 125 (.agg #[.string ⟨#[]⟩,.string ⟨#[]⟩]) 32 rfl Tryz.underlying86 info125 rfl (by decide) (by decide) _ (upR m7 j) ⟨key,x⟩ [.string key,.string x] (fun _=>True) (fun _=>False) rfl rfl ⟨[.string key],[.string x],rfl,rfl,rfl⟩ (fun _ h=>h.elim) (fun _ _=>trivial) S.out.row (Below.refl _ _) S.out.bel8.size hlen ?_;intro v1 w9 hr9 hb9 _ _;replace hr9:=hid hr9;replace hb9:=hid hb9)
      go_roundw
      case rel=>exact ⟨j+1,by omega,by go_num,S.out.app HK.out HG2.out hr9.out hb9.out⟩
      case measure=>simp [intOf];omega
    ·
     obtain rfl:j=3:=by omega
     have S:=hid hS;obtain ⟨f1,f3,f4⟩:=hS.ps.cells;obtain ⟨g0,g1,g2,g3,g4,g5⟩:=hS.ps.hcells;obtain ⟨z0,z1,z2,z3,z4,z5⟩:=hS.ps.rfree;obtain ⟨y0,y1,y2,y3,y4,y5⟩:=hS.ps.rcells;clear hS
     go_wp2_with fail
     have E1:planH ⟨kind,path,mode,target,size⟩=⟨typOf kind,name,pre,lk,mode,0⟩:=plan_h_big HSP.out HLK.out hs;have E2:planR ⟨kind,path,mode,target,size⟩=upR m7 3:=(plan_r_big HSP.out HM.out HM6.out hs).trans (by rw [HSZ.out,HM7.out]);rw [E1,E2];refine bodyPost_ret (v:=.tuple #[(⟨typOf kind,name,pre,lk,mode,0⟩:Hdr).val,u9,.int .i64 0]) (by simp [results,Tryz.results91,go_sem,Hdr.val,Hdr.cells,y0,y1,y2,y3,y4,y5,z0,z1,z2,z3,z4,z5]) rfl ⟨u9,rfl,?_,?_⟩
     ·
      have hl:=S.out.ps.lt;have hl2:=S.out.ps.lt2;have hl3:=S.out.mlt;refine (RecRow.upto S.out.row fun k hk _=>?_).lower (by omega);have hne:k≠w.heap.size+1:=by omega
      repeat rw [Below.heap_setCell _ _ _ _ (by exact hne)]
     ·
      iterate 6 (refine Below.setCell ?_ (by show w.heap.size≤w.heap.size+1;omega) _)
      exact S.out.ps.bel
  ·
   subst hok;obtain ⟨x1,x3,x4⟩:=P6.out.cells;have hne1:¬ w.heap.size=hb:=by have:=P4.out.lt;omega
   have hne2:¬ hb=w.heap.size:=by have:=P4.out.lt;omega
   obtain ⟨v0,v1,v2,v3,v4,v5⟩:=P6.out.free;obtain ⟨u0,u1,u2,u3,u4,u5⟩:=P6.out.hcells
   go_wp2_with fail
   clear x1 x3 x4 v0 v1 v2 v3 v4 v5 u0 u1 u2 u3 u4 u5;refine (FI.out W6 (HG.out.below P6.out.bel).pow10).mono ?_;rintro r wf ⟨rfl,kf,os,hwf⟩;have PF:=hid (P6.out.step (W1:=wf) (by
    subst hwf;refine ⟨rfl,rfl,rfl,by simp [Sort.grow],fun j hj=>?_⟩;simp only [Sort.grow];rw [Array.getElem?_append_left (by simpa using hj)];rfl))
   have hput2:(Instr.mapUpdate 200 (.map (some mb)) (.string ⟨#[115,105,122,101]⟩) (.string sz)).run Tryz.prog wf=.ok () _:=run_put map200 skeys PF.out.mp sSize sz;obtain ⟨m7,hm7⟩:∃ m,ZMap.put m6 sSize sz=m:=⟨_,rfl⟩;have P7:=hid (PF.out.put m7);rw [hm7] at hput2;have HM7:=hid hm7;have KC7:=hid (KC.out _ (HG.out.below P7.out.bel));clear hwf hm7
   go_wp2_with fail
   refine KC7.out.mono ?_;rintro r w8 ⟨g,cap,rfl,hg,hrow,hbl⟩;have T8:=hid (show Lp w w8 w8 ⟨kind,path,mode,target,size⟩ hb mb ⟨typOf kind,name,pre,lk,mode,0⟩ m7 g (.slice none 0 0) 0 from ⟨P7.out.step hbl,hrow,Below.refl _ _,(P7.out.step hbl).mp.lt,hrow.lt,Kd.R_nil _ _ _ _ _⟩);clear hg hrow hbl
   go_wp2_with fail
   go_loopw [9,64] (fun v i wr=>∃ j:Nat,j≤3∧i=.int .i64 j∧Lp w w8 wr ⟨kind,path,mode,target,size⟩ hb mb ⟨typOf kind,name,pre,lk,mode,0⟩ m7 g v j) (fun _ i _=>3 - (intOf i).toNat)
   case atStart=>exact ⟨0,by decide,rfl,T8.out⟩
   case round =>
    clear T8;obtain ⟨j,hj,rfl,hS⟩:=hrel;by_cases hlt:j < 3
    ·
     have hltz:(j:Int) < 3:=by omega
     obtain ⟨key,hkey⟩:∃ key,[sLink,sPath,sSize][j]?=some key:=⟨_,List.getElem?_eq_getElem (by simpa using hlt)⟩;have ck:=hS.keys.cell j key hkey;have hget:=run_get_ok map200 skeys hS.ps.mp key (.string ⟨#[]⟩) (zero9 wr);have S:=hid hS;have HK:=hid hkey;cases hgm:get m7 key with
     | none =>
      rw [hgm] at hget;have HG2:=hid hgm;clear hS hkey hgm
      go_wp2_with fail
      go_roundw
      case rel=>exact ⟨j+1,by omega,by go_num,S.out.skip HK.out HG2.out⟩
      case measure=>simp [intOf];omega
     | some x =>
      rw [hgm] at hget;have HG2:=hid hgm;obtain ⟨A,cc,hv⟩:=Kd.R_slice hS.row;clear hS hkey hgm;have hlen:=S.out.len
      go_wp2_with (at_builtin;refine Kd.R_append recKd (w0:=wr) w8.heap.size rfl (.tmp 75) (.tmp 79) 86 125 (.agg #[.string ⟨#[]⟩,.string ⟨#[]⟩]) 32 rfl Tryz.underlying86 info125 rfl (by decide) (by decide) _ (upR m7 j) ⟨key,x⟩ [.string key,.string x] (fun _=>True) (fun _=>False) rfl rfl ⟨[.string key],[.string x],rfl,rfl,rfl⟩ (fun _ h=>h.elim) (fun _ _=>trivial) S.out.row (Below.refl _ _) S.out.bel8.size hlen ?_;intro v1 w9 hr9 hb9 _ _;replace hr9:=hid hr9;replace hb9:=hid hb9)
      go_roundw
      case rel=>exact ⟨j+1,by omega,by go_num,S.out.app HK.out HG2.out hr9.out hb9.out⟩
      case measure=>simp [intOf];omega
    ·
     obtain rfl:j=3:=by omega
     have S:=hid hS;obtain ⟨f1,f3,f4⟩:=hS.ps.cells;obtain ⟨g0,g1,g2,g3,g4,g5⟩:=hS.ps.hcells;obtain ⟨z0,z1,z2,z3,z4,z5⟩:=hS.ps.rfree;obtain ⟨y0,y1,y2,y3,y4,y5⟩:=hS.ps.rcells;clear hS
     go_wp2_with fail
     have E1:planH ⟨kind,path,mode,target,size⟩=⟨typOf kind,name,pre,lk,mode,0⟩:=plan_h_big HSP.out HLK.out hs;have E2:planR ⟨kind,path,mode,target,size⟩=upR m7 3:=(plan_r_big HSP.out HM.out HM6.out hs).trans (by rw [HSZ.out,HM7.out]);rw [E1,E2];refine bodyPost_ret (v:=.tuple #[(⟨typOf kind,name,pre,lk,mode,0⟩:Hdr).val,u9,.int .i64 0]) (by simp [results,Tryz.results91,go_sem,Hdr.val,Hdr.cells,y0,y1,y2,y3,y4,y5,z0,z1,z2,z3,z4,z5]) rfl ⟨u9,rfl,?_,?_⟩
     ·
      have hl:=S.out.ps.lt;have hl2:=S.out.ps.lt2;have hl3:=S.out.mlt;refine (RecRow.upto S.out.row fun k hk _=>?_).lower (by omega);have hne:k≠w.heap.size+1:=by omega
      repeat rw [Below.heap_setCell _ _ _ _ (by exact hne)]
     ·
      iterate 6 (refine Below.setCell ?_ (by show w.heap.size≤w.heap.size+1;omega) _)
      exact S.out.ps.bel
set_option maxHeartbeats 1000000 in
theorem plan_bad (e:Ent) (hn:¬ e.Ok) (w:World) (hG:Gl w):Calls Tryz.prog 91 #[e.val] w fun r w'=>∃ x:Int,x≠0∧r=.returned (.tuple #[(⟨0,⟨#[]⟩,⟨#[]⟩,⟨#[]⟩,0,0⟩:Hdr).val,.slice none 0 0,.int .i64 x])∧Below w.heap.size w w':=by
 have HE:=hid hn;obtain ⟨kind,path,mode,target,size⟩:=e;have CC:=hid (fun W hW=>check_calls ⟨kind,path,mode,target,size⟩ W hW);have q0:=hid ((below_alloc (Below.refl w.heap.size w) (.cells #[.int .i64 kind,.string path,.int .i64 mode,.string target,.int .i64 size] 54)).trans ((below_alloc (Below.refl _ (w.alloc (.cells #[.int .i64 kind,.string path,.int .i64 mode,.string target,.int .i64 size] 54))) (.cells #[.int .u8 0,.string ⟨#[]⟩,.string ⟨#[]⟩,.string ⟨#[]⟩,.int .i64 0,.int .i64 0] 138)).mono (by simp)));have G0:=hid (hG.below q0.out);unfold Ent.val Ent.cells at *;dsimp only at *;clear hG hn;go_enter Tryz.func91,Tryz.ntmps91
 go_wp2_with fail
 refine (CC.out _ G0.out).mono ?_;rintro r w1 ⟨x,rfl,hx,hb⟩;have hx0:x≠0:=fun h=>HE.out (hx.1 h);have bx:(x != 0)=true:=by rw [bne_iff_ne];exact hx0
 have HX:=hid hx0;have B1:=hid (below_step q0.out hb);have R1:w1.heap[w.heap.size+1]?=some (.cells #[.int .u8 0,.string ⟨#[]⟩,.string ⟨#[]⟩,.string ⟨#[]⟩,.int .i64 0,.int .i64 0] 138 (0,0)):=(hb.block _ (by simp)).trans (heap_alloc2_new _ _ _);obtain ⟨y0,y1,y2,y3,y4,y5⟩:w1.cell? ⟨w.heap.size+1,0,none⟩=some (.int .u8 0)∧w1.cell? ⟨w.heap.size+1,1,none⟩=some (.string ⟨#[]⟩)∧w1.cell? ⟨w.heap.size+1,2,none⟩=some (.string ⟨#[]⟩)∧w1.cell? ⟨w.heap.size+1,3,none⟩=some (.string ⟨#[]⟩)∧w1.cell? ⟨w.heap.size+1,4,none⟩=some (.int .i64 0)∧w1.cell? ⟨w.heap.size+1,5,none⟩=some (.int .i64 0):=by simp [World.cell?,R1]
 obtain ⟨z0,z1,z2,z3,z4,z5⟩:w1.frozen? ⟨w.heap.size+1,0,none⟩=false∧w1.frozen? ⟨w.heap.size+1,1,none⟩=false∧w1.frozen? ⟨w.heap.size+1,2,none⟩=false∧w1.frozen? ⟨w.heap.size+1,3,none⟩=false∧w1.frozen? ⟨w.heap.size+1,4,none⟩=false∧w1.frozen? ⟨w.heap.size+1,5,none⟩=false:=by simp [World.frozen?,R1]
 clear hx hb hx0 R1
 go_wp2_with fail
 refine bodyPost_ret (v:=.tuple #[(⟨0,⟨#[]⟩,⟨#[]⟩,⟨#[]⟩,0,0⟩:Hdr).val,.slice none 0 0,.int .i64 x]) (by simp [results,Tryz.results91,go_sem,Hdr.val,Hdr.cells,y0,y1,y2,y3,y4,y5,z0,z1,z2,z3,z4,z5]) rfl ⟨x,HX.out,rfl,?_⟩
 iterate 6 (refine Below.setCell ?_ (by show w.heap.size≤w.heap.size+1;omega) _)
 exact B1.out
theorem plan_any (e:Ent) (w:World) (hG:Gl w):Calls Tryz.prog 91 #[e.val] w fun r w'=>Below w.heap.size w w'∧((e.Ok∧∃ v,r=.returned (.tuple #[(planH e).val,v,.int .i64 0])∧RecRow w' w.heap.size v (planR e))∨(¬ e.Ok∧∃ x:Int,x≠0∧r=.returned (.tuple #[(⟨0,⟨#[]⟩,⟨#[]⟩,⟨#[]⟩,0,0⟩:Hdr).val,.slice none 0 0,.int .i64 x]))):=by
 by_cases h:e.Ok
 ·
  by_cases hs:e.size≤8589934591
  ·exact (plan_calls e hs h w hG).mono fun r w' ⟨v,h1,h2,h3⟩=>⟨h3,.inl ⟨h,v,h1,h2⟩⟩
  ·exact (plan_big e (by omega) h w hG).mono fun r w' ⟨v,h1,h2,h3⟩=>⟨h3,.inl ⟨h,v,h1,h2⟩⟩
 ·exact (plan_bad e h w hG).mono fun r w' ⟨x,h1,h2,h3⟩=>⟨h3,.inr ⟨h,x,h1,h2⟩⟩
end ZPlanN
end
end Go.Proofs.YteikiojmcipkmaaGreatDoor
