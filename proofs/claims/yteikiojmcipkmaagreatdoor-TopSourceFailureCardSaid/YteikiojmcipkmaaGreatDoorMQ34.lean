/- Parts of the proof, gathered by a program: what calls of the functions answer, and what follows in plain lists. Conditions: those that each theorem states. -/
import Derived.Test.YteikiojmcipkmaaGreatDoorMQ33
import Derived.Test.YteikiojmcipkmaaGreatDoorMQ28
set_option linter.unusedVariables false
set_option linter.unusedSimpArgs false
namespace Go.Proofs.YteikiojmcipkmaaGreatDoor
open Go.Lib (hid)
open Go.RowKit ZStr YteikiojmcipkmaaGreatDoorW.PrintWords YteikiojmcipkmaaGreatDoorW.PrintLast YteikiojmcipkmaaGreatDoorW.PrintMore Oct ZBase ZPath ZNod ZTree
set_option maxRecDepth 100000
namespace ZAdd
open ZGlob ZMo ZRec ZFit ZMap ZTCheck ZCount ZRow ZCanon
open ZBld ZMem
open ZSink (ob)
open ZCreate (C_lt)
theorem info46b:(Tryz.prog.info? 46).map (fun i=>(i.zero,i.size,i.bytes))=some (some (.agg #[.int .i64 0,.string ⟨#[]⟩,.int .i64 0,.string ⟨#[]⟩,.slice none 0 0,.int .i64 0]),6,80):=by kernel_rfl
theorem rowCells_snoc (l:List NV) (x:NV):rowCells (l++[x])=rowCells l++x.cells:=by simp [rowCells]
theorem step_append_node {ops:Array Oper} {o:Oper} {a:Act} {K:Act→World→Prop} {Q:Exit→Act→World→Prop} {E:Prop} (W:World) (base:Nat) (hgd:o.guard=none) (s x:Operand) (ho:o.op=.call { callee:=.builtin .append,args:=#[s,x],argTypes:=#[22,22] }) (v:Value) (N:List NV) (b:Nat) (y:NV) (hs:a.eval s=v) (hx:a.eval x=.slice (some ⟨b,0,none⟩) 1 1) (HO:W.ownsRow base 46 6 v N.length (rowCells N)) (HB:W.heap[b]?=some (.cells y.cells.toArray 46 (0,0))) (hbase:base≤W.heap.size) (hl:N.length≤1000000) (h:∀ g cap w1,w1.ownsRow base 46 6 (.slice (some ⟨g,0,none⟩) (N.length+1) cap) (N.length+1) (rowCells (N++[y]))→W.grownBy w1 v.ownBlock→(v.ownBlock=some g∨g=W.heap.size)→K (a.put o.dst (.slice (some ⟨g,0,none⟩) (N.length+1) cap)) w1): if Region.wanted o (yielded ops a.tmps)=true then Oper.wp Tryz.prog o a W K Q else E:=by
 obtain ⟨i,hi,hz⟩:=Option.map_eq_some_iff.1 info46b;simp only [Prod.mk.injEq] at hz;refine step_append_lies W hgd s x 22 ho base 46 i (.agg #[.int .i64 0,.string ⟨#[]⟩,.int .i64 0,.string ⟨#[]⟩,.slice none 0 0,.int .i64 0]) 6 80 Tryz.underlying22 hi hz.1 hz.2.1 hz.2.2 rfl (by decide) v N.length (rowCells N) hs HO ⟨b,0,none⟩ 1 1 y.cells hx (by rw [cells_len]) (by simpa using World.news_of_block HB) (cells_one y) (by decide) (by unfold maxLen;omega) (by omega) hbase W.heap.size rfl ?_;intro g cap w1 h1 h2 h3 _;refine h g cap w1 ?_ h2 h3;rw [rowCells_snoc];exact h1
structure Pre (w W:World) (db base:Nat) (nv:Value) (N:List NV) (dm:List (ByteArray×Bool)) (fm:List (ByteArray×Int)) (nb:Nat) (y:NV):Prop where
 bd:Bd W db base nv N dm fm
 node:W.heap[nb]?=some (.cells y.cells.toArray 46 (0,0))
 nbge:w.heap.size≤nb
 mo:Mo [db,db+1] w W
 yd:Reads W y∧∀ ad,y.addr=some ad→0 < y.data.length→base≤ad.block∧ad.block∉ob nv
theorem Pre.after {w W w1:World} {db base:Nat} {nv:Value} {N:List NV} {dm:List (ByteArray×Bool)} {fm:List (ByteArray×Int)} {nb:Nat} {y:NV} (h:Pre w W db base nv N dm fm nb y) (hob:∀ k∈ob nv,k < w.heap.size) {g cap:Nat} (W2:World) (hW:W2.heap.size=W.heap.size+1∧Below W.heap.size W W2) (ho:w1.ownsRow base 46 6 (.slice (some ⟨g,0,none⟩) (N.length+1) cap) (N.length+1) (rowCells (N++[y]))) (hg:W2.grownBy w1 nv.ownBlock) (hat:nv.ownBlock=some g∨g=W2.heap.size) : Bd (w1.setCell ⟨db+2,0,none⟩ (.slice (some ⟨g,0,none⟩) (N.length+1) cap)) db base (.slice (some ⟨g,0,none⟩) (N.length+1) cap) (N++[y]) dm fm∧Mo (db :: (db+1) :: (db+2) :: ob nv) w (w1.setCell ⟨db+2,0,none⟩ (.slice (some ⟨g,0,none⟩) (N.length+1) cap))∧w1.cell? ⟨db+2,0,none⟩=some nv∧w1.frozen? ⟨db+2,0,none⟩=false:=by
 have hlo:=h.bd.lo;have hbl:=blk_lt h.bd.blk;have hv:∀ k,nv.ownBlock=some k→base≤k:=fun k hk=>own_base h.bd.own k hk;have hs2:=hW.1;have hsz:=hg.size;have hk1:∀ k,k < W.heap.size→k∉ob nv→w1.heap[k]?=W.heap[k]?:=fun k hk hn=>(hg.block k (by omega) (fun e=>hn (by simp [ob,← e]))).trans (hW.2.block k hk);have hsc:∀ k,k≠db+2→(w1.setCell ⟨db+2,0,none⟩ (.slice (some ⟨g,0,none⟩) (N.length+1) cap)).heap[k]?=w1.heap[k]?:=fun k hk=>Below.heap_setCell _ _ _ _ hk;have hlow:∀ k,k < base→k∉ob nv:=fun k hk hn=>by have:=hv k (by simpa [ob] using hn);omega
 have hgge:base≤g:=own_base ho g rfl;have hdat:∀ x:NV,(Reads W x∧∀ ad,x.addr=some ad→0 < x.data.length→base≤ad.block∧ad.block∉ob nv)→Reads (w1.setCell ⟨db+2,0,none⟩ (.slice (some ⟨g,0,none⟩) (N.length+1) cap)) x∧∀ ad,x.addr=some ad→0 < x.data.length→base≤ad.block∧ad.block∉ob (.slice (some ⟨g,0,none⟩) (N.length+1) cap):=by
  intro x ⟨⟨h1,h2⟩,h3⟩;refine ⟨⟨C_of h1 fun ad ha hn=>?_,h2⟩,fun ad ha hn=>⟨(h3 ad ha hn).1,?_⟩⟩
  ·have:=h3 ad ha hn;have:=C_lt h1 ad ha hn;rw [hsc _ (by omega),hk1 _ (by omega) (h3 ad ha hn).2]
  ·
   have e1:=h3 ad ha hn;have e2:=C_lt h1 ad ha hn;intro hk;have hk':ad.block=g:=by simpa [ob,Value.ownBlock] using hk
   rcases hat with e | e
   ·exact e1.2 (by simp [ob,e,hk'])
   ·omega
 have m1:Mo (db :: (db+1) :: (db+2) :: ob nv) w w1:=by refine (h.mo.more (T:=db :: (db+1) :: (db+2) :: ob nv) fun k hk=>by simp only [List.mem_cons,List.not_mem_nil,or_false] at hk ⊢;rcases hk with rfl | rfl <;> simp).then_ (T:=ob nv) ?_ fun t ht=>.inl (by simp [ht]);refine ⟨hg.os.trans hW.2.os,hg.tape.trans hW.2.tape,hg.output.trans hW.2.output,by omega,fun k hk hS=>hk1 k hk hS⟩
 refine ⟨⟨?_,?_,?_,?_,fun x hx=>?_,?_⟩,m1.set (.inl (by simp)) _,?_⟩
 ·have hb1:=(hk1 (db+2) (by omega) (hlow _ (by omega))).trans h.bd.blk;rw [heap_setCell_same w1 (db+2) 0 _ _ _ hb1];rfl
 ·
  have h1:(N++[y]).length=N.length+1:=by simp
  rw [h1];refine own_move ho fun k hk=>?_;have hk':g=k:=by simpa [Value.ownBlock] using hk
  exact hsc k (by omega)
 ·exact MapAt.of h.bd.dirs ((hsc _ (by omega)).trans (hk1 _ (by omega) (hlow _ (by omega))))
 ·exact MapAt.of h.bd.files ((hsc _ (by omega)).trans (hk1 _ (by omega) (hlow _ (by omega))))
 ·
  rcases List.mem_append.1 hx with h1 | h1
  ·exact hdat x (h.bd.data x h1)
  ·
   have h2:x=y:=by simpa using h1
   subst h2;exact hdat x h.yd
 ·simp;omega
 ·have hb1:=(hk1 (db+2) (by omega) (hlow _ (by omega))).trans h.bd.blk;exact ⟨cell_of hb1 0 _ rfl,by simp [World.frozen?,hb1]⟩
def addS (N:List NV) (fm:List (ByteArray×Int)) (e:Ent) (D:List Int):NV :=
 if e.kind=3 then
  match N[((ZMap.get fm e.target).getD 0).toNat]? with
  | some z=>⟨1,e.path,e.mode,⟨#[]⟩,none,0,z.data,z.cls⟩
  | none=>zeroNV
 else ⟨e.kind,e.path,e.mode,e.target,none,0,D,if e.kind=1 then N.length+1 else 0⟩
def addD (dm:List (ByteArray×Bool)) (e:Ent):List (ByteArray×Bool):=if e.kind=0 then ZMap.put dm e.path true else dm
def addF (fm:List (ByteArray×Int)) (e:Ent) (n:Nat):List (ByteArray×Int):=if e.kind=1 then ZMap.put fm e.path n else fm
theorem six_free {w:World} {k:Nat} {v0 v1 v2 v3 v4 v5:Value} {t:TypeId} (h:w.heap[k]?=some (.cells #[v0,v1,v2,v3,v4,v5] t (0,0))):w.frozen? ⟨k,0,none⟩=false∧w.frozen? ⟨k,1,none⟩=false∧w.frozen? ⟨k,2,none⟩=false∧w.frozen? ⟨k,3,none⟩=false∧w.frozen? ⟨k,4,none⟩=false∧w.frozen? ⟨k,5,none⟩=false:=by simp [World.frozen?,h]
theorem six_cell {w:World} {k:Nat} {v0 v1 v2 v3 v4 v5:Value} {t:TypeId} (h:w.heap[k]?=some (.cells #[v0,v1,v2,v3,v4,v5] t (0,0))):w.cell? ⟨k,0,none⟩=some v0∧w.cell? ⟨k,1,none⟩=some v1∧w.cell? ⟨k,2,none⟩=some v2∧w.cell? ⟨k,3,none⟩=some v3∧w.cell? ⟨k,4,none⟩=some v4∧w.cell? ⟨k,5,none⟩=some v5:=by simp [World.cell?,h]
def Fresh (w1:World) (x:NV) (A:Option Addr) (c nb:Nat) (W:World):Prop:=Below w1.heap.size w1 W∧W.heap[nb]?=some (.cells (NV.cells { x with addr:=A,cap:=c }).toArray 46 (0,0))∧w1.heap.size≤nb∧Reads W { x with addr:=A,cap:=c }∧∀ ad,A=some ad→0 < x.data.length→w1.heap.size≤ad.block∧ad.block≠nb
theorem fresh_alloc {w1 wa w2:World} {x:NV} {A:Option Addr} {c:Nat} (ha:Below w1.heap.size w1 wa) (hb:Below wa.heap.size wa w2) (hr:Reads w2 { x with addr:=A,cap:=c }) (ho:∀ ad,A=some ad→0 < x.data.length→wa.heap.size≤ad.block∧ad.block < w2.heap.size): Fresh w1 x A c w2.heap.size (w2.alloc (.cells (NV.cells { x with addr:=A,cap:=c }).toArray 46)):=by
 have h1:=below_step ha hb;exact ⟨below_alloc h1 _,heap_alloc_new _ _,h1.size,hr.below (below_alloc (Below.refl _ _) _),fun ad h2 h3=>by have:=ho ad h2 h3;have:=ha.size;omega⟩
theorem fresh_set {w1 wa w2:World} {nb:Nat} {x:NV} {A:Option Addr} {c:Nat} (ha:Below w1.heap.size w1 wa) (hb:Below wa.heap.size wa w2) (hr:Reads w2 { x with addr:=A,cap:=c }) (ho:∀ ad,A=some ad→0 < x.data.length→wa.heap.size≤ad.block∧ad.block < w2.heap.size) (hnb:w1.heap.size=nb) (hnb2:nb < wa.heap.size) (hz:w2.heap[nb]?=some (.cells #[.int .i64 0,.string ⟨#[]⟩,.int .i64 0,.string ⟨#[]⟩,.slice none 0 0,.int .i64 0] 46 (0,0))): Fresh w1 x A c nb ((((((w2.setCell ⟨nb,0,none⟩ (.int .i64 x.kind)).setCell ⟨nb,1,none⟩ (.string x.path)).setCell ⟨nb,2,none⟩ (.int .i64 x.mode)).setCell ⟨nb,3,none⟩ (.string x.target)).setCell ⟨nb,4,none⟩ (.slice A x.data.length c)).setCell ⟨nb,5,none⟩ (.int .i64 x.cls)):=by
 have h1:=below_step ha hb;refine ⟨?_,?_,by omega,⟨C_of hr.1 fun ad h2 h3=>?_,hr.2⟩,fun ad h2 h3=>by have:=ho ad h2 h3;have:=ha.size;omega⟩
 ·
  iterate 6 (refine Below.setCell ?_ (by show w1.heap.size≤nb;omega) _)
  exact h1
 ·have e0:=heap_setCell_same w2 nb 0 _ _ (.int .i64 x.kind) hz;have e1:=heap_setCell_same _ nb 1 _ _ (.string x.path) e0;have e2:=heap_setCell_same _ nb 2 _ _ (.int .i64 x.mode) e1;have e3:=heap_setCell_same _ nb 3 _ _ (.string x.target) e2;have e4:=heap_setCell_same _ nb 4 _ _ (.slice A x.data.length c) e3;have e5:=heap_setCell_same _ nb 5 _ _ (.int .i64 x.cls) e4;rw [e5];rfl
 ·exact ZDHead.six_keep _ _ _ (by have:=ho ad h2 h3;omega) _ _ _ _ _ _
theorem mo_put {S:List Nat} {w W:World} (h:Mo S w W) {k:Nat} (hk:k∈S∨w.heap.size≤k) (o:Obj):Mo S w (W.putObj k o) :=
 ⟨h.os,h.tape,h.output,by rw [World.putObj_size];exact h.size,fun j hj hS=>(World.putObj_heap_other (by rintro rfl;rcases hk with h1 | h1;exact hS h1;omega)).trans (h.keep j hj hS)⟩
section
variable {w W:World} {db base:Nat} {nv:Value} {N:List NV} {dm:List (ByteArray×Bool)} {fm:List (ByteArray×Int)} {nb:Nat} {y:NV}
theorem Pre.keepB (h:Pre w W db base nv N dm fm nb y) {W2:World} (hb:Below W.heap.size W W2):Pre w W2 db base nv N dm fm nb y :=
 ⟨h.bd.below hb,(hb.block _ (blk_lt h.node)).trans h.node,h.nbge,h.mo.step hb,⟨h.yd.1.below hb,h.yd.2⟩⟩
theorem Pre.drew (h:Pre w W db base nv N dm fm nb y):Pre w W.drew db base nv N dm fm nb y :=
 ⟨h.bd.below (below_drew (Below.refl _ _)),h.node,h.nbge,h.mo.step (below_drew (Below.refl _ _)),⟨h.yd.1.below (below_drew (Below.refl _ _)),h.yd.2⟩⟩
theorem Pre.keep (h:Pre w W db base nv N dm fm nb y) (hlt:db+2 < w.heap.size) {W2:World} {b:Nat} (hb:b=db∨b=db+1) (hs:W2.heap.size=W.heap.size) (hk:∀ k,k≠b→W2.heap[k]?=W.heap[k]?) (hm:Mo [db,db+1] w W2) (dm2:List (ByteArray×Bool)) (fm2:List (ByteArray×Int)) (h1:MapAt W2 Value.string Value.bool db dm2) (h2:MapAt W2 Value.string ival (db+1) fm2):Pre w W2 db base nv N dm2 fm2 nb y:=by
 have hlo:=h.bd.lo;have hdat:∀ x:NV,(Reads W x∧∀ ad,x.addr=some ad→0 < x.data.length→base≤ad.block∧ad.block∉ob nv)→Reads W2 x∧∀ ad,x.addr=some ad→0 < x.data.length→base≤ad.block∧ad.block∉ob nv:=fun x ⟨⟨h1,h2⟩,h3⟩ =>⟨⟨C_of h1 fun ad ha hn=>hk _ (by have:=(h3 ad ha hn).1;omega),h2⟩,h3⟩
 refine ⟨⟨(hk _ (by omega)).trans h.bd.blk,own_move h.bd.own fun k hk2=>hk k (by have:=own_base h.bd.own k hk2;omega),h1,h2,fun x hx=>hdat x (h.bd.data x hx),by omega⟩,(hk _ (by have:=h.nbge;omega)).trans h.node,h.nbge,hm,hdat y h.yd⟩
theorem Pre.cls (h:Pre w W db base nv N dm fm nb y) (hlt:db+2 < w.heap.size) (hb:∀ k∈ob nv,k < w.heap.size) (j:Nat) (hj:j < 6) (v:Value) (y2:NV) (hy:y2.cells=y.cells.set j v) (hne:∀ x∈N,∀ ad,x.addr=some ad→0 < x.data.length→ad.block≠nb) (hyd:Reads W y2∧∀ ad,y2.addr=some ad→0 < y2.data.length→base≤ad.block∧ad.block∉ob nv∧ad.block≠nb):Pre w (W.setCell ⟨nb,j,none⟩ v) db base nv N dm fm nb y2:=by
 have hlo:=h.bd.lo;have hnb:=h.nbge;have hk:∀ k,k≠nb→(W.setCell ⟨nb,j,none⟩ v).heap[k]?=W.heap[k]?:=fun k hk=>Below.heap_setCell _ _ _ _ hk;refine ⟨⟨(hk _ (by omega)).trans h.bd.blk,own_move h.bd.own fun k hk2=>hk k (by have:=hb k (by simp [ob,hk2]);omega),MapAt.of h.bd.dirs (hk _ (by omega)),MapAt.of h.bd.files (hk _ (by omega)),fun x hx=>?_,by simpa using hlo⟩,?_,hnb,h.mo.set (.inr hnb) _,⟨C_of hyd.1.1 fun ad ha hn=>hk _ (hyd.2 ad ha hn).2.2,hyd.1.2⟩,fun ad ha hn=>⟨(hyd.2 ad ha hn).1,(hyd.2 ad ha hn).2.1⟩⟩
 ·obtain ⟨⟨h1,h2⟩,h3⟩:=h.bd.data x hx;exact ⟨⟨C_of h1 fun ad ha hn=>hk _ (hne x hx ad ha hn),h2⟩,h3⟩
 ·rw [heap_setCell_same W nb j _ _ v h.node,hy];simp
theorem Pre.putD (h:Pre w W db base nv N dm fm nb y) (hlt:db+2 < w.heap.size) (m2:List (ByteArray×Bool)):Pre w (W.putObj db (.map (ents Value.string Value.bool 0 m2).toArray m2.length)) db base nv N m2 fm nb y :=
 h.keep hlt (.inl rfl) World.putObj_size (fun k hk=>World.putObj_heap_other hk) (mo_put h.mo (.inl (by simp)) _) _ _ (MapAt.put h.bd.dirs m2) (MapAt.of h.bd.files (World.putObj_heap_other (by omega)))
theorem Pre.putF (h:Pre w W db base nv N dm fm nb y) (hlt:db+2 < w.heap.size) (m2:List (ByteArray×Int)):Pre w (W.putObj (db+1) (.map (ents Value.string ival 0 m2).toArray m2.length)) db base nv N dm m2 nb y :=
 h.keep hlt (.inr rfl) World.putObj_size (fun k hk=>World.putObj_heap_other hk) (mo_put h.mo (.inl (by simp)) _) _ _ (MapAt.of h.bd.dirs (World.putObj_heap_other (by omega))) (MapAt.put h.bd.files m2)
end
theorem joinA {P:Program} {c:Code} {K:Act→World→Prop} {Q:Exit→Act→World→Prop} {a:Act} {w:World} (A:Option Addr→Nat→Nat→Act) (S:Option Addr→Nat→Nat→World→Prop) (h:c.wp P (Exit.then (fun a' w'=>∃ v x y,a'=A v x y∧S v x y w') Q) a w) (k:∀ v x y w',S v x y w'→K (A v x y) w'):c.wp P (Exit.then K Q) a w :=
 Code.wp_mono (fun e a' w' h=>by
  cases e with
  | normal =>obtain ⟨v,x,y,rfl,hS⟩:=h;exact k v x y w' hS
  | _=>exact h) h
set_option maxHeartbeats 8000000 in
theorem add_calls (w:World) (db base:Nat) (nv:Value) (N:List NV) (dm:List (ByteArray×Bool)) (fm:List (ByteArray×Int)) (h:Bd w db base nv N dm fm) (e:Ent) (he:e.Ok) (hG:Gl w) (hn:N.length≤100000) (hfm:∀ k i,ZMap.get fm k=some i→0≤i∧i < N.length) (hok:BOk N dm fm e) (dA:Option Addr) (dc:Nat) (D:List Int) (hD:Kd.C (Kd.int .u8) w dA D.length D) (hDc:D.length≤dc) (hDl:D.length≤1000000) (hsz:e.size=D.length) : Calls Tryz.prog 47 #[.pointer (some ⟨db+2,0,none⟩),.agg #[.int .i64 e.kind,.string e.path,.int .i64 e.mode,.string e.target,.int .i64 e.size,.slice dA D.length dc]] w fun r w'=>r=.returned (.int .i64 0) ∧ ∃ nv' y,strip y=addS N fm e D∧Bd w' db base nv' (N++[y]) (addD dm e) (addF fm e N.length)∧Mo (db :: (db+1) :: (db+2) :: ob nv) w w':=by
 obtain ⟨kind,path,mode,tgt,size⟩:=e;dsimp only at hsz;subst hsz;obtain ⟨w0,hw0⟩:∃ X,(w.alloc (.cells #[.int .i64 kind,.string path,.int .i64 mode,.string tgt,.int .i64 D.length,.slice dA D.length dc] 56)).alloc (.cells #[.int .i64 kind,.string path,.int .i64 mode,.string tgt,.int .i64 D.length] 54)=X:=⟨_,rfl⟩;have B0:Hid (Below w.heap.size w w0):=hid (by rw [← hw0];exact below_alloc (below_alloc (Below.refl w.heap.size w) _) _);have X0:Hid (w0.heap[w.heap.size]?=some (.cells #[.int .i64 kind,.string path,.int .i64 mode,.string tgt,.int .i64 D.length,.slice dA D.length dc] 56 (0,0))∧w0.heap[w.heap.size+1]?=some (.cells #[.int .i64 kind,.string path,.int .i64 mode,.string tgt,.int .i64 D.length] 54 (0,0))):=hid (by
  rw [← hw0];refine ⟨?_,heap_alloc2_new w _ _⟩;exact (heap_alloc_old _ _ (by simp)).trans (heap_alloc_new w _))
 have S0:Hid (w0.heap.size=w.heap.size+1+1):=hid (by rw [← hw0];simp);have FC:=hid (check_calls w0 db base nv N dm fm (h.below B0.out) ⟨kind,path,mode,tgt,D.length⟩ he (hG.below B0.out) (by omega) hfm);have HH:=hid (And.intro h (And.intro he (And.intro hn (And.intro hfm hok))));have HDD:=hid (And.intro hD (And.intro hDc hDl));clear h he hG hfm hn hok hD;unfold Ent.val Ent.cells at *;dsimp only at *;have cells0:∀ W:World,W.heap[w.heap.size]?=w0.heap[w.heap.size]?→W.heap[w.heap.size+1]?=w0.heap[w.heap.size+1]?→W.cell? ⟨w.heap.size,5,none⟩=some (.slice dA D.length dc)∧W.cell? ⟨w.heap.size+1,0,none⟩=some (.int .i64 kind)∧W.cell? ⟨w.heap.size+1,1,none⟩=some (.string path)∧W.cell? ⟨w.heap.size+1,2,none⟩=some (.int .i64 mode)∧W.cell? ⟨w.heap.size+1,3,none⟩=some (.string tgt)∧W.cell? ⟨w.heap.size+1,4,none⟩=some (.int .i64 D.length):=fun W h1 h2=>by have h3:=h1.trans X0.out.1;have h4:=h2.trans X0.out.2;exact ⟨cell_of h3 5 _ rfl,cell_of h4 0 _ rfl,cell_of h4 1 _ rfl,cell_of h4 2 _ rfl,cell_of h4 3 _ rfl,cell_of h4 4 _ rfl⟩
 obtain ⟨e5,e0,e1,e2,e3,e4⟩:=cells0 w0 rfl rfl;have CELLS:=hid cells0;clear cells0;go_enter Tryz.func47,Tryz.ntmps47
 go_wp2_with fail
 refine FC.out.mono ?_;rintro r w1 ⟨hb1,hres⟩;obtain rfl:r=.returned (.int .i64 0):=by
  rcases hres with ⟨h1,_⟩ | ⟨c,_,_,h2⟩
  ·exact h1
  ·exact absurd HH.out.2.2.2.2 h2
 have bx:((0:Int) != 0)=false:=rfl;have B1:=hid (below_step B0.out hb1);have D1:=hid (HH.out.1.below B1.out);have Z1:Hid (w0.heap.size≤w1.heap.size∧w1.heap[w.heap.size]?=w0.heap[w.heap.size]?∧w1.heap[w.heap.size+1]?=w0.heap[w.heap.size+1]?):=hid ⟨hb1.size,hb1.block _ (by have:=S0.out;omega),hb1.block _ (by have:=S0.out;omega)⟩;clear e0 e1 e2 e3 e4 e5 hres hb1 FC;obtain ⟨e5,e0,e1,e2,e3,e4⟩:=CELLS.out w1 Z1.out.2.1 Z1.out.2.2;have bn:((D.length:Int) != (D.length:Int))=false:=by simp
 have HC1:Hid (Kd.C (Kd.int .u8) w1 dA D.length D):=hid (Kd.C_below HDD.out.1 B1.out);have CL:=hid (fun (W:World) (hW:Below w1.heap.size w1 W)=>clone_nv ⟨kind,path,mode,tgt,dA,dc,D,0⟩ HDD.out.2.2 W ⟨Kd.C_below HC1.out hW,HDD.out.2.1⟩);have KP:=hid (fun (W W2:World) (hW:Below w1.heap.size w1 W) (hb2:Below W.heap.size W W2)=>CELLS.out W2 (((below_step hW hb2).block _ (by have:=S0.out;have:=Z1.out;omega)).trans Z1.out.2.1) (((below_step hW hb2).block _ (by have:=S0.out;have:=Z1.out;omega)).trans Z1.out.2.2));dsimp only at CL
 go_wp2_with fail
 obtain ⟨nb,hnb⟩:∃ n,w1.heap.size=n:=⟨_,rfl⟩;have NB:=hid hnb;obtain ⟨n1,n2,n3,n4⟩:¬ w.heap.size=nb∧¬ w.heap.size+1=nb∧¬ nb=w.heap.size∧¬ nb=w.heap.size+1:=by have:=S0.out;have:=Z1.out.1;omega
 apply joinA (S:=Fresh w1 ⟨kind,path,mode,tgt,dA,dc,D,0⟩)
 ·
  go_region_held3 (fun w'=>w'.cell? ⟨w.heap.size,5,none⟩=some (.slice dA D.length dc)∧w'.cell? ⟨w.heap.size+1,0,none⟩=some (.int .i64 kind)∧w'.cell? ⟨w.heap.size+1,1,none⟩=some (.string path)∧w'.cell? ⟨w.heap.size+1,2,none⟩=some (.int .i64 mode)∧w'.cell? ⟨w.heap.size+1,3,none⟩=some (.string tgt)) (go_keep) ((first
   | (go_at_call 25;refine (CL.out _ (below_drew (below_alloc (Below.refl _ _) _))).mono ?_;rintro e w2 ⟨A,c,rfl,hb2,hr2,ho2⟩;obtain ⟨f5,f0,f1,f2,f3,f4⟩:=KP.out _ _ (below_drew (below_alloc (Below.refl _ _) _)) hb2;have hz2:w2.heap[nb]?=some (.cells #[.int .i64 0,.string ⟨#[]⟩,.int .i64 0,.string ⟨#[]⟩,.slice none 0 0,.int .i64 0] 46 (0,0)):=(hb2.block nb (by simp;omega)).trans (by rw [← hnb];exact heap_alloc_new w1 _);obtain ⟨z0,z1,z2,z3,z4,z5⟩:=six_free hz2;obtain ⟨y0,y1,y2,y3,y4,y5⟩:=six_cell hz2)
   | (go_at_call 25;refine (CL.out _ (below_drew (Below.refl _ _))).mono ?_;rintro e w2 ⟨A,c,rfl,hb2,hr2,ho2⟩;obtain ⟨f5,f0,f1,f2,f3,f4⟩:=KP.out _ _ (below_drew (Below.refl _ _)) hb2)))
  ·obtain ⟨m,hm⟩:∃ m,w2.heap.size=m:=⟨_,rfl⟩;have HF:=fresh_alloc (x:=⟨kind,path,mode,tgt,dA,dc,D,0⟩) (below_drew (Below.refl w1.heap.size w1)) hb2 hr2 ho2;rw [hm] at HF;rw [hm];exact ⟨A,c,m,rfl,HF⟩
  ·exact ⟨A,c,nb,rfl,fresh_set (x:=⟨kind,path,mode,tgt,dA,dc,D,0⟩) (below_drew (below_alloc (Below.refl w1.heap.size w1) _)) hb2 hr2 ho2 hnb (by simp;omega) hz2⟩
 clear n1 n2 n3 n4 hnb NB nb;intro A c nb2 w2 HF;have PRE:Hid (Pre w w2 db base nv N dm fm nb2 ⟨kind,path,mode,tgt,A,c,D,0⟩):=hid (by
  have hb:=below_step B1.out HF.1;have h1:=HH.out.1;have h2:=B1.out.size;refine ⟨h1.below hb,HF.2.1,by have:=HF.2.2.1;omega,Mo.of_below hb,HF.2.2.2.1,fun ad ha hn=>⟨by have:=(HF.2.2.2.2 ad ha hn).1;have:=h1.lo;omega,fun hk=>?_⟩⟩;have h3:=own_lt h1.own ad.block (by simpa [ob] using hk);have:=(HF.2.2.2.2 ad ha hn).1;omega)
 obtain ⟨e5,e0,e1,e2,e3,e4⟩:=KP.out w1 w2 (Below.refl _ _) HF.1;have HF2:=hid HF;have LO:Hid (db+2 < w.heap.size∧∀ k∈ob nv,k < w.heap.size):=hid ⟨blk_lt HH.out.1.blk,fun k hk=>own_lt HH.out.1.own k (by simpa [ob] using hk)⟩;have NE:Hid (∀ x∈N,∀ ad,x.addr=some ad→0 < x.data.length→ad.block≠nb2):=hid (fun x hx ad ha hn=>by have:=C_lt (HH.out.1.data x hx).1.1 ad ha hn;have:=PRE.out.nbge;omega);clear HF hw0;obtain ⟨A0,cc,rfl⟩:=ZMem.own_slice PRE.out.bd.own;obtain ⟨q0,q1,q2⟩:w2.cell? ⟨db+2,0,none⟩=some (.slice A0 N.length cc)∧w2.cell? ⟨db+2,1,none⟩=some (.map (some db))∧w2.cell? ⟨db+2,2,none⟩=some (.map (some (db+1))):=⟨cell_of PRE.out.bd.blk 0 _ rfl,cell_of PRE.out.bd.blk 1 _ rfl,cell_of PRE.out.bd.blk 2 _ rfl⟩;by_cases hk0:kind=0
 ·
  have b0:(kind == 0)=true:=beq_iff_eq.2 hk0;have ED:Hid (addD dm ⟨kind,path,mode,tgt,D.length⟩=ZMap.put dm path true):=hid (by simp [addD,hk0]);have EF:Hid (addF fm ⟨kind,path,mode,tgt,D.length⟩ N.length=fm):=hid (by simp [addF,hk0]);have ES:Hid (strip ⟨kind,path,mode,tgt,A,c,D,0⟩=addS N fm ⟨kind,path,mode,tgt,D.length⟩ D):=hid (by simp [strip,addS,hk0]);clear hk0;have hput:=run_put map95 skeys PRE.out.drew.bd.dirs path true;have P:=PRE.out.drew.putD LO.out.1 (ZMap.put dm path true);obtain ⟨W4,hW4⟩:∃ X,w2.drew.putObj db (.map (ents Value.string Value.bool 0 (ZMap.put dm path true)).toArray (ZMap.put dm path true).length)=X:=⟨_,rfl⟩;rw [hW4] at hput P;have P4:=hid P;clear hW4 P;obtain ⟨g0,g1,g2,g3,g4,g5⟩:=six_cell P4.out.node;have p0:W4.cell? ⟨db+2,0,none⟩=some (.slice A0 N.length cc):=cell_of P4.out.bd.blk 0 _ rfl;have p1:∀ o,(W4.alloc o).cell? ⟨db+2,0,none⟩=some (.slice A0 N.length cc):=fun o=>by rw [cell_of_heap (heap_alloc_old _ _ (blk_lt P4.out.bd.blk))];exact p0
  have AF:=hid (fun (g cap:Nat) (wz W2:World) (hW:W2.heap.size=W4.heap.size+1∧Below W4.heap.size W4 W2) ho hg hat=>P4.out.after (w1:=wz) (g:=g) (cap:=cap) LO.out.2 W2 hW ho hg hat)
  go_wp2_with fail
  go_big_region
  go_wp2_with fail
  go_region_law ((refine step_append_node _ base rfl (.tmp 92) (.tmp 94) rfl (.slice A0 N.length cc) N W4.heap.size ⟨kind,path,mode,tgt,A,c,D,0⟩ (by rfl) (by rfl) (own_move P4.out.bd.own fun k hk=>((below_alloc (below_drew (Below.refl _ _)) _).block k (own_lt P4.out.bd.own k hk))) (heap_alloc_new _ _) (by have:=P4.out.bd.lo;simp;omega) (by have:=HH.out.2.2.1;omega) ?_;intro g cap wz ho hg hat;have T:=AF.out g cap wz _ ⟨by simp,below_alloc (below_drew (Below.refl _ _)) _⟩ ho hg hat;have z0:=T.2.2.1;have z1:=T.2.2.2;replace T:=hid T))
  all_goals
   go_wp2_with fail
   go_ret;exact ⟨rfl,_,⟨kind,path,mode,tgt,A,c,D,0⟩,ES.out,by rw [ED.out,EF.out];exact T.out.1,T.out.2.1⟩
 by_cases hk1:kind=1
 ·
  have b0:(kind == 0)=false:=by rw [beq_eq_false_iff_ne];omega
  have b1:(kind == 1)=true:=beq_iff_eq.2 hk1;have ED:Hid (addD dm ⟨kind,path,mode,tgt,D.length⟩=dm):=hid (by simp [addD,hk1]);have EF:Hid (addF fm ⟨kind,path,mode,tgt,D.length⟩ N.length=ZMap.put fm path N.length):=hid (by simp [addF,hk1]);have ES:Hid (strip ⟨kind,path,mode,tgt,A,c,D,N.length+1⟩=addS N fm ⟨kind,path,mode,tgt,D.length⟩ D):=hid (by simp [strip,addS,hk1]);clear hk0 hk1;have hput:=run_put map96 skeys PRE.out.drew.bd.files path (N.length:Int);have P:=PRE.out.drew.putF LO.out.1 (ZMap.put fm path N.length);obtain ⟨W3,hW3⟩:∃ X,w2.drew.putObj (db+1) (.map (ents Value.string ival 0 (ZMap.put fm path N.length)).toArray (ZMap.put fm path N.length).length)=X:=⟨_,rfl⟩;rw [hW3] at hput P;have P3:=hid P;have p3:W3.cell? ⟨db+2,0,none⟩=some (.slice A0 N.length cc):=cell_of P3.out.bd.blk 0 _ rfl;have p4:W3.cell? ⟨nb2,5,none⟩=some (.int .i64 0):=cell_of P3.out.node 5 _ rfl;have p5:W3.frozen? ⟨nb2,5,none⟩=false:=(six_free P3.out.node).2.2.2.2.2;have hw1:IntKind.i64.wrap ((N.length:Int)+1)=(N.length:Int)+1:=by have:=HH.out.2.2.1;rw [IntKind.wrap_i64];omega
  have P:=P3.out.cls LO.out.1 LO.out.2 5 (by decide) (.int .i64 ((N.length:Int)+1)) ⟨kind,path,mode,tgt,A,c,D,N.length+1⟩ rfl (fun x hx ad ha hn=>NE.out x hx ad ha hn) ⟨P3.out.yd.1,fun ad ha hn=>⟨(P3.out.yd.2 ad ha hn).1,(P3.out.yd.2 ad ha hn).2,(HF2.out.2.2.2.2 ad ha hn).2⟩⟩;obtain ⟨W4,hW4⟩:∃ X,W3.setCell ⟨nb2,5,none⟩ (.int .i64 ((N.length:Int)+1))=X:=⟨_,rfl⟩;rw [hW4] at P;have P4:=hid P;clear hW3 P;obtain ⟨g0,g1,g2,g3,g4,g5⟩:=six_cell P4.out.node;have p0:W4.cell? ⟨db+2,0,none⟩=some (.slice A0 N.length cc):=cell_of P4.out.bd.blk 0 _ rfl;have p1:∀ o,(W4.alloc o).cell? ⟨db+2,0,none⟩=some (.slice A0 N.length cc):=fun o=>by rw [cell_of_heap (heap_alloc_old _ _ (blk_lt P4.out.bd.blk))];exact p0
  have AF:=hid (fun (g cap:Nat) (wz W2:World) (hW:W2.heap.size=W4.heap.size+1∧Below W4.heap.size W4 W2) ho hg hat=>P4.out.after (w1:=wz) (g:=g) (cap:=cap) LO.out.2 W2 hW ho hg hat)
  go_wp2_with fail
  go_big_region
  go_wp2_with fail
  go_region_law ((refine step_append_node _ base rfl (.tmp 92) (.tmp 94) rfl (.slice A0 N.length cc) N W4.heap.size ⟨kind,path,mode,tgt,A,c,D,N.length+1⟩ (by rfl) (by rfl) (own_move P4.out.bd.own fun k hk=>((below_alloc (below_drew (Below.refl _ _)) _).block k (own_lt P4.out.bd.own k hk))) (heap_alloc_new _ _) (by have:=P4.out.bd.lo;simp;omega) (by have:=HH.out.2.2.1;omega) ?_;intro g cap wz ho hg hat;have T:=AF.out g cap wz _ ⟨by simp,below_alloc (below_drew (Below.refl _ _)) _⟩ ho hg hat;have z0:=T.2.2.1;have z1:=T.2.2.2;replace T:=hid T))
  all_goals
   go_wp2_with fail
   go_ret;exact ⟨rfl,_,⟨kind,path,mode,tgt,A,c,D,N.length+1⟩,ES.out,by rw [ED.out,EF.out];exact T.out.1,T.out.2.1⟩
 by_cases hk3:kind=3
 ·
  have b0:(kind == 0)=false:=beq_eq_false_iff_ne.2 hk0;have b1:(kind == 1)=false:=beq_eq_false_iff_ne.2 hk1;have b3:(kind == 3)=true:=beq_iff_eq.2 hk3;obtain ⟨q,z,hg,hz,hmz⟩:=HH.out.2.2.2.2.link hk3;dsimp only at hg hmz;have ED:Hid (addD dm ⟨kind,path,mode,tgt,D.length⟩=dm):=hid (by simp [addD,hk3]);have EF:Hid (addF fm ⟨kind,path,mode,tgt,D.length⟩ N.length=fm):=hid (by simp [addF,hk3]);have ES:Hid (strip ⟨1,path,mode,⟨#[]⟩,z.addr,z.cap,z.data,z.cls⟩=addS N fm ⟨kind,path,mode,tgt,D.length⟩ D):=hid (by simp [strip,addS,hk3,hg,hz]);clear hk0 hk1 hk3;have hzm:z∈N:=List.mem_of_getElem? hz;have hql:q < N.length:=(List.getElem?_eq_some_iff.1 hz).1;obtain ⟨g,cap,hnv,hgb,hgl,hcz⟩:=PRE.out.bd.cell hz;simp only [Value.slice.injEq] at hnv;obtain ⟨rfl,_,rfl⟩:=hnv;have hcq:∀ (V:World),(∀ k,k < w2.heap.size→V.heap[k]?=w2.heap[k]?)→V.cell? ⟨db+2,0,none⟩=some (.slice (some ⟨g,0,none⟩) N.length cc)∧V.cell? ⟨db+2,2,none⟩=some (.map (some (db+1)))∧V.cell? ⟨w.heap.size+1,3,none⟩=some (.string tgt)∧V.cell? ⟨g,q * 6,none⟩=some (.int .i64 z.kind)∧V.cell? ⟨g,q * 6+1,none⟩=some (.string z.path)∧V.cell? ⟨g,q * 6+2,none⟩=some (.int .i64 z.mode)∧V.cell? ⟨g,q * 6+3,none⟩=some (.string z.target)∧V.cell? ⟨g,q * 6+4,none⟩=some (.slice z.addr z.data.length z.cap)∧V.cell? ⟨g,q * 6+5,none⟩=some (.int .i64 z.cls):=fun V hV=>by
   have h1:=PRE.out.bd.lo;have h2:=blk_lt PRE.out.bd.blk;have h3:w.heap.size+1 < w2.heap.size:=by have:=HF2.out.1.size;have:=Z1.out.1;have:=S0.out;omega
   refine ⟨(cell_of_heap (hV _ h2)).trans q0,(cell_of_heap (hV _ h2)).trans q2,(cell_of_heap (hV _ h3)).trans e3,?_,?_,?_,?_,?_,?_⟩
   ·exact (cell_of_heap (hV _ hgl)).trans (hcz 0 _ rfl)
   ·exact (cell_of_heap (hV _ hgl)).trans (hcz 1 _ rfl)
   ·exact (cell_of_heap (hV _ hgl)).trans (hcz 2 _ rfl)
   ·exact (cell_of_heap (hV _ hgl)).trans (hcz 3 _ rfl)
   ·exact (cell_of_heap (hV _ hgl)).trans (hcz 4 _ rfl)
   ·exact (cell_of_heap (hV _ hgl)).trans (hcz 5 _ rfl)
  have GF:∀ (V:World),(∀ k,k < w2.heap.size→V.heap[k]?=w2.heap[k]?)→(Instr.lookup 96 (.map (some (db+1))) (.string tgt) false).run Tryz.prog V=.ok (.int .i64 (q:Int)) V:=fun V hV=>by have h1:MapAt V Value.string ival (db+1) fm:=MapAt.of PRE.out.bd.files (hV _ PRE.out.bd.files.lt);have:=run_get map96 skeys h1 tgt (.int .i64 0) (zero3 _);rw [hg] at this;exact this
  obtain ⟨f0,f1,f2,f3,f4,f5,f6,f7,f8⟩:=hcq w2 fun _ _=>rfl;have hca:=fun o:Obj=>hcq (w2.alloc o) fun k hk=>heap_alloc_old _ _ hk;have l0:=GF w2.drew fun _ _=>rfl;have l1:=fun o:Obj=>GF (w2.alloc o).drew fun k hk=>heap_alloc_old _ _ hk;have l2:=fun o:Obj=>GF (w2.drew.alloc o) fun k hk=>heap_alloc_old _ _ hk;obtain ⟨k0,k1,k2,k3,k4,k5,k6,k7,k8⟩:=(⟨fun o=>(hca o).1,fun o=>(hca o).2.1,fun o=>(hca o).2.2.1,fun o=>(hca o).2.2.2.1,fun o=>(hca o).2.2.2.2.1,fun o=>(hca o).2.2.2.2.2.1,fun o=>(hca o).2.2.2.2.2.2.1,fun o=>(hca o).2.2.2.2.2.2.2.1,fun o=>(hca o).2.2.2.2.2.2.2.2⟩:(∀ o:Obj,(w2.alloc o).cell? ⟨db+2,0,none⟩=some (.slice (some ⟨g,0,none⟩) N.length cc))∧(∀ o:Obj,(w2.alloc o).cell? ⟨db+2,2,none⟩=some (.map (some (db+1))))∧(∀ o:Obj,(w2.alloc o).cell? ⟨w.heap.size+1,3,none⟩=some (.string tgt))∧(∀ o:Obj,(w2.alloc o).cell? ⟨g,q * 6,none⟩=some (.int .i64 z.kind))∧(∀ o:Obj,(w2.alloc o).cell? ⟨g,q * 6+1,none⟩=some (.string z.path))∧(∀ o:Obj,(w2.alloc o).cell? ⟨g,q * 6+2,none⟩=some (.int .i64 z.mode))∧(∀ o:Obj,(w2.alloc o).cell? ⟨g,q * 6+3,none⟩=some (.string z.target))∧(∀ o:Obj,(w2.alloc o).cell? ⟨g,q * 6+4,none⟩=some (.slice z.addr z.data.length z.cap))∧(∀ o:Obj,(w2.alloc o).cell? ⟨g,q * 6+5,none⟩=some (.int .i64 z.cls)));have hqz:(q:Int) < (N.length:Int):=by omega
  have HZ:=hid (And.intro hz (And.intro hzm (And.intro hg hmz)));clear hcq GF hca hcz hz hzm hg hmz;have hPV:=Pre.keepB PRE.out (W2:=(w2.alloc (.cells #[.int .i64 z.kind,.string z.path,.int .i64 z.mode,.string z.target,.slice z.addr z.data.length z.cap,.int .i64 z.cls] 46)).drew) (below_drew (below_alloc (Below.refl _ _) _));have hV8:(w2.alloc (.cells #[.int .i64 z.kind,.string z.path,.int .i64 z.mode,.string z.target,.slice z.addr z.data.length z.cap,.int .i64 z.cls] 46)).drew.heap[w2.heap.size]?=some (.cells #[.int .i64 z.kind,.string z.path,.int .i64 z.mode,.string z.target,.slice z.addr z.data.length z.cap,.int .i64 z.cls] 46 (0,0)):=heap_alloc_new _ _
  go_wp2_with fail
  go_big_region
  obtain ⟨V,hV⟩:∃ X,(w2.alloc (.cells #[.int .i64 z.kind,.string z.path,.int .i64 z.mode,.string z.target,.slice z.addr z.data.length z.cap,.int .i64 z.cls] 46)).drew=X:=⟨_,rfl⟩;obtain ⟨nh,hnh⟩:∃ n,w2.heap.size=n:=⟨_,rfl⟩;have hne8:¬ nh=nb2:=by have:=blk_lt PRE.out.node;omega
  have hne9:¬ nb2=nh:=fun e=>hne8 e.symm;rw [hV] at hPV hV8 ⊢;rw [hnh] at hV8 ⊢;have PV:=hid hPV;have v4:V.cell? ⟨nh,4,none⟩=some (.slice z.addr z.data.length z.cap):=cell_of hV8 4 _ rfl;have v5:V.cell? ⟨nh,5,none⟩=some (.int .i64 z.cls):=cell_of hV8 5 _ rfl;obtain ⟨r0,r1,r2,r3,r4,r5⟩:=six_cell PV.out.node;obtain ⟨s0,s1,s2,s3,s4,s5⟩:=six_free PV.out.node;have yl:=fun ad ha hn=>(HF2.out.2.2.2.2 ad ha hn).2;have Q1:=hPV.cls LO.out.1 LO.out.2 0 (by decide) (.int .i64 1) ⟨1,path,mode,tgt,A,c,D,0⟩ rfl NE.out ⟨hPV.yd.1,fun ad ha hn=>⟨(hPV.yd.2 ad ha hn).1,(hPV.yd.2 ad ha hn).2,yl ad ha hn⟩⟩;have Q2:=Q1.cls LO.out.1 LO.out.2 3 (by decide) (.string ⟨#[]⟩) ⟨1,path,mode,⟨#[]⟩,A,c,D,0⟩ rfl NE.out ⟨Q1.yd.1,fun ad ha hn=>⟨(hPV.yd.2 ad ha hn).1,(hPV.yd.2 ad ha hn).2,yl ad ha hn⟩⟩;have zd:=Q2.bd.data z HZ.out.2.1;have Q3:=Q2.cls LO.out.1 LO.out.2 4 (by decide) (.slice z.addr z.data.length z.cap) ⟨1,path,mode,⟨#[]⟩,z.addr,z.cap,z.data,0⟩ rfl NE.out ⟨⟨zd.1.1,zd.1.2⟩,fun ad ha hn=>⟨(zd.2 ad ha hn).1,(zd.2 ad ha hn).2,NE.out z HZ.out.2.1 ad ha hn⟩⟩;have Q4:=Q3.cls LO.out.1 LO.out.2 5 (by decide) (.int .i64 z.cls) ⟨1,path,mode,⟨#[]⟩,z.addr,z.cap,z.data,z.cls⟩ rfl NE.out ⟨Q3.yd.1,fun ad ha hn=>⟨(zd.2 ad ha hn).1,(zd.2 ad ha hn).2,NE.out z HZ.out.2.1 ad ha hn⟩⟩;have P4:=hid Q4.drew;obtain ⟨W4,hW4⟩:∃ X,((((V.setCell ⟨nb2,0,none⟩ (.int .i64 1)).setCell ⟨nb2,3,none⟩ (.string ⟨#[]⟩)).setCell ⟨nb2,4,none⟩ (.slice z.addr z.data.length z.cap)).setCell ⟨nb2,5,none⟩ (.int .i64 z.cls)).drew=X:=⟨_,rfl⟩;rw [hW4] at P4;clear hPV Q1 Q2 Q3 Q4 zd yl k0 k1 k2 k3 k4 k5 k6 k7 k8 f0 f1 f2 f3 f4 f5 f6 f7 f8 l0 l1 l2 q0 q1 q2 e0 e1 e2 e3 e4 e5 hV
  go_wp2_with fail
  go_big_region
  obtain ⟨g0,g1,g2,g3,g4,g5⟩:=six_cell P4.out.node;have p0:W4.cell? ⟨db+2,0,none⟩=some (.slice (some ⟨g,0,none⟩) N.length cc):=cell_of P4.out.bd.blk 0 _ rfl;have p1:∀ o,(W4.alloc o).cell? ⟨db+2,0,none⟩=some (.slice (some ⟨g,0,none⟩) N.length cc):=fun o=>by rw [cell_of_heap (heap_alloc_old _ _ (blk_lt P4.out.bd.blk))];exact p0
  have AF:=hid (fun (g cap:Nat) (wz W2:World) (hW:W2.heap.size=W4.heap.size+1∧Below W4.heap.size W4 W2) ho hg hat=>P4.out.after (w1:=wz) (g:=g) (cap:=cap) LO.out.2 W2 hW ho hg hat)
  go_wp2_with fail
  go_region_law ((refine step_append_node _ base rfl (.tmp 92) (.tmp 94) rfl (.slice (some ⟨g,0,none⟩) N.length cc) N W4.heap.size ⟨1,path,mode,⟨#[]⟩,z.addr,z.cap,z.data,z.cls⟩ (by rfl) (by rfl) (own_move P4.out.bd.own fun k hk=>((below_alloc (below_drew (Below.refl _ _)) _).block k (own_lt P4.out.bd.own k hk))) (heap_alloc_new _ _) (by have:=P4.out.bd.lo;simp;omega) (by have:=HH.out.2.2.1;omega) ?_;intro g cap wz ho hg hat;have T:=AF.out g cap wz _ ⟨by simp,below_alloc (below_drew (Below.refl _ _)) _⟩ ho hg hat;have z0:=T.2.2.1;have z1:=T.2.2.2;replace T:=hid T))
  all_goals
   go_wp2_with fail
   go_ret;exact ⟨rfl,_,⟨1,path,mode,⟨#[]⟩,z.addr,z.cap,z.data,z.cls⟩,ES.out,by rw [ED.out,EF.out];exact T.out.1,T.out.2.1⟩
 ·
  have b0:(kind == 0)=false:=beq_eq_false_iff_ne.2 hk0;have b1:(kind == 1)=false:=beq_eq_false_iff_ne.2 hk1;have b3:(kind == 3)=false:=beq_eq_false_iff_ne.2 hk3;have ED:Hid (addD dm ⟨kind,path,mode,tgt,D.length⟩=dm):=hid (by simp [addD,hk0]);have EF:Hid (addF fm ⟨kind,path,mode,tgt,D.length⟩ N.length=fm):=hid (by simp [addF,hk1]);have ES:Hid (strip ⟨kind,path,mode,tgt,A,c,D,0⟩=addS N fm ⟨kind,path,mode,tgt,D.length⟩ D):=hid (by simp [strip,addS,hk1,hk3]);clear hk0 hk1 hk3;obtain ⟨g0,g1,g2,g3,g4,g5⟩:=six_cell PRE.out.node;have p0:w2.cell? ⟨db+2,0,none⟩=some (.slice A0 N.length cc):=cell_of PRE.out.bd.blk 0 _ rfl;have p1:∀ o,(w2.alloc o).cell? ⟨db+2,0,none⟩=some (.slice A0 N.length cc):=fun o=>by rw [cell_of_heap (heap_alloc_old _ _ (blk_lt PRE.out.bd.blk))];exact p0
  have AF:=hid (fun (g cap:Nat) (wz W2:World) (hW:W2.heap.size=w2.heap.size+1∧Below w2.heap.size w2 W2) ho hg hat=>PRE.out.after (w1:=wz) (g:=g) (cap:=cap) LO.out.2 W2 hW ho hg hat)
  go_wp2_with fail
  go_region_law ((refine step_append_node _ base rfl (.tmp 92) (.tmp 94) rfl (.slice A0 N.length cc) N w2.heap.size ⟨kind,path,mode,tgt,A,c,D,0⟩ (by rfl) (by rfl) (own_move PRE.out.bd.own fun k hk=>((below_alloc (below_drew (Below.refl _ _)) _).block k (own_lt PRE.out.bd.own k hk))) (heap_alloc_new _ _) (by have:=PRE.out.bd.lo;simp;omega) (by have:=HH.out.2.2.1;omega) ?_;intro g cap wz ho hg hat;have T:=AF.out g cap wz _ ⟨by simp,below_alloc (below_drew (Below.refl _ _)) _⟩ ho hg hat;have z0:=T.2.2.1;have z1:=T.2.2.2;replace T:=hid T))
  all_goals
   go_wp2_with fail
   go_ret;exact ⟨rfl,_,⟨kind,path,mode,tgt,A,c,D,0⟩,ES.out,by rw [ED.out,EF.out];exact T.out.1,T.out.2.1⟩
end ZAdd
namespace ZRo
open ZTCheck (cell_of)
open ZAdd (info46b)
def nodeKd:Kd NV where
 sz:=6
 E:=[]
 K:=fun _ x cs=>cs=x.cells
 M:=fun _ _ _ x cs=>cs=x.cells
 K_len:=fun h=>by rw [h];rfl
 K_one:=fun h u hu=>by rw [h] at hu;exact cells_one _ u hu
 K_below:=fun _ h=>h
 K_of_M:=fun h=>h
 M_mono:=fun _ h=>h
 M_bound:=fun h=>h
 M_move:=fun _ h=>h
 M_lower:=fun _ h=>h
def NRow (w:World) (base:Nat) (v:Value) (l:List NV):Prop:=nodeKd.R 46 w base (fun _=>True) v l
def RowAt (w:World) (g:Nat) (l:List NV):Prop:=∃ cs,w.heap[g]?=some (.cells cs 46 (0,0))∧∀ (i:Nat) (x:NV),l[i]?=some x→∀ (j:Nat) (v:Value),x.cells[j]?=some v→cs[i * 6+j]?=some v
section
variable {w w1:World} {base g:Nat} {v:Value} {l:List NV}
theorem nrow_empty (w:World) (base:Nat) (hb:base≤w.heap.size):NRow (w.alloc (.cells #[] 46)) base (.slice (some ⟨w.heap.size,0,none⟩) 0 0) [] :=
 ⟨fun _ _=>trivial,OwnRow.lit (e:=46) (size:=6) (ps:=([]:List NV)) w base (inner:=[]) (Reps.none _ _) hb (by simp)⟩
theorem RowAt.of (h:RowAt w g l) (hb:w1.heap[g]?=w.heap[g]?):RowAt w1 g l:=by obtain ⟨cs,h1,h2⟩:=h;exact ⟨cs,hb.trans h1,h2⟩
theorem RowAt.lt (h:RowAt w g l):g < w.heap.size:=by obtain ⟨cs,h1,_⟩:=h;exact blk_lt h1
theorem NRow.at_ (h:NRow w base v l) (hl:0 < l.length):∃ g cap,v=.slice (some ⟨g,0,none⟩) l.length cap∧base≤g∧l.length≤cap∧RowAt w g l:=by obtain ⟨A,c,rfl,hc,hr⟩:=Kd.R_reads h;obtain ⟨g,cap,e,h1,h2,cells,hb⟩:=Kd.R_form h hl;cases e;refine ⟨g,c,rfl,h1,hc,cells,hb,fun i x hi j u hj=>?_⟩;obtain ⟨hil,hir⟩:=List.getElem?_eq_some_iff.1 hi;obtain ⟨ad,cs,e,hcl,hK,hcell⟩:=Kd.C_get hr (default:NV) (i:Int) (by omega) (by omega);cases e;have hK:cs=(l.getD (i:Int).toNat default).cells:=hK;rw [Int.toNat_natCast,List.getD_eq_getElem?_getD,hi] at hK;have hK:cs=x.cells:=hK;subst hK;have a0:=hcell j u hj;rw [Go.WideShapes.add_plain,Nat.zero_add,Int.toNat_natCast] at a0;have a0:w.cell? ⟨g,i * 6+j,none⟩=some u:=a0;simpa [World.cell?,hb] using a0
theorem RowAt.cells (h:RowAt w g l) (i:Nat) (x:NV) (hi:l[i]?=some x): w.cell? ⟨g,i * 6,none⟩=some (.int .i64 x.kind)∧w.cell? ⟨g,i * 6+1,none⟩=some (.string x.path)∧w.cell? ⟨g,i * 6+2,none⟩=some (.int .i64 x.mode)∧w.cell? ⟨g,i * 6+3,none⟩=some (.string x.target)∧w.cell? ⟨g,i * 6+4,none⟩=some (.slice x.addr x.data.length x.cap)∧w.cell? ⟨g,i * 6+5,none⟩=some (.int .i64 x.cls)∧w.frozen? ⟨g,i * 6+5,none⟩=false:=by
 obtain ⟨cs,h1,h2⟩:=h;have:=h2 i x hi;exact ⟨cell_of h1 _ _ (this 0 _ rfl),cell_of h1 _ _ (this 1 _ rfl),cell_of h1 _ _ (this 2 _ rfl),cell_of h1 _ _ (this 3 _ rfl),cell_of h1 _ _ (this 4 _ rfl),cell_of h1 _ _ (this 5 _ rfl),by simp [World.frozen?,h1]⟩
theorem RowAt.set (h:RowAt w g l) {i:Nat} {x:NV} (hi:l[i]?=some x) (c:Int):RowAt (w.setCell ⟨g,i * 6+5,none⟩ (.int .i64 c)) g (l.set i { x with cls:=c }):=by
 obtain ⟨cs,h1,h2⟩:=h;refine ⟨_,heap_setCell_same w g (i * 6+5) cs _ _ h1,fun i' x' hi' j u hj=>?_⟩;have h5:=h2 i x hi 5 _ rfl;have hlt:i * 6+5 < cs.size:=(Array.getElem?_eq_some_iff.1 h5).1;have hj6:j < 6:=(List.getElem?_eq_some_iff.1 hj).1;by_cases e:i'=i
 ·
  subst e;rw [List.getElem?_set_self (List.getElem?_eq_some_iff.1 hi).1] at hi';cases hi';by_cases e5:j=5
  ·subst e5;have hj:some (Value.int .i64 c)=some u:=hj;cases hj;simp [hlt]
  ·
   rw [Array.getElem?_setIfInBounds_ne (by omega)];refine h2 i' x hi j u ?_;obtain rfl | rfl | rfl | rfl | rfl:j=0∨j=1∨j=2∨j=3∨j=4:=by omega
   all_goals exact hj
 ·rw [List.getElem?_set_ne (by omega)] at hi';rw [Array.getElem?_setIfInBounds_ne (by omega)];exact h2 i' x' hi' j u hj
theorem RowAt.nodes (h:RowAt w g l) (hd:∀ x∈l,Reads w x):NodesAt w (some ⟨g,0,none⟩) l:=by obtain ⟨cs,h1,h2⟩:=h;refine ⟨fun _=>⟨g,0,rfl,blk_lt h1,fun i x hi j u hj=>?_⟩,hd⟩;rw [Nat.zero_add];exact cell_of h1 _ _ (h2 i x hi j u hj)
end
theorem cut_head (A:Option Addr) (n c k:Nat) (hk:k≤n) (hc:n≤c):∀ W:World,(Instr.slice 22 (.slice A n c) none (some (.int .i64 k)) none).run Tryz.prog W=.ok (.slice A k c) W:=by obtain ⟨i,hi,hz⟩:=Option.map_eq_some_iff.1 info46b;intro W;simpa using cut_to (P:=Tryz.prog) 22 46 .i64 Tryz.underlying22 hi A n c (k:Int) (by omega) (by omega) hc W
theorem cut_tail (A:Option Addr) (n c k:Nat) (hk:k≤n):∀ W:World,(Instr.slice 22 (.slice A n c) (some (.int .i64 k)) none none).run Tryz.prog W=.ok (.slice (if c=k then A else A.map (·.add (k * 6))) (n - k) (c - k)) W:=by obtain ⟨i,hi,hz⟩:=Option.map_eq_some_iff.1 info46b;simp only [Prod.mk.injEq] at hz;intro W;simpa using cut_from (P:=Tryz.prog) 22 46 .i64 Tryz.underlying22 hi 6 hz.2.1 A n c (k:Int) (by omega) (by omega) W
def IntsAt (w:World) (g:Nat) (l:List Int):Prop:=∃ cs,w.heap[g]?=some (.cells cs 3 (0,0))∧∀ (i:Nat) (c:Int),l[i]?=some c→cs[i]?=some (.int .i64 c)
section
variable {w w1:World} {g:Nat} {l:List Int}
theorem IntsAt.of (h:IntsAt w g l) (hb:w1.heap[g]?=w.heap[g]?):IntsAt w1 g l:=by obtain ⟨cs,h1,h2⟩:=h;exact ⟨cs,hb.trans h1,h2⟩
theorem IntsAt.cell (h:IntsAt w g l) {i:Nat} {c:Int} (hi:l[i]?=some c):w.cell? ⟨g,i,none⟩=some (.int .i64 c)∧w.frozen? ⟨g,i,none⟩=false:=by obtain ⟨cs,h1,h2⟩:=h;exact ⟨cell_of h1 _ _ (h2 i c hi),by simp [World.frozen?,h1]⟩
theorem IntsAt.set (h:IntsAt w g l) (i:Nat) (c:Int):IntsAt (w.setCell ⟨g,i,none⟩ (.int .i64 c)) g (l.set i c):=by
 obtain ⟨cs,h1,h2⟩:=h;refine ⟨_,heap_setCell_same w g i cs _ _ h1,fun i' x hi'=>?_⟩;by_cases e:i'=i
 ·
  subst e;have hl:i' < l.length:=by have:=(List.getElem?_eq_some_iff.1 hi').1;simpa using this
  rw [List.getElem?_set_self hl] at hi';cases hi';have h3:=h2 i' _ (List.getElem?_eq_getElem hl);have hlt:i' < cs.size:=(Array.getElem?_eq_some_iff.1 h3).1;simp [hlt]
 ·rw [List.getElem?_set_ne (by omega)] at hi';rw [Array.getElem?_setIfInBounds_ne (by omega)];exact h2 i' x hi'
end
theorem info3:(Tryz.prog.info? 3).map (fun i=>(i.zero,i.size,i.bytes))=some (some (.int .i64 0),1,8):=by kernel_rfl
theorem make_ints (n:Nat) (hn:n≤1000000) (W:World):(Instr.makeSlice 23 (.int .i64 (n:Int)) (.int .i64 (n:Int))).run Tryz.prog W=.ok (.slice (some ⟨W.heap.size,0,none⟩) n n) (W.alloc (.cells (madeCells #[.int .i64 0] n) 3)):=by obtain ⟨i,hi,hz⟩:=Option.map_eq_some_iff.1 info3;simp only [Prod.mk.injEq] at hz;have:=Go.run_make (P:=Tryz.prog) W 23 3 i (.int .i64 0) Tryz.underlying23 hi hz.1 .i64 .i64 (n:Int) (n:Int) (by omega) (by omega) (by rw [hz.2.2];omega) (by omega);rw [hz.2.1] at this;simpa [Value.cells] using this
theorem ints_made (n:Nat) (W:World):IntsAt (W.alloc (.cells (madeCells #[.int .i64 0] n) 3)) W.heap.size (List.replicate n 0):=by
 refine ⟨_,heap_alloc_new W _,fun i c hi=>?_⟩;have hl:i < n:=by have:=(List.getElem?_eq_some_iff.1 hi).1;simpa using this
 rw [List.getElem?_replicate,if_pos hl] at hi;cases hi;simp [madeCells,hl,Nat.mod_one]
def Sorted (D:List NV):Prop:=D.Pairwise (fun x y=>lt y.path x.path=false)
def bare (x:NV):NV:={ x with addr:=none,cap:=0,cls:=0 }
def noAd (x:NV):NV:={ x with addr:=none,cap:=0 }
structure Fits (D:List NV) (k:Nat) (p:ByteArray):Prop where
 le:k≤D.length
 more:∀ y∈D.drop k,lt p y.path=true
theorem Fits.start (D:List NV) (p:ByteArray):Fits D D.length p:=⟨Nat.le_refl _,fun y hy=>by rw [List.drop_length] at hy;cases hy⟩
theorem Fits.back {D:List NV} {k:Nat} {p:ByteArray} (h:Fits D (k+1) p) {y:NV} (hy:D[k]?=some y) (hp:lt p y.path=true):Fits D k p:=by
 obtain ⟨hk,e⟩:=List.getElem?_eq_some_iff.1 hy;refine ⟨by omega,fun z hz=>?_⟩;rw [List.drop_eq_getElem_cons hk] at hz;rcases List.mem_cons.1 hz with rfl | hz
 ·rw [e];exact hp
 ·exact h.more z hz
theorem Fits.sorted {D:List NV} {k:Nat} {y:NV} (h:Fits D k y.path) (hs:Sorted D) (hk:k=0∨∃ z,D[k - 1]?=some z∧lt y.path z.path=false):Sorted ((D.take k++[y])++D.drop k):=by
 have hD:Sorted (D.take k++D.drop k):=by rw [List.take_append_drop];exact hs
 obtain ⟨h1,h2,h3⟩:=List.pairwise_append.1 hD;have hle:∀ x∈D.take k,lt y.path x.path=false:=by
  intro x hx;rcases hk with rfl | ⟨z,hz,hzy⟩
  ·simp at hx
  ·
   rcases Nat.eq_zero_or_pos k with rfl | hp
   ·simp at hx
   ·
    obtain ⟨i,hi,rfl⟩:=List.mem_iff_getElem.1 hx;rw [List.length_take] at hi;rw [List.getElem_take];obtain ⟨hkl,hze⟩:=List.getElem?_eq_some_iff.1 hz;by_cases e:i=k - 1
    ·subst e;rw [hze];exact hzy
    ·have:=List.pairwise_iff_getElem.1 hs i (k - 1) (by omega) hkl (by omega);rw [hze] at this;exact le_trans hzy this
 refine List.pairwise_append.2 ⟨List.pairwise_append.2 ⟨h1,List.pairwise_singleton _ _,fun x hx z hz=>?_⟩,h2,fun x hx z hz=>?_⟩
 ·rw [List.mem_singleton.1 hz];exact hle x hx
 ·
  rcases List.mem_append.1 hx with hx | hx
  ·exact h3 x hx z hz
  ·rw [List.mem_singleton.1 hx];exact lt_asymm (h.more z hz)
theorem ins_perm {D l:List NV} {k:Nat} {y:NV} (h:(D.map noAd).Perm (l.map noAd)):(((D.take k++[y])++D.drop k).map noAd).Perm ((l++[y]).map noAd):=by
 have h1:((D.take k++[y])++D.drop k).Perm (y :: D):=by have:(D.take k++[y]++D.drop k).Perm ([y]++D.take k++D.drop k):=List.perm_append_comm.append_right _;refine this.trans ?_;simp
 refine (h1.map noAd).trans ?_;simp only [List.map_cons,List.map_append,List.map_nil];refine (List.Perm.cons _ h).trans ?_;exact (List.perm_append_comm (l₁:=[noAd y]) (l₂:=l.map noAd))
def GoodC (f:Int→Int) (n:Nat) (D:List NV) (cs:List Int):Prop:=∀ (i:Nat) (x:NV) (c:Int),D[i]?=some x→cs[i]?=some c→c≠0→1≤c∧c≤n∧x.cls=f c∧0 < f c
theorem GoodC.start (f:Int→Int) (D:List NV) (m:Nat):GoodC f 0 D (List.replicate m 0):=by
 intro i x c _ hc h0;rw [List.getElem?_replicate] at hc;split at hc
 ·cases hc;exact absurd rfl h0
 ·cases hc
theorem GoodC.more {f:Int→Int} {n:Nat} {D:List NV} {cs:List Int} (h:GoodC f n D cs) (z:Int):GoodC (fun c=>if c=(n:Int)+1 then z else f c) (n+1) D cs:=by
 intro i x c hx hc h0;obtain ⟨h1,h2,h3,h4⟩:=h i x c hx hc h0;have:¬ c=(n:Int)+1:=by omega
 simp only [if_neg this];exact ⟨h1,by omega,h3,h4⟩
theorem GoodC.put {f:Int→Int} {n:Nat} {D:List NV} {cs:List Int} (h:GoodC f (n+1) D cs) {k:Nat} {x:NV} (hx:D[k]?=some x) (hf:f ((n:Int)+1)=x.cls) (hp:0 < x.cls):GoodC f (n+1) D (cs.set k ((n:Int)+1)):=by
 intro i y c hy hc h0;by_cases e:i=k
 ·
  subst e;rw [hx] at hy;cases hy;have hl:i < cs.length:=by have:=(List.getElem?_eq_some_iff.1 hc).1;simpa using this
  rw [List.getElem?_set_self hl] at hc;cases hc;exact ⟨by omega,by omega,hf.symm,by omega⟩
 ·rw [List.getElem?_set_ne (by omega)] at hc;exact h i y c hy hc h0
structure CanonOf (l K:List NV):Prop where
 perm:(K.map bare).Perm (l.map bare)
 sorted:Sorted K
 cls:∃ f:Int→Int,∀ x∈K,x.cls≠0→0 < x.cls∧0 < f x.cls∧∃ y∈l,bare y=bare x∧y.cls=f x.cls
structure NumTo (D:List NV) (cs:List Int) (i:Nat) (K:List NV):Prop where
 len:K.length=D.length
 done_:∀ (j:Nat) (x:NV) (c:Int),j < i→D[j]?=some x→cs[j]?=some c→K[j]?=some { x with cls:=c }
 rest:∀ j,i≤j→K[j]?=D[j]?
theorem NumTo.start (D:List NV) (cs:List Int):NumTo D cs 0 D:=⟨rfl,fun j _ _ h=>absurd h (Nat.not_lt_zero j),fun _ _=>rfl⟩
theorem NumTo.step {D K:List NV} {cs:List Int} {i:Nat} (h:NumTo D cs i K) {x:NV} {c:Int} (hx:D[i]?=some x) (hc:cs[i]?=some c):NumTo D cs (i+1) (K.set i { x with cls:=c }):=by
 have hil:=(List.getElem?_eq_some_iff.1 hx).1;refine ⟨by rw [List.length_set,h.len],fun j y d hj hy hd=>?_,fun j hj=>?_⟩
 ·
  by_cases e:j=i
  ·subst e;rw [hx] at hy;cases hy;rw [hc] at hd;cases hd;exact List.getElem?_set_self (by rw [h.len];exact hil)
  ·rw [List.getElem?_set_ne (by omega)];exact h.done_ j y d (by omega) hy hd
 ·rw [List.getElem?_set_ne (by omega)];exact h.rest j (by omega)
theorem NumTo.all {D K:List NV} {cs:List Int} (h:NumTo D cs D.length K) (hcs:cs.length=D.length) {j:Nat} {y:NV} (hy:K[j]?=some y):∃ x c,D[j]?=some x∧cs[j]?=some c∧y={ x with cls:=c }:=by
 have hj:j < D.length:=by rw [← h.len];exact (List.getElem?_eq_some_iff.1 hy).1
 refine ⟨_,_,List.getElem?_eq_getElem hj,List.getElem?_eq_getElem (by omega),?_⟩;have:=h.done_ j _ _ hj (List.getElem?_eq_getElem hj) (List.getElem?_eq_getElem (by omega));rw [hy] at this;exact Option.some.inj this
theorem canon_of {l D K:List NV} {cs:List Int} {f:Int→Int} {n:Nat} (hp:(D.map noAd).Perm (l.map noAd)) (hs:Sorted D) (hg:GoodC f n D cs) (hcs:cs.length=D.length) (h:NumTo D cs D.length K):CanonOf l K:=by
 have hb:K.map bare=D.map bare:=by
  apply List.ext_getElem?;intro j;rw [List.getElem?_map,List.getElem?_map];cases e:K[j]? with
  | none =>
   have:D[j]?=none:=by rw [List.getElem?_eq_none_iff] at e ⊢;have:=h.len;omega
   rw [this]
  | some y =>obtain ⟨x,c,h1,_,rfl⟩:=h.all hcs e;rw [h1];rfl
 have hbn:∀ M:List NV,(M.map noAd).map bare=M.map bare:=fun M=>by rw [List.map_map];rfl
 refine ⟨?_,?_,f,fun x hx h0=>?_⟩
 ·rw [hb,← hbn D,← hbn l];exact hp.map bare
 ·refine List.pairwise_iff_getElem.2 fun i j hi hj hij=>?_;obtain ⟨x,c,h1,_,e1⟩:=h.all hcs (List.getElem?_eq_getElem hi);obtain ⟨y,d,h2,_,e2⟩:=h.all hcs (List.getElem?_eq_getElem hj);rw [e1,e2];obtain ⟨hi',rfl⟩:=List.getElem?_eq_some_iff.1 h1;obtain ⟨hj',rfl⟩:=List.getElem?_eq_some_iff.1 h2;exact List.pairwise_iff_getElem.1 hs i j hi' hj' hij
 ·
  obtain ⟨j,hj,rfl⟩:=List.mem_iff_getElem.1 hx;obtain ⟨x,c,h1,h2,e1⟩:=h.all hcs (List.getElem?_eq_getElem hj);rw [e1] at h0 ⊢;dsimp only at h0 ⊢;obtain ⟨g1,g2,g3,g4⟩:=hg j x c h1 h2 h0;refine ⟨by omega,g4,?_⟩;have hm:noAd x∈D.map noAd:=List.mem_map.2 ⟨x,List.mem_of_getElem? h1,rfl⟩;obtain ⟨y,hy,e⟩:=List.mem_map.1 (hp.mem_iff.1 hm);refine ⟨y,hy,?_,?_⟩
  ·have:=congrArg bare e;exact this
  ·have:(noAd y).cls=(noAd x).cls:=congrArg NV.cls e;have:y.cls=x.cls:=this;rw [this,g3]
structure Apart (w:World) (v:Value) (x:NV):Prop where
 reads:Reads w x
 out:∀ ad,x.addr=some ad→0 < x.data.length→some ad.block≠v.ownBlock
theorem apart_of {w w1:World} {v1:Value} {x:NV} (h:Reads w x) (hb:Below w.heap.size w w1) (hv:∀ k,v1.ownBlock=some k→w.heap.size≤k):Apart w1 v1 x:=by refine ⟨h.below hb,fun ad ha hn e=>?_⟩;have h1:=hv ad.block e.symm;have h2:=ZCreate.C_lt h.1 ad ha hn;omega
end ZRo
namespace ZRs
open ZRo
open ZTCheck (cell_of)
structure Least (l:List NV) (i j:Nat) (x:NV) (k:Nat):Prop where
 lt_:j < l.length
 same:x.cls≤0→j=i
 cls:0 < x.cls→∃ y,l[j]?=some y∧y.cls=x.cls∧∀ m z,m < k→l[m]?=some z→z.cls=x.cls→lt z.path y.path=false
set_option maxHeartbeats 8000000 in
theorem least_calls (A:Option Addr) (cap:Nat) (l:List NV) (i:Nat) (x:NV) (hi:l[i]?=some x) (hc:l.length≤cap) (h40:l.length≤1000) (hp:∀ y∈l,y.path.size≤1000000) (w:World) (hl:NodesAt w A l): Calls Tryz.prog 40 #[.slice A l.length cap,.int .i64 i] w fun r w'=>∃ j:Nat,r=.returned (.int .i64 j)∧Least l i j x l.length∧Drawn0 w w':=by
 have hil:i < l.length:=(List.getElem?_eq_some_iff.1 hi).1;have hilz:(i:Int) < (l.length:Int):=by omega
 have HD:=hid (And.intro hi (And.intro hp hl));obtain ⟨b,o,rfl,hlt,_⟩:=hl.row (fun e=>by rw [e] at hil;exact absurd hil (Nat.not_lt_zero _));have CL:Hid (∀ n:Nat,∀ (k:Nat) (y:NV),l[k]?=some y→(w.drewN n).cell? ⟨b,o+k * 6+1,none⟩=some (.string y.path)∧(w.drewN n).cell? ⟨b,o+k * 6+5,none⟩=some (.int .i64 y.cls)):=hid fun n k y hk=>by obtain ⟨a0,a1,a2,_,a4,a5⟩:=(HD.out.2.2.below (pw_below_drewN (Below.refl _ _) n)).cells k y hk;exact ⟨a1,a5⟩
 clear hl hp hi;go_enter Tryz.func40,Tryz.ntmps40
 go_wp2_with fail
 go_loopw [5,6] (fun v5 v6 wr=>∃ (k j:Nat),v5=.int .i64 j∧v6=.int .i64 k∧k≤l.length∧Least l i j x k∧Drawn0 w wr) (fun _ v6 _=>l.length - (intOf v6).toNat)
 case atStart=>exact ⟨0,i,rfl,rfl,Nat.zero_le _,⟨hil,fun _=>rfl,fun _=>⟨x,HD.out.1,rfl,fun m z h=>absurd h (Nat.not_lt_zero m)⟩⟩,Drawn0.refl _⟩
 case round =>
  obtain ⟨k,j,rfl,rfl,hk,hL,hdr⟩:=hrel;have HDR:=hid hdr;have CL2:Hid (∀ n:Nat,∀ (k:Nat) (y:NV),l[k]?=some y→(wr.drewN n).cell? ⟨b,o+k * 6+1,none⟩=some (.string y.path)∧(wr.drewN n).cell? ⟨b,o+k * 6+5,none⟩=some (.int .i64 y.cls)):=hid fun n k y hk=>by obtain ⟨a0,a1,a2,_,a4,a5⟩:=(HD.out.2.2.below (pw_below_drewN HDR.out.below n)).cells k y hk;exact ⟨a1,a5⟩
  clear hdr;have HLE:=hid hL;have hjl:=hL.lt_;have hjz:(j:Int) < (l.length:Int):=by omega
  clear hL;by_cases hlt1:k < l.length
  ·
   have hkz:(k:Int) < (l.length:Int):=by omega
   obtain ⟨y,hy⟩:∃ y,l[k]?=some y:=⟨_,List.getElem?_eq_getElem hlt1⟩;obtain ⟨z,hz⟩:∃ z,l[j]?=some z:=⟨_,List.getElem?_eq_getElem hjl⟩;have cx5:=fun n=>(CL2.out n i x HD.out.1).2;have cy5:=fun n=>(CL2.out n k y hy).2;have cy1:=fun n=>(CL2.out n k y hy).1;have cz1:=fun n=>(CL2.out n j z hz).1;have HY:=hid (And.intro hy hz);have ha:=HD.out.2.1 y (List.mem_of_getElem? hy);have hb:=HD.out.2.1 z (List.mem_of_getElem? hz);have CQ:=hid (fun (b:Nat)=>(ZRh.compare_calls y.path z.path (by omega) (by omega) (wr.drewN b)).mono (R':=fun e w'=>e=.returned (.int .i64 (cmpV y.path z.path))∧∃ n,w'=wr.drewN n) fun e w' hq=>⟨hq.1,by obtain ⟨n,hn⟩:=hq.2.out;rw [hn];exact (((Drawn0.refl wr).step b).step n).out⟩);clear hy hz ha hb;by_cases hx0:0 < x.cls
   ·
    have HX0:=hid hx0;by_cases he:y.cls=x.cls
    ·
     have be:(y.cls == x.cls)=true:=beq_iff_eq.2 he;have HE:=hid he;clear he;by_cases hless:lt y.path z.path=true
     ·
      have hv:cmpV y.path z.path=-1:=by unfold cmpV;rw [if_pos hless]
      rw [hv] at CQ;have N:Hid (Least l i k x (k+1)):=hid ⟨hlt1,fun h=>absurd h (by have:=HX0.out;omega),fun h=>⟨y,HY.out.1,HE.out,fun m u hm hu hc=>by
       by_cases hmk:m=k
       ·subst hmk;rw [HY.out.1] at hu;cases hu;exact lt_irrefl _
       ·obtain ⟨z',hz',_,hall⟩:=HLE.out.cls h;rw [HY.out.2] at hz';cases hz';exact le_trans (hall m u (by omega) hu hc) (lt_asymm hless)⟩⟩
      clear hless hv
      go_wp2_with fail
      go_quiet (exact CQ.out _)
      go_wp2_with fail
      go_roundw
      case rel=>exact ⟨k+1,k,rfl,by first | rfl | go_num,by omega,N.out,by repeat (first | exact HDR.out | refine Drawn0.step ?_ _)⟩
      case measure=>first | (simp [intOf];done) | (simp [intOf];omega)
     ·
      have hless':lt y.path z.path=false:=by simpa using hless
      have N:Hid (Least l i j x (k+1)):=hid ⟨HLE.out.lt_,HLE.out.same,fun h=>by
       obtain ⟨z',hz',hc',hall⟩:=HLE.out.cls h;rw [HY.out.2] at hz';cases hz';refine ⟨z,HY.out.2,hc',fun m u hm hu hc=>?_⟩;by_cases hmk:m=k
       ·subst hmk;rw [HY.out.1] at hu;cases hu;exact hless'
       ·exact hall m u (by omega) hu hc⟩
      have hv:∃ v,cmpV y.path z.path=v∧¬ v < 0:=⟨_,rfl,by unfold cmpV;rw [if_neg (by rw [hless'];decide)];split <;> decide⟩;obtain ⟨v,hv,hv0⟩:=hv;rw [hv] at CQ;clear hless hless' hv
      go_wp2_with fail
      go_quiet (exact CQ.out _)
      go_wp2_with fail
      go_roundw
      case rel=>exact ⟨k+1,j,rfl,by first | rfl | go_num,by omega,N.out,by repeat (first | exact HDR.out | refine Drawn0.step ?_ _)⟩
      case measure=>first | (simp [intOf];done) | (simp [intOf];omega)
    ·
     have be:(y.cls == x.cls)=false:=beq_eq_false_iff_ne.2 he;have N:Hid (Least l i j x (k+1)):=hid ⟨HLE.out.lt_,HLE.out.same,fun h=>by
      obtain ⟨z',hz',hc',hall⟩:=HLE.out.cls h;refine ⟨z',hz',hc',fun m u hm hu hc=>?_⟩;by_cases hmk:m=k
      ·subst hmk;rw [HY.out.1] at hu;cases hu;exact absurd hc he
      ·exact hall m u (by omega) hu hc⟩
     clear he
     go_wp2_with fail
     repeat (go_quiet (fail);try go_wp2_with fail)
     go_roundw
     case rel=>exact ⟨k+1,j,rfl,by first | rfl | go_num,by omega,N.out,by repeat (first | exact HDR.out | refine Drawn0.step ?_ _)⟩
     case measure=>first | (simp [intOf];done) | (simp [intOf];omega)
   ·
    have N:Hid (Least l i j x (k+1)):=hid ⟨HLE.out.lt_,HLE.out.same,fun h=>absurd h hx0⟩;have hx1:decide (0 < x.cls)=false:=by simpa using hx0
    obtain ⟨cl,hcl⟩:∃ c,x.cls=c:=⟨_,rfl⟩;rw [hcl] at cx5 hx0 hx1;clear hcl
    go_wp2_with fail
    go_quiet (fail)
    go_wp2_with fail
    go_roundw
    case rel=>exact ⟨k+1,j,rfl,by first | rfl | go_num,by omega,N.out,by repeat (first | exact HDR.out | refine Drawn0.step ?_ _)⟩
    case measure=>first | (simp [intOf];done) | (simp [intOf];omega)
  ·
   obtain rfl:k=l.length:=by omega
   go_wp2_with fail
   go_ret;exact ⟨j,rfl,HLE.out,HDR.out⟩
end ZRs
namespace ZRq
open ZRo
open ZTCheck (cell_of)
open ZAdd (info46b)
theorem own_data {w:World} {base:Nat} {v:Value} {data:List Int} (ho:w.ownsRow base 5 1 v data.length (nums .u8 data)):∃ A c,v=.slice A data.length c∧Kd.C (Kd.int .u8) w A data.length data∧data.length≤c∧∀ ad,A=some ad→0 < data.length→base≤ad.block∧∃ cells,w.heap[ad.block]?=some (.cells cells 5 (0,0)):=by
 rcases Nat.eq_zero_or_pos data.length with h0 | hp
 ·obtain rfl:=List.eq_nil_of_length_eq_zero h0;obtain ⟨A,c,rfl⟩:=own_slice ho;exact ⟨A,c,rfl,⟨rfl,by simp,fun h=>absurd h (Nat.lt_irrefl 0)⟩,Nat.zero_le _,fun ad _ h=>absurd h (Nat.lt_irrefl 0)⟩
 ·obtain ⟨g,cap,rfl,h1,_⟩:=World.ownsRow.form ho hp;have hO:ZBase.Own w base g cap data.length data:=⟨ho⟩;refine ⟨_,cap,rfl,hO.reads,hO.le,fun ad h _=>?_⟩;cases h;exact ⟨h1,own_typed ho g rfl⟩
theorem empty5 (w:World) (k:Nat) (hk:w.heap.size=k):(w.alloc (.cells #[] 5)).ownsRow k 5 1 (.slice (some ⟨k,0,none⟩) 0 0) ([]:List Int).length (nums .u8 []):=by subst hk;exact ZSum.own_empty w
set_option maxHeartbeats 8000000 in
theorem canon_calls (A:Option Addr) (cap:Nat) (l:List NV) (hc:l.length≤cap) (h40:l.length≤40) (hd:∀ x∈l,x.data.length≤1000000) (hp:∀ x∈l,x.path.size≤1000000) (w:World) (hl:NodesAt w A l): Calls Tryz.prog 38 #[.slice A l.length cap] w fun r w'=>∃ B c K,r=.returned (.slice B K.length c)∧K.length≤c∧NodesAt w' B K∧CanonOf l K∧K.length=l.length∧Below w.heap.size w w':=by
 have HL:=hid (And.intro hl (And.intro hd hp));clear hl hd hp;go_enter Tryz.func38,Tryz.ntmps38
 go_wp2_with fail
 go_loopw [3,4] (fun v3 v4 wr=>∃ (i:Nat) (D:List NV),v4=.int .i64 i∧i≤l.length∧D.length=i∧NRow wr w.heap.size v3 D∧(∀ x∈D,Apart wr v3 x∧x.path.size≤1000000)∧Sorted D∧(D.map noAd).Perm ((l.take i).map noAd)∧Below w.heap.size w wr) (fun _ v4 _=>l.length - (intOf v4).toNat)
 case atStart=>exact ⟨0,[],rfl,Nat.zero_le _,rfl,Kd.R_nil _ _ _ _ _,fun x h=>absurd h List.not_mem_nil,List.Pairwise.nil,List.Perm.refl _,Below.refl _ _⟩
 case round =>
  obtain ⟨i,D,rfl,hi,hDi,hR,hA,hS,hP,hB⟩:=hrel;obtain ⟨wo,rfl⟩:∃ x,x=wr:=⟨_,rfl⟩;have ST:=hid (And.intro hR (And.intro hA (And.intro hS (And.intro hP hB))));have HDi:=hid hDi;clear hA hS hP hB;obtain ⟨A3,c3,rfl,hc3,hC3⟩:=Kd.R_reads hR;have HC3:=hid (And.intro hC3 hc3);clear hC3 hR hDi;by_cases hlt:i < l.length
  ·
   have hltz:(i:Int) < (l.length:Int):=by omega
   obtain ⟨x,hx⟩:∃ x,l[i]?=some x:=⟨_,List.getElem?_eq_getElem hlt⟩;obtain ⟨b,o,rfl,_,_⟩:=HL.out.1.row (fun e=>by rw [e] at hlt;exact absurd hlt (Nat.not_lt_zero _));have HX:=hid (And.intro hx (And.intro ((HL.out.1.below ST.out.2.2.2.2).data x (List.mem_of_getElem? hx)) (And.intro (HL.out.2.1 x (List.mem_of_getElem? hx)) (HL.out.2.2 x (List.mem_of_getElem? hx)))));obtain ⟨d0,d1,d2,d3,d4,d5⟩:=(HL.out.1.below ST.out.2.2.2.2).cells i x hx;clear hx;obtain ⟨kind,path,mode,target,addr,xc,data,cls⟩:=x;dsimp only at d0 d1 d2 d3 d4 d5;have X1:=hid (heap_alloc_new wo (.cells #[.int .i64 kind,.string path,.int .i64 mode,.string target,.slice addr data.length xc,.int .i64 cls] 46));have E5:=hid (empty5 (wo.alloc (.cells #[.int .i64 kind,.string path,.int .i64 mode,.string target,.slice addr data.length xc,.int .i64 cls] 46)) (wo.heap.size+1) (by simp));have HZ:Hid ((wo.alloc (.cells #[.int .i64 kind,.string path,.int .i64 mode,.string target,.slice addr data.length xc,.int .i64 cls] 46)).heap.size=wo.heap.size+1):=hid (by simp)
   go_wp2_with (at_builtin;refine ZSum.append_bytes (w0:=wo.alloc (.cells #[.int .i64 kind,.string path,.int .i64 mode,.string target,.slice addr data.length xc,.int .i64 cls] 46)) (wo.heap.size+1) rfl (.tmp 25) (.tmp 27) rfl (.slice (some ⟨wo.heap.size+1,0,none⟩) 0 0) [] addr data.length xc data rfl rfl E5.out (Kd.C_alloc (Kd.C_alloc HX.out.2.1.1 _) _) (by have:=HZ.out;exact (Below.refl _ _).alloc (by omega) _) (by simp) (by have:=HX.out.2.2.1;dsimp only at this;simp;omega) ?_;intro v1 w1 ho hb _ _;obtain ⟨A1,c1,rfl,hC1,hc1,hA1⟩:=own_data (by simpa using ho);have B1:=hid hb;have X2:=hid ((hb.block wo.heap.size (by omega)).trans X1.out);have HY:=hid (And.intro hC1 (And.intro hc1 hA1));obtain ⟨e0,e1,e2,e3,e4,e5⟩:=ZAdd.six_cell X2.out;obtain ⟨f0,f1,f2,f3,f4,f5⟩:=ZAdd.six_free X2.out;clear ho hb hC1 hc1 hA1)
   obtain ⟨W2,hW2⟩:∃ X,w1.setCell ⟨wo.heap.size,4,none⟩ (.slice A1 data.length c1)=X:=⟨_,rfl⟩;have X3:Hid (W2.heap[wo.heap.size]?=some (.cells #[.int .i64 kind,.string path,.int .i64 mode,.string target,.slice A1 data.length c1,.int .i64 cls] 46 (0,0))):=hid (by rw [← hW2,heap_setCell_same w1 _ 4 _ _ _ X2.out];rfl);have B2:Hid (Below wo.heap.size wo W2):=hid (by
    rw [← hW2];exact ((below_alloc (Below.refl _ _) _).trans (B1.out.mono (by omega))).setCell (p:=⟨wo.heap.size,4,none⟩) (by show wo.heap.size≤wo.heap.size;omega) _)
   have RY:Hid (Reads W2 ⟨kind,path,mode,target,A1,c1,data,cls⟩):=hid (by
    refine ⟨ZCanon.C_of HY.out.1 fun ad ha hn=>?_,HY.out.2.1⟩;rw [← hW2];exact Below.heap_setCell _ _ _ _ (by show ad.block≠wo.heap.size;have:=(HY.out.2.2 ad ha hn).1;omega))
   rw [hW2];have HXP:=hid HX.out.2.2.2;clear hW2 e0 e1 e2 e3 e4 e5 f0 f1 f2 f3 f4 f5 d0 d1 d2 d3 d4 d5 HY X2 X1 E5 HZ;have p1:∀ n,(W2.drewN n).cell? ⟨wo.heap.size,1,none⟩=some (.string path):=fun n=>cell_of (W:=W2.drewN n) (show (W2.drewN n).heap[wo.heap.size]?=_ from X3.out) 1 _ rfl;have HD40:D.length≤40:=by have:=HDi.out;omega
   have C3:Hid (nodeKd.C W2 A3 D.length D):=hid (Kd.C_below HC3.out.1 B2.out);have G3:Hid (0 < D.length→∃ g,A3=some ⟨g,0,none⟩∧RowAt W2 g D):=hid fun h=>by obtain ⟨g,cap,e,_,_,hr⟩:=NRow.at_ ST.out.1 h;simp only [Value.slice.injEq] at e;exact ⟨g,e.1,hr.of (B2.out.block _ hr.lt)⟩
   go_loopw [6] (fun v6 wq=>∃ k:Nat,v6=.int .i64 k∧Fits D k path∧Drawn0 W2 wq) (fun v6 _=>(intOf v6).toNat)
   case atStart=>exact ⟨D.length,rfl,Fits.start D path,Drawn0.refl _⟩
   case round =>
    obtain ⟨k,rfl,hF,hdr⟩:=hrel;have HF:=hid hF;have HDR:=hid hdr;have hB:=hid hdr.below;replace X3:Hid (wr.heap[wo.heap.size]?=some (.cells #[.int .i64 kind,.string path,.int .i64 mode,.string target,.slice A1 data.length c1,.int .i64 cls] 46 (0,0))):=hid ((hB.out.block _ (blk_lt X3.out)).trans X3.out);replace B2:Hid (Below wo.heap.size wo wr):=hid (below_step B2.out hB.out);replace RY:Hid (Reads wr ⟨kind,path,mode,target,A1,c1,data,cls⟩):=hid (RY.out.below hB.out);replace C3:Hid (nodeKd.C wr A3 D.length D):=hid (Kd.C_below C3.out hB.out);replace G3:Hid (0 < D.length→∃ g,A3=some ⟨g,0,none⟩∧RowAt wr g D):=hid fun h=>by obtain ⟨g,e,r⟩:=G3.out h;exact ⟨g,e,r.of (hB.out.block _ r.lt)⟩
    replace p1:∀ n,(wr.drewN n).cell? ⟨wo.heap.size,1,none⟩=some (.string path):=fun n=>cell_of (W:=wr.drewN n) (show (wr.drewN n).heap[wo.heap.size]?=_ from X3.out) 1 _ rfl;clear hdr hB;have hkD:=hF.le;clear hF;have T1:=cut_head A3 D.length c3 k hkD HC3.out.2;have T2:=cut_tail A3 D.length c3 k hkD;have CT:Hid (∀ X:World,Below wr.heap.size wr X→ReadsRow (fun (x:NV) cs=>cs=x.cells) 6 X A3 k (D.take k)):=hid fun X hX=>by have h1:=Kd.C_take (k:=nodeKd) (Kd.C_below C3.out hX) hkD;rw [List.length_take,Nat.min_eq_left hkD] at h1;exact h1
    have CR:Hid (∀ X:World,Below wr.heap.size wr X→ReadsRow (fun (x:NV) cs=>cs=x.cells) 6 X (if c3=k then A3 else A3.map (·.add (k * 6))) (D.length - k) (D.drop k)):=hid fun X hX=>by have h1:=Kd.C_drop (k:=nodeKd) (Kd.C_below C3.out hX) hkD HC3.out.2;rw [List.length_drop] at h1;exact h1
    obtain ⟨A5,hA5⟩:∃ A,(if c3=k then A3 else A3.map (·.add (k * 6)))=A:=⟨_,rfl⟩;rw [hA5] at T2 CR;clear hA5;have EMP:Hid (∀ X:World,X.heap=wr.heap→NRow (X.alloc (.cells #[] 46)) wr.heap.size (.slice (some ⟨wr.heap.size,0,none⟩) 0 0) []):=hid fun X hX=>by have h1:=nrow_empty X wr.heap.size (by rw [hX];exact Nat.le_refl _);rw [hX] at h1;exact h1
    by_cases hk0:0 < k
    ·
     obtain ⟨k',hkk⟩:∃ k',k=k' + 1:=⟨k - 1,by omega⟩;have e1:(k:Int) - 1=(k':Int):=by omega
     have hwk:IntKind.i64.wrap (k':Int)=(k':Int):=by rw [IntKind.wrap_i64];omega
     have hk'D:(k':Int) < (D.length:Int):=by omega
     have hkz:(0:Int) < (k:Int):=by omega
     obtain ⟨g,rfl,hrow⟩:=G3.out (by omega);obtain ⟨z,hz⟩:∃ z,D[k']?=some z:=⟨_,List.getElem?_eq_getElem (by omega)⟩;have q1:∀ n,(wr.drewN n).cell? ⟨g,k' * 6+1,none⟩=some (.string z.path):=fun n=>((hrow.of (w1:=wr.drewN n) rfl).cells k' z hz).2.1;have hzp:=(ST.out.2.1 z (List.mem_of_getElem? hz)).2;have hxp:=HXP.out;have CQ:=hid (fun (b:Nat)=>(ZRh.compare_calls z.path path (by omega) (by omega) (wr.drewN b)).mono (R':=fun e w'=>e=.returned (.int .i64 (cmpV z.path path))∧∃ n,w'=wr.drewN n) fun e w' hq=>⟨hq.1,by obtain ⟨n,hn⟩:=hq.2.out;rw [hn];exact (((Drawn0.refl wr).step b).step n).out⟩);have HZZ:=hid hz;have HKK:=hid hkk;clear hrow hz hzp hxp hkk;by_cases hlt2:lt path z.path=true
     ·
      obtain ⟨v,hv,hv0⟩:∃ v,cmpV z.path path=v∧v > 0:=⟨_,rfl,by unfold cmpV;rw [if_neg (by rw [lt_asymm hlt2];decide),if_pos hlt2];decide⟩;rw [hv] at CQ;have N:Hid (Fits D k' path):=hid (by
       have h1:=HF.out;rw [HKK.out] at h1;exact h1.back HZZ.out hlt2)
      clear hlt2 hv T1 T2 CT CR EMP
      go_wp2_with fail
      go_quiet (exact CQ.out _)
      go_wp2_with fail
      go_roundw
      case rel=>exact ⟨k',by first | rfl | go_num,N.out,by repeat (first | exact HDR.out | refine Drawn0.step ?_ _)⟩
      case measure=>first | (simp [intOf];done) | (simp [intOf];omega)
     ·
      have hlt3:lt path z.path=false:=by simpa using hlt2
      obtain ⟨v,hv,hv0⟩:∃ v,cmpV z.path path=v∧¬ v > 0:=⟨_,rfl,by unfold cmpV;split <;> (try rw [if_neg hlt2]) <;> decide⟩;rw [hv] at CQ;have SRT:Hid (k=0∨∃ z,D[k - 1]?=some z∧lt path z.path=false):=hid (.inr ⟨z,by rw [HKK.out];exact HZZ.out,hlt3⟩);clear hlt2 hlt3 hv
      go_wp2_with fail
      go_quiet (exact CQ.out _)
      go_wp2_with (first
       | (at_builtin;refine Kd.R_append_rows nodeKd (Rr:=fun (x:NV) cs=>cs=x.cells) (w0:=wr) wr.heap.size rfl (.tmp 48) (.tmp 51) 22 46 (.agg #[.int .i64 0,.string ⟨#[]⟩,.int .i64 0,.string ⟨#[]⟩,.slice none 0 0,.int .i64 0]) 80 rfl Tryz.underlying22 info46b rfl (by decide) (by decide) (.slice (some ⟨wr.heap.size,0,none⟩) 0 0) [] (D.take k) (some ⟨g,0,none⟩) k c3 (fun _=>True) (fun _=>False) rfl rfl (EMP.out _ rfl) (CT.out _ (by repeat (first | exact Below.refl _ _ | refine below_alloc ?_ _ | refine pw_below_drewN ?_ _ | refine below_drew ?_))) (fun _ _ h=>h) (fun _ h=>h.elim) (fun _ _=>trivial) (by repeat (first | exact Below.refl _ _ | refine below_alloc ?_ _ | refine pw_below_drewN ?_ _ | refine below_drew ?_)) (Below.size (w:=wr) (by repeat (first | exact Below.refl _ _ | refine below_alloc ?_ _ | refine pw_below_drewN ?_ _ | refine below_drew ?_))) (by simp only [List.length_nil];omega) ?_;intro v4 w4 hr4 hb4 _ _;have R4:=hid hr4;have B4:=hid hb4;obtain ⟨e0,e1,e2,e3,e4,e5⟩:=ZAdd.six_cell ((hb4.block _ (blk_lt X3.out)).trans X3.out);clear hr4 hb4)
       | (at_builtin;refine Kd.R_append nodeKd (w0:=w4) wr.heap.size rfl (.tmp 53) (.tmp 55) 22 46 (.agg #[.int .i64 0,.string ⟨#[]⟩,.int .i64 0,.string ⟨#[]⟩,.slice none 0 0,.int .i64 0]) 80 rfl Tryz.underlying22 info46b rfl (by decide) (by decide) v4 ([]++D.take k) ⟨kind,path,mode,target,A1,c1,data,cls⟩ [.int .i64 kind,.string path,.int .i64 mode,.string target,.slice A1 data.length c1,.int .i64 cls] (fun _=>True) (fun _=>False) rfl rfl rfl (fun _ h=>h.elim) (fun _ _=>trivial) R4.out (Below.refl _ _) B4.out.size (by rw [List.nil_append,List.length_take];omega) ?_;intro v5 w5 hr5 hb5 _ _;have R5:=hid hr5;have B5:Hid (Below wr.heap.size wr w5):=hid (B4.out.trans hb5);clear hr5 hb5)
       | (at_builtin;refine Kd.R_append_rows nodeKd (Rr:=fun (x:NV) cs=>cs=x.cells) (w0:=w5) wr.heap.size rfl (.tmp 57) (.tmp 60) 22 46 (.agg #[.int .i64 0,.string ⟨#[]⟩,.int .i64 0,.string ⟨#[]⟩,.slice none 0 0,.int .i64 0]) 80 rfl Tryz.underlying22 info46b rfl (by decide) (by decide) v5 (([]++D.take k)++[⟨kind,path,mode,target,A1,c1,data,cls⟩]) (D.drop k) A5 (D.length - k) (c3 - k) (fun _=>True) (fun _=>False) rfl rfl R5.out (CR.out _ B5.out) (fun _ _ h=>h) (fun _ h=>h.elim) (fun _ _=>trivial) (Below.refl _ _) B5.out.size (by rw [List.nil_append,List.length_append,List.length_take,List.length_singleton];omega) ?_;intro v6 w6 hr6 hb6 _ _;have R6:=hid hr6;have B6:Hid (Below wr.heap.size wr w6):=hid (B5.out.trans hb6);clear hr6 hb6))
      go_roundw
      case rel =>
       have hown:∀ kk,v6.ownBlock=some kk→wr.heap.size≤kk:=fun kk h=>Kd.R_base R6.out kk h;have hwW:w.heap.size≤wr.heap.size:=by have:=B2.out.size;have:=ST.out.2.2.2.2.size;omega
       have R7:=Kd.R_lower R6.out hwW;rw [List.nil_append] at R7;refine ⟨i+1,(D.take k++[(⟨kind,path,mode,target,A1,c1,data,cls⟩:NV)])++D.drop k,by first | rfl | go_num,by omega,?_,R7,fun x hx=>?_,HF.out.sorted (y:=⟨kind,path,mode,target,A1,c1,data,cls⟩) ST.out.2.2.1 SRT.out,?_,below_step ST.out.2.2.2.2 (below_step B2.out B6.out)⟩
       ·have:=HDi.out;simp only [List.length_append,List.length_take,List.length_singleton,List.length_drop];omega
       ·
        rcases List.mem_append.1 hx with hx | hx
        ·
         rcases List.mem_append.1 hx with hx | hx
         ·have h1:=ST.out.2.1 x (List.mem_of_mem_take hx);exact ⟨apart_of (h1.1.reads.below B2.out) B6.out hown,h1.2⟩
         ·rw [List.mem_singleton.1 hx];exact ⟨apart_of RY.out B6.out hown,HXP.out⟩
        ·have h1:=ST.out.2.1 x (List.mem_of_mem_drop hx);exact ⟨apart_of (h1.1.reads.below B2.out) B6.out hown,h1.2⟩
       ·have h1:=ins_perm (k:=k) (y:=⟨kind,path,mode,target,A1,c1,data,cls⟩) ST.out.2.2.2.1;rw [ZTCheck.take_snoc HX.out.1];refine h1.trans ?_;simp only [List.map_append];exact List.Perm.refl _
      case measure=>first | (simp [intOf];done) | (simp [intOf];omega)
    ·
     have hkz:¬ (0:Int) < (k:Int):=by omega
     have SRT:Hid (k=0∨∃ z,D[k - 1]?=some z∧lt path z.path=false):=hid (.inl (by omega))
     go_wp2_with fail
     go_quiet (fail)
     go_wp2_with (first
      | (at_builtin;refine Kd.R_append_rows nodeKd (Rr:=fun (x:NV) cs=>cs=x.cells) (w0:=wr) wr.heap.size rfl (.tmp 48) (.tmp 51) 22 46 (.agg #[.int .i64 0,.string ⟨#[]⟩,.int .i64 0,.string ⟨#[]⟩,.slice none 0 0,.int .i64 0]) 80 rfl Tryz.underlying22 info46b rfl (by decide) (by decide) (.slice (some ⟨wr.heap.size,0,none⟩) 0 0) [] (D.take k) A3 k c3 (fun _=>True) (fun _=>False) rfl rfl (EMP.out _ rfl) (CT.out _ (by repeat (first | exact Below.refl _ _ | refine below_alloc ?_ _ | refine pw_below_drewN ?_ _ | refine below_drew ?_))) (fun _ _ h=>h) (fun _ h=>h.elim) (fun _ _=>trivial) (by repeat (first | exact Below.refl _ _ | refine below_alloc ?_ _ | refine pw_below_drewN ?_ _ | refine below_drew ?_)) (Below.size (w:=wr) (by repeat (first | exact Below.refl _ _ | refine below_alloc ?_ _ | refine pw_below_drewN ?_ _ | refine below_drew ?_))) (by simp only [List.length_nil];omega) ?_;intro v4 w4 hr4 hb4 _ _;have R4:=hid hr4;have B4:=hid hb4;obtain ⟨e0,e1,e2,e3,e4,e5⟩:=ZAdd.six_cell ((hb4.block _ (blk_lt X3.out)).trans X3.out);clear hr4 hb4)
      | (at_builtin;refine Kd.R_append nodeKd (w0:=w4) wr.heap.size rfl (.tmp 53) (.tmp 55) 22 46 (.agg #[.int .i64 0,.string ⟨#[]⟩,.int .i64 0,.string ⟨#[]⟩,.slice none 0 0,.int .i64 0]) 80 rfl Tryz.underlying22 info46b rfl (by decide) (by decide) v4 ([]++D.take k) ⟨kind,path,mode,target,A1,c1,data,cls⟩ [.int .i64 kind,.string path,.int .i64 mode,.string target,.slice A1 data.length c1,.int .i64 cls] (fun _=>True) (fun _=>False) rfl rfl rfl (fun _ h=>h.elim) (fun _ _=>trivial) R4.out (Below.refl _ _) B4.out.size (by rw [List.nil_append,List.length_take];omega) ?_;intro v5 w5 hr5 hb5 _ _;have R5:=hid hr5;have B5:Hid (Below wr.heap.size wr w5):=hid (B4.out.trans hb5);clear hr5 hb5)
      | (at_builtin;refine Kd.R_append_rows nodeKd (Rr:=fun (x:NV) cs=>cs=x.cells) (w0:=w5) wr.heap.size rfl (.tmp 57) (.tmp 60) 22 46 (.agg #[.int .i64 0,.string ⟨#[]⟩,.int .i64 0,.string ⟨#[]⟩,.slice none 0 0,.int .i64 0]) 80 rfl Tryz.underlying22 info46b rfl (by decide) (by decide) v5 (([]++D.take k)++[⟨kind,path,mode,target,A1,c1,data,cls⟩]) (D.drop k) A5 (D.length - k) (c3 - k) (fun _=>True) (fun _=>False) rfl rfl R5.out (CR.out _ B5.out) (fun _ _ h=>h) (fun _ h=>h.elim) (fun _ _=>trivial) (Below.refl _ _) B5.out.size (by rw [List.nil_append,List.length_append,List.length_take,List.length_singleton];omega) ?_;intro v6 w6 hr6 hb6 _ _;have R6:=hid hr6;have B6:Hid (Below wr.heap.size wr w6):=hid (B5.out.trans hb6);clear hr6 hb6))
     go_roundw
     case rel =>
      have hown:∀ kk,v6.ownBlock=some kk→wr.heap.size≤kk:=fun kk h=>Kd.R_base R6.out kk h;have hwW:w.heap.size≤wr.heap.size:=by have:=B2.out.size;have:=ST.out.2.2.2.2.size;omega
      have R7:=Kd.R_lower R6.out hwW;rw [List.nil_append] at R7;refine ⟨i+1,(D.take k++[(⟨kind,path,mode,target,A1,c1,data,cls⟩:NV)])++D.drop k,by first | rfl | go_num,by omega,?_,R7,fun x hx=>?_,HF.out.sorted (y:=⟨kind,path,mode,target,A1,c1,data,cls⟩) ST.out.2.2.1 SRT.out,?_,below_step ST.out.2.2.2.2 (below_step B2.out B6.out)⟩
      ·have:=HDi.out;simp only [List.length_append,List.length_take,List.length_singleton,List.length_drop];omega
      ·
       rcases List.mem_append.1 hx with hx | hx
       ·
        rcases List.mem_append.1 hx with hx | hx
        ·have h1:=ST.out.2.1 x (List.mem_of_mem_take hx);exact ⟨apart_of (h1.1.reads.below B2.out) B6.out hown,h1.2⟩
        ·rw [List.mem_singleton.1 hx];exact ⟨apart_of RY.out B6.out hown,HXP.out⟩
       ·have h1:=ST.out.2.1 x (List.mem_of_mem_drop hx);exact ⟨apart_of (h1.1.reads.below B2.out) B6.out hown,h1.2⟩
      ·have h1:=ins_perm (k:=k) (y:=⟨kind,path,mode,target,A1,c1,data,cls⟩) ST.out.2.2.2.1;rw [ZTCheck.take_snoc HX.out.1];refine h1.trans ?_;simp only [List.map_append];exact List.Perm.refl _
     case measure=>first | (simp [intOf];done) | (simp [intOf];omega)
  ·
   obtain rfl:i=l.length:=by omega
   have hn40:D.length≤40:=by have:=HDi.out;omega
   have GA:Hid (0 < D.length→∃ g,A3=some ⟨g,0,none⟩∧w.heap.size≤g∧RowAt wo g D):=hid fun h=>by obtain ⟨g,cap,e,h1,_,hr⟩:=NRow.at_ ST.out.1 h;simp only [Value.slice.injEq] at e;exact ⟨g,e.1,h1,hr⟩
   have MK:=make_ints D.length (by omega);have IA:=hid (ints_made D.length wo);have BA:=hid (below_alloc (Below.refl wo.heap.size wo) (.cells (madeCells #[.int .i64 0] D.length) 3))
   go_wp2_with fail
   go_loopw [9,10] (fun v9 v10 wq=>∃ (i num:Nat) (cs:List Int) (f:Int→Int),v9=.int .i64 num∧v10=.int .i64 i∧i≤D.length∧num≤i∧cs.length=D.length∧IntsAt wq wo.heap.size cs∧GoodC f num D cs∧Below wo.heap.size wo wq) (fun _ v10 _=>D.length - (intOf v10).toNat)
   case atStart=>exact ⟨0,0,List.replicate D.length 0,fun _=>0,rfl,rfl,Nat.zero_le _,Nat.le_refl _,by simp,IA.out,GoodC.start _ _ _,BA.out⟩
   case round =>
    obtain ⟨i,num,cs,f,rfl,rfl,hi2,hnum,hcs,hI,hG,hb⟩:=hrel;have HI:=hid (And.intro hI (And.intro hG (And.intro hb hcs)));clear hI hG hb hcs;by_cases hlt2:i < D.length
    ·
     have hltz:(i:Int) < (D.length:Int):=by omega
     obtain ⟨g,rfl,hgw,hrow⟩:=GA.out (by omega);have RW:=hid hrow;obtain ⟨x,hx⟩:∃ x,D[i]?=some x:=⟨_,List.getElem?_eq_getElem hlt2⟩;obtain ⟨c,hc1⟩:∃ c,cs[i]?=some c:=⟨_,List.getElem?_eq_getElem (by have:=HI.out.2.2.2;omega)⟩;have RC:Hid (∀ W,Below wo.heap.size wo W→∀ j y,D[j]?=some y→W.cell? ⟨g,j * 6+5,none⟩=some (.int .i64 y.cls)):=hid fun W hW j y hy=>((RW.out.of (hW.block _ RW.out.lt)).cells j y hy).2.2.2.2.2.1;have x5:=RC.out _ HI.out.2.2.1 i x hx;have c5:=(HI.out.1.cell hc1).1;have HX:=hid (And.intro hx hc1);clear hx hc1 hrow;by_cases h1:x.cls≤0
     ·
      go_wp2_with fail
      go_roundw
      case rel=>exact ⟨i+1,num,cs,f,rfl,by first | rfl | go_num,by omega,by omega,HI.out.2.2.2,HI.out.1,HI.out.2.1,HI.out.2.2.1⟩
      case measure=>first | (simp [intOf];done) | (simp [intOf];omega)
     ·
      by_cases h2:c=0
      ·
       have b2:(c != 0)=false:=by rw [h2];rfl
       clear h2
       go_wp2_with fail
       go_loopw [11,12] (fun v11 v12 w5=>∃ m q:Nat,v11=.int .i64 m∧v12=.int .i64 q∧q≤D.length∧m≤q∧IntsAt w5 wo.heap.size cs∧Below wo.heap.size wo w5) (fun _ v12 _=>D.length - (intOf v12).toNat)
       case atStart=>exact ⟨0,0,rfl,rfl,Nat.zero_le _,Nat.le_refl _,HI.out.1,HI.out.2.2.1⟩
       case round =>
        obtain ⟨m,q,rfl,rfl,hq,hmq,hI5,hb5⟩:=hrel;have H5:=hid (And.intro hI5 hb5);clear hI5 hb5;by_cases hlt3:q < D.length
        ·
         have hlqz:(q:Int) < (D.length:Int):=by omega
         obtain ⟨y,hy⟩:∃ y,D[q]?=some y:=⟨_,List.getElem?_eq_getElem hlt3⟩;have y5:=fun n=>RC.out _ (pw_below_drewN H5.out.2 n) q y hy;have x5':=fun n=>RC.out _ (pw_below_drewN H5.out.2 n) i x HX.out.1;clear hy;by_cases he:y.cls=x.cls
         ·
          have be:(y.cls == x.cls)=true:=beq_iff_eq.2 he;clear he
          go_wp2_with fail
          repeat (go_quiet (fail);try go_wp2_with fail)
          go_roundw
          case rel=>exact ⟨m+1,q+1,by first | rfl | go_num,by first | rfl | go_num,by omega,by omega,H5.out.1.of rfl,pw_below_drewN H5.out.2 _⟩
          case measure=>first | (simp [intOf];done) | (simp [intOf];omega)
         ·
          have be:(y.cls == x.cls)=false:=beq_eq_false_iff_ne.2 he;clear he
          go_wp2_with fail
          repeat (go_quiet (fail);try go_wp2_with fail)
          go_roundw
          case rel=>exact ⟨m,q+1,rfl,by first | rfl | go_num,by omega,by omega,H5.out.1.of rfl,pw_below_drewN H5.out.2 _⟩
          case measure=>first | (simp [intOf];done) | (simp [intOf];omega)
        ·
         obtain rfl:q=D.length:=by omega
         by_cases hm2:(m:Int) < 2
         ·
          go_wp2_with fail
          go_roundw
          case rel=>exact ⟨i+1,num,cs,f,rfl,by first | rfl | go_num,by omega,by omega,HI.out.2.2.2,H5.out.1,HI.out.2.1,H5.out.2⟩
          case measure=>first | (simp [intOf];done) | (simp [intOf];omega)
         ·
          have GM:=hid (HI.out.2.1.more x.cls);obtain ⟨f2,hf2⟩:∃ f2,(fun c=>if c=(num:Int)+1 then x.cls else f c)=f2:=⟨_,rfl⟩;have HF2:Hid (f2 ((num:Int)+1)=x.cls):=hid (by rw [← hf2];simp);rw [hf2] at GM;have hwn:IntKind.i64.wrap ((num:Int)+1)=(num:Int)+1:=by rw [IntKind.wrap_i64];omega
          clear hf2
          go_wp2_with fail
          go_loopw [13] (fun v13 w6=>∃ (q:Nat) (cs':List Int),v13=.int .i64 q∧q≤D.length∧cs'.length=D.length∧IntsAt w6 wo.heap.size cs'∧GoodC f2 (num+1) D cs'∧Below wo.heap.size wo w6) (fun v13 _=>D.length - (intOf v13).toNat)
          case atStart=>exact ⟨0,cs,rfl,Nat.zero_le _,HI.out.2.2.2,H5.out.1,GM.out,H5.out.2⟩
          case round =>
           obtain ⟨q,cs',rfl,hq,hcs',hI6,hG6,hb6⟩:=hrel;have H6:=hid (And.intro hI6 (And.intro hG6 (And.intro hb6 hcs')));clear hI6 hG6 hb6 hcs';by_cases hlt3:q < D.length
           ·
            have hlqz:(q:Int) < (D.length:Int):=by omega
            obtain ⟨y,hy⟩:∃ y,D[q]?=some y:=⟨_,List.getElem?_eq_getElem hlt3⟩;obtain ⟨cq,hcq⟩:∃ c,cs'[q]?=some c:=⟨_,List.getElem?_eq_getElem (by have:=H6.out.2.2.2;omega)⟩;have y5:=fun n=>RC.out _ (pw_below_drewN H6.out.2.2.1 n) q y hy;have x5':=fun n=>RC.out _ (pw_below_drewN H6.out.2.2.1 n) i x HX.out.1;have q5:=fun n=>(H6.out.1.of (w1:=wr.drewN n) rfl).cell hcq;have HYY:=hid hy;clear hy hcq;by_cases he:y.cls=x.cls
            ·
             have be:(y.cls == x.cls)=true:=beq_iff_eq.2 he;have HE:=hid he;clear he
             go_wp2_with fail
             repeat (go_quiet (fail);try go_wp2_with fail)
             go_roundw
             case rel=>exact ⟨q+1,cs'.set q ((num:Int)+1),by first | rfl | go_num,by omega,by rw [List.length_set];exact H6.out.2.2.2,(H6.out.1.of (w1:=wr.drewN _) rfl).set q _,H6.out.2.1.put HYY.out (by rw [HF2.out,HE.out]) (by rw [HE.out];omega),(pw_below_drewN H6.out.2.2.1 _).setCell (p:=⟨wo.heap.size,q,none⟩) (by show wo.heap.size≤wo.heap.size;omega) _⟩
             case measure=>first | (simp [intOf];done) | (simp [intOf];omega)
            ·
             have be:(y.cls == x.cls)=false:=beq_eq_false_iff_ne.2 he;clear he
             go_wp2_with fail
             repeat (go_quiet (fail);try go_wp2_with fail)
             go_roundw
             case rel=>exact ⟨q+1,cs',by first | rfl | go_num,by omega,H6.out.2.2.2,H6.out.1.of rfl,H6.out.2.1,pw_below_drewN H6.out.2.2.1 _⟩
             case measure=>first | (simp [intOf];done) | (simp [intOf];omega)
           ·
            obtain rfl:q=D.length:=by omega
            go_wp2_with fail
            go_roundw
            case rel=>exact ⟨i+1,num+1,cs',f2,by first | rfl | go_num,by first | rfl | go_num,by omega,by omega,H6.out.2.2.2,H6.out.1,H6.out.2.1,H6.out.2.2.1⟩
            case measure=>first | (simp [intOf];done) | (simp [intOf];omega)
      ·
       have b2:(c != 0)=true:=by rw [bne_iff_ne];exact h2
       clear h2
       go_wp2_with fail
       go_roundw
       case rel=>exact ⟨i+1,num,cs,f,rfl,by first | rfl | go_num,by omega,by omega,HI.out.2.2.2,HI.out.1,HI.out.2.1,HI.out.2.2.1⟩
       case measure=>first | (simp [intOf];done) | (simp [intOf];omega)
    ·
     obtain rfl:i=D.length:=by omega
     go_wp2_with fail
     obtain ⟨w5,rfl⟩:∃ x,x=wr:=⟨_,rfl⟩;have BW:=hid (below_step ST.out.2.2.2.2 HI.out.2.2.1)
     go_loopw [14] (fun v14 w7=>∃ (j:Nat) (K:List NV),v14=.int .i64 j∧j≤D.length∧NumTo D cs j K∧(0 < D.length→∃ g,A3=some ⟨g,0,none⟩∧g < wo.heap.size∧RowAt w7 g K)∧IntsAt w7 wo.heap.size cs∧(∀ k,k < wo.heap.size→(∀ g,0 < D.length→A3=some ⟨g,0,none⟩→k≠g)→w7.heap[k]?=wo.heap[k]?)∧Below w.heap.size w w7) (fun v14 _=>D.length - (intOf v14).toNat)
     case atStart=>exact ⟨0,D,rfl,Nat.zero_le _,NumTo.start D cs,fun h=>by obtain ⟨g,e,_,hr⟩:=GA.out h;exact ⟨g,e,hr.lt,hr.of (HI.out.2.2.1.block _ hr.lt)⟩,HI.out.1,fun k hk _=>HI.out.2.2.1.block k hk,BW.out⟩
     case round =>
      obtain ⟨j,K,rfl,hj,hN,hR,hI7,hk7,hb7⟩:=hrel;have H7:=hid (And.intro hN (And.intro hR (And.intro hI7 (And.intro hk7 hb7))));clear hN hR hI7 hk7 hb7;by_cases hlt7:j < D.length
      ·
       have hltz:(j:Int) < (D.length:Int):=by omega
       have hgw:Hid (∀ g,A3=some ⟨g,0,none⟩→w.heap.size≤g):=hid fun g e=>by obtain ⟨g',e',h1,_⟩:=GA.out (by omega);rw [e] at e';simp only [Option.some.injEq,Addr.mk.injEq] at e';omega
       obtain ⟨g,rfl,hg1,hrow⟩:=H7.out.2.1 (by omega);obtain ⟨x,hx⟩:∃ x,D[j]?=some x:=⟨_,List.getElem?_eq_getElem hlt7⟩;have hxK:K[j]?=some x:=by rw [H7.out.1.rest j (Nat.le_refl _)];exact hx
       obtain ⟨c,hc1⟩:∃ c,cs[j]?=some c:=⟨_,List.getElem?_eq_getElem (by have:=HI.out.2.2.2;omega)⟩;obtain ⟨_,_,_,_,_,r5,r6⟩:=hrow.cells j x hxK;have c5:=(H7.out.2.2.1.cell hc1).1;have RS:=hid (hrow.set hxK c);have NS:=hid (H7.out.1.step hx hc1);clear hrow hx hxK hc1
       go_wp2_with fail
       go_roundw
       case rel=>exact ⟨j+1,K.set j { x with cls:=c },by first | rfl | go_num,by omega,NS.out,fun _=>⟨g,rfl,hg1,RS.out⟩,H7.out.2.2.1.of (Below.heap_setCell _ _ _ _ (by show wo.heap.size≠g;omega)),fun k hk hkg=>(Below.heap_setCell _ _ _ _ (by show k≠g;exact hkg g (by omega) rfl)).trans (H7.out.2.2.2.1 k hk hkg),H7.out.2.2.2.2.setCell (p:=⟨g,j * 6+5,none⟩) (hgw.out g rfl) _⟩
       case measure=>first | (simp [intOf];done) | (simp [intOf];omega)
      ·
       obtain rfl:j=D.length:=by omega
       go_wp2_with fail
       go_ret;have hKl:=H7.out.1.len;refine ⟨A3,c3,K,by rw [hKl];rfl,by omega,?_,?_,by have:=HDi.out;omega,H7.out.2.2.2.2⟩
       ·
        rcases Nat.eq_zero_or_pos D.length with h0 | hp0
        ·obtain rfl:=List.eq_nil_of_length_eq_zero (hKl.trans h0);exact ⟨fun h=>absurd rfl h,fun x hx=>absurd hx List.not_mem_nil⟩
        ·obtain ⟨g,rfl,hg1,hrow⟩:=H7.out.2.1 hp0;refine hrow.nodes fun y hy=>?_;obtain ⟨q,hq⟩:=List.mem_iff_getElem?.1 hy;obtain ⟨x,c,hx,_,rfl⟩:=H7.out.1.all HI.out.2.2.2 hq;have hA:=(ST.out.2.1 x (List.mem_of_getElem? hx)).1;refine ⟨ZCanon.C_of hA.reads.1 fun ad ha hn=>H7.out.2.2.2.1 _ (ZCreate.C_lt hA.reads.1 ad ha hn) fun g' _ e=>?_,hA.reads.2⟩;have h1:=hA.out ad ha hn;rw [e] at h1;exact fun h=>h1 (by rw [h];rfl)
       ·have hP:=ST.out.2.2.2.1;rw [List.take_length] at hP;exact canon_of hP ST.out.2.2.1 HI.out.2.1 HI.out.2.2.2 H7.out.1
end ZRq
end Go.Proofs.YteikiojmcipkmaaGreatDoor
