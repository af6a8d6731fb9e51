/- Parts of the proof, gathered by a program: what calls of the functions answer, and what follows in plain lists. Conditions: those that each theorem states. -/
import Derived.Test.YteikiojmcipkmaaGreatDoorMR33
import Derived.Test.YteikiojmcipkmaaGreatDoorMR30
set_option linter.unusedVariables false
set_option linter.unusedSimpArgs false
namespace Go.Proofs.YteikiojmcipkmaaGreatDoor
open Go.Lib (hid)
open Go.RowKit ZStr YteikiojmcipkmaaGreatDoorW.PrintWords YteikiojmcipkmaaGreatDoorW.PrintLast YteikiojmcipkmaaGreatDoorW.PrintMore Oct ZBase ZPath ZNod ZTree
set_option maxRecDepth 100000
section
namespace ZAdd
open ZGlob ZMo ZRec ZFit ZMap ZTCheck ZCount ZRow ZCanon
open ZBld ZMem
open ZSink (ob)
open ZCreate (C_lt)
theorem info46b:(Tryz.prog.info? 46).map (fun i=>(i.zero,i.size,i.bytes))=some (some (.agg #[.int .i64 0,.string ⟨#[]⟩,.int .i64 0,.string ⟨#[]⟩,.slice none 0 0,.int .i64 0]),6,80):=by kernel_rfl
theorem rowCells_snoc (l:List NV) (x:NV):rowCells (l++[x])=rowCells l++x.cells:=by simp [rowCells]
theorem step_append_node {ops:Array Oper} {o:Oper} {a:Act} {K:Act→World→Prop} {Q:Exit→Act→World→Prop} {E:Prop} (W:World) (base:Nat) (hgd:o.guard=none) (s x:Operand) (ho:o.op=.call { callee:=.builtin .append,args:=#[s,x],argTypes:=#[22,22] }) (v:Value) (N:List NV) (b:Nat) (y:NV) (hs:a.eval s=v) (hx:a.eval x=.slice (some ⟨b,0,none⟩) 1 1) (HO:W.ownsRow base 46 6 v N.length (rowCells N)) (HB:W.heap[b]?=some (.cells y.cells.toArray 46 (0,0))) (hbase:base≤W.heap.size) (hl:N.length≤1000000) (h:∀ g cap w1,w1.ownsRow base 46 6 (.slice (some ⟨g,0,none⟩) (N.length+1) cap) (N.length+1) (rowCells (N++[y]))→W.grownBy w1 v.ownBlock→(v.ownBlock=some g∨g=W.heap.size)→K (a.put o.dst (.slice (some ⟨g,0,none⟩) (N.length+1) cap)) w1): if Region.wanted o (yielded ops a.tmps)=true then Oper.wp Tryz.prog o a W K Q else E:=by
 obtain ⟨i,hi,hz⟩:=Option.map_eq_some_iff.1 info46b;simp only [Prod.mk.injEq] at hz;refine step_append_lies W hgd s x 22 ho base 46 i (.agg #[.int .i64 0,.string ⟨#[]⟩,.int .i64 0,.string ⟨#[]⟩,.slice none 0 0,.int .i64 0]) 6 80 Tryz.underlying22 hi hz.1 hz.2.1 hz.2.2 rfl (by decide) v N.length (rowCells N) hs HO ⟨b,0,none⟩ 1 1 y.cells hx (by rw [cells_len]) (by simpa using World.news_of_block HB) (cells_one y) (by decide) (by unfold maxLen;omega) (by omega) hbase W.heap.size rfl ?_;intro g cap w1 h1 h2 h3 _;refine h g cap w1 ?_ h2 h3;rw [rowCells_snoc];exact h1
structure Pre (w W:World) (db base:Nat) (nv:Value) (N:List NV) (dm:List (ByteArray×Bool)) (fm:List (ByteArray×Int)) (nb:Nat) (y:NV):Prop where
 bd:Bd W db base nv N dm fm
 node:W.heap[nb]?=some (.cells y.cells.toArray 46 (0,0))
 nbge:w.heap.size≤nb
 mo:Mo [db,db+1] w W
 yd:Reads W y∧∀ ad,y.addr=some ad→0 < y.data.length→base≤ad.block∧ad.block∉ob nv
theorem Pre.after {w W w1:World} {db base:Nat} {nv:Value} {N:List NV} {dm:List (ByteArray×Bool)} {fm:List (ByteArray×Int)} {nb:Nat} {y:NV} (h:Pre w W db base nv N dm fm nb y) (hob:∀ k∈ob nv,k < w.heap.size) {g cap:Nat} (W2:World) (hW:W2.heap.size=W.heap.size+1∧Below W.heap.size W W2) (ho:w1.ownsRow base 46 6 (.slice (some ⟨g,0,none⟩) (N.length+1) cap) (N.length+1) (rowCells (N++[y]))) (hg:W2.grownBy w1 nv.ownBlock) (hat:nv.ownBlock=some g∨g=W2.heap.size) : Bd (w1.setCell ⟨db+2,0,none⟩ (.slice (some ⟨g,0,none⟩) (N.length+1) cap)) db base (.slice (some ⟨g,0,none⟩) (N.length+1) cap) (N++[y]) dm fm∧Mo (db :: (db+1) :: (db+2) :: ob nv) w (w1.setCell ⟨db+2,0,none⟩ (.slice (some ⟨g,0,none⟩) (N.length+1) cap))∧w1.cell? ⟨db+2,0,none⟩=some nv∧w1.frozen? ⟨db+2,0,none⟩=false:=by
 have hlo:=h.bd.lo;have hbl:=blk_lt h.bd.blk;have hv:∀ k,nv.ownBlock=some k→base≤k:=fun k hk=>own_base h.bd.own k hk;have hs2:=hW.1;have hsz:=hg.size;have hk1:∀ k,k < W.heap.size→k∉ob nv→w1.heap[k]?=W.heap[k]?:=fun k hk hn=>(hg.block k (by omega) (fun e=>hn (by simp [ob,← e]))).trans (hW.2.block k hk);have hsc:∀ k,k≠db+2→(w1.setCell ⟨db+2,0,none⟩ (.slice (some ⟨g,0,none⟩) (N.length+1) cap)).heap[k]?=w1.heap[k]?:=fun k hk=>Below.heap_setCell _ _ _ _ hk;have hlow:∀ k,k < base→k∉ob nv:=fun k hk hn=>by have:=hv k (by simpa [ob] using hn);omega
 have hgge:base≤g:=own_base ho g rfl;have hdat:∀ x:NV,(Reads W x∧∀ ad,x.addr=some ad→0 < x.data.length→base≤ad.block∧ad.block∉ob nv)→Reads (w1.setCell ⟨db+2,0,none⟩ (.slice (some ⟨g,0,none⟩) (N.length+1) cap)) x∧∀ ad,x.addr=some ad→0 < x.data.length→base≤ad.block∧ad.block∉ob (.slice (some ⟨g,0,none⟩) (N.length+1) cap):=by
  intro x ⟨⟨h1,h2⟩,h3⟩;refine ⟨⟨C_of h1 fun ad ha hn=>?_,h2⟩,fun ad ha hn=>⟨(h3 ad ha hn).1,?_⟩⟩
  ·have:=h3 ad ha hn;have:=C_lt h1 ad ha hn;rw [hsc _ (by omega),hk1 _ (by omega) (h3 ad ha hn).2]
  ·
   have e1:=h3 ad ha hn;have e2:=C_lt h1 ad ha hn;intro hk;have hk':ad.block=g:=by simpa [ob,Value.ownBlock] using hk
   rcases hat with e | e
   ·exact e1.2 (by simp [ob,e,hk'])
   ·omega
 have m1:Mo (db :: (db+1) :: (db+2) :: ob nv) w w1:=by refine (h.mo.more (T:=db :: (db+1) :: (db+2) :: ob nv) fun k hk=>by simp only [List.mem_cons,List.not_mem_nil,or_false] at hk ⊢;rcases hk with rfl | rfl <;> simp).then_ (T:=ob nv) ?_ fun t ht=>.inl (by simp [ht]);refine ⟨hg.os.trans hW.2.os,hg.tape.trans hW.2.tape,hg.output.trans hW.2.output,by omega,fun k hk hS=>hk1 k hk hS⟩
 refine ⟨⟨?_,?_,?_,?_,fun x hx=>?_,?_⟩,m1.set (.inl (by simp)) _,?_⟩
 ·have hb1:=(hk1 (db+2) (by omega) (hlow _ (by omega))).trans h.bd.blk;rw [heap_setCell_same w1 (db+2) 0 _ _ _ hb1];rfl
 ·
  have h1:(N++[y]).length=N.length+1:=by simp
  rw [h1];refine own_move ho fun k hk=>?_;have hk':g=k:=by simpa [Value.ownBlock] using hk
  exact hsc k (by omega)
 ·exact MapAt.of h.bd.dirs ((hsc _ (by omega)).trans (hk1 _ (by omega) (hlow _ (by omega))))
 ·exact MapAt.of h.bd.files ((hsc _ (by omega)).trans (hk1 _ (by omega) (hlow _ (by omega))))
 ·
  rcases List.mem_append.1 hx with h1 | h1
  ·exact hdat x (h.bd.data x h1)
  ·
   have h2:x=y:=by simpa using h1
   subst h2;exact hdat x h.yd
 ·simp;omega
 ·have hb1:=(hk1 (db+2) (by omega) (hlow _ (by omega))).trans h.bd.blk;exact ⟨cell_of hb1 0 _ rfl,by simp [World.frozen?,hb1]⟩
def addS (N:List NV) (fm:List (ByteArray×Int)) (e:Ent) (D:List Int):NV :=
 if e.kind=3 then
  match N[((ZMap.get fm e.target).getD 0).toNat]? with
  | some z=>⟨1,e.path,e.mode,⟨#[]⟩,none,0,z.data,z.cls⟩
  | none=>zeroNV
 else ⟨e.kind,e.path,e.mode,e.target,none,0,D,if e.kind=1 then N.length+1 else 0⟩
def addD (dm:List (ByteArray×Bool)) (e:Ent):List (ByteArray×Bool):=if e.kind=0 then ZMap.put dm e.path true else dm
def addF (fm:List (ByteArray×Int)) (e:Ent) (n:Nat):List (ByteArray×Int):=if e.kind=1 then ZMap.put fm e.path n else fm
theorem six_free {w:World} {k:Nat} {v0 v1 v2 v3 v4 v5:Value} {t:TypeId} (h:w.heap[k]?=some (.cells #[v0,v1,v2,v3,v4,v5] t (0,0))):w.frozen? ⟨k,0,none⟩=false∧w.frozen? ⟨k,1,none⟩=false∧w.frozen? ⟨k,2,none⟩=false∧w.frozen? ⟨k,3,none⟩=false∧w.frozen? ⟨k,4,none⟩=false∧w.frozen? ⟨k,5,none⟩=false:=by simp [World.frozen?,h]
theorem six_cell {w:World} {k:Nat} {v0 v1 v2 v3 v4 v5:Value} {t:TypeId} (h:w.heap[k]?=some (.cells #[v0,v1,v2,v3,v4,v5] t (0,0))):w.cell? ⟨k,0,none⟩=some v0∧w.cell? ⟨k,1,none⟩=some v1∧w.cell? ⟨k,2,none⟩=some v2∧w.cell? ⟨k,3,none⟩=some v3∧w.cell? ⟨k,4,none⟩=some v4∧w.cell? ⟨k,5,none⟩=some v5:=by simp [World.cell?,h]
def Fresh (w1:World) (x:NV) (A:Option Addr) (c nb:Nat) (W:World):Prop:=Below w1.heap.size w1 W∧W.heap[nb]?=some (.cells (NV.cells { x with addr:=A,cap:=c }).toArray 46 (0,0))∧w1.heap.size≤nb∧Reads W { x with addr:=A,cap:=c }∧∀ ad,A=some ad→0 < x.data.length→w1.heap.size≤ad.block∧ad.block≠nb
theorem fresh_alloc {w1 wa w2:World} {x:NV} {A:Option Addr} {c:Nat} (ha:Below w1.heap.size w1 wa) (hb:Below wa.heap.size wa w2) (hr:Reads w2 { x with addr:=A,cap:=c }) (ho:∀ ad,A=some ad→0 < x.data.length→wa.heap.size≤ad.block∧ad.block < w2.heap.size): Fresh w1 x A c w2.heap.size (w2.alloc (.cells (NV.cells { x with addr:=A,cap:=c }).toArray 46)):=by
 have h1:=below_step ha hb;exact ⟨below_alloc h1 _,heap_alloc_new _ _,h1.size,hr.below (below_alloc (Below.refl _ _) _),fun ad h2 h3=>by have:=ho ad h2 h3;have:=ha.size;omega⟩
theorem fresh_set {w1 wa w2:World} {nb:Nat} {x:NV} {A:Option Addr} {c:Nat} (ha:Below w1.heap.size w1 wa) (hb:Below wa.heap.size wa w2) (hr:Reads w2 { x with addr:=A,cap:=c }) (ho:∀ ad,A=some ad→0 < x.data.length→wa.heap.size≤ad.block∧ad.block < w2.heap.size) (hnb:w1.heap.size=nb) (hnb2:nb < wa.heap.size) (hz:w2.heap[nb]?=some (.cells #[.int .i64 0,.string ⟨#[]⟩,.int .i64 0,.string ⟨#[]⟩,.slice none 0 0,.int .i64 0] 46 (0,0))): Fresh w1 x A c nb ((((((w2.setCell ⟨nb,0,none⟩ (.int .i64 x.kind)).setCell ⟨nb,1,none⟩ (.string x.path)).setCell ⟨nb,2,none⟩ (.int .i64 x.mode)).setCell ⟨nb,3,none⟩ (.string x.target)).setCell ⟨nb,4,none⟩ (.slice A x.data.length c)).setCell ⟨nb,5,none⟩ (.int .i64 x.cls)):=by
 have h1:=below_step ha hb;refine ⟨?_,?_,by omega,⟨C_of hr.1 fun ad h2 h3=>?_,hr.2⟩,fun ad h2 h3=>by have:=ho ad h2 h3;have:=ha.size;omega⟩
 ·
  iterate 6 (refine Below.setCell ?_ (by show w1.heap.size≤nb;omega) _)
  exact h1
 ·have e0:=heap_setCell_same w2 nb 0 _ _ (.int .i64 x.kind) hz;have e1:=heap_setCell_same _ nb 1 _ _ (.string x.path) e0;have e2:=heap_setCell_same _ nb 2 _ _ (.int .i64 x.mode) e1;have e3:=heap_setCell_same _ nb 3 _ _ (.string x.target) e2;have e4:=heap_setCell_same _ nb 4 _ _ (.slice A x.data.length c) e3;have e5:=heap_setCell_same _ nb 5 _ _ (.int .i64 x.cls) e4;rw [e5];rfl
 ·exact ZDHead.six_keep _ _ _ (by have:=ho ad h2 h3;omega) _ _ _ _ _ _
theorem mo_put {S:List Nat} {w W:World} (h:Mo S w W) {k:Nat} (hk:k∈S∨w.heap.size≤k) (o:Obj):Mo S w (W.putObj k o) :=
 ⟨h.os,h.tape,h.output,by rw [World.putObj_size];exact h.size,fun j hj hS=>(World.putObj_heap_other (by rintro rfl;rcases hk with h1 | h1;exact hS h1;omega)).trans (h.keep j hj hS)⟩
section
variable {w W:World} {db base:Nat} {nv:Value} {N:List NV} {dm:List (ByteArray×Bool)} {fm:List (ByteArray×Int)} {nb:Nat} {y:NV}
theorem Pre.keepB (h:Pre w W db base nv N dm fm nb y) {W2:World} (hb:Below W.heap.size W W2):Pre w W2 db base nv N dm fm nb y :=
 ⟨h.bd.below hb,(hb.block _ (blk_lt h.node)).trans h.node,h.nbge,h.mo.step hb,⟨h.yd.1.below hb,h.yd.2⟩⟩
theorem Pre.drew (h:Pre w W db base nv N dm fm nb y):Pre w W.drew db base nv N dm fm nb y :=
 ⟨h.bd.below (below_drew (Below.refl _ _)),h.node,h.nbge,h.mo.step (below_drew (Below.refl _ _)),⟨h.yd.1.below (below_drew (Below.refl _ _)),h.yd.2⟩⟩
theorem Pre.keep (h:Pre w W db base nv N dm fm nb y) (hlt:db+2 < w.heap.size) {W2:World} {b:Nat} (hb:b=db∨b=db+1) (hs:W2.heap.size=W.heap.size) (hk:∀ k,k≠b→W2.heap[k]?=W.heap[k]?) (hm:Mo [db,db+1] w W2) (dm2:List (ByteArray×Bool)) (fm2:List (ByteArray×Int)) (h1:MapAt W2 Value.string Value.bool db dm2) (h2:MapAt W2 Value.string ival (db+1) fm2):Pre w W2 db base nv N dm2 fm2 nb y:=by
 have hlo:=h.bd.lo;have hdat:∀ x:NV,(Reads W x∧∀ ad,x.addr=some ad→0 < x.data.length→base≤ad.block∧ad.block∉ob nv)→Reads W2 x∧∀ ad,x.addr=some ad→0 < x.data.length→base≤ad.block∧ad.block∉ob nv:=fun x ⟨⟨h1,h2⟩,h3⟩ =>⟨⟨C_of h1 fun ad ha hn=>hk _ (by have:=(h3 ad ha hn).1;omega),h2⟩,h3⟩
 refine ⟨⟨(hk _ (by omega)).trans h.bd.blk,own_move h.bd.own fun k hk2=>hk k (by have:=own_base h.bd.own k hk2;omega),h1,h2,fun x hx=>hdat x (h.bd.data x hx),by omega⟩,(hk _ (by have:=h.nbge;omega)).trans h.node,h.nbge,hm,hdat y h.yd⟩
theorem Pre.cls (h:Pre w W db base nv N dm fm nb y) (hlt:db+2 < w.heap.size) (hb:∀ k∈ob nv,k < w.heap.size) (j:Nat) (hj:j < 6) (v:Value) (y2:NV) (hy:y2.cells=y.cells.set j v) (hne:∀ x∈N,∀ ad,x.addr=some ad→0 < x.data.length→ad.block≠nb) (hyd:Reads W y2∧∀ ad,y2.addr=some ad→0 < y2.data.length→base≤ad.block∧ad.block∉ob nv∧ad.block≠nb):Pre w (W.setCell ⟨nb,j,none⟩ v) db base nv N dm fm nb y2:=by
 have hlo:=h.bd.lo;have hnb:=h.nbge;have hk:∀ k,k≠nb→(W.setCell ⟨nb,j,none⟩ v).heap[k]?=W.heap[k]?:=fun k hk=>Below.heap_setCell _ _ _ _ hk;refine ⟨⟨(hk _ (by omega)).trans h.bd.blk,own_move h.bd.own fun k hk2=>hk k (by have:=hb k (by simp [ob,hk2]);omega),MapAt.of h.bd.dirs (hk _ (by omega)),MapAt.of h.bd.files (hk _ (by omega)),fun x hx=>?_,by simpa using hlo⟩,?_,hnb,h.mo.set (.inr hnb) _,⟨C_of hyd.1.1 fun ad ha hn=>hk _ (hyd.2 ad ha hn).2.2,hyd.1.2⟩,fun ad ha hn=>⟨(hyd.2 ad ha hn).1,(hyd.2 ad ha hn).2.1⟩⟩
 ·obtain ⟨⟨h1,h2⟩,h3⟩:=h.bd.data x hx;exact ⟨⟨C_of h1 fun ad ha hn=>hk _ (hne x hx ad ha hn),h2⟩,h3⟩
 ·rw [heap_setCell_same W nb j _ _ v h.node,hy];simp
theorem Pre.putD (h:Pre w W db base nv N dm fm nb y) (hlt:db+2 < w.heap.size) (m2:List (ByteArray×Bool)):Pre w (W.putObj db (.map (ents Value.string Value.bool 0 m2).toArray m2.length)) db base nv N m2 fm nb y :=
 h.keep hlt (.inl rfl) World.putObj_size (fun k hk=>World.putObj_heap_other hk) (mo_put h.mo (.inl (by simp)) _) _ _ (MapAt.put h.bd.dirs m2) (MapAt.of h.bd.files (World.putObj_heap_other (by omega)))
theorem Pre.putF (h:Pre w W db base nv N dm fm nb y) (hlt:db+2 < w.heap.size) (m2:List (ByteArray×Int)):Pre w (W.putObj (db+1) (.map (ents Value.string ival 0 m2).toArray m2.length)) db base nv N dm m2 nb y :=
 h.keep hlt (.inr rfl) World.putObj_size (fun k hk=>World.putObj_heap_other hk) (mo_put h.mo (.inl (by simp)) _) _ _ (MapAt.of h.bd.dirs (World.putObj_heap_other (by omega))) (MapAt.put h.bd.files m2)
end
theorem joinA {P:Program} {c:Code} {K:Act→World→Prop} {Q:Exit→Act→World→Prop} {a:Act} {w:World} (A:Option Addr→Nat→Nat→Act) (S:Option Addr→Nat→Nat→World→Prop) (h:c.wp P (Exit.then (fun a' w'=>∃ v x y,a'=A v x y∧S v x y w') Q) a w) (k:∀ v x y w',S v x y w'→K (A v x y) w'):c.wp P (Exit.then K Q) a w :=
 Code.wp_mono (fun e a' w' h=>by
  cases e with
  | normal =>obtain ⟨v,x,y,rfl,hS⟩:=h;exact k v x y w' hS
  | _=>exact h) h
set_option maxHeartbeats 8000000 in
theorem add_calls (w:World) (db base:Nat) (nv:Value) (N:List NV) (dm:List (ByteArray×Bool)) (fm:List (ByteArray×Int)) (h:Bd w db base nv N dm fm) (e:Ent) (he:e.Ok) (hG:Gl w) (hn:N.length≤100000) (hfm:∀ k i,ZMap.get fm k=some i→0≤i∧i < N.length) (hok:BOk N dm fm e) (dA:Option Addr) (dc:Nat) (D:List Int) (hD:Kd.C (Kd.int .u8) w dA D.length D) (hDc:D.length≤dc) (hDl:D.length≤1000000) (hsz:e.size=D.length) : Calls Tryz.prog 47 #[.pointer (some ⟨db+2,0,none⟩),.agg #[.int .i64 e.kind,.string e.path,.int .i64 e.mode,.string e.target,.int .i64 e.size,.slice dA D.length dc]] w fun r w'=>r=.returned (.int .i64 0) ∧ ∃ nv' y,strip y=addS N fm e D∧Bd w' db base nv' (N++[y]) (addD dm e) (addF fm e N.length)∧Mo (db :: (db+1) :: (db+2) :: ob nv) w w':=by
 obtain ⟨kind,path,mode,tgt,size⟩:=e;dsimp only at hsz;subst hsz;obtain ⟨w0,hw0⟩:∃ X,(w.alloc (.cells #[.int .i64 kind,.string path,.int .i64 mode,.string tgt,.int .i64 D.length,.slice dA D.length dc] 56)).alloc (.cells #[.int .i64 kind,.string path,.int .i64 mode,.string tgt,.int .i64 D.length] 54)=X:=⟨_,rfl⟩;have B0:Hid (Below w.heap.size w w0):=hid (by rw [← hw0];exact below_alloc (below_alloc (Below.refl w.heap.size w) _) _);have X0:Hid (w0.heap[w.heap.size]?=some (.cells #[.int .i64 kind,.string path,.int .i64 mode,.string tgt,.int .i64 D.length,.slice dA D.length dc] 56 (0,0))∧w0.heap[w.heap.size+1]?=some (.cells #[.int .i64 kind,.string path,.int .i64 mode,.string tgt,.int .i64 D.length] 54 (0,0))):=hid (by
  rw [← hw0];refine ⟨?_,heap_alloc2_new w _ _⟩;exact (heap_alloc_old _ _ (by simp)).trans (heap_alloc_new w _))
 have S0:Hid (w0.heap.size=w.heap.size+1+1):=hid (by rw [← hw0];simp);have FC:=hid (check_calls w0 db base nv N dm fm (h.below B0.out) ⟨kind,path,mode,tgt,D.length⟩ he (hG.below B0.out) (by omega) hfm);have HH:=hid (And.intro h (And.intro he (And.intro hn (And.intro hfm hok))));have HDD:=hid (And.intro hD (And.intro hDc hDl));clear h he hG hfm hn hok hD;unfold Ent.val Ent.cells at *;dsimp only at *;have cells0:∀ W:World,W.heap[w.heap.size]?=w0.heap[w.heap.size]?→W.heap[w.heap.size+1]?=w0.heap[w.heap.size+1]?→W.cell? ⟨w.heap.size,5,none⟩=some (.slice dA D.length dc)∧W.cell? ⟨w.heap.size+1,0,none⟩=some (.int .i64 kind)∧W.cell? ⟨w.heap.size+1,1,none⟩=some (.string path)∧W.cell? ⟨w.heap.size+1,2,none⟩=some (.int .i64 mode)∧W.cell? ⟨w.heap.size+1,3,none⟩=some (.string tgt)∧W.cell? ⟨w.heap.size+1,4,none⟩=some (.int .i64 D.length):=fun W h1 h2=>by have h3:=h1.trans X0.out.1;have h4:=h2.trans X0.out.2;exact ⟨cell_of h3 5 _ rfl,cell_of h4 0 _ rfl,cell_of h4 1 _ rfl,cell_of h4 2 _ rfl,cell_of h4 3 _ rfl,cell_of h4 4 _ rfl⟩
 obtain ⟨e5,e0,e1,e2,e3,e4⟩:=cells0 w0 rfl rfl;have CELLS:=hid cells0;clear cells0;go_enter Tryz.func47,Tryz.ntmps47
 go_wp2_with fail
 refine FC.out.mono ?_;rintro r w1 ⟨hb1,hres⟩;obtain rfl:r=.returned (.int .i64 0):=by
  rcases hres with ⟨h1,_⟩ | ⟨c,_,_,h2⟩
  ·exact h1
  ·exact absurd HH.out.2.2.2.2 h2
 have bx:((0:Int) != 0)=false:=rfl;have B1:=hid (below_step B0.out hb1);have D1:=hid (HH.out.1.below B1.out);have Z1:Hid (w0.heap.size≤w1.heap.size∧w1.heap[w.heap.size]?=w0.heap[w.heap.size]?∧w1.heap[w.heap.size+1]?=w0.heap[w.heap.size+1]?):=hid ⟨hb1.size,hb1.block _ (by have:=S0.out;omega),hb1.block _ (by have:=S0.out;omega)⟩;clear e0 e1 e2 e3 e4 e5 hres hb1 FC;obtain ⟨e5,e0,e1,e2,e3,e4⟩:=CELLS.out w1 Z1.out.2.1 Z1.out.2.2;have bn:((D.length:Int) != (D.length:Int))=false:=by simp
 have HC1:Hid (Kd.C (Kd.int .u8) w1 dA D.length D):=hid (Kd.C_below HDD.out.1 B1.out);have CL:=hid (fun (W:World) (hW:Below w1.heap.size w1 W)=>clone_nv ⟨kind,path,mode,tgt,dA,dc,D,0⟩ HDD.out.2.2 W ⟨Kd.C_below HC1.out hW,HDD.out.2.1⟩);have KP:=hid (fun (W W2:World) (hW:Below w1.heap.size w1 W) (hb2:Below W.heap.size W W2)=>CELLS.out W2 (((below_step hW hb2).block _ (by have:=S0.out;have:=Z1.out;omega)).trans Z1.out.2.1) (((below_step hW hb2).block _ (by have:=S0.out;have:=Z1.out;omega)).trans Z1.out.2.2));dsimp only at CL
 go_wp2_with fail
 obtain ⟨nb,hnb⟩:∃ n,w1.heap.size=n:=⟨_,rfl⟩;have NB:=hid hnb;obtain ⟨n1,n2,n3,n4⟩:¬ w.heap.size=nb∧¬ w.heap.size+1=nb∧¬ nb=w.heap.size∧¬ nb=w.heap.size+1:=by have:=S0.out;have:=Z1.out.1;omega
 apply joinA (S:=Fresh w1 ⟨kind,path,mode,tgt,dA,dc,D,0⟩)
 ·
  go_region_held3 (fun w'=>w'.cell? ⟨w.heap.size,5,none⟩=some (.slice dA D.length dc)∧w'.cell? ⟨w.heap.size+1,0,none⟩=some (.int .i64 kind)∧w'.cell? ⟨w.heap.size+1,1,none⟩=some (.string path)∧w'.cell? ⟨w.heap.size+1,2,none⟩=some (.int .i64 mode)∧w'.cell? ⟨w.heap.size+1,3,none⟩=some (.string tgt)) (go_keep) ((first
   | (go_at_call 25;refine (CL.out _ (below_drew (below_alloc (Below.refl _ _) _))).mono ?_;rintro e w2 ⟨A,c,rfl,hb2,hr2,ho2⟩;obtain ⟨f5,f0,f1,f2,f3,f4⟩:=KP.out _ _ (below_drew (below_alloc (Below.refl _ _) _)) hb2;have hz2:w2.heap[nb]?=some (.cells #[.int .i64 0,.string ⟨#[]⟩,.int .i64 0,.string ⟨#[]⟩,.slice none 0 0,.int .i64 0] 46 (0,0)):=(hb2.block nb (by simp;omega)).trans (by rw [← hnb];exact heap_alloc_new w1 _);obtain ⟨z0,z1,z2,z3,z4,z5⟩:=six_free hz2;obtain ⟨y0,y1,y2,y3,y4,y5⟩:=six_cell hz2)
   | (go_at_call 25;refine (CL.out _ (below_drew (Below.refl _ _))).mono ?_;rintro e w2 ⟨A,c,rfl,hb2,hr2,ho2⟩;obtain ⟨f5,f0,f1,f2,f3,f4⟩:=KP.out _ _ (below_drew (Below.refl _ _)) hb2)))
  ·obtain ⟨m,hm⟩:∃ m,w2.heap.size=m:=⟨_,rfl⟩;have HF:=fresh_alloc (x:=⟨kind,path,mode,tgt,dA,dc,D,0⟩) (below_drew (Below.refl w1.heap.size w1)) hb2 hr2 ho2;rw [hm] at HF;rw [hm];exact ⟨A,c,m,rfl,HF⟩
  ·exact ⟨A,c,nb,rfl,fresh_set (x:=⟨kind,path,mode,tgt,dA,dc,D,0⟩) (below_drew (below_alloc (Below.refl w1.heap.size w1) _)) hb2 hr2 ho2 hnb (by simp;omega) hz2⟩
 clear n1 n2 n3 n4 hnb NB nb;intro A c nb2 w2 HF;have PRE:Hid (Pre w w2 db base nv N dm fm nb2 ⟨kind,path,mode,tgt,A,c,D,0⟩):=hid (by
  have hb:=below_step B1.out HF.1;have h1:=HH.out.1;have h2:=B1.out.size;refine ⟨h1.below hb,HF.2.1,by have:=HF.2.2.1;omega,Mo.of_below hb,HF.2.2.2.1,fun ad ha hn=>⟨by have:=(HF.2.2.2.2 ad ha hn).1;have:=h1.lo;omega,fun hk=>?_⟩⟩;have h3:=own_lt h1.own ad.block (by simpa [ob] using hk);have:=(HF.2.2.2.2 ad ha hn).1;omega)
 obtain ⟨e5,e0,e1,e2,e3,e4⟩:=KP.out w1 w2 (Below.refl _ _) HF.1;have HF2:=hid HF;have LO:Hid (db+2 < w.heap.size∧∀ k∈ob nv,k < w.heap.size):=hid ⟨blk_lt HH.out.1.blk,fun k hk=>own_lt HH.out.1.own k (by simpa [ob] using hk)⟩;have NE:Hid (∀ x∈N,∀ ad,x.addr=some ad→0 < x.data.length→ad.block≠nb2):=hid (fun x hx ad ha hn=>by have:=C_lt (HH.out.1.data x hx).1.1 ad ha hn;have:=PRE.out.nbge;omega);clear HF hw0;obtain ⟨A0,cc,rfl⟩:=ZMem.own_slice PRE.out.bd.own;obtain ⟨q0,q1,q2⟩:w2.cell? ⟨db+2,0,none⟩=some (.slice A0 N.length cc)∧w2.cell? ⟨db+2,1,none⟩=some (.map (some db))∧w2.cell? ⟨db+2,2,none⟩=some (.map (some (db+1))):=⟨cell_of PRE.out.bd.blk 0 _ rfl,cell_of PRE.out.bd.blk 1 _ rfl,cell_of PRE.out.bd.blk 2 _ rfl⟩;by_cases hk0:kind=0
 ·
  have b0:(kind == 0)=true:=beq_iff_eq.2 hk0;have ED:Hid (addD dm ⟨kind,path,mode,tgt,D.length⟩=ZMap.put dm path true):=hid (by simp [addD,hk0]);have EF:Hid (addF fm ⟨kind,path,mode,tgt,D.length⟩ N.length=fm):=hid (by simp [addF,hk0]);have ES:Hid (strip ⟨kind,path,mode,tgt,A,c,D,0⟩=addS N fm ⟨kind,path,mode,tgt,D.length⟩ D):=hid (by simp [strip,addS,hk0]);clear hk0;have hput:=run_put map95 skeys PRE.out.drew.bd.dirs path true;have P:=PRE.out.drew.putD LO.out.1 (ZMap.put dm path true);obtain ⟨W4,hW4⟩:∃ X,w2.drew.putObj db (.map (ents Value.string Value.bool 0 (ZMap.put dm path true)).toArray (ZMap.put dm path true).length)=X:=⟨_,rfl⟩;rw [hW4] at hput P;have P4:=hid P;clear hW4 P;obtain ⟨g0,g1,g2,g3,g4,g5⟩:=six_cell P4.out.node;have p0:W4.cell? ⟨db+2,0,none⟩=some (.slice A0 N.length cc):=cell_of P4.out.bd.blk 0 _ rfl;have p1:∀ o,(W4.alloc o).cell? ⟨db+2,0,none⟩=some (.slice A0 N.length cc):=fun o=>by rw [cell_of_heap (heap_alloc_old _ _ (blk_lt P4.out.bd.blk))];exact p0
  have AF:=hid (fun (g cap:Nat) (wz W2:World) (hW:W2.heap.size=W4.heap.size+1∧Below W4.heap.size W4 W2) ho hg hat=>P4.out.after (w1:=wz) (g:=g) (cap:=cap) LO.out.2 W2 hW ho hg hat)
  go_wp2_with fail
  go_big_region
  go_wp2_with fail
  go_region_law ((refine step_append_node _ base rfl (.tmp 92) (.tmp 94) rfl (.slice A0 N.length cc) N W4.heap.size ⟨kind,path,mode,tgt,A,c,D,0⟩ (by rfl) (by rfl) (own_move P4.out.bd.own fun k hk=>((below_alloc (below_drew (Below.refl _ _)) _).block k (own_lt P4.out.bd.own k hk))) (heap_alloc_new _ _) (by have:=P4.out.bd.lo;simp;omega) (by have:=HH.out.2.2.1;omega) ?_;intro g cap wz ho hg hat;have T:=AF.out g cap wz _ ⟨by simp,below_alloc (below_drew (Below.refl _ _)) _⟩ ho hg hat;have z0:=T.2.2.1;have z1:=T.2.2.2;replace T:=hid T))
  all_goals
   go_wp2_with fail
   go_ret;exact ⟨rfl,_,⟨kind,path,mode,tgt,A,c,D,0⟩,ES.out,by rw [ED.out,EF.out];exact T.out.1,T.out.2.1⟩
 by_cases hk1:kind=1
 ·
  have b0:(kind == 0)=false:=by rw [beq_eq_false_iff_ne];omega
  have b1:(kind == 1)=true:=beq_iff_eq.2 hk1;have ED:Hid (addD dm ⟨kind,path,mode,tgt,D.length⟩=dm):=hid (by simp [addD,hk1]);have EF:Hid (addF fm ⟨kind,path,mode,tgt,D.length⟩ N.length=ZMap.put fm path N.length):=hid (by simp [addF,hk1]);have ES:Hid (strip ⟨kind,path,mode,tgt,A,c,D,N.length+1⟩=addS N fm ⟨kind,path,mode,tgt,D.length⟩ D):=hid (by simp [strip,addS,hk1]);clear hk0 hk1;have hput:=run_put map96 skeys PRE.out.drew.bd.files path (N.length:Int);have P:=PRE.out.drew.putF LO.out.1 (ZMap.put fm path N.length);obtain ⟨W3,hW3⟩:∃ X,w2.drew.putObj (db+1) (.map (ents Value.string ival 0 (ZMap.put fm path N.length)).toArray (ZMap.put fm path N.length).length)=X:=⟨_,rfl⟩;rw [hW3] at hput P;have P3:=hid P;have p3:W3.cell? ⟨db+2,0,none⟩=some (.slice A0 N.length cc):=cell_of P3.out.bd.blk 0 _ rfl;have p4:W3.cell? ⟨nb2,5,none⟩=some (.int .i64 0):=cell_of P3.out.node 5 _ rfl;have p5:W3.frozen? ⟨nb2,5,none⟩=false:=(six_free P3.out.node).2.2.2.2.2;have hw1:IntKind.i64.wrap ((N.length:Int)+1)=(N.length:Int)+1:=by have:=HH.out.2.2.1;rw [IntKind.wrap_i64];omega
  have P:=P3.out.cls LO.out.1 LO.out.2 5 (by decide) (.int .i64 ((N.length:Int)+1)) ⟨kind,path,mode,tgt,A,c,D,N.length+1⟩ rfl (fun x hx ad ha hn=>NE.out x hx ad ha hn) ⟨P3.out.yd.1,fun ad ha hn=>⟨(P3.out.yd.2 ad ha hn).1,(P3.out.yd.2 ad ha hn).2,(HF2.out.2.2.2.2 ad ha hn).2⟩⟩;obtain ⟨W4,hW4⟩:∃ X,W3.setCell ⟨nb2,5,none⟩ (.int .i64 ((N.length:Int)+1))=X:=⟨_,rfl⟩;rw [hW4] at P;have P4:=hid P;clear hW3 P;obtain ⟨g0,g1,g2,g3,g4,g5⟩:=six_cell P4.out.node;have p0:W4.cell? ⟨db+2,0,none⟩=some (.slice A0 N.length cc):=cell_of P4.out.bd.blk 0 _ rfl;have p1:∀ o,(W4.alloc o).cell? ⟨db+2,0,none⟩=some (.slice A0 N.length cc):=fun o=>by rw [cell_of_heap (heap_alloc_old _ _ (blk_lt P4.out.bd.blk))];exact p0
  have AF:=hid (fun (g cap:Nat) (wz W2:World) (hW:W2.heap.size=W4.heap.size+1∧Below W4.heap.size W4 W2) ho hg hat=>P4.out.after (w1:=wz) (g:=g) (cap:=cap) LO.out.2 W2 hW ho hg hat)
  go_wp2_with fail
  go_big_region
  go_wp2_with fail
  go_region_law ((refine step_append_node _ base rfl (.tmp 92) (.tmp 94) rfl (.slice A0 N.length cc) N W4.heap.size ⟨kind,path,mode,tgt,A,c,D,N.length+1⟩ (by rfl) (by rfl) (own_move P4.out.bd.own fun k hk=>((below_alloc (below_drew (Below.refl _ _)) _).block k (own_lt P4.out.bd.own k hk))) (heap_alloc_new _ _) (by have:=P4.out.bd.lo;simp;omega) (by have:=HH.out.2.2.1;omega) ?_;intro g cap wz ho hg hat;have T:=AF.out g cap wz _ ⟨by simp,below_alloc (below_drew (Below.refl _ _)) _⟩ ho hg hat;have z0:=T.2.2.1;have z1:=T.2.2.2;replace T:=hid T))
  all_goals
   go_wp2_with fail
   go_ret;exact ⟨rfl,_,⟨kind,path,mode,tgt,A,c,D,N.length+1⟩,ES.out,by rw [ED.out,EF.out];exact T.out.1,T.out.2.1⟩
 by_cases hk3:kind=3
 ·
  have b0:(kind == 0)=false:=beq_eq_false_iff_ne.2 hk0;have b1:(kind == 1)=false:=beq_eq_false_iff_ne.2 hk1;have b3:(kind == 3)=true:=beq_iff_eq.2 hk3;obtain ⟨q,z,hg,hz,hmz⟩:=HH.out.2.2.2.2.link hk3;dsimp only at hg hmz;have ED:Hid (addD dm ⟨kind,path,mode,tgt,D.length⟩=dm):=hid (by simp [addD,hk3]);have EF:Hid (addF fm ⟨kind,path,mode,tgt,D.length⟩ N.length=fm):=hid (by simp [addF,hk3]);have ES:Hid (strip ⟨1,path,mode,⟨#[]⟩,z.addr,z.cap,z.data,z.cls⟩=addS N fm ⟨kind,path,mode,tgt,D.length⟩ D):=hid (by simp [strip,addS,hk3,hg,hz]);clear hk0 hk1 hk3;have hzm:z∈N:=List.mem_of_getElem? hz;have hql:q < N.length:=(List.getElem?_eq_some_iff.1 hz).1;obtain ⟨g,cap,hnv,hgb,hgl,hcz⟩:=PRE.out.bd.cell hz;simp only [Value.slice.injEq] at hnv;obtain ⟨rfl,_,rfl⟩:=hnv;have hcq:∀ (V:World),(∀ k,k < w2.heap.size→V.heap[k]?=w2.heap[k]?)→V.cell? ⟨db+2,0,none⟩=some (.slice (some ⟨g,0,none⟩) N.length cc)∧V.cell? ⟨db+2,2,none⟩=some (.map (some (db+1)))∧V.cell? ⟨w.heap.size+1,3,none⟩=some (.string tgt)∧V.cell? ⟨g,q * 6,none⟩=some (.int .i64 z.kind)∧V.cell? ⟨g,q * 6+1,none⟩=some (.string z.path)∧V.cell? ⟨g,q * 6+2,none⟩=some (.int .i64 z.mode)∧V.cell? ⟨g,q * 6+3,none⟩=some (.string z.target)∧V.cell? ⟨g,q * 6+4,none⟩=some (.slice z.addr z.data.length z.cap)∧V.cell? ⟨g,q * 6+5,none⟩=some (.int .i64 z.cls):=fun V hV=>by
   have h1:=PRE.out.bd.lo;have h2:=blk_lt PRE.out.bd.blk;have h3:w.heap.size+1 < w2.heap.size:=by have:=HF2.out.1.size;have:=Z1.out.1;have:=S0.out;omega
   refine ⟨(cell_of_heap (hV _ h2)).trans q0,(cell_of_heap (hV _ h2)).trans q2,(cell_of_heap (hV _ h3)).trans e3,?_,?_,?_,?_,?_,?_⟩
   ·exact (cell_of_heap (hV _ hgl)).trans (hcz 0 _ rfl)
   ·exact (cell_of_heap (hV _ hgl)).trans (hcz 1 _ rfl)
   ·exact (cell_of_heap (hV _ hgl)).trans (hcz 2 _ rfl)
   ·exact (cell_of_heap (hV _ hgl)).trans (hcz 3 _ rfl)
   ·exact (cell_of_heap (hV _ hgl)).trans (hcz 4 _ rfl)
   ·exact (cell_of_heap (hV _ hgl)).trans (hcz 5 _ rfl)
  have GF:∀ (V:World),(∀ k,k < w2.heap.size→V.heap[k]?=w2.heap[k]?)→(Instr.lookup 96 (.map (some (db+1))) (.string tgt) false).run Tryz.prog V=.ok (.int .i64 (q:Int)) V:=fun V hV=>by have h1:MapAt V Value.string ival (db+1) fm:=MapAt.of PRE.out.bd.files (hV _ PRE.out.bd.files.lt);have:=run_get map96 skeys h1 tgt (.int .i64 0) (zero3 _);rw [hg] at this;exact this
  obtain ⟨f0,f1,f2,f3,f4,f5,f6,f7,f8⟩:=hcq w2 fun _ _=>rfl;have hca:=fun o:Obj=>hcq (w2.alloc o) fun k hk=>heap_alloc_old _ _ hk;have l0:=GF w2.drew fun _ _=>rfl;have l1:=fun o:Obj=>GF (w2.alloc o).drew fun k hk=>heap_alloc_old _ _ hk;have l2:=fun o:Obj=>GF (w2.drew.alloc o) fun k hk=>heap_alloc_old _ _ hk;obtain ⟨k0,k1,k2,k3,k4,k5,k6,k7,k8⟩:=(⟨fun o=>(hca o).1,fun o=>(hca o).2.1,fun o=>(hca o).2.2.1,fun o=>(hca o).2.2.2.1,fun o=>(hca o).2.2.2.2.1,fun o=>(hca o).2.2.2.2.2.1,fun o=>(hca o).2.2.2.2.2.2.1,fun o=>(hca o).2.2.2.2.2.2.2.1,fun o=>(hca o).2.2.2.2.2.2.2.2⟩:(∀ o:Obj,(w2.alloc o).cell? ⟨db+2,0,none⟩=some (.slice (some ⟨g,0,none⟩) N.length cc))∧(∀ o:Obj,(w2.alloc o).cell? ⟨db+2,2,none⟩=some (.map (some (db+1))))∧(∀ o:Obj,(w2.alloc o).cell? ⟨w.heap.size+1,3,none⟩=some (.string tgt))∧(∀ o:Obj,(w2.alloc o).cell? ⟨g,q * 6,none⟩=some (.int .i64 z.kind))∧(∀ o:Obj,(w2.alloc o).cell? ⟨g,q * 6+1,none⟩=some (.string z.path))∧(∀ o:Obj,(w2.alloc o).cell? ⟨g,q * 6+2,none⟩=some (.int .i64 z.mode))∧(∀ o:Obj,(w2.alloc o).cell? ⟨g,q * 6+3,none⟩=some (.string z.target))∧(∀ o:Obj,(w2.alloc o).cell? ⟨g,q * 6+4,none⟩=some (.slice z.addr z.data.length z.cap))∧(∀ o:Obj,(w2.alloc o).cell? ⟨g,q * 6+5,none⟩=some (.int .i64 z.cls)));have hqz:(q:Int) < (N.length:Int):=by omega
  have HZ:=hid (And.intro hz (And.intro hzm (And.intro hg hmz)));clear hcq GF hca hcz hz hzm hg hmz;have hPV:=Pre.keepB PRE.out (W2:=(w2.alloc (.cells #[.int .i64 z.kind,.string z.path,.int .i64 z.mode,.string z.target,.slice z.addr z.data.length z.cap,.int .i64 z.cls] 46)).drew) (below_drew (below_alloc (Below.refl _ _) _));have hV8:(w2.alloc (.cells #[.int .i64 z.kind,.string z.path,.int .i64 z.mode,.string z.target,.slice z.addr z.data.length z.cap,.int .i64 z.cls] 46)).drew.heap[w2.heap.size]?=some (.cells #[.int .i64 z.kind,.string z.path,.int .i64 z.mode,.string z.target,.slice z.addr z.data.length z.cap,.int .i64 z.cls] 46 (0,0)):=heap_alloc_new _ _
  go_wp2_with fail
  go_big_region
  obtain ⟨V,hV⟩:∃ X,(w2.alloc (.cells #[.int .i64 z.kind,.string z.path,.int .i64 z.mode,.string z.target,.slice z.addr z.data.length z.cap,.int .i64 z.cls] 46)).drew=X:=⟨_,rfl⟩;obtain ⟨nh,hnh⟩:∃ n,w2.heap.size=n:=⟨_,rfl⟩;have hne8:¬ nh=nb2:=by have:=blk_lt PRE.out.node;omega
  have hne9:¬ nb2=nh:=fun e=>hne8 e.symm;rw [hV] at hPV hV8 ⊢;rw [hnh] at hV8 ⊢;have PV:=hid hPV;have v4:V.cell? ⟨nh,4,none⟩=some (.slice z.addr z.data.length z.cap):=cell_of hV8 4 _ rfl;have v5:V.cell? ⟨nh,5,none⟩=some (.int .i64 z.cls):=cell_of hV8 5 _ rfl;obtain ⟨r0,r1,r2,r3,r4,r5⟩:=six_cell PV.out.node;obtain ⟨s0,s1,s2,s3,s4,s5⟩:=six_free PV.out.node;have yl:=fun ad ha hn=>(HF2.out.2.2.2.2 ad ha hn).2;have Q1:=hPV.cls LO.out.1 LO.out.2 0 (by decide) (.int .i64 1) ⟨1,path,mode,tgt,A,c,D,0⟩ rfl NE.out ⟨hPV.yd.1,fun ad ha hn=>⟨(hPV.yd.2 ad ha hn).1,(hPV.yd.2 ad ha hn).2,yl ad ha hn⟩⟩;have Q2:=Q1.cls LO.out.1 LO.out.2 3 (by decide) (.string ⟨#[]⟩) ⟨1,path,mode,⟨#[]⟩,A,c,D,0⟩ rfl NE.out ⟨Q1.yd.1,fun ad ha hn=>⟨(hPV.yd.2 ad ha hn).1,(hPV.yd.2 ad ha hn).2,yl ad ha hn⟩⟩;have zd:=Q2.bd.data z HZ.out.2.1;have Q3:=Q2.cls LO.out.1 LO.out.2 4 (by decide) (.slice z.addr z.data.length z.cap) ⟨1,path,mode,⟨#[]⟩,z.addr,z.cap,z.data,0⟩ rfl NE.out ⟨⟨zd.1.1,zd.1.2⟩,fun ad ha hn=>⟨(zd.2 ad ha hn).1,(zd.2 ad ha hn).2,NE.out z HZ.out.2.1 ad ha hn⟩⟩;have Q4:=Q3.cls LO.out.1 LO.out.2 5 (by decide) (.int .i64 z.cls) ⟨1,path,mode,⟨#[]⟩,z.addr,z.cap,z.data,z.cls⟩ rfl NE.out ⟨Q3.yd.1,fun ad ha hn=>⟨(zd.2 ad ha hn).1,(zd.2 ad ha hn).2,NE.out z HZ.out.2.1 ad ha hn⟩⟩;have P4:=hid Q4.drew;obtain ⟨W4,hW4⟩:∃ X,((((V.setCell ⟨nb2,0,none⟩ (.int .i64 1)).setCell ⟨nb2,3,none⟩ (.string ⟨#[]⟩)).setCell ⟨nb2,4,none⟩ (.slice z.addr z.data.length z.cap)).setCell ⟨nb2,5,none⟩ (.int .i64 z.cls)).drew=X:=⟨_,rfl⟩;rw [hW4] at P4;clear hPV Q1 Q2 Q3 Q4 zd yl k0 k1 k2 k3 k4 k5 k6 k7 k8 f0 f1 f2 f3 f4 f5 f6 f7 f8 l0 l1 l2 q0 q1 q2 e0 e1 e2 e3 e4 e5 hV
  go_wp2_with fail
  go_big_region
  obtain ⟨g0,g1,g2,g3,g4,g5⟩:=six_cell P4.out.node;have p0:W4.cell? ⟨db+2,0,none⟩=some (.slice (some ⟨g,0,none⟩) N.length cc):=cell_of P4.out.bd.blk 0 _ rfl;have p1:∀ o,(W4.alloc o).cell? ⟨db+2,0,none⟩=some (.slice (some ⟨g,0,none⟩) N.length cc):=fun o=>by rw [cell_of_heap (heap_alloc_old _ _ (blk_lt P4.out.bd.blk))];exact p0
  have AF:=hid (fun (g cap:Nat) (wz W2:World) (hW:W2.heap.size=W4.heap.size+1∧Below W4.heap.size W4 W2) ho hg hat=>P4.out.after (w1:=wz) (g:=g) (cap:=cap) LO.out.2 W2 hW ho hg hat)
  go_wp2_with fail
  go_region_law ((refine step_append_node _ base rfl (.tmp 92) (.tmp 94) rfl (.slice (some ⟨g,0,none⟩) N.length cc) N W4.heap.size ⟨1,path,mode,⟨#[]⟩,z.addr,z.cap,z.data,z.cls⟩ (by rfl) (by rfl) (own_move P4.out.bd.own fun k hk=>((below_alloc (below_drew (Below.refl _ _)) _).block k (own_lt P4.out.bd.own k hk))) (heap_alloc_new _ _) (by have:=P4.out.bd.lo;simp;omega) (by have:=HH.out.2.2.1;omega) ?_;intro g cap wz ho hg hat;have T:=AF.out g cap wz _ ⟨by simp,below_alloc (below_drew (Below.refl _ _)) _⟩ ho hg hat;have z0:=T.2.2.1;have z1:=T.2.2.2;replace T:=hid T))
  all_goals
   go_wp2_with fail
   go_ret;exact ⟨rfl,_,⟨1,path,mode,⟨#[]⟩,z.addr,z.cap,z.data,z.cls⟩,ES.out,by rw [ED.out,EF.out];exact T.out.1,T.out.2.1⟩
 ·
  have b0:(kind == 0)=false:=beq_eq_false_iff_ne.2 hk0;have b1:(kind == 1)=false:=beq_eq_false_iff_ne.2 hk1;have b3:(kind == 3)=false:=beq_eq_false_iff_ne.2 hk3;have ED:Hid (addD dm ⟨kind,path,mode,tgt,D.length⟩=dm):=hid (by simp [addD,hk0]);have EF:Hid (addF fm ⟨kind,path,mode,tgt,D.length⟩ N.length=fm):=hid (by simp [addF,hk1]);have ES:Hid (strip ⟨kind,path,mode,tgt,A,c,D,0⟩=addS N fm ⟨kind,path,mode,tgt,D.length⟩ D):=hid (by simp [strip,addS,hk1,hk3]);clear hk0 hk1 hk3;obtain ⟨g0,g1,g2,g3,g4,g5⟩:=six_cell PRE.out.node;have p0:w2.cell? ⟨db+2,0,none⟩=some (.slice A0 N.length cc):=cell_of PRE.out.bd.blk 0 _ rfl;have p1:∀ o,(w2.alloc o).cell? ⟨db+2,0,none⟩=some (.slice A0 N.length cc):=fun o=>by rw [cell_of_heap (heap_alloc_old _ _ (blk_lt PRE.out.bd.blk))];exact p0
  have AF:=hid (fun (g cap:Nat) (wz W2:World) (hW:W2.heap.size=w2.heap.size+1∧Below w2.heap.size w2 W2) ho hg hat=>PRE.out.after (w1:=wz) (g:=g) (cap:=cap) LO.out.2 W2 hW ho hg hat)
  go_wp2_with fail
  go_region_law ((refine step_append_node _ base rfl (.tmp 92) (.tmp 94) rfl (.slice A0 N.length cc) N w2.heap.size ⟨kind,path,mode,tgt,A,c,D,0⟩ (by rfl) (by rfl) (own_move PRE.out.bd.own fun k hk=>((below_alloc (below_drew (Below.refl _ _)) _).block k (own_lt PRE.out.bd.own k hk))) (heap_alloc_new _ _) (by have:=PRE.out.bd.lo;simp;omega) (by have:=HH.out.2.2.1;omega) ?_;intro g cap wz ho hg hat;have T:=AF.out g cap wz _ ⟨by simp,below_alloc (below_drew (Below.refl _ _)) _⟩ ho hg hat;have z0:=T.2.2.1;have z1:=T.2.2.2;replace T:=hid T))
  all_goals
   go_wp2_with fail
   go_ret;exact ⟨rfl,_,⟨kind,path,mode,tgt,A,c,D,0⟩,ES.out,by rw [ED.out,EF.out];exact T.out.1,T.out.2.1⟩
end ZAdd
namespace ZRo
open ZTCheck (cell_of)
open ZAdd (info46b)
def nodeKd:Kd NV where
 sz:=6
 E:=[]
 K:=fun _ x cs=>cs=x.cells
 M:=fun _ _ _ x cs=>cs=x.cells
 K_len:=fun h=>by rw [h];rfl
 K_one:=fun h u hu=>by rw [h] at hu;exact cells_one _ u hu
 K_below:=fun _ h=>h
 K_of_M:=fun h=>h
 M_mono:=fun _ h=>h
 M_bound:=fun h=>h
 M_move:=fun _ h=>h
 M_lower:=fun _ h=>h
def NRow (w:World) (base:Nat) (v:Value) (l:List NV):Prop:=nodeKd.R 46 w base (fun _=>True) v l
def RowAt (w:World) (g:Nat) (l:List NV):Prop:=∃ cs,w.heap[g]?=some (.cells cs 46 (0,0))∧∀ (i:Nat) (x:NV),l[i]?=some x→∀ (j:Nat) (v:Value),x.cells[j]?=some v→cs[i * 6+j]?=some v
section
variable {w w1:World} {base g:Nat} {v:Value} {l:List NV}
theorem RowAt.lt (h:RowAt w g l):g < w.heap.size:=by obtain ⟨cs,h1,_⟩:=h;exact blk_lt h1
theorem NRow.at_ (h:NRow w base v l) (hl:0 < l.length):∃ g cap,v=.slice (some ⟨g,0,none⟩) l.length cap∧base≤g∧l.length≤cap∧RowAt w g l:=by obtain ⟨A,c,rfl,hc,hr⟩:=Kd.R_reads h;obtain ⟨g,cap,e,h1,h2,cells,hb⟩:=Kd.R_form h hl;cases e;refine ⟨g,c,rfl,h1,hc,cells,hb,fun i x hi j u hj=>?_⟩;obtain ⟨hil,hir⟩:=List.getElem?_eq_some_iff.1 hi;obtain ⟨ad,cs,e,hcl,hK,hcell⟩:=Kd.C_get hr (default:NV) (i:Int) (by omega) (by omega);cases e;have hK:cs=(l.getD (i:Int).toNat default).cells:=hK;rw [Int.toNat_natCast,List.getD_eq_getElem?_getD,hi] at hK;have hK:cs=x.cells:=hK;subst hK;have a0:=hcell j u hj;rw [Go.WideShapes.add_plain,Nat.zero_add,Int.toNat_natCast] at a0;have a0:w.cell? ⟨g,i * 6+j,none⟩=some u:=a0;simpa [World.cell?,hb] using a0
theorem RowAt.cells (h:RowAt w g l) (i:Nat) (x:NV) (hi:l[i]?=some x): w.cell? ⟨g,i * 6,none⟩=some (.int .i64 x.kind)∧w.cell? ⟨g,i * 6+1,none⟩=some (.string x.path)∧w.cell? ⟨g,i * 6+2,none⟩=some (.int .i64 x.mode)∧w.cell? ⟨g,i * 6+3,none⟩=some (.string x.target)∧w.cell? ⟨g,i * 6+4,none⟩=some (.slice x.addr x.data.length x.cap)∧w.cell? ⟨g,i * 6+5,none⟩=some (.int .i64 x.cls)∧w.frozen? ⟨g,i * 6+5,none⟩=false:=by
 obtain ⟨cs,h1,h2⟩:=h;have:=h2 i x hi;exact ⟨cell_of h1 _ _ (this 0 _ rfl),cell_of h1 _ _ (this 1 _ rfl),cell_of h1 _ _ (this 2 _ rfl),cell_of h1 _ _ (this 3 _ rfl),cell_of h1 _ _ (this 4 _ rfl),cell_of h1 _ _ (this 5 _ rfl),by simp [World.frozen?,h1]⟩
theorem RowAt.set (h:RowAt w g l) {i:Nat} {x:NV} (hi:l[i]?=some x) (c:Int):RowAt (w.setCell ⟨g,i * 6+5,none⟩ (.int .i64 c)) g (l.set i { x with cls:=c }):=by
 obtain ⟨cs,h1,h2⟩:=h;refine ⟨_,heap_setCell_same w g (i * 6+5) cs _ _ h1,fun i' x' hi' j u hj=>?_⟩;have h5:=h2 i x hi 5 _ rfl;have hlt:i * 6+5 < cs.size:=(Array.getElem?_eq_some_iff.1 h5).1;have hj6:j < 6:=(List.getElem?_eq_some_iff.1 hj).1;by_cases e:i'=i
 ·
  subst e;rw [List.getElem?_set_self (List.getElem?_eq_some_iff.1 hi).1] at hi';cases hi';by_cases e5:j=5
  ·subst e5;have hj:some (Value.int .i64 c)=some u:=hj;cases hj;simp [hlt]
  ·
   rw [Array.getElem?_setIfInBounds_ne (by omega)];refine h2 i' x hi j u ?_;obtain rfl | rfl | rfl | rfl | rfl:j=0∨j=1∨j=2∨j=3∨j=4:=by omega
   all_goals exact hj
 ·rw [List.getElem?_set_ne (by omega)] at hi';rw [Array.getElem?_setIfInBounds_ne (by omega)];exact h2 i' x' hi' j u hj
theorem RowAt.nodes (h:RowAt w g l) (hd:∀ x∈l,Reads w x):NodesAt w (some ⟨g,0,none⟩) l:=by obtain ⟨cs,h1,h2⟩:=h;refine ⟨fun _=>⟨g,0,rfl,blk_lt h1,fun i x hi j u hj=>?_⟩,hd⟩;rw [Nat.zero_add];exact cell_of h1 _ _ (h2 i x hi j u hj)
end
def IntsAt (w:World) (g:Nat) (l:List Int):Prop:=∃ cs,w.heap[g]?=some (.cells cs 3 (0,0))∧∀ (i:Nat) (c:Int),l[i]?=some c→cs[i]?=some (.int .i64 c)
section
variable {w w1:World} {g:Nat} {l:List Int}
theorem IntsAt.cell (h:IntsAt w g l) {i:Nat} {c:Int} (hi:l[i]?=some c):w.cell? ⟨g,i,none⟩=some (.int .i64 c)∧w.frozen? ⟨g,i,none⟩=false:=by obtain ⟨cs,h1,h2⟩:=h;exact ⟨cell_of h1 _ _ (h2 i c hi),by simp [World.frozen?,h1]⟩
theorem IntsAt.set (h:IntsAt w g l) (i:Nat) (c:Int):IntsAt (w.setCell ⟨g,i,none⟩ (.int .i64 c)) g (l.set i c):=by
 obtain ⟨cs,h1,h2⟩:=h;refine ⟨_,heap_setCell_same w g i cs _ _ h1,fun i' x hi'=>?_⟩;by_cases e:i'=i
 ·
  subst e;have hl:i' < l.length:=by have:=(List.getElem?_eq_some_iff.1 hi').1;simpa using this
  rw [List.getElem?_set_self hl] at hi';cases hi';have h3:=h2 i' _ (List.getElem?_eq_getElem hl);have hlt:i' < cs.size:=(Array.getElem?_eq_some_iff.1 h3).1;simp [hlt]
 ·rw [List.getElem?_set_ne (by omega)] at hi';rw [Array.getElem?_setIfInBounds_ne (by omega)];exact h2 i' x hi'
end
def bare (x:NV):NV:={ x with addr:=none,cap:=0,cls:=0 }
def GoodC (f:Int→Int) (n:Nat) (D:List NV) (cs:List Int):Prop:=∀ (i:Nat) (x:NV) (c:Int),D[i]?=some x→cs[i]?=some c→c≠0→1≤c∧c≤n∧x.cls=f c∧0 < f c
theorem GoodC.more {f:Int→Int} {n:Nat} {D:List NV} {cs:List Int} (h:GoodC f n D cs) (z:Int):GoodC (fun c=>if c=(n:Int)+1 then z else f c) (n+1) D cs:=by
 intro i x c hx hc h0;obtain ⟨h1,h2,h3,h4⟩:=h i x c hx hc h0;have:¬ c=(n:Int)+1:=by omega
 simp only [if_neg this];exact ⟨h1,by omega,h3,h4⟩
theorem GoodC.put {f:Int→Int} {n:Nat} {D:List NV} {cs:List Int} (h:GoodC f (n+1) D cs) {k:Nat} {x:NV} (hx:D[k]?=some x) (hf:f ((n:Int)+1)=x.cls) (hp:0 < x.cls):GoodC f (n+1) D (cs.set k ((n:Int)+1)):=by
 intro i y c hy hc h0;by_cases e:i=k
 ·
  subst e;rw [hx] at hy;cases hy;have hl:i < cs.length:=by have:=(List.getElem?_eq_some_iff.1 hc).1;simpa using this
  rw [List.getElem?_set_self hl] at hc;cases hc;exact ⟨by omega,by omega,hf.symm,by omega⟩
 ·rw [List.getElem?_set_ne (by omega)] at hc;exact h i y c hy hc h0
structure NumTo (D:List NV) (cs:List Int) (i:Nat) (K:List NV):Prop where
 len:K.length=D.length
 done_:∀ (j:Nat) (x:NV) (c:Int),j < i→D[j]?=some x→cs[j]?=some c→K[j]?=some { x with cls:=c }
 rest:∀ j,i≤j→K[j]?=D[j]?
theorem NumTo.step {D K:List NV} {cs:List Int} {i:Nat} (h:NumTo D cs i K) {x:NV} {c:Int} (hx:D[i]?=some x) (hc:cs[i]?=some c):NumTo D cs (i+1) (K.set i { x with cls:=c }):=by
 have hil:=(List.getElem?_eq_some_iff.1 hx).1;refine ⟨by rw [List.length_set,h.len],fun j y d hj hy hd=>?_,fun j hj=>?_⟩
 ·
  by_cases e:j=i
  ·subst e;rw [hx] at hy;cases hy;rw [hc] at hd;cases hd;exact List.getElem?_set_self (by rw [h.len];exact hil)
  ·rw [List.getElem?_set_ne (by omega)];exact h.done_ j y d (by omega) hy hd
 ·rw [List.getElem?_set_ne (by omega)];exact h.rest j (by omega)
theorem NumTo.all {D K:List NV} {cs:List Int} (h:NumTo D cs D.length K) (hcs:cs.length=D.length) {j:Nat} {y:NV} (hy:K[j]?=some y):∃ x c,D[j]?=some x∧cs[j]?=some c∧y={ x with cls:=c }:=by
 have hj:j < D.length:=by rw [← h.len];exact (List.getElem?_eq_some_iff.1 hy).1
 refine ⟨_,_,List.getElem?_eq_getElem hj,List.getElem?_eq_getElem (by omega),?_⟩;have:=h.done_ j _ _ hj (List.getElem?_eq_getElem hj) (List.getElem?_eq_getElem (by omega));rw [hy] at this;exact Option.some.inj this
end ZRo
namespace ZRs
open ZRo
open ZTCheck (cell_of)
end ZRs
namespace ZRq
open ZRo
open ZTCheck (cell_of)
open ZAdd (info46b)
end ZRq
end
end Go.Proofs.YteikiojmcipkmaaGreatDoor
