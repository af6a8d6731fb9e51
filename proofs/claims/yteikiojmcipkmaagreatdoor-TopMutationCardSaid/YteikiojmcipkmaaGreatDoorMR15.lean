/- Parts of the proof, gathered by a program: what calls of the functions answer, and what follows in plain lists. Conditions: those that each theorem states. -/
import Derived.Test.YteikiojmcipkmaaGreatDoorMR09
import Derived.Test.YteikiojmcipkmaaGreatDoorRows
import Derived.LaidMore
import Derived.OpenShut
import Derived.ProofKit
set_option linter.unusedVariables false
set_option linter.unusedSimpArgs false
namespace Go.Proofs.YteikiojmcipkmaaGreatDoor
set_option maxRecDepth 100000
section
namespace ZLaid
open Go.ChangeShapes Go.WideShapes Go.ChangeAt Go.RowKit ZGlob
theorem laid_mem {P:Program} {W:World}:∀ {l:List (String×DataW Unit)} {ps:List MemPlace},DataW.LaidVars P W l ps→∀ {n:String} {d:DataW Unit},(n,d)∈l → ∃ g t cs fuel p,P.globalNamed n=some g∧(P.globals[g]?).map (·.type)=some t∧W.var? P n=some cs∧DataW.trod (fun _=>()) P W 0 (fun _=>true) false fuel t cs.toList=some (d,p)
 | [],_,_,_,_,hm=>by cases hm
 | (n0,d0) :: r,ps,h,n,d,hm=>by
  obtain ⟨g,t,cs,fuel,p,q,h1,h2,h3,h4,h5,_⟩:=h;rcases List.mem_cons.1 hm with e | hm
  ·cases e;exact ⟨g,t,cs,fuel,p,h1,h2,h3,h4⟩
  ·exact laid_mem h5 hm
theorem laid_at {P:Program} {W:World} {l:List (String×DataW Unit)} (h:laidMet P l W) {n:String} {d:DataW Unit} {g:Nat} {t:TypeId} (hm:(n,d)∈l) (hg:P.globalNamed n=some g) (ht:(P.globals[g]?).map (·.type)=some t): ∃ cs fuel p,VarIs W g cs∧W.var? P n=some cs∧DataW.trod (fun _=>()) P W 0 (fun _=>true) false fuel t cs.toList=some (d,p):=by
 obtain ⟨ps,hv,_⟩:=h;obtain ⟨g',t',cs,fuel,p,h1,h2,h3,h4⟩:=laid_mem hv hm;obtain rfl:=Option.some.inj (hg.symm.trans h1);obtain rfl:=Option.some.inj (ht.symm.trans h2);refine ⟨cs,fuel,p,?_,h3,h4⟩;simp only [World.var?,hg,Option.bind_some] at h3;split at h3
 ·rename_i c t' fr hb;cases h3;exact ⟨t',fr,hb⟩
 ·cases h3
theorem trod_iface {P:Program} {W:World} {sp:Nat→Bool} {fuel:Nat} {t:TypeId} {ms:Array (String×TypeId)} {cs:List Value} {nm:String} {d:DataW Unit} {p:List MemPlace} (ht:P.underlying t=some (.interface ms)) (h:DataW.trod (fun _=>()) P W 0 sp false fuel t cs=some (.iface nm d,p)):∃ u v,cs=[.iface u v]:=by
 cases fuel with
 | zero=>simp [DataW.trod] at h
 | succ n =>unfold DataW.trod at h;rw [ht] at h;split at h <;> simp_all
theorem field_of {P:Program} {W:World} {l:List (String×DataW Unit)} (h:laidMet P l W) {n:String} {g:Nat} {t t0 t1:TypeId} {f0 f1:Field} {off len:Int} (hm:(n,(.agg [.lit (.int .i64 off),.lit (.int .i64 len)]:DataW Unit))∈l) (hg:P.globalNamed n=some g) (ht:(P.globals[g]?).map (·.type)=some t) (hs:P.underlying t=some (.struct #[f0,f1])) (e0:f0.type=t0) (e1:f1.type=t1) (o0:f0.offset=0) (o1:f1.offset=1) (h0:P.underlying t0=some (.int .i64)) (h1:P.underlying t1=some (.int .i64)) (hc0:P.cellsOf t0=1) (hc1:P.cellsOf t1=1) (hc:P.cellsOf t=2):fieldIs W g off len:=by
 obtain ⟨cs,fuel,p,hv,_,hd⟩:=laid_at h hm hg ht;obtain ⟨y0,y1,m,hx,hl,t0',t1'⟩:=trod_struct2 hs hd;rw [e0,o0,hc0] at t0';rw [e1,o1,hc1] at t1';obtain ⟨l1⟩:=cs;rw [hc] at hl
 match l1,hl with
 | [a,b],_ =>obtain ⟨x0,h3,rfl,_⟩:=DataW.trod_int h0 t0';obtain ⟨x1,h4,rfl,_⟩:=DataW.trod_int h1 t1';simp at h3 h4 hx;obtain ⟨⟨rfl,rfl⟩,_⟩:=hx;subst h3;subst h4;exact hv
theorem tab_of {P:Program} {W:World} {l:List (String×DataW Unit)} (h:laidMet P l W) {n:String} {g:Nat} {t e:TypeId} {k:IntKind} {m:Nat} {zs:List Int} (hm:(n,Lib.tabData k zs)∈l) (hg:P.globalNamed n=some g) (ht:(P.globals[g]?).map (·.type)=some t) (hs:P.underlying t=some (.array m e)) (he:P.underlying e=some (.int k)) (hce:P.cellsOf e=1) (hct:P.cellsOf t=m):VarIs W g (zs.map fun z=>Value.int k z).toArray∧Lib.TabIs P W n k zs:=by
 obtain ⟨cs,fuel,p,hv,hvar,hd⟩:=laid_at h hm hg ht;have e:=Lib.cells_of_tab hs he hce hct hd;obtain ⟨l1⟩:=cs;have e':l1=zs.map fun z=>Value.int k z:=e;subst e';exact ⟨hv,hvar⟩
theorem strs3_of {P:Program} {W:World} {l:List (String×DataW Unit)} (h:laidMet P l W) {n:String} {g:Nat} {t e:TypeId} {s0 s1 s2:ByteArray} (hm:(n,(.agg [.lit (.string s0.data.toList),.lit (.string s1.data.toList),.lit (.string s2.data.toList)]:DataW Unit))∈l) (hg:P.globalNamed n=some g) (ht:(P.globals[g]?).map (·.type)=some t) (hs:P.underlying t=some (.array 3 e)) (he:P.underlying e=some .string) (hce:P.cellsOf e=1) (hct:P.cellsOf t=3):VarIs W g #[.string s0,.string s1,.string s2]:=by
 obtain ⟨cs,fuel,p,hv,hvar,hd⟩:=laid_at h hm hg ht;obtain ⟨xs,m,_,hx,hl,hn,hel⟩:=DataW.trod_array hs hd;rw [hct] at hl;obtain ⟨l1⟩:=cs
 match xs,hn,hx,hel with
 | [x0,x1,x2],_,hx,hel =>
  match l1,hl with
  | [a,b,c],_ =>
   have h0:=hel 0 (by decide);have h1:=hel 1 (by decide);have h2:=hel 2 (by decide);simp only [hce] at h0 h1 h2;obtain ⟨z0,c0,rfl,_⟩:=DataW.trod_string (x:=x0) he h0;obtain ⟨z1,c1,rfl,_⟩:=DataW.trod_string (x:=x1) he h1;obtain ⟨z2,c2,rfl,_⟩:=DataW.trod_string (x:=x2) he h2;simp at c0 c1 c2 hx;subst c0;subst c1;subst c2;obtain ⟨⟨e0,e1,e2⟩,_⟩:=hx;have k:∀ {x y:ByteArray},x.data=y.data→x=y:=fun {x y} h=>by cases x;cases y;simp_all
   obtain rfl:=k e0;obtain rfl:=k e1;obtain rfl:=k e2;exact hv
theorem err_of {P:Program} {W:World} {l:List (String×DataW Unit)} (h:laidMet P l W) {n nm:String} {d:DataW Unit} {g:Nat} {t:TypeId} {ms:Array (String×TypeId)} (hm:(n,(.iface nm d:DataW Unit))∈l) (hg:P.globalNamed n=some g) (ht:(P.globals[g]?).map (·.type)=some t) (hs:P.underlying t=some (.interface ms)):∃ u v,VarIs W g #[.iface u v]:=by
 obtain ⟨cs,fuel,p,hv,hvar,hd⟩:=laid_at h hm hg ht;obtain ⟨u,v,e⟩:=trod_iface hs hd;obtain ⟨l1⟩:=cs;have e':l1=[.iface u v]:=e;subst e';exact ⟨u,v,hv⟩
def laid:List (String×DataW Unit):=Rows.topProperPrefixRow.laid
theorem int_of {P:Program} {w:World} {g:Nat} {t:TypeId} {zero:Array Value} {k:IntKind} (h:w.ShapedOpen P) (hg:g < P.globals.size) (h0:((begin P (fun _ _=>0) default).world.heap[g]?).bind Obj.row?=some (zero,t)) (hz:zero.size=1) (hb:P.buildable t=true) (hc:P.cellTypes P.depth t=some [t]) (hu:P.underlying t=some (.int k)):∃ m,VarIs w g #[.int k m]:=by
 obtain ⟨m,hm⟩:=cell_of_shapedOpen_int h hg h0 hz hb hc hu;obtain ⟨cs,hh,hs,_⟩:=h.1 g zero t hg h0;obtain ⟨l1⟩:=cs;rw [hz] at hs
 match l1,hs with
 | [a],_ =>simp [World.cell?,hh] at hm;subst hm;exact ⟨m,_,_,hh⟩
theorem gF:(∀ x∈[("paxtar/ustar.fieldType",0),("paxtar/ustar.fieldName",1),("paxtar/ustar.fieldLinkname",2),("paxtar/ustar.fieldPrefix",3),("paxtar/ustar.fieldMode",4),("paxtar/ustar.fieldSize",5),("paxtar/ustar.fieldMagic",7),("paxtar/ustar.fieldUid",8),("paxtar/ustar.fieldGid",9),("paxtar/ustar.fieldMtime",10),("paxtar/ustar.fieldMajor",11),("paxtar/ustar.fieldMinor",12)],Tryz.prog.globalNamed x.1=some x.2∧(Tryz.prog.globals[x.2]?).map (·.type)=some 176):=by simp only [List.mem_cons,List.not_mem_nil,or_false,forall_eq_or_imp,forall_eq];refine ⟨⟨?_,?_⟩,⟨?_,?_⟩,⟨?_,?_⟩,⟨?_,?_⟩,⟨?_,?_⟩,⟨?_,?_⟩,⟨?_,?_⟩,⟨?_,?_⟩,⟨?_,?_⟩,⟨?_,?_⟩,⟨?_,?_⟩,?_,?_⟩ <;> kernel_rfl
theorem g6:Tryz.prog.globalNamed "paxtar/fit.types" = some 6:=by kernel_rfl
theorem g13:Tryz.prog.globalNamed "paxtar/paxrec.keys" = some 13:=by kernel_rfl
theorem g15:Tryz.prog.globalNamed "internal/strconv.uint64pow10" = some 15:=by kernel_rfl
theorem g16:Tryz.prog.globalNamed "strconv.ErrSyntax" = some 16:=by kernel_rfl
theorem g17:Tryz.prog.globalNamed "strconv.ErrRange" = some 17:=by kernel_rfl
theorem c176:Tryz.prog.cellsOf 176=2:=by kernel_rfl
theorem c3:Tryz.prog.cellsOf 3=1:=by kernel_rfl
theorem c5:Tryz.prog.cellsOf 5=1:=by kernel_rfl
theorem c9:Tryz.prog.cellsOf 9=1:=by kernel_rfl
theorem t6:(Tryz.prog.globals[6]?).map (·.type)=some 186:=by kernel_rfl
theorem t13:(Tryz.prog.globals[13]?).map (·.type)=some 228:=by kernel_rfl
theorem t15:(Tryz.prog.globals[15]?).map (·.type)=some 264:=by kernel_rfl
theorem t16:(Tryz.prog.globals[16]?).map (·.type)=some 221:=by kernel_rfl
theorem t17:(Tryz.prog.globals[17]?).map (·.type)=some 221:=by kernel_rfl
theorem u264:∃ e,Tryz.prog.underlying 264=some (.array 20 e)∧Tryz.prog.underlying e=some (.int .u64)∧Tryz.prog.cellsOf e=1:=⟨_,Tryz.underlying264,by kernel_rfl,by kernel_rfl⟩
theorem u221:∃ ms,Tryz.prog.underlying 221=some (.interface ms):=⟨_,Tryz.underlying221⟩
theorem pow_eq:(Rows.laid_internal_strconv_uint64pow10:DataW Unit)=Lib.tabData .u64 Lib.pow10Tab:=by kernel_rfl
theorem types_eq:(Rows.laid_paxtar_fit_types:DataW Unit)=Lib.tabData .u8 [53,48,50,49]:=rfl
theorem keys_eq:(Rows.laid_paxtar_paxrec_keys:DataW Unit)=.agg [.lit (.string sLink.data.toList),.lit (.string sPath.data.toList),.lit (.string sSize.data.toList)]:=rfl
theorem mem_of {l:List (String×DataW Unit)} {x:String×DataW Unit} (k:Nat) (h:l[k]?=some x):x∈l:=List.mem_of_getElem? h
theorem gl_of {W:World} (h0:laidMetH Tryz.prog laid W) (hsh:W.ShapedOpen Tryz.prog):Gl W∧20≤W.heap.size:=by
 rw [MakeChecks.laidMetH_plain _ _ _ (by kernel_rfl)] at h0;have F:∀ (n:String) (g:Nat) (off len:Int),(n,(.agg [.lit (.int .i64 off),.lit (.int .i64 len)]:DataW Unit))∈laid→Tryz.prog.globalNamed n=some g∧(Tryz.prog.globals[g]?).map (·.type)=some 176→fieldIs W g off len :=
  fun n g off len hm hg=>field_of h0 hm hg.1 hg.2 Tryz.underlying176 rfl rfl rfl rfl Tryz.underlying3 Tryz.underlying3 c3 c3 c176
 obtain ⟨e,u1,u2,u3⟩:=u264;obtain ⟨ms,v1⟩:=u221;have T6:=(tab_of h0 (mem_of 18 (by rw [← types_eq];rfl)) g6 t6 Tryz.underlying186 Tryz.underlying5 c5 (by kernel_rfl)).1;have T15:=(tab_of h0 (mem_of 2 (by rw [← pow_eq];rfl)) g15 t15 u1 u2 u3 (by kernel_rfl)).2;have T13:=strs3_of (s0:=sLink) (s1:=sPath) (s2:=sSize) h0 (mem_of 5 (by rw [← keys_eq];rfl)) g13 t13 Tryz.underlying228 Tryz.underlying9 c9 (by kernel_rfl);have T16:=err_of (n:= "strconv.ErrSyntax") (nm:= "*errors.errorString") h0 (mem_of 4 rfl) g16 t16 v1;have T17:=err_of (n:= "strconv.ErrRange") (nm:= "*errors.errorString") h0 (mem_of 3 rfl) g17 t17 v1;have T14:∃ m:Int,VarIs W 14 #[.int .i64 m]:=int_of (zero:=#[.int .i64 0]) (t:=3) hsh (of_decide_eq_true (by kernel_rfl)) (by kernel_rfl) rfl (by kernel_rfl) (by kernel_rfl) Tryz.underlying3;refine ⟨⟨F "paxtar/ustar.fieldType" 0 _ _ (mem_of 12 rfl) (gF _ (List.mem_of_getElem? (i:=0) rfl)),F "paxtar/ustar.fieldName" 1 _ _ (mem_of 6 rfl) (gF _ (List.mem_of_getElem? (i:=1) rfl)),F "paxtar/ustar.fieldLinkname" 2 _ _ (mem_of 13 rfl) (gF _ (List.mem_of_getElem? (i:=2) rfl)),F "paxtar/ustar.fieldPrefix" 3 _ _ (mem_of 17 rfl) (gF _ (List.mem_of_getElem? (i:=3) rfl)),
  F "paxtar/ustar.fieldMode" 4 _ _ (mem_of 7 rfl) (gF _ (List.mem_of_getElem? (i:=4) rfl)),F "paxtar/ustar.fieldSize" 5 _ _ (mem_of 10 rfl) (gF _ (List.mem_of_getElem? (i:=5) rfl)),T6,F "paxtar/ustar.fieldMagic" 7 _ _ (mem_of 14 rfl) (gF _ (List.mem_of_getElem? (i:=6) rfl)),F "paxtar/ustar.fieldUid" 8 _ _ (mem_of 8 rfl) (gF _ (List.mem_of_getElem? (i:=7) rfl)),
  F "paxtar/ustar.fieldGid" 9 _ _ (mem_of 9 rfl) (gF _ (List.mem_of_getElem? (i:=8) rfl)),F "paxtar/ustar.fieldMtime" 10 _ _ (mem_of 11 rfl) (gF _ (List.mem_of_getElem? (i:=9) rfl)),F "paxtar/ustar.fieldMajor" 11 _ _ (mem_of 15 rfl) (gF _ (List.mem_of_getElem? (i:=10) rfl)),F "paxtar/ustar.fieldMinor" 12 _ _ (mem_of 16 rfl) (gF _ (List.mem_of_getElem? (i:=11) rfl)),T13,T14,T15,T16,T17⟩,?_⟩
 have T19:=(tab_of (zs:=[0,1,56,2,57,49,28,3,61,58,42,50,38,29,17,4,62,47,59,36,45,43,51,22,53,39,33,30,24,18,12,5,63,55,48,27,60,41,37,16,46,35,44,21,52,32,23,11,54,26,40,15,34,20,31,10,25,14,19,9,13,8,7,6]) (n:= "math/bits.deBruijn64tab") (g:=19) (k:=.u8) h0 (mem_of 1 rfl) (by kernel_rfl) (show (Tryz.prog.globals[19]?).map (·.type)=some 278 by kernel_rfl) Tryz.underlying278 Tryz.underlying5 c5 (by kernel_rfl)).1;have:=T19.lt;omega
end ZLaid
end
end Go.Proofs.YteikiojmcipkmaaGreatDoor
