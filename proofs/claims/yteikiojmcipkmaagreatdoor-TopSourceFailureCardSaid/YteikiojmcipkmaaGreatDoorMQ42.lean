/- Parts of the proof, gathered by a program: what calls of the functions answer, and what follows in plain lists. Conditions: those that each theorem states. -/
import Derived.Test.YteikiojmcipkmaaGreatDoorMQ36
import Derived.Test.YteikiojmcipkmaaGreatDoorMQ39
import Derived.Test.YteikiojmcipkmaaGreatDoorMQ41
set_option linter.unusedVariables false
set_option linter.unusedSimpArgs false
namespace Go.Proofs.YteikiojmcipkmaaGreatDoor
open Go.Lib (hid)
set_option maxRecDepth 100000
namespace ZTop3
open Go.RowKit YteikiojmcipkmaaGreatDoorW.PrintWords YteikiojmcipkmaaGreatDoorW.PrintLast YteikiojmcipkmaaGreatDoorW.PrintMore Oct ZBase ZGlob ZMo ZBlock ZCheck ZPay ZDHead ZRec ZMergeA ZDRecA ZFit
open ZEntry (blkB blkB_len extH sPax blocks extended_calls)
open ZDecA ZBld ZAdd ZNod ZCanon
open ZSink (ob)
open ZTCheck (cell_of)
open ZMbr ZMap ZStr ZRow ZTree
open ZEncode (Canonical)
open ZRun ZTreeP ZMem ZGood ZChain ZCut ZHead
open ZCreate (encM encAll MemOk)
open ZEntry (encE)
open ZEncode (arc)
open ZSumPlain (Bytes)
open ZFmt (fmtB)
open ZDco ZFirst ZTCheck ZRen
open ZPath (okPath parts comps good parentP)
open ZAlive
open ZPlan (planH planR)
open ZAliveB ZTooL
open ZTop4 (read_prefix)
set_option maxHeartbeats 8000000 in
theorem top_of (H43:ZRl.Enc43) (A:Option Addr) (cap:Nat) (l:List NV) (B:Option Addr) (m d:Nat) (ch:List Int) (f:Int) (at_:Nat) (w:World) (hl:NodesAt w A l) (hc:l.length≤cap) (hz:∀ x∈l,x.path.size≤1000000000000000∧x.target.size≤1000000000000000∧x.data.length≤1000000000000000) (hby:∀ x∈l,Bytes x.data) (hB:Kd.C (Kd.int .i64) w B m ch) (hch:okChunks ch) (hat:at_ < 65536) (hG:Gl w) (h20:20≤w.heap.size): Calls Tryz.prog 3 #[.slice A l.length cap,.agg #[.slice B m d,.int .i64 f],.int .u16 at_] w fun e w'=>e=.returned (.bool true)∧Below w.heap.size w w':=by
 have b0:=below_alloc (Below.refl w.heap.size w) (.cells #[.slice B m d,.int .i64 f] 25);have TL:=hid (tooL_calls A cap l (w.alloc (.cells #[.slice B m d,.int .i64 f] 25)) (hl.below b0) hc hz);have TS:=hid (fun W=>ZSmall.tooLarge_calls B m d f W);have AL:=hid (fun (W:World) (hW:Below w.heap.size w W)=>alive_calls W (hG.below hW) (by have:=hW.size;omega));have X0:=hid (heap_alloc_new w (.cells #[.slice B m d,.int .i64 f] 25));have B0:=hid b0;have HH:=hid (And.intro hl (And.intro hc (And.intro hby (And.intro hB (And.intro hch (And.intro hat (And.intro hG h20)))))));clear hl hz hby hB hch hG h20 b0;go_enter Tryz.func3,Tryz.ntmps3
 go_wp2_with fail
 refine TL.out.mono ?_;rintro e w1 ⟨v,rfl,hb1,hv⟩;have B1:=hid (below_step B0.out hb1);have X1:=hid ((hb1.block _ (by simp)).trans X0.out);obtain ⟨s0,s1⟩:w1.cell? ⟨w.heap.size,0,none⟩=some (.slice B m d)∧w1.cell? ⟨w.heap.size,1,none⟩=some (.int .i64 f):=⟨cell_of X1.out 0 _ rfl,cell_of X1.out 1 _ rfl⟩;rcases hv with rfl | ⟨rfl,h40,hsum⟩
 ·
  have hg:(1:Int) > 0:=by decide
  clear hb1
  go_wp2_with fail
  refine (AL.out _ B1.out).mono ?_;rintro e w2 ⟨rfl,hb2⟩;have BE:=hid (below_step B1.out hb2);clear hb2
  go_wp2_with fail
  go_ret;exact ⟨rfl,BE.out⟩
 ·
  have hg:¬ (0:Int) > 0:=by decide
  have HS:=hid (And.intro h40 hsum);clear hb1 h40 hsum
  go_wp2_with fail
  refine (TS.out _).mono ?_;rintro e w2 ⟨rfl,hb2⟩;have B2:=hid (below_step B1.out hb2);by_cases h300:300 < m
  ·
   have hd:decide (300 < m)=true:=by simpa using h300
   rw [hd];clear hb2 hd
   go_wp2_with fail
   refine (AL.out _ B2.out).mono ?_;rintro e w3 ⟨rfl,hb3⟩;have BE:=hid (below_step B2.out hb3);clear hb3
   go_wp2_with fail
   go_ret;exact ⟨rfl,BE.out⟩
  ·
   have hd:decide (300 < m)=false:=by simpa using h300
   rw [hd];have X2:=hid ((hb2.block _ (by have:=blk_lt X1.out;omega)).trans X1.out);have EC:=hid (ZRx.encode_calls H43 A cap l HH.out.2.1 HS.out.1 (fun x hx=>by have:=HS.out.2 x hx;omega) (fun x hx=>by have:=HS.out.2 x hx;omega) HH.out.2.2.1 w2 (HH.out.1.below B2.out));have H300:=hid h300;clear hb2 h300 hd s0 s1
   go_wp2_with fail
   refine EC.out.mono ?_;rintro e w3 ⟨hb3,⟨x,hx0,rfl⟩ | ⟨C,g,cap',hSm,hSb,rfl,ho,hL1⟩⟩
   ·
    have hx:(x != 0)=true:=by rw [bne_iff_ne];exact hx0
    have B3:=hid (below_step B2.out hb3);clear hb3 hx0
    go_wp2_with fail
    refine (AL.out _ B3.out).mono ?_;rintro e w4 ⟨rfl,hb4⟩;have BE:=hid (below_step B3.out hb4);clear hb4
    go_wp2_with fail
    go_ret;exact ⟨rfl,BE.out⟩
   ·
    obtain ⟨L,hL⟩:∃ L,(ZEncode.arc C).length=L:=⟨_,rfl⟩;rw [hL] at hL1 ho ⊢;have B3:=hid (below_step B2.out hb3);have X3:=hid ((hb3.block _ (by have:=blk_lt X2.out;omega)).trans X2.out);have HC:=hid (And.intro hSm (And.intro hSb (And.intro ho hL)));have bx:((0:Int) != 0)=false:=rfl;obtain ⟨s0,s1⟩:w3.cell? ⟨w.heap.size,0,none⟩=some (.slice B m d)∧w3.cell? ⟨w.heap.size,1,none⟩=some (.int .i64 f):=⟨cell_of X3.out 0 _ rfl,cell_of X3.out 1 _ rfl⟩;clear hSm hSb ho hL hb3;obtain ⟨q,hq⟩:∃ q:Nat,L+1=q:=⟨_,rfl⟩;have hk1:IntKind.i64.wrap ((L:Int)+1)=(q:Int):=by rw [IntKind.wrap_i64];omega
    have bz:((q:Int) == 0)=false:=by rw [beq_eq_false_iff_ne];omega
    have bz2:(q:Int)≠0:=by omega
    have bz3:¬ q=0:=by omega
    obtain ⟨k,hk,hkL⟩:∃ k:Nat,(at_:Int).tmod (q:Int)=k∧k < q:=⟨at_ % q,by rw [Int.ofNat_tmod] ,Nat.mod_lt _ (by omega)⟩;have ARR:=hid (fun (W:World) (hW:Below w3.heap.size w3 W)=>new_str11 (some ⟨g,0,none⟩) B L cap' m d k (ZEncode.arc C) ch W (Kd.C_below HC.out.2.2.1.reads hW) (Kd.C_below HH.out.2.2.2.1 (below_step B3.out hW)) (by omega) (by have:=H300.out;omega) HH.out.2.2.2.2.1 (arc_bytes HC.out.1 HC.out.2.1) (by rw [HC.out.2.2.2];omega));have RD1:=hid (fun (W:World) (sb:Nat) (hW:Below w3.heap.size w3 W) (hsb:w3.heap.size≤sb) (hs:Str W sb 0 ((ZEncode.arc C).take k) 11)=>(show Calls Tryz.prog 10 #[.pointer (some ⟨sb,0,none⟩)] W fun e w'=>Mo [sb] W w'∧e=nilV k 11 from read_prefix HC.out.1 11 k (by rw [HC.out.2.2.2];omega) (by rw [HC.out.2.2.2];omega) W sb hs (HH.out.2.2.2.2.2.2.1.below (below_step B3.out hW)) (by have:=hW.size;have:=B3.out.size;have:=HH.out.2.2.2.2.2.2.2;omega) (by have:=B3.out.size;have:=HH.out.2.2.2.2.2.2.2;omega)));have kk:((k:Int) == (k:Int))=true:=by simp
    go_wp2_with fail
    refine (ARR.out _ (Below.refl _ _)).mono ?_;rintro e w5 ⟨sb,rfl,hsb,hst,hb5⟩;have B5:=hid (And.intro hb5 (And.intro hsb hst));clear hsb hst hb5
    go_wp2_with fail
    refine (RD1.out _ _ B5.out.1 B5.out.2.1 B5.out.2.2).mono ?_;unfold nilV;rintro e w6 ⟨hm6,rfl⟩;have B6:=hid (back_below B5.out.1 B5.out.2.1 hm6);clear hm6
    go_wp2_with fail
    refine (AL.out _ (below_step B3.out B6.out)).mono ?_;rintro e w7 ⟨rfl,hb7⟩;have BE:=hid (below_step (below_step B3.out B6.out) hb7);clear hb7
    go_wp2_with fail
    go_ret;exact ⟨rfl,BE.out⟩
theorem top_calls (A:Option Addr) (cap:Nat) (l:List NV) (B:Option Addr) (m d:Nat) (ch:List Int) (f:Int) (at_:Nat) (w:World) (hl:NodesAt w A l) (hc:l.length≤cap) (hz:∀ x∈l,x.path.size≤1000000000000000∧x.target.size≤1000000000000000∧x.data.length≤1000000000000000) (hby:∀ x∈l,Bytes x.data) (hB:Kd.C (Kd.int .i64) w B m ch) (hch:okChunks ch) (hat:at_ < 65536) (hG:Gl w) (h20:20≤w.heap.size) : Calls Tryz.prog 3 #[.slice A l.length cap,.agg #[.slice B m d,.int .i64 f],.int .u16 at_] w fun e w'=>e=.returned (.bool true)∧Below w.heap.size w w' :=
 top_of (fun h hk w=>ZRlC.encode_calls h hk w) A cap l B m d ch f at_ w hl hc hz hby hB hch hat hG h20
end ZTop3
end Go.Proofs.YteikiojmcipkmaaGreatDoor
