/- Parts of the proof, gathered by a program: what calls of the functions answer, and what follows in plain lists. Conditions: those that each theorem states. -/
import Derived.Test.YteikiojmcipkmaaGreatDoorMQ37
import Derived.Test.YteikiojmcipkmaaGreatDoorMQ40
set_option linter.unusedVariables false
set_option linter.unusedSimpArgs false
namespace Go.Proofs.YteikiojmcipkmaaGreatDoor
open Go.Lib (hid)
set_option maxRecDepth 100000
namespace ZRlC
open Go.RowKit YteikiojmcipkmaaGreatDoorW.PrintWords YteikiojmcipkmaaGreatDoorW.PrintLast YteikiojmcipkmaaGreatDoorW.PrintMore Oct ZBase ZSumPlain ZCstr ZCheck ZHead ZHdr ZRc
open ZEntry (blkB)
open ZTCheck (cell_of)
open ZRl ZFlow
theorem joinU {P:Program} {c:Code} {K:Act→World→Prop} {Q:Exit→Act→World→Prop} {a:Act} {w:World} (s:Value) (S:World→Prop) (h:c.wp P (Exit.then (fun a' w'=>∃ u0 u1 u2 u3 u4 u6 u7 u8 u9 u10 u11 u12 u13 u14 u15 u16 u17 u18 u19 u20 u21 u22 u23 u24 u25 u26 u27 u28 u29 u30 u31 u32 u33 u34 u35 u36 u37 u38 u39 u40 u41 u42 u43 u44 u45 u46 u47 u48 u49 u50 u51 u52 u53 u54 u55 u56 u57 u58 u59 u60 u61:Value,a'=⟨#[u0,u1,u2,u3,u4,s,u6,u7,u8,u9,u10,u11,u12,u13,u14,u15,u16,u17,u18,u19,u20,u21,u22,u23,u24,u25,u26,u27,u28,u29,u30,u31,u32,u33,u34,u35,u36,u37,u38,u39,u40,u41,u42,u43,u44,u45,u46,u47,u48,u49,u50,u51,u52,u53,u54,u55,u56,u57,u58,u59,u60,u61],[]⟩∧S w') Q) a w) (k:∀ (u0 u1 u2 u3 u4 u6 u7 u8 u9 u10 u11 u12 u13 u14 u15 u16 u17 u18 u19 u20 u21 u22 u23 u24 u25 u26 u27 u28 u29 u30 u31 u32 u33 u34 u35 u36 u37 u38 u39 u40 u41 u42 u43 u44 u45 u46 u47 u48 u49 u50 u51 u52 u53 u54 u55 u56 u57 u58 u59 u60 u61:Value) (w':World),S w'→K ⟨#[u0,u1,u2,u3,u4,s,u6,u7,u8,u9,u10,u11,u12,u13,u14,u15,u16,u17,u18,u19,u20,u21,u22,u23,u24,u25,u26,u27,u28,u29,u30,u31,u32,u33,u34,u35,u36,u37,u38,u39,u40,u41,u42,u43,u44,u45,u46,u47,u48,u49,u50,u51,u52,u53,u54,u55,u56,u57,u58,u59,u60,u61],[]⟩ w'):c.wp P (Exit.then K Q) a w :=
 Code.wp_mono (fun e a' w' h=>by
  cases e with
  | normal =>obtain ⟨u0,u1,u2,u3,u4,u6,u7,u8,u9,u10,u11,u12,u13,u14,u15,u16,u17,u18,u19,u20,u21,u22,u23,u24,u25,u26,u27,u28,u29,u30,u31,u32,u33,u34,u35,u36,u37,u38,u39,u40,u41,u42,u43,u44,u45,u46,u47,u48,u49,u50,u51,u52,u53,u54,u55,u56,u57,u58,u59,u60,u61,rfl,hS⟩:=h;exact k u0 u1 u2 u3 u4 u6 u7 u8 u9 u10 u11 u12 u13 u14 u15 u16 u17 u18 u19 u20 u21 u22 u23 u24 u25 u26 u27 u28 u29 u30 u31 u32 u33 u34 u35 u36 u37 u38 u39 u40 u41 u42 u43 u44 u45 u46 u47 u48 u49 u50 u51 u52 u53 u54 u55 u56 u57 u58 u59 u60 u61 w' hS
  | _=>exact h) h
set_option maxHeartbeats 40000000 in
theorem encode_calls (h:Hdr) (hk:h.Ok) (w:World):Calls Tryz.prog 43 #[h.val] w fun r w'=>∃ g cap,r=.returned (.tuple #[.slice (some ⟨g,0,none⟩) 512 cap,.int .i64 0])∧ZBase.Own w' w.heap.size g cap 512 (blkB h)∧Below w.heap.size w w':=by
 have RS:=hid (ref_str hk);have RL:=hid (ref_len hk);have RB:=hid (ref_bytes hk);have RE:=hid (seal_ref hk);have CK:=hid (fun W=>ZRd.check_calls h hk W);have m7:(0:Int) < 8 ^ 7:=by decide
 have m11:(0:Int) < 8 ^ 11:=by decide
 have hmode:=hk.mode;have hsize:=hk.size;have e7:((7:Nat):Int)+1=8:=rfl;have e11:((11:Nat):Int)+1=12:=rfl;have T1:=hid (fun W=>ZRd.text_calls h.name 100 hk.name.1 hk.name.2 (by decide) (by decide) W);have T2:=hid (fun W=>ZRd.text_calls h.link 100 hk.link.1 hk.link.2 (by decide) (by decide) W);have T3:=hid (fun W=>ZRd.text_calls ⟨#[]⟩ 32 ((ZPlanOk.noNul_iff _).2 (by simp)) (by decide) (by decide) (by decide) W);have T4:=hid (fun W=>ZRd.text_calls h.pre 155 hk.pre.1 hk.pre.2 (by decide) (by decide) W);have T5:=hid (fun W=>ZRd.text_calls ⟨#[]⟩ 12 ((ZPlanOk.noNul_iff _).2 (by simp)) (by decide) (by decide) (by decide) W);have O1:=hid (fun W=>ZRd.octal_calls 7 h.mode (by decide) (by decide) (by omega) (by rw [ZHdr.pow7];omega) W);have O2:=hid (fun W=>ZRd.octal_calls 7 0 (by decide) (by decide) (by decide) m7 W);have O3:=hid (fun W=>ZRd.octal_calls 11 h.size (by decide) (by decide) (by omega) (by rw [ZHdr.pow11];omega) W);have O4:=hid (fun W=>ZRd.octal_calls 11 0 (by decide) (by decide) (by decide) m11 W);rw [e7] at O1 O2;rw [e11] at O3 O4;have c100:((100:Nat):Int)=100:=rfl;have c32:((32:Nat):Int)=32:=rfl;have c155:((155:Nat):Int)=155:=rfl;have c12:((12:Nat):Int)=12:=rfl;rw [c100] at T1 T2;rw [c32] at T3;rw [c155] at T4;rw [c12] at T5;clear c100 c32 c155 c12;have z1:(strOfNums (txt h.name 100)).size=100:=by rw [strOfNums_size,txt_len _ _ hk.name.2]
 have z2:(strOfNums (fld 7 h.mode)).size=8:=by rw [strOfNums_size,fld_len]
 have z3:(strOfNums (fld 7 0)).size=8:=by rw [strOfNums_size,fld_len]
 have z5:(strOfNums (fld 11 h.size)).size=12:=by rw [strOfNums_size,fld_len]
 have z6:(strOfNums (fld 11 0)).size=12:=by rw [strOfNums_size,fld_len]
 have z8:(strOfNums [h.typ]).size=1:=by rw [strOfNums_size];rfl
 have z9:(strOfNums (txt h.link 100)).size=100:=by rw [strOfNums_size,txt_len _ _ hk.link.2]
 have z11:(strOfNums (txt ⟨#[]⟩ 32)).size=32:=by rw [strOfNums_size,txt_len _ _ (by decide)]
 have z15:(strOfNums (txt h.pre 155)).size=155:=by rw [strOfNums_size,txt_len _ _ hk.pre.2]
 have z16:(strOfNums (txt ⟨#[]⟩ 12)).size=12:=by rw [strOfNums_size,txt_len _ _ (by decide)]
 have CV:Hid (∀ (W:World) (g:Nat),W.heap[g]?=some (.cells #[.int .u8 h.typ] 5 (0,0))→(convert 30 9 (.slice (some ⟨g,0,none⟩) 1 1)).run Tryz.prog W=.ok (.string (strOfNums [h.typ])) W):=hid fun W g hg=>conv_blk hg;unfold refS at RS;obtain ⟨t1,ht1⟩:∃ s,strOfNums (txt h.name 100)=s:=⟨_,rfl⟩;rw [ht1] at T1 RS z1;clear ht1;obtain ⟨t2,ht2⟩:∃ s,strOfNums (fld 7 h.mode)=s:=⟨_,rfl⟩;rw [ht2] at O1 RS z2;clear ht2;obtain ⟨t3,ht3⟩:∃ s,strOfNums (fld 7 0)=s:=⟨_,rfl⟩;rw [ht3] at O2 RS z3;clear ht3;obtain ⟨t5,ht5⟩:∃ s,strOfNums (fld 11 h.size)=s:=⟨_,rfl⟩;rw [ht5] at O3 RS z5;clear ht5;obtain ⟨t6,ht6⟩:∃ s,strOfNums (fld 11 0)=s:=⟨_,rfl⟩;rw [ht6] at O4 RS z6;clear ht6;obtain ⟨t8,ht8⟩:∃ s,strOfNums [h.typ]=s:=⟨_,rfl⟩;rw [ht8] at CV RS z8;clear ht8;obtain ⟨t9,ht9⟩:∃ s,strOfNums (txt h.link 100)=s:=⟨_,rfl⟩;rw [ht9] at T2 RS z9;clear ht9;obtain ⟨t11,ht11⟩:∃ s,strOfNums (txt ⟨#[]⟩ 32)=s:=⟨_,rfl⟩;rw [ht11] at T3 RS z11;clear ht11;obtain ⟨t15,ht15⟩:∃ s,strOfNums (txt h.pre 155)=s:=⟨_,rfl⟩;rw [ht15] at T4 RS z15;clear ht15;obtain ⟨t16,ht16⟩:∃ s,strOfNums (txt ⟨#[]⟩ 12)=s:=⟨_,rfl⟩;rw [ht16] at T5 RS z16;clear ht16;obtain ⟨s2,hs2⟩:∃ s,t1++t2=s:=⟨_,rfl⟩;have y2:s2.size=108:=by rw [← hs2,ByteArray.size_append,z1,z2]
 have q2:∀ W,(Op.stringOp .add t1 t2).run Tryz.prog W=.ok (.string s2) W:=fun W=>by rw [← hs2];exact run_string_add_sum (P:=Tryz.prog) W _ _ (by rw [z1,z2];decide)
 rw [hs2] at RS;obtain ⟨s3,hs3⟩:∃ s,s2++t3=s:=⟨_,rfl⟩;have y3:s3.size=116:=by rw [← hs3,ByteArray.size_append,y2,z3]
 have q3:∀ W,(Op.stringOp .add s2 t3).run Tryz.prog W=.ok (.string s3) W:=fun W=>by rw [← hs3];exact run_string_add_sum (P:=Tryz.prog) W _ _ (by rw [y2,z3];decide)
 rw [hs3] at RS;obtain ⟨s4,hs4⟩:∃ s,s3++t3=s:=⟨_,rfl⟩;have y4:s4.size=124:=by rw [← hs4,ByteArray.size_append,y3,z3]
 have q4:∀ W,(Op.stringOp .add s3 t3).run Tryz.prog W=.ok (.string s4) W:=fun W=>by rw [← hs4];exact run_string_add_sum (P:=Tryz.prog) W _ _ (by rw [y3,z3];decide)
 rw [hs4] at RS;obtain ⟨s5,hs5⟩:∃ s,s4++t5=s:=⟨_,rfl⟩;have y5:s5.size=136:=by rw [← hs5,ByteArray.size_append,y4,z5]
 have q5:∀ W,(Op.stringOp .add s4 t5).run Tryz.prog W=.ok (.string s5) W:=fun W=>by rw [← hs5];exact run_string_add_sum (P:=Tryz.prog) W _ _ (by rw [y4,z5];decide)
 rw [hs5] at RS;obtain ⟨s6,hs6⟩:∃ s,s5++t6=s:=⟨_,rfl⟩;have y6:s6.size=148:=by rw [← hs6,ByteArray.size_append,y5,z6]
 have q6:∀ W,(Op.stringOp .add s5 t6).run Tryz.prog W=.ok (.string s6) W:=fun W=>by rw [← hs6];exact run_string_add_sum (P:=Tryz.prog) W _ _ (by rw [y5,z6];decide)
 rw [hs6] at RS;obtain ⟨s7,hs7⟩:∃ s,s6++(⟨#[32,32,32,32,32,32,32,32]⟩:ByteArray)=s:=⟨_,rfl⟩;have y7:s7.size=156:=by rw [← hs7,ByteArray.size_append,y6];rfl
 have q7:∀ W,(Op.stringOp .add s6 (⟨#[32,32,32,32,32,32,32,32]⟩:ByteArray)).run Tryz.prog W=.ok (.string s7) W:=fun W=>by rw [← hs7];exact run_string_add_sum (P:=Tryz.prog) W _ _ (by rw [y6,show (⟨#[32,32,32,32,32,32,32,32]⟩:ByteArray).size=8 from rfl];decide)
 rw [hs7] at RS;obtain ⟨s8,hs8⟩:∃ s,s7++t8=s:=⟨_,rfl⟩;have y8:s8.size=157:=by rw [← hs8,ByteArray.size_append,y7,z8]
 have q8:∀ W,(Op.stringOp .add s7 t8).run Tryz.prog W=.ok (.string s8) W:=fun W=>by rw [← hs8];exact run_string_add_sum (P:=Tryz.prog) W _ _ (by rw [y7,z8];decide)
 rw [hs8] at RS;obtain ⟨s9,hs9⟩:∃ s,s8++t9=s:=⟨_,rfl⟩;have y9:s9.size=257:=by rw [← hs9,ByteArray.size_append,y8,z9]
 have q9:∀ W,(Op.stringOp .add s8 t9).run Tryz.prog W=.ok (.string s9) W:=fun W=>by rw [← hs9];exact run_string_add_sum (P:=Tryz.prog) W _ _ (by rw [y8,z9];decide)
 rw [hs9] at RS;obtain ⟨s10,hs10⟩:∃ s,s9++(⟨#[117,115,116,97,114,0,48,48]⟩:ByteArray)=s:=⟨_,rfl⟩;have y10:s10.size=265:=by rw [← hs10,ByteArray.size_append,y9];rfl
 have q10:∀ W,(Op.stringOp .add s9 (⟨#[117,115,116,97,114,0,48,48]⟩:ByteArray)).run Tryz.prog W=.ok (.string s10) W:=fun W=>by rw [← hs10];exact run_string_add_sum (P:=Tryz.prog) W _ _ (by rw [y9,show (⟨#[117,115,116,97,114,0,48,48]⟩:ByteArray).size=8 from rfl];decide)
 rw [hs10] at RS;obtain ⟨s11,hs11⟩:∃ s,s10++t11=s:=⟨_,rfl⟩;have y11:s11.size=297:=by rw [← hs11,ByteArray.size_append,y10,z11]
 have q11:∀ W,(Op.stringOp .add s10 t11).run Tryz.prog W=.ok (.string s11) W:=fun W=>by rw [← hs11];exact run_string_add_sum (P:=Tryz.prog) W _ _ (by rw [y10,z11];decide)
 rw [hs11] at RS;obtain ⟨s12,hs12⟩:∃ s,s11++t11=s:=⟨_,rfl⟩;have y12:s12.size=329:=by rw [← hs12,ByteArray.size_append,y11,z11]
 have q12:∀ W,(Op.stringOp .add s11 t11).run Tryz.prog W=.ok (.string s12) W:=fun W=>by rw [← hs12];exact run_string_add_sum (P:=Tryz.prog) W _ _ (by rw [y11,z11];decide)
 rw [hs12] at RS;obtain ⟨s13,hs13⟩:∃ s,s12++t3=s:=⟨_,rfl⟩;have y13:s13.size=337:=by rw [← hs13,ByteArray.size_append,y12,z3]
 have q13:∀ W,(Op.stringOp .add s12 t3).run Tryz.prog W=.ok (.string s13) W:=fun W=>by rw [← hs13];exact run_string_add_sum (P:=Tryz.prog) W _ _ (by rw [y12,z3];decide)
 rw [hs13] at RS;obtain ⟨s14,hs14⟩:∃ s,s13++t3=s:=⟨_,rfl⟩;have y14:s14.size=345:=by rw [← hs14,ByteArray.size_append,y13,z3]
 have q14:∀ W,(Op.stringOp .add s13 t3).run Tryz.prog W=.ok (.string s14) W:=fun W=>by rw [← hs14];exact run_string_add_sum (P:=Tryz.prog) W _ _ (by rw [y13,z3];decide)
 rw [hs14] at RS;obtain ⟨s15,hs15⟩:∃ s,s14++t15=s:=⟨_,rfl⟩;have y15:s15.size=500:=by rw [← hs15,ByteArray.size_append,y14,z15]
 have q15:∀ W,(Op.stringOp .add s14 t15).run Tryz.prog W=.ok (.string s15) W:=fun W=>by rw [← hs15];exact run_string_add_sum (P:=Tryz.prog) W _ _ (by rw [y14,z15];decide)
 rw [hs15] at RS;obtain ⟨s16,hs16⟩:∃ s,s15++t16=s:=⟨_,rfl⟩;have y16:s16.size=512:=by rw [← hs16,ByteArray.size_append,y15,z16]
 have q16:∀ W,(Op.stringOp .add s15 t16).run Tryz.prog W=.ok (.string s16) W:=fun W=>by rw [← hs16];exact run_string_add_sum (P:=Tryz.prog) W _ _ (by rw [y15,z16];decide)
 rw [hs16] at RS;obtain ⟨typ,name,pre,link,mode,size⟩:=h;dsimp only at *;unfold Hdr.val Hdr.cells at *;dsimp only at *;have X0:=hid (heap_alloc_new w (.cells #[.int .u8 typ,.string name,.string pre,.string link,.int .i64 mode,.int .i64 size] 85));have B0:=hid (below_alloc (Below.refl w.heap.size w) (.cells #[.int .u8 typ,.string name,.string pre,.string link,.int .i64 mode,.int .i64 size] 85));clear hmode hsize e7 e11 m7 m11 hk hs2 hs3 hs4 hs5 hs6 hs7 hs8 hs9 hs10 hs11 hs12 hs13 hs14 hs15 hs16;go_enter Tryz.func43,Tryz.ntmps43
 go_wp2_with fail
 refine (CK.out _).mono ?_;rintro r w1 ⟨rfl,hb1⟩;have X1:=hid ((hb1.block _ (by simp)).trans X0.out);have B1:=hid (below_step B0.out hb1);have KP:Hid (∀ W,Below w1.heap.size w1 W→W.cell? ⟨w.heap.size,0,none⟩=some (.int .u8 typ)∧W.cell? ⟨w.heap.size,1,none⟩=some (.string name)∧W.cell? ⟨w.heap.size,2,none⟩=some (.string pre)∧W.cell? ⟨w.heap.size,3,none⟩=some (.string link)∧W.cell? ⟨w.heap.size,4,none⟩=some (.int .i64 mode)∧W.cell? ⟨w.heap.size,5,none⟩=some (.int .i64 size)):=hid fun W hW=>by have h:=(hW.block _ (blk_lt X1.out)).trans X1.out;exact ⟨cell_of h 0 _ rfl,cell_of h 1 _ rfl,cell_of h 2 _ rfl,cell_of h 3 _ rfl,cell_of h 4 _ rfl,cell_of h 5 _ rfl⟩
 obtain ⟨f0,f1,f2,f3,f4,f5⟩:=KP.out w1 (Below.refl _ _);have hB:Hid (Below w1.heap.size w1 w1):=hid (Below.refl _ _);have hcv0:∀ W:World,(convert 30 9 (.slice (some ⟨W.heap.size,0,none⟩) 1 1)).run Tryz.prog (W.alloc (.cells #[.int .u8 typ] 5))=.ok (.string t8) (W.alloc (.cells #[.int .u8 typ] 5)):=fun W=>CV.out _ _ (heap_alloc_new W _);clear hb1
 go_wp2_with fail
 apply joinU (.string s16) (fun W=>Below w1.heap.size w1 W)
 ·
  obtain ⟨tab,htab⟩:∃ f:Nat→Option Value,f=(fun t:Nat=>(match t with | 1=>some (.pointer (some ⟨w.heap.size,0,none⟩)) | 5=>some (.string s16) | 13=>some (.pointer (some ⟨w.heap.size,1,none⟩)) | 14=>some (.string name) | 15=>some (.string t1) | 16=>some (.pointer (some ⟨w.heap.size,4,none⟩)) | 17=>some (.int .i64 mode) | 18=>some (.string t2) | 19=>some (.string s2) | 20=>some (.string t3) | 21=>some (.string s3) | 22=>some (.string t3) | 23=>some (.string s4) | 24=>some (.pointer (some ⟨w.heap.size,5,none⟩)) | 25=>some (.int .i64 size) | 26=>some (.string t5) | 27=>some (.string s5) | 28=>some (.string t6) | 29=>some (.string s6) | 30=>some (.string s7) | 31=>some (.pointer (some ⟨w.heap.size,0,none⟩)) | 32=>some (.int .u8 typ) | 34=>some (.string t8) | 35=>some (.string s8) | 36=>some (.pointer (some ⟨w.heap.size,3,none⟩)) | 37=>some (.string link) | 38=>some (.string t9) | 39=>some (.string s9) | 40=>some (.string s10) | 41=>some (.string t11) | 42=>some (.string s11) | 43=>some (.string t11) | 44=>some (.string s12) | 45=>some (.string t3) | 46=>some (.string s13) | 47=>some (.string t3) | 48=>some (.string s14) | 49=>some (.pointer (some ⟨w.heap.size,2,none⟩)) | 50=>some (.string pre) | 51=>some (.string t15) | 52=>some (.string s15) | 53=>some (.string t16) | 54=>some (.string s16) | _=>none:Option Value)):=⟨_,rfl⟩;have g1:tab 1=some (.pointer (some ⟨w.heap.size,0,none⟩)):=by rw [htab] <;> rfl
  have g5:tab 5=some (.string s16):=by rw [htab] <;> rfl
  have g13:tab 13=some (.pointer (some ⟨w.heap.size,1,none⟩)):=by rw [htab] <;> rfl
  have g14:tab 14=some (.string name):=by rw [htab] <;> rfl
  have g15:tab 15=some (.string t1):=by rw [htab] <;> rfl
  have g16:tab 16=some (.pointer (some ⟨w.heap.size,4,none⟩)):=by rw [htab] <;> rfl
  have g17:tab 17=some (.int .i64 mode):=by rw [htab] <;> rfl
  have g18:tab 18=some (.string t2):=by rw [htab] <;> rfl
  have g19:tab 19=some (.string s2):=by rw [htab] <;> rfl
  have g20:tab 20=some (.string t3):=by rw [htab] <;> rfl
  have g21:tab 21=some (.string s3):=by rw [htab] <;> rfl
  have g22:tab 22=some (.string t3):=by rw [htab] <;> rfl
  have g23:tab 23=some (.string s4):=by rw [htab] <;> rfl
  have g24:tab 24=some (.pointer (some ⟨w.heap.size,5,none⟩)):=by rw [htab] <;> rfl
  have g25:tab 25=some (.int .i64 size):=by rw [htab] <;> rfl
  have g26:tab 26=some (.string t5):=by rw [htab] <;> rfl
  have g27:tab 27=some (.string s5):=by rw [htab] <;> rfl
  have g28:tab 28=some (.string t6):=by rw [htab] <;> rfl
  have g29:tab 29=some (.string s6):=by rw [htab] <;> rfl
  have g30:tab 30=some (.string s7):=by rw [htab] <;> rfl
  have g31:tab 31=some (.pointer (some ⟨w.heap.size,0,none⟩)):=by rw [htab] <;> rfl
  have g32:tab 32=some (.int .u8 typ):=by rw [htab] <;> rfl
  have g34:tab 34=some (.string t8):=by rw [htab] <;> rfl
  have g35:tab 35=some (.string s8):=by rw [htab] <;> rfl
  have g36:tab 36=some (.pointer (some ⟨w.heap.size,3,none⟩)):=by rw [htab] <;> rfl
  have g37:tab 37=some (.string link):=by rw [htab] <;> rfl
  have g38:tab 38=some (.string t9):=by rw [htab] <;> rfl
  have g39:tab 39=some (.string s9):=by rw [htab] <;> rfl
  have g40:tab 40=some (.string s10):=by rw [htab] <;> rfl
  have g41:tab 41=some (.string t11):=by rw [htab] <;> rfl
  have g42:tab 42=some (.string s11):=by rw [htab] <;> rfl
  have g43:tab 43=some (.string t11):=by rw [htab] <;> rfl
  have g44:tab 44=some (.string s12):=by rw [htab] <;> rfl
  have g45:tab 45=some (.string t3):=by rw [htab] <;> rfl
  have g46:tab 46=some (.string s13):=by rw [htab] <;> rfl
  have g47:tab 47=some (.string t3):=by rw [htab] <;> rfl
  have g48:tab 48=some (.string s14):=by rw [htab] <;> rfl
  have g49:tab 49=some (.pointer (some ⟨w.heap.size,2,none⟩)):=by rw [htab] <;> rfl
  have g50:tab 50=some (.string pre):=by rw [htab] <;> rfl
  have g51:tab 51=some (.string t15):=by rw [htab] <;> rfl
  have g52:tab 52=some (.string s15):=by rw [htab] <;> rfl
  have g53:tab 53=some (.string t16):=by rw [htab] <;> rfl
  have g54:tab 54=some (.string s16):=by rw [htab] <;> rfl
  have g33:tab 33=none:=by rw [htab] <;> rfl
  refine region_flow (V:=fun t v W=>(∀ x,tab t=some x→v=x)∧(t=33→∃ g,v=.slice (some ⟨g,0,none⟩) 1 1∧W.heap[g]?=some (.cells #[.int .u8 typ] 5 (0,0)))) (S:=(fun W=>(W.cell? ⟨w.heap.size,0,none⟩=some (.int .u8 typ)∧W.cell? ⟨w.heap.size,1,none⟩=some (.string name)∧W.cell? ⟨w.heap.size,2,none⟩=some (.string pre)∧W.cell? ⟨w.heap.size,3,none⟩=some (.string link)∧W.cell? ⟨w.heap.size,4,none⟩=some (.int .i64 mode)∧W.cell? ⟨w.heap.size,5,none⟩=some (.int .i64 size))∧Below w1.heap.size w1 W)) (fr:=[1]) rfl (shape_of (by kernel_rfl)) ?_ ?_ ?_ ?_ ?_
  ·intro d v W W' h hb;refine ⟨h.1,fun e=>?_⟩;obtain ⟨g,h1,h2⟩:=h.2 e;exact ⟨g,h1,(hb.block _ (blk_lt h2)).trans h2⟩
  ·
   intro t ht W _;obtain rfl:t=1:=by simpa using ht
   refine ⟨fun x hx=>?_,fun e=>absurd e (by decide)⟩;rw [g1] at hx;cases hx;rfl
  ·exact ⟨⟨f0,f1,f2,f3,f4,f5⟩,below_drew (Below.refl _ _)⟩
  ·
   intro i o ho a W hu hS K hK;have hmem:=Array.mem_of_getElem? ho;clear ho;have hmem2:=Array.mem_toList_iff.2 hmem;simp only [List.mem_cons,List.not_mem_nil,or_false] at hmem2;rcases hmem2 with rfl | rfl | rfl | rfl | rfl | rfl | rfl | rfl | rfl | rfl | rfl | rfl | rfl | rfl | rfl | rfl | rfl | rfl | rfl | rfl | rfl | rfl | rfl | rfl | rfl | rfl | rfl | rfl | rfl | rfl | rfl | rfl | rfl | rfl | rfl | rfl | rfl | rfl | rfl | rfl | rfl | rfl | rfl
   ·
    -- slot 13
    have e1:=(hu 1 (by decide)).1 _ g1;obtain ⟨⟨c0,c1,c2,c3,c4,c5⟩,hSB⟩:=hS;refine wp_of_run (v:=.pointer (some ⟨w.heap.size,1,none⟩)) (w':=W) (by simp [execOp,Act.eval,go_sem,e1,c0,c1,c2,c3,c4,c5]) (hK _ _ (vput g13 (by decide) _) ⟨⟨c0,c1,c2,c3,c4,c5⟩,hSB⟩ (Below.refl _ _))
   ·
    -- slot 14
    have e13:=(hu 13 (by decide)).1 _ g13;obtain ⟨⟨c0,c1,c2,c3,c4,c5⟩,hSB⟩:=hS;refine wp_of_run (v:=.string name) (w':=W) (by simp [execOp,Act.eval,go_sem,e13,c0,c1,c2,c3,c4,c5]) (hK _ _ (vput g14 (by decide) _) ⟨⟨c0,c1,c2,c3,c4,c5⟩,hSB⟩ (Below.refl _ _))
   ·
    -- slot 15
    have e14:=(hu 14 (by decide)).1 _ g14;obtain ⟨⟨c0,c1,c2,c3,c4,c5⟩,hSB⟩:=hS;have KS:=fun {U} (hb:Below W.heap.size W U)=>And.intro (pw_cell_below hb c0) (And.intro (pw_cell_below hb c1) (And.intro (pw_cell_below hb c2) (And.intro (pw_cell_below hb c3) (And.intro (pw_cell_below hb c4) (pw_cell_below hb c5)))));have hC:=(T1.out W);refine wp_of_enter (by simp [execOp,Act.eval,go_sem,e14]) hC ?_;rintro r W' ⟨rfl,hb⟩;exact ⟨_,rfl,hK _ _ (vput g15 (by decide) _) ⟨KS hb,below_step hSB hb⟩ hb⟩
   ·
    -- slot 16
    have e1:=(hu 1 (by decide)).1 _ g1;obtain ⟨⟨c0,c1,c2,c3,c4,c5⟩,hSB⟩:=hS;refine wp_of_run (v:=.pointer (some ⟨w.heap.size,4,none⟩)) (w':=W) (by simp [execOp,Act.eval,go_sem,e1,c0,c1,c2,c3,c4,c5]) (hK _ _ (vput g16 (by decide) _) ⟨⟨c0,c1,c2,c3,c4,c5⟩,hSB⟩ (Below.refl _ _))
   ·
    -- slot 17
    have e16:=(hu 16 (by decide)).1 _ g16;obtain ⟨⟨c0,c1,c2,c3,c4,c5⟩,hSB⟩:=hS;refine wp_of_run (v:=.int .i64 mode) (w':=W) (by simp [execOp,Act.eval,go_sem,e16,c0,c1,c2,c3,c4,c5]) (hK _ _ (vput g17 (by decide) _) ⟨⟨c0,c1,c2,c3,c4,c5⟩,hSB⟩ (Below.refl _ _))
   ·
    -- slot 18
    have e17:=(hu 17 (by decide)).1 _ g17;obtain ⟨⟨c0,c1,c2,c3,c4,c5⟩,hSB⟩:=hS;have KS:=fun {U} (hb:Below W.heap.size W U)=>And.intro (pw_cell_below hb c0) (And.intro (pw_cell_below hb c1) (And.intro (pw_cell_below hb c2) (And.intro (pw_cell_below hb c3) (And.intro (pw_cell_below hb c4) (pw_cell_below hb c5)))));have hC:=(O1.out W);refine wp_of_enter (by simp [execOp,Act.eval,go_sem,e17]) hC ?_;rintro r W' ⟨rfl,hb⟩;exact ⟨_,rfl,hK _ _ (vput g18 (by decide) _) ⟨KS hb,below_step hSB hb⟩ hb⟩
   ·
    -- slot 19
    have e15:=(hu 15 (by decide)).1 _ g15;have e18:=(hu 18 (by decide)).1 _ g18;obtain ⟨⟨c0,c1,c2,c3,c4,c5⟩,hSB⟩:=hS;refine wp_of_run (v:=.string s2) (w':=W) (by simp [execOp,Act.eval,go_sem,e15,e18,q2,c0,c1,c2,c3,c4,c5]) (hK _ _ (vput g19 (by decide) _) ⟨⟨c0,c1,c2,c3,c4,c5⟩,hSB⟩ (Below.refl _ _))
   ·
    -- slot 20
    obtain ⟨⟨c0,c1,c2,c3,c4,c5⟩,hSB⟩:=hS;have KS:=fun {U} (hb:Below W.heap.size W U)=>And.intro (pw_cell_below hb c0) (And.intro (pw_cell_below hb c1) (And.intro (pw_cell_below hb c2) (And.intro (pw_cell_below hb c3) (And.intro (pw_cell_below hb c4) (pw_cell_below hb c5)))));have hC:=(O2.out W);refine wp_of_enter (by simp [execOp,Act.eval,go_sem]) hC ?_;rintro r W' ⟨rfl,hb⟩;exact ⟨_,rfl,hK _ _ (vput g20 (by decide) _) ⟨KS hb,below_step hSB hb⟩ hb⟩
   ·
    -- slot 21
    have e19:=(hu 19 (by decide)).1 _ g19;have e20:=(hu 20 (by decide)).1 _ g20;obtain ⟨⟨c0,c1,c2,c3,c4,c5⟩,hSB⟩:=hS;refine wp_of_run (v:=.string s3) (w':=W) (by simp [execOp,Act.eval,go_sem,e19,e20,q3,c0,c1,c2,c3,c4,c5]) (hK _ _ (vput g21 (by decide) _) ⟨⟨c0,c1,c2,c3,c4,c5⟩,hSB⟩ (Below.refl _ _))
   ·
    -- slot 22
    obtain ⟨⟨c0,c1,c2,c3,c4,c5⟩,hSB⟩:=hS;have KS:=fun {U} (hb:Below W.heap.size W U)=>And.intro (pw_cell_below hb c0) (And.intro (pw_cell_below hb c1) (And.intro (pw_cell_below hb c2) (And.intro (pw_cell_below hb c3) (And.intro (pw_cell_below hb c4) (pw_cell_below hb c5)))));have hC:=(O2.out W);refine wp_of_enter (by simp [execOp,Act.eval,go_sem]) hC ?_;rintro r W' ⟨rfl,hb⟩;exact ⟨_,rfl,hK _ _ (vput g22 (by decide) _) ⟨KS hb,below_step hSB hb⟩ hb⟩
   ·
    -- slot 23
    have e21:=(hu 21 (by decide)).1 _ g21;have e22:=(hu 22 (by decide)).1 _ g22;obtain ⟨⟨c0,c1,c2,c3,c4,c5⟩,hSB⟩:=hS;refine wp_of_run (v:=.string s4) (w':=W) (by simp [execOp,Act.eval,go_sem,e21,e22,q4,c0,c1,c2,c3,c4,c5]) (hK _ _ (vput g23 (by decide) _) ⟨⟨c0,c1,c2,c3,c4,c5⟩,hSB⟩ (Below.refl _ _))
   ·
    -- slot 24
    have e1:=(hu 1 (by decide)).1 _ g1;obtain ⟨⟨c0,c1,c2,c3,c4,c5⟩,hSB⟩:=hS;refine wp_of_run (v:=.pointer (some ⟨w.heap.size,5,none⟩)) (w':=W) (by simp [execOp,Act.eval,go_sem,e1,c0,c1,c2,c3,c4,c5]) (hK _ _ (vput g24 (by decide) _) ⟨⟨c0,c1,c2,c3,c4,c5⟩,hSB⟩ (Below.refl _ _))
   ·
    -- slot 25
    have e24:=(hu 24 (by decide)).1 _ g24;obtain ⟨⟨c0,c1,c2,c3,c4,c5⟩,hSB⟩:=hS;refine wp_of_run (v:=.int .i64 size) (w':=W) (by simp [execOp,Act.eval,go_sem,e24,c0,c1,c2,c3,c4,c5]) (hK _ _ (vput g25 (by decide) _) ⟨⟨c0,c1,c2,c3,c4,c5⟩,hSB⟩ (Below.refl _ _))
   ·
    -- slot 26
    have e25:=(hu 25 (by decide)).1 _ g25;obtain ⟨⟨c0,c1,c2,c3,c4,c5⟩,hSB⟩:=hS;have KS:=fun {U} (hb:Below W.heap.size W U)=>And.intro (pw_cell_below hb c0) (And.intro (pw_cell_below hb c1) (And.intro (pw_cell_below hb c2) (And.intro (pw_cell_below hb c3) (And.intro (pw_cell_below hb c4) (pw_cell_below hb c5)))));have hC:=(O3.out W);refine wp_of_enter (by simp [execOp,Act.eval,go_sem,e25]) hC ?_;rintro r W' ⟨rfl,hb⟩;exact ⟨_,rfl,hK _ _ (vput g26 (by decide) _) ⟨KS hb,below_step hSB hb⟩ hb⟩
   ·
    -- slot 27
    have e23:=(hu 23 (by decide)).1 _ g23;have e26:=(hu 26 (by decide)).1 _ g26;obtain ⟨⟨c0,c1,c2,c3,c4,c5⟩,hSB⟩:=hS;refine wp_of_run (v:=.string s5) (w':=W) (by simp [execOp,Act.eval,go_sem,e23,e26,q5,c0,c1,c2,c3,c4,c5]) (hK _ _ (vput g27 (by decide) _) ⟨⟨c0,c1,c2,c3,c4,c5⟩,hSB⟩ (Below.refl _ _))
   ·
    -- slot 28
    obtain ⟨⟨c0,c1,c2,c3,c4,c5⟩,hSB⟩:=hS;have KS:=fun {U} (hb:Below W.heap.size W U)=>And.intro (pw_cell_below hb c0) (And.intro (pw_cell_below hb c1) (And.intro (pw_cell_below hb c2) (And.intro (pw_cell_below hb c3) (And.intro (pw_cell_below hb c4) (pw_cell_below hb c5)))));have hC:=(O4.out W);refine wp_of_enter (by simp [execOp,Act.eval,go_sem]) hC ?_;rintro r W' ⟨rfl,hb⟩;exact ⟨_,rfl,hK _ _ (vput g28 (by decide) _) ⟨KS hb,below_step hSB hb⟩ hb⟩
   ·
    -- slot 29
    have e27:=(hu 27 (by decide)).1 _ g27;have e28:=(hu 28 (by decide)).1 _ g28;obtain ⟨⟨c0,c1,c2,c3,c4,c5⟩,hSB⟩:=hS;refine wp_of_run (v:=.string s6) (w':=W) (by simp [execOp,Act.eval,go_sem,e27,e28,q6,c0,c1,c2,c3,c4,c5]) (hK _ _ (vput g29 (by decide) _) ⟨⟨c0,c1,c2,c3,c4,c5⟩,hSB⟩ (Below.refl _ _))
   ·
    -- slot 30
    have e29:=(hu 29 (by decide)).1 _ g29;obtain ⟨⟨c0,c1,c2,c3,c4,c5⟩,hSB⟩:=hS;refine wp_of_run (v:=.string s7) (w':=W) (by simp [execOp,Act.eval,go_sem,e29,q7,c0,c1,c2,c3,c4,c5]) (hK _ _ (vput g30 (by decide) _) ⟨⟨c0,c1,c2,c3,c4,c5⟩,hSB⟩ (Below.refl _ _))
   ·
    -- slot 31
    have e1:=(hu 1 (by decide)).1 _ g1;obtain ⟨⟨c0,c1,c2,c3,c4,c5⟩,hSB⟩:=hS;refine wp_of_run (v:=.pointer (some ⟨w.heap.size,0,none⟩)) (w':=W) (by simp [execOp,Act.eval,go_sem,e1,c0,c1,c2,c3,c4,c5]) (hK _ _ (vput g31 (by decide) _) ⟨⟨c0,c1,c2,c3,c4,c5⟩,hSB⟩ (Below.refl _ _))
   ·
    -- slot 32
    have e31:=(hu 31 (by decide)).1 _ g31;obtain ⟨⟨c0,c1,c2,c3,c4,c5⟩,hSB⟩:=hS;refine wp_of_run (v:=.int .u8 typ) (w':=W) (by simp [execOp,Act.eval,go_sem,e31,c0,c1,c2,c3,c4,c5]) (hK _ _ (vput g32 (by decide) _) ⟨⟨c0,c1,c2,c3,c4,c5⟩,hSB⟩ (Below.refl _ _))
   ·
    -- slot 33
    have e32:=(hu 32 (by decide)).1 _ g32;obtain ⟨⟨c0,c1,c2,c3,c4,c5⟩,hSB⟩:=hS;have e32b:a.tmps[32]?.getD undef=.int .u8 typ:=by rw [← Array.getD_eq_getD_getElem?];exact e32
    have hb:=below_alloc (Below.refl W.heap.size W) (.cells #[.int .u8 typ] 5);refine wp_of_run (v:=.slice (some ⟨W.heap.size,0,none⟩) 1 1) (w':=W.alloc (.cells #[.int .u8 typ] 5)) (by simp [execOp,Act.eval,go_sem,e32b,e32]) (hK _ _ (fun d hd=>⟨fun x hx=>?_,fun e=>⟨W.heap.size,rfl,heap_alloc_new W _⟩⟩) ⟨⟨pw_cell_below hb c0,pw_cell_below hb c1,pw_cell_below hb c2,pw_cell_below hb c3,pw_cell_below hb c4,pw_cell_below hb c5⟩,below_step hSB hb⟩ hb);obtain rfl:33=d:=Option.some.inj hd;rw [g33] at hx;cases hx
   ·
    -- slot 34
    obtain ⟨g,e33,hg33⟩:=(hu 33 (by decide)).2 rfl;obtain ⟨⟨c0,c1,c2,c3,c4,c5⟩,hSB⟩:=hS;have hcv:=CV.out W g hg33;refine wp_of_run (v:=.string t8) (w':=W) (by simp [execOp,Act.eval,go_sem,e33,hcv,c0,c1,c2,c3,c4,c5]) (hK _ _ (vput g34 (by decide) _) ⟨⟨c0,c1,c2,c3,c4,c5⟩,hSB⟩ (Below.refl _ _))
   ·
    -- slot 35
    have e30:=(hu 30 (by decide)).1 _ g30;have e34:=(hu 34 (by decide)).1 _ g34;obtain ⟨⟨c0,c1,c2,c3,c4,c5⟩,hSB⟩:=hS;refine wp_of_run (v:=.string s8) (w':=W) (by simp [execOp,Act.eval,go_sem,e30,e34,q8,c0,c1,c2,c3,c4,c5]) (hK _ _ (vput g35 (by decide) _) ⟨⟨c0,c1,c2,c3,c4,c5⟩,hSB⟩ (Below.refl _ _))
   ·
    -- slot 36
    have e1:=(hu 1 (by decide)).1 _ g1;obtain ⟨⟨c0,c1,c2,c3,c4,c5⟩,hSB⟩:=hS;refine wp_of_run (v:=.pointer (some ⟨w.heap.size,3,none⟩)) (w':=W) (by simp [execOp,Act.eval,go_sem,e1,c0,c1,c2,c3,c4,c5]) (hK _ _ (vput g36 (by decide) _) ⟨⟨c0,c1,c2,c3,c4,c5⟩,hSB⟩ (Below.refl _ _))
   ·
    -- slot 37
    have e36:=(hu 36 (by decide)).1 _ g36;obtain ⟨⟨c0,c1,c2,c3,c4,c5⟩,hSB⟩:=hS;refine wp_of_run (v:=.string link) (w':=W) (by simp [execOp,Act.eval,go_sem,e36,c0,c1,c2,c3,c4,c5]) (hK _ _ (vput g37 (by decide) _) ⟨⟨c0,c1,c2,c3,c4,c5⟩,hSB⟩ (Below.refl _ _))
   ·
    -- slot 38
    have e37:=(hu 37 (by decide)).1 _ g37;obtain ⟨⟨c0,c1,c2,c3,c4,c5⟩,hSB⟩:=hS;have KS:=fun {U} (hb:Below W.heap.size W U)=>And.intro (pw_cell_below hb c0) (And.intro (pw_cell_below hb c1) (And.intro (pw_cell_below hb c2) (And.intro (pw_cell_below hb c3) (And.intro (pw_cell_below hb c4) (pw_cell_below hb c5)))));have hC:=(T2.out W);refine wp_of_enter (by simp [execOp,Act.eval,go_sem,e37]) hC ?_;rintro r W' ⟨rfl,hb⟩;exact ⟨_,rfl,hK _ _ (vput g38 (by decide) _) ⟨KS hb,below_step hSB hb⟩ hb⟩
   ·
    -- slot 39
    have e35:=(hu 35 (by decide)).1 _ g35;have e38:=(hu 38 (by decide)).1 _ g38;obtain ⟨⟨c0,c1,c2,c3,c4,c5⟩,hSB⟩:=hS;refine wp_of_run (v:=.string s9) (w':=W) (by simp [execOp,Act.eval,go_sem,e35,e38,q9,c0,c1,c2,c3,c4,c5]) (hK _ _ (vput g39 (by decide) _) ⟨⟨c0,c1,c2,c3,c4,c5⟩,hSB⟩ (Below.refl _ _))
   ·
    -- slot 40
    have e39:=(hu 39 (by decide)).1 _ g39;obtain ⟨⟨c0,c1,c2,c3,c4,c5⟩,hSB⟩:=hS;refine wp_of_run (v:=.string s10) (w':=W) (by simp [execOp,Act.eval,go_sem,e39,q10,c0,c1,c2,c3,c4,c5]) (hK _ _ (vput g40 (by decide) _) ⟨⟨c0,c1,c2,c3,c4,c5⟩,hSB⟩ (Below.refl _ _))
   ·
    -- slot 41
    obtain ⟨⟨c0,c1,c2,c3,c4,c5⟩,hSB⟩:=hS;have KS:=fun {U} (hb:Below W.heap.size W U)=>And.intro (pw_cell_below hb c0) (And.intro (pw_cell_below hb c1) (And.intro (pw_cell_below hb c2) (And.intro (pw_cell_below hb c3) (And.intro (pw_cell_below hb c4) (pw_cell_below hb c5)))));have hC:=(T3.out W);refine wp_of_enter (by simp [execOp,Act.eval,go_sem]) hC ?_;rintro r W' ⟨rfl,hb⟩;exact ⟨_,rfl,hK _ _ (vput g41 (by decide) _) ⟨KS hb,below_step hSB hb⟩ hb⟩
   ·
    -- slot 42
    have e40:=(hu 40 (by decide)).1 _ g40;have e41:=(hu 41 (by decide)).1 _ g41;obtain ⟨⟨c0,c1,c2,c3,c4,c5⟩,hSB⟩:=hS;refine wp_of_run (v:=.string s11) (w':=W) (by simp [execOp,Act.eval,go_sem,e40,e41,q11,c0,c1,c2,c3,c4,c5]) (hK _ _ (vput g42 (by decide) _) ⟨⟨c0,c1,c2,c3,c4,c5⟩,hSB⟩ (Below.refl _ _))
   ·
    -- slot 43
    obtain ⟨⟨c0,c1,c2,c3,c4,c5⟩,hSB⟩:=hS;have KS:=fun {U} (hb:Below W.heap.size W U)=>And.intro (pw_cell_below hb c0) (And.intro (pw_cell_below hb c1) (And.intro (pw_cell_below hb c2) (And.intro (pw_cell_below hb c3) (And.intro (pw_cell_below hb c4) (pw_cell_below hb c5)))));have hC:=(T3.out W);refine wp_of_enter (by simp [execOp,Act.eval,go_sem]) hC ?_;rintro r W' ⟨rfl,hb⟩;exact ⟨_,rfl,hK _ _ (vput g43 (by decide) _) ⟨KS hb,below_step hSB hb⟩ hb⟩
   ·
    -- slot 44
    have e42:=(hu 42 (by decide)).1 _ g42;have e43:=(hu 43 (by decide)).1 _ g43;obtain ⟨⟨c0,c1,c2,c3,c4,c5⟩,hSB⟩:=hS;refine wp_of_run (v:=.string s12) (w':=W) (by simp [execOp,Act.eval,go_sem,e42,e43,q12,c0,c1,c2,c3,c4,c5]) (hK _ _ (vput g44 (by decide) _) ⟨⟨c0,c1,c2,c3,c4,c5⟩,hSB⟩ (Below.refl _ _))
   ·
    -- slot 45
    obtain ⟨⟨c0,c1,c2,c3,c4,c5⟩,hSB⟩:=hS;have KS:=fun {U} (hb:Below W.heap.size W U)=>And.intro (pw_cell_below hb c0) (And.intro (pw_cell_below hb c1) (And.intro (pw_cell_below hb c2) (And.intro (pw_cell_below hb c3) (And.intro (pw_cell_below hb c4) (pw_cell_below hb c5)))));have hC:=(O2.out W);refine wp_of_enter (by simp [execOp,Act.eval,go_sem]) hC ?_;rintro r W' ⟨rfl,hb⟩;exact ⟨_,rfl,hK _ _ (vput g45 (by decide) _) ⟨KS hb,below_step hSB hb⟩ hb⟩
   ·
    -- slot 46
    have e44:=(hu 44 (by decide)).1 _ g44;have e45:=(hu 45 (by decide)).1 _ g45;obtain ⟨⟨c0,c1,c2,c3,c4,c5⟩,hSB⟩:=hS;refine wp_of_run (v:=.string s13) (w':=W) (by simp [execOp,Act.eval,go_sem,e44,e45,q13,c0,c1,c2,c3,c4,c5]) (hK _ _ (vput g46 (by decide) _) ⟨⟨c0,c1,c2,c3,c4,c5⟩,hSB⟩ (Below.refl _ _))
   ·
    -- slot 47
    obtain ⟨⟨c0,c1,c2,c3,c4,c5⟩,hSB⟩:=hS;have KS:=fun {U} (hb:Below W.heap.size W U)=>And.intro (pw_cell_below hb c0) (And.intro (pw_cell_below hb c1) (And.intro (pw_cell_below hb c2) (And.intro (pw_cell_below hb c3) (And.intro (pw_cell_below hb c4) (pw_cell_below hb c5)))));have hC:=(O2.out W);refine wp_of_enter (by simp [execOp,Act.eval,go_sem]) hC ?_;rintro r W' ⟨rfl,hb⟩;exact ⟨_,rfl,hK _ _ (vput g47 (by decide) _) ⟨KS hb,below_step hSB hb⟩ hb⟩
   ·
    -- slot 48
    have e46:=(hu 46 (by decide)).1 _ g46;have e47:=(hu 47 (by decide)).1 _ g47;obtain ⟨⟨c0,c1,c2,c3,c4,c5⟩,hSB⟩:=hS;refine wp_of_run (v:=.string s14) (w':=W) (by simp [execOp,Act.eval,go_sem,e46,e47,q14,c0,c1,c2,c3,c4,c5]) (hK _ _ (vput g48 (by decide) _) ⟨⟨c0,c1,c2,c3,c4,c5⟩,hSB⟩ (Below.refl _ _))
   ·
    -- slot 49
    have e1:=(hu 1 (by decide)).1 _ g1;obtain ⟨⟨c0,c1,c2,c3,c4,c5⟩,hSB⟩:=hS;refine wp_of_run (v:=.pointer (some ⟨w.heap.size,2,none⟩)) (w':=W) (by simp [execOp,Act.eval,go_sem,e1,c0,c1,c2,c3,c4,c5]) (hK _ _ (vput g49 (by decide) _) ⟨⟨c0,c1,c2,c3,c4,c5⟩,hSB⟩ (Below.refl _ _))
   ·
    -- slot 50
    have e49:=(hu 49 (by decide)).1 _ g49;obtain ⟨⟨c0,c1,c2,c3,c4,c5⟩,hSB⟩:=hS;refine wp_of_run (v:=.string pre) (w':=W) (by simp [execOp,Act.eval,go_sem,e49,c0,c1,c2,c3,c4,c5]) (hK _ _ (vput g50 (by decide) _) ⟨⟨c0,c1,c2,c3,c4,c5⟩,hSB⟩ (Below.refl _ _))
   ·
    -- slot 51
    have e50:=(hu 50 (by decide)).1 _ g50;obtain ⟨⟨c0,c1,c2,c3,c4,c5⟩,hSB⟩:=hS;have KS:=fun {U} (hb:Below W.heap.size W U)=>And.intro (pw_cell_below hb c0) (And.intro (pw_cell_below hb c1) (And.intro (pw_cell_below hb c2) (And.intro (pw_cell_below hb c3) (And.intro (pw_cell_below hb c4) (pw_cell_below hb c5)))));have hC:=(T4.out W);refine wp_of_enter (by simp [execOp,Act.eval,go_sem,e50]) hC ?_;rintro r W' ⟨rfl,hb⟩;exact ⟨_,rfl,hK _ _ (vput g51 (by decide) _) ⟨KS hb,below_step hSB hb⟩ hb⟩
   ·
    -- slot 52
    have e48:=(hu 48 (by decide)).1 _ g48;have e51:=(hu 51 (by decide)).1 _ g51;obtain ⟨⟨c0,c1,c2,c3,c4,c5⟩,hSB⟩:=hS;refine wp_of_run (v:=.string s15) (w':=W) (by simp [execOp,Act.eval,go_sem,e48,e51,q15,c0,c1,c2,c3,c4,c5]) (hK _ _ (vput g52 (by decide) _) ⟨⟨c0,c1,c2,c3,c4,c5⟩,hSB⟩ (Below.refl _ _))
   ·
    -- slot 53
    obtain ⟨⟨c0,c1,c2,c3,c4,c5⟩,hSB⟩:=hS;have KS:=fun {U} (hb:Below W.heap.size W U)=>And.intro (pw_cell_below hb c0) (And.intro (pw_cell_below hb c1) (And.intro (pw_cell_below hb c2) (And.intro (pw_cell_below hb c3) (And.intro (pw_cell_below hb c4) (pw_cell_below hb c5)))));have hC:=(T5.out W);refine wp_of_enter (by simp [execOp,Act.eval,go_sem]) hC ?_;rintro r W' ⟨rfl,hb⟩;exact ⟨_,rfl,hK _ _ (vput g53 (by decide) _) ⟨KS hb,below_step hSB hb⟩ hb⟩
   ·
    -- slot 54
    have e52:=(hu 52 (by decide)).1 _ g52;have e53:=(hu 53 (by decide)).1 _ g53;obtain ⟨⟨c0,c1,c2,c3,c4,c5⟩,hSB⟩:=hS;refine wp_of_run (v:=.string s16) (w':=W) (by simp [execOp,Act.eval,go_sem,e52,e53,q16,c0,c1,c2,c3,c4,c5]) (hK _ _ (vput g54 (by decide) _) ⟨⟨c0,c1,c2,c3,c4,c5⟩,hSB⟩ (Below.refl _ _))
   ·
    -- slot 5
    have e54:=(hu 54 (by decide)).1 _ g54;obtain ⟨⟨c0,c1,c2,c3,c4,c5⟩,hSB⟩:=hS;refine wp_of_run (v:=.string s16) (w':=W) (by simp [execOp,Act.eval,go_sem,e54,c0,c1,c2,c3,c4,c5]) (hK _ _ (vput g5 (by decide) _) ⟨⟨c0,c1,c2,c3,c4,c5⟩,hSB⟩ (Below.refl _ _))
  ·
   intro a W hsz hdf hv hS;have h5:=(hv 42 _ 5 rfl rfl).1 _ g5;have ha:a=⟨a.tmps,[]⟩:=by cases a;simp only [] at hdf;rw [hdf]
   have h62:=arr62 a.tmps (by simpa using hsz);have h5:a.tmps.getD 5 undef=.string s16:=h5;rw [h5] at h62;rw [ha,h62]
   (repeat apply Exists.intro)
   exact ⟨rfl,hS.2⟩
 intro u0 u1 u2 u3 u4 u6 u7 u8 u9 u10 u11 u12 u13 u14 u15 u16 u17 u18 u19 u20 u21 u22 u23 u24 u25 u26 u27 u28 u29 u30 u31 u32 u33 u34 u35 u36 u37 u38 u39 u40 u41 u42 u43 u44 u45 u46 u47 u48 u49 u50 u51 u52 u53 u54 u55 u56 u57 u58 u59 u60 u61 w2 hb2;have B2:=hid (below_step B1.out hb2);have kb:=print_bytes (P:=Tryz.prog) 9 30 5 Tryz.underlying9 Tryz.underlying30 Tryz.underlying5 s16 w2;have C3:Kd.C (Kd.int .u8) (Lib.bytesWorld w2 5 s16) (some ⟨w2.heap.size,0,none⟩) 512 (bytesOf s16):=by have h1:=bytes_reads w2 5 s16 (by omega);rw [y16] at h1;exact Kd.C_of_reads (d:=(0:Int)) h1
 have hcap:=grownCap_ge w2 s16.size 0 5;have hbw:=bytes_below (Below.refl w2.heap.size w2) (Nat.le_refl _) 5 s16;rw [y16] at kb hcap;rw [RS.out] at C3;obtain ⟨W3,hW3⟩:∃ x,Lib.bytesWorld w2 5 s16=x:=⟨_,rfl⟩;obtain ⟨c3,hc3⟩:∃ x,grownCap w2 512 0 5=x:=⟨_,rfl⟩;rw [hW3] at kb C3 hbw;rw [hc3] at kb hcap;have SC:=hid (ZRb.seal_calls ⟨w2.heap.size,0,none⟩ c3 _ W3 C3 hcap RB.out);have B3:=hid (below_step B2.out hbw);rw [RE.out] at SC;clear hb2 C3 hcap hbw hW3 hc3
 go_wp2_with fail
 refine SC.out.mono ?_;rintro r w4 ⟨g,cap,rfl,ho,hb4⟩;have HO:=hid (ho.lower B3.out.size);have B4:=hid (below_step B3.out hb4);clear ho hb4
 go_wp2_with fail
 go_ret2
 exact ⟨g,cap,rfl,HO.out,B4.out⟩
end ZRlC
end Go.Proofs.YteikiojmcipkmaaGreatDoor
