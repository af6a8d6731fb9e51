/- Parts of the proof, gathered by a program: what calls of the functions answer, and what follows in plain lists. Conditions: those that each theorem states. -/
import Derived.Test.YteikiojmcipkmaaGreatDoorMR19
import Derived.Test.YteikiojmcipkmaaGreatDoorMR20
set_option linter.unusedVariables false
set_option linter.unusedSimpArgs false
namespace Go.Proofs.YteikiojmcipkmaaGreatDoor
open Go.Lib (hid)
open Go.RowKit YteikiojmcipkmaaGreatDoorW.PrintWords YteikiojmcipkmaaGreatDoorW.PrintLast YteikiojmcipkmaaGreatDoorW.PrintMore Oct ZBase ZGlob ZMo ZRec ZFmt
set_option maxRecDepth 100000
section
namespace ZFirst
open ZSize ZNum
open ZCPar (c_in index_miss)
open Go.Lib (decDigits)
def frz (W:World) (u:Value):World:=(W.alloc (.cells #[u] 5)).freeze ⟨W.heap.size,1,none⟩ 1
theorem conv30 (u:Value) (W:World):(convert 30 30 (.slice (some ⟨W.heap.size,0,none⟩) 1 1)).run Tryz.prog (W.alloc (.cells #[u] 5))=.ok (.slice (some ⟨W.heap.size,0,none⟩) 1 1) (frz W u):=by
 have h:=heap_alloc_new W (.cells #[u] 5);have hs:(W.alloc (.cells #[u] 5)).shape? W.heap.size=some (5,1):=by unfold World.shape?;rw [h];rfl
 simp [convert,run_underlying Tryz.underlying30,run_underlying Tryz.underlying5,markStringish,shape,Sem.run,hs,frz,freeze]
theorem frz_heap (W:World) (u:Value):(frz W u).heap[W.heap.size]?=some (.cells #[u] 5 (1,2)):=by have h:=heap_alloc_new W (.cells #[u] 5);unfold frz World.freeze;rw [if_neg (by decide)];show ((W.alloc (.cells #[u] 5)).heap.modify W.heap.size _)[W.heap.size]?=_;rw [Array.getElem?_modify,if_pos rfl,h];rfl
theorem frz_cell (W:World) (u:Value):(frz W u).cell? ⟨W.heap.size,0,none⟩=some u:=by simp [World.cell?,frz_heap]
theorem frz_below {B:Nat} {w W:World} (h:Below B w W) (hB:B≤W.heap.size) (u:Value):Below B w (frz W u):=Lib.below_freeze (h.alloc hB _) hB 1
theorem frz_size (W:World) (u:Value):(frz W u).heap.size=W.heap.size+1:=by unfold frz World.freeze;simp
theorem cut1 (ad:Addr) (n c b:Nat) (pre:List UInt8) (sep:UInt8) (l post:List Int) (w:World) (hr:Kd.C (Kd.int .u8) w (some ad) n l) (hl:∀ x∈l,0≤x∧x < 256) (he:l=pre.map (fun u=>(u.toNat:Int))++(sep.toNat:Int) :: post) (hp:sep∉pre) (hc:n≤c) (h1:n≤1000000) (hG:Gl w) (hz:w.cell? ⟨b,0,none⟩=some (.int .u8 (sep.toNat:Int))) : Calls Tryz.prog 144 #[.slice (some ad) n c,.slice (some ⟨b,0,none⟩) 1 1] w fun e w'=>e=.returned (.tuple #[.slice (some ad) pre.length c,Lib.fromV (some ad) n c (pre.length+1),.bool true])∧Drawn0 w w':=by
 obtain ⟨m,hm⟩:=hG.max;have hlen:=Kd.C_len hr;have hn:n=pre.length+1+post.length:=by rw [← hlen,he];simp;omega
 have hs:=sep.toNat_lt;refine (Tryz.bytes_Cut_all (some ad) (some ⟨b,0,none⟩) n c 1 1 l [(sep.toNat:Int)] m w hlen rfl hl (by simp;omega) (c_in hr) (fun _=>⟨b,0,rfl,fun i hi=>?_⟩) (fun e=>by cases e) hc (by omega) (by decide) hm).mono ?_
 ·
  obtain rfl:i=0:=by omega
  exact hz
 ·
  rintro e w' ⟨rfl,q,rfl⟩;refine ⟨?_,⟨⟨q,rfl⟩⟩⟩;have e1:Lib.bytesOf l=pre++sep :: Lib.bytesOf post:=by
   rw [he];simp only [Lib.bytesOf,List.map_append,List.map_cons,List.map_map];congr 1
   ·
    conv=>rhs;rw [← List.map_id pre]
    apply List.map_congr_left;intro u _;simp
   ·simp
  have e2:Lib.bytesOf [(sep.toNat:Int)]=[sep]:=by simp [Lib.bytesOf]
  rw [e1,e2,Lib.index_one,index_miss _ _ ((ZPlanOk.index_neg _ _).2 hp)];unfold Lib.cutV;rw [if_pos (by omega),Int.toNat_natCast]
theorem conv_part (ad:Addr) (n c:Nat) (l:List Int) (s:ByteArray) (w:World) (hr:Kd.C (Kd.int .u8) w (some ad) n l) (hp:∃ t,l=bytesOf s++t):(convert 30 9 (.slice (some ad) s.size c)).run Tryz.prog w=.ok (.string s) w:=by
 obtain ⟨t,rfl⟩:=hp;have hlen:=Kd.C_len hr;have h2:Kd.C (Kd.int .u8) w (some ad) (bytesOf s++t).length (bytesOf s++t):=by rw [hlen];exact hr
 have h3:=Kd.C_take (m:=s.size) h2 (by rw [List.length_append,bytesOf_length];omega);rw [List.take_left' (bytesOf_length s),bytesOf_length] at h3;have:=Kd.C_string (P:=Tryz.prog) (c:=c) Tryz.underlying30 Tryz.underlying5 Tryz.underlying9 h3;rw [ZCPar.str_back] at this;exact this
theorem rec_bytes (r:Rec) (rest:List Int):recB r++rest=(decDigits (recSz r)).map (fun u=>(u.toNat:Int))++((32:UInt8).toNat:Int) :: (bytesOf r.key++61 :: (bytesOf r.val++10 :: rest)):=by unfold recB decB;simp
theorem dec_len (r:Rec) (h:Rec.rest r < 1000000):(decDigits (recSz r)).length=digN (Rec.rest r)∧recSz r=Rec.rest r+digN (Rec.rest r)∧digN (Rec.rest r)≤7∧1≤digN (Rec.rest r):=by obtain ⟨h1,h2,h3⟩:=digN_spec _ h;refine ⟨?_,rfl,h2,h1⟩;rw [Go.Lib.decDigits_length];exact h3
theorem no_sp (u:Nat):(32:UInt8)∉decDigits u:=by intro h;have:=(dec_digit u).1 _ h;unfold digit at this;have e:(32:UInt8).toNat=32:=rfl;omega
set_option maxHeartbeats 4000000 in
theorem first_calls (b o:Nat) (n c:Nat) (r:Rec) (rest:List Int) (w:World) (hr:Kd.C (Kd.int .u8) w (some ⟨b,o,none⟩) n (recB r++rest)) (hl:∀ x∈recB r++rest,0≤x∧x < 256) (hc:n≤c) (h1:n≤262144) (hk:(61:UInt8)∉r.key.data.toList) (hv:Rec.rest r≤65547) (hG:Gl w): Calls Tryz.prog 146 #[.slice (some ⟨b,o,none⟩) n c] w fun e w'=>e=.returned (.tuple #[.agg #[.string r.key,.string r.val],.int .i64 (recSz r),.int .i64 0])∧Below w.heap.size w w':=by
 obtain ⟨dl,ds,d7,d1⟩:=dec_len r (by omega);have C1:=hid (fun W (h1:Below w.heap.size w W) b2 hz=>cut1 ⟨b,o,none⟩ n c b2 (decDigits (recSz r)) 32 (recB r++rest) _ W (Kd.C_below hr h1) hl (rec_bytes r rest) (no_sp _) hc (by omega) (hG.below h1) hz);have HR:=hid (And.intro hr hl);have hsz:(w.alloc (.cells #[.string ⟨#[]⟩,.string ⟨#[]⟩] 125)).heap.size=w.heap.size+1:=by simp
 have cv1:=conv30 (.int .u8 32) (w.alloc (.cells #[.string ⟨#[]⟩,.string ⟨#[]⟩] 125));have cl1:=frz_cell (w.alloc (.cells #[.string ⟨#[]⟩,.string ⟨#[]⟩] 125)) (.int .u8 32);have B1:Hid (Below w.heap.size w (frz (w.alloc (.cells #[.string ⟨#[]⟩,.string ⟨#[]⟩] 125)) (.int .u8 32))):=hid (frz_below (below_alloc (Below.refl _ _) _) (by omega) _);have O1:Hid ((frz (w.alloc (.cells #[.string ⟨#[]⟩,.string ⟨#[]⟩] 125)) (.int .u8 32)).heap[w.heap.size]?=some (.cells #[.string ⟨#[]⟩,.string ⟨#[]⟩] 125 (0,0))∧(frz (w.alloc (.cells #[.string ⟨#[]⟩,.string ⟨#[]⟩] 125)) (.int .u8 32)).heap.size=w.heap.size+2):=hid (by
  refine ⟨?_,by rw [frz_size,hsz]⟩;have b:=frz_below (B:=(w.alloc (.cells #[.string ⟨#[]⟩,.string ⟨#[]⟩] 125)).heap.size) (Below.refl _ (w.alloc (.cells #[.string ⟨#[]⟩,.string ⟨#[]⟩] 125))) (Nat.le_refl _) (.int .u8 32);exact (b.block _ (by omega)).trans (heap_alloc_new _ _))
 rw [hsz] at cv1 cl1;obtain ⟨W1,hW1⟩:∃ X,frz (w.alloc (.cells #[.string ⟨#[]⟩,.string ⟨#[]⟩] 125)) (.int .u8 32)=X:=⟨_,rfl⟩;rw [hW1] at cv1 cl1 B1 O1;have C2:=hid (C1.out W1 B1.out (w.heap.size+1) cl1);have GW:=hid hG;clear hr hl hW1 C1 hsz cl1;have DD:=hid (And.intro dl (And.intro ds (And.intro d7 d1)));obtain ⟨dn,hdn⟩:∃ d,(decDigits (recSz r)).length=d:=⟨_,rfl⟩;obtain ⟨sz,hsz2⟩:∃ d,recSz r=d:=⟨_,rfl⟩;have HDN:=hid (And.intro hdn hsz2);rw [hdn] at C2;rw [hsz2];clear dl ds d7 d1;go_enter Tryz.func146,Tryz.ntmps146
 go_wp2_with fail
 refine C2.out.mono ?_;rintro e w2 ⟨rfl,hd⟩;have B2:=hid (below_step B1.out (hd.below));have O2:=hid ((hd.below.block w.heap.size (by rw [O1.out.2];omega)).trans O1.out.1);clear hd C2;have F:=hid (show dn=digN (Rec.rest r)∧sz=Rec.rest r+digN (Rec.rest r)∧dn≤7∧1≤dn from by obtain ⟨dl,ds,d7,d1⟩:=DD.out;obtain ⟨hdn,hsz2⟩:=HDN.out;rw [hdn] at dl;rw [hsz2] at ds;omega)
 have hn:n=sz+rest.length:=by have h1:=Kd.C_len HR.out.1;have h2:=recB_len r (by omega);have h3:=HDN.out.2;rw [List.length_append] at h1;omega
 obtain ⟨ds,hds⟩:∃ s:ByteArray,s.data.toList=decDigits (recSz r):=⟨⟨(decDigits (recSz r)).toArray⟩,by simp⟩;have hdz:ds.size=dn:=by rw [← HDN.out.1,← hds];exact Array.length_toList.symm
 have cvs:(convert 30 9 (.slice (some ⟨b,o,none⟩) dn c)).run Tryz.prog w2=.ok (.string ds) w2:=by rw [← hdz];exact conv_part ⟨b,o,none⟩ n c _ ds w2 (Kd.C_below HR.out.1 B2.out) ⟨((32:UInt8).toNat:Int) :: (bytesOf r.key++61 :: (bytesOf r.val++10 :: rest)),by rw [rec_bytes,← hds];rfl⟩
 have szr:3≤Rec.rest r:=by unfold Rec.rest;omega
 have z1:(sz:Int)≠0:=by have:=F.out;omega
 have z2:((sz:Int) == 0)=false:=beq_eq_false_iff_ne.2 z1;have z3:¬ (sz:Int) > (n:Int):=by omega
 have NC:=hid (fun W=>number_calls ds sz 999999 (by rw [hds,HDN.out.2]) (by have:=F.out;omega) (by have:=F.out;omega) (by have:=F.out;omega) (by have:=F.out;omega) W);have HDS:=hid (And.intro hds hdz);have SR:=hid (And.intro szr hn);clear hds hdz szr
 go_wp2_with fail
 refine (NC.out _).mono ?_;rintro e w3 ⟨rfl,hb⟩;have B3:=hid (below_step B2.out hb);have O3:=hid ((hb.block w.heap.size (Array.getElem?_eq_some_iff.1 O2.out).1).trans O2.out);clear hb NC cvs;have cv:=conv30;have hk1:sz≤c:=by omega
 have CS:Hid (Calls Tryz.prog 166 #[.slice (some ⟨b,o,none⟩) sz c,.slice (some ⟨w3.heap.size,0,none⟩) 1 1] (frz w3 (.int .u8 10)) fun e w'=>e=.returned (.tuple #[.slice (some ⟨b,o,none⟩) (sz - 1) c,.bool true])∧w'=frz w3 (.int .u8 10)):=hid (by
  have hR:=HR.out.1;have hrl:(recB r).length=sz:=by rw [recB_len r (by omega),HDN.out.2]
  have hR2:Kd.C (Kd.int .u8) w (some ⟨b,o,none⟩) (recB r++rest).length (recB r++rest):=by rw [Kd.C_len hR];exact hR
  have hT:=Kd.C_take (m:=sz) hR2 (by rw [List.length_append];omega);rw [List.take_left' hrl,hrl] at hT;have hT2:=Kd.C_below hT (frz_below B3.out B3.out.size (.int .u8 10));have h:=Tryz.bytes_CutSuffix_all (some ⟨b,o,none⟩) (some ⟨w3.heap.size,0,none⟩) sz c 1 1 (recB r) [10] (frz w3 (.int .u8 10)) hrl rfl (by omega) (by omega) (c_in hT2) (fun _=>⟨w3.heap.size,0,rfl,fun i hi=>by
   obtain rfl:i=0:=by omega
   exact frz_cell w3 _⟩)
  have hsuf:Lib.hasSuffix (Lib.bytesOf (recB r)) (Lib.bytesOf [10])=true:=by unfold Lib.hasSuffix;rw [List.isSuffixOf_iff_suffix];refine ⟨Lib.bytesOf (decB (recSz r)++(32 :: (bytesOf r.key++(61 :: bytesOf r.val)))),?_⟩;unfold recB;simp [Lib.bytesOf]
  have ht:Lib.trimSuffixV (some ⟨b,o,none⟩) sz c (recB r) [10]=.slice (some ⟨b,o,none⟩) (sz - 1) c:=by show Lib.bytesTrimSuffix b o sz c (recB r) [10]=_;unfold Lib.bytesTrimSuffix;rw [if_pos hsuf];rfl
  rw [ht,hsuf] at h;exact h)
 obtain ⟨m,hm⟩:∃ m,sz - 1=m:=⟨_,rfl⟩;have hm2:sz=m+1:=by have:=F.out;omega
 rw [hm] at CS;have HM:=hid hm2;have B4:=hid (frz_below B3.out B3.out.size (.int .u8 10));have O4:Hid ((frz w3 (.int .u8 10)).heap[w.heap.size]?=some (.cells #[.string ⟨#[]⟩,.string ⟨#[]⟩] 125 (0,0))):=hid (((frz_below (Below.refl w3.heap.size w3) (Nat.le_refl _) (.int .u8 10)).block _ (Array.getElem?_eq_some_iff.1 O3.out).1).trans O3.out);have m1:¬ (m:Int)≤(dn:Int):=by have:=F.out;have:=SR.out.1;omega
 have m2:dn+1≤m:=by have:=F.out;have:=SR.out.1;omega
 have m3:m≤c:=by omega
 have m4:dn≤7:=F.out.2.2.1;have m5:¬ c=dn+1:=by omega
 clear hm hm2
 go_wp2_with fail
 refine CS.out.mono ?_;rintro e w4 ⟨rfl,hw4⟩;rw [← hw4] at B4 O4;clear hw4 CS;obtain ⟨t,ht⟩:∃ t:ByteArray,t.data.toList=r.key.data.toList++61 :: r.val.data.toList:=⟨⟨(r.key.data.toList++61 :: r.val.data.toList).toArray⟩,by simp⟩;have hts:t.size=m - (dn+1):=by have h2:t.size=t.data.toList.length:=Array.length_toList.symm;have h3:r.key.size=r.key.data.toList.length:=Array.length_toList.symm;have h4:r.val.size=r.val.data.toList.length:=Array.length_toList.symm;have h5:=F.out;have h6:=HM.out;rw [ht,List.length_append,List.length_cons] at h2;unfold Rec.rest at h5;omega
 have cvs2:(convert 30 9 (.slice (some ⟨b,o+(dn+1),none⟩) (m - (dn+1)) (c - (dn+1)))).run Tryz.prog w4=.ok (.string t) w4:=by
  have hR:=Kd.C_below HR.out.1 B4.out;have hR2:Kd.C (Kd.int .u8) w4 (some ⟨b,o,none⟩) (recB r++rest).length (recB r++rest):=by rw [Kd.C_len hR];exact hR
  have hD:=Kd.C_drop (m:=dn+1) (c:=c) hR2 (by have:=HM.out;rw [Kd.C_len hR];omega) (by rw [Kd.C_len hR];omega);rw [if_neg m5] at hD;have e1:(some (⟨b,o,none⟩:Addr)).map (·.add ((dn+1) * (Kd.int .u8).sz))=some ⟨b,o+(dn+1),none⟩:=by have:(dn+1) * (Kd.int .u8).sz=dn+1:=Nat.mul_one _;rw [this];rfl
  have e2:(recB r++rest).drop (dn+1)=bytesOf t++10 :: rest:=by
   have q:recB r++rest=(decB (recSz r)++[32])++(bytesOf t++10 :: rest):=by
    have q2:bytesOf t=bytesOf r.key++61 :: bytesOf r.val:=by unfold bytesOf;rw [ht];simp
    rw [q2];unfold recB;simp
   rw [q,List.drop_left'];have:=HDN.out.1;unfold decB;simp [this]
  rw [e1,e2] at hD;have:=conv_part _ _ (c - (dn+1)) _ t w4 hD ⟨_,rfl⟩;rw [hts] at this;exact this
 have SC:Hid (Calls Tryz.prog 167 #[.string t,.string ⟨#[61]⟩] w4 fun e w'=>e=.returned (.tuple #[.string r.key,.string r.val,.bool true])∧Drawn0 w4 w'):=hid (by
  obtain ⟨mx,hmx⟩:=(GW.out.below B4.out).max;refine (Tryz.strings_Cut t ⟨#[61]⟩ mx w4 (by have:=HM.out;omega) hmx).mono ?_;rintro e w' ⟨rfl,q,rfl⟩;refine ⟨?_,⟨⟨q,rfl⟩⟩⟩;have e3:Lib.cut t.data.toList [61]=(r.key.data.toList,r.val.data.toList,true):=by
   have hi:Lib.index (r.key.data.toList++61 :: r.val.data.toList) [61]=r.key.data.toList.length:=by rw [Lib.index_one,index_miss _ _ ((ZPlanOk.index_neg _ _).2 hk)]
   rw [ht];unfold Lib.cut;rw [hi,if_pos (by omega),Int.toNat_natCast,List.take_left' rfl];congr 2;rw [show r.key.data.toList++61 :: r.val.data.toList=(r.key.data.toList++[61])++r.val.data.toList by simp,List.drop_left' (by simp)]
  show Ending.returned (.tuple #[.string ⟨(Lib.cut t.data.toList [61]).1.toArray⟩,.string ⟨(Lib.cut t.data.toList [61]).2.1.toArray⟩,.bool (Lib.cut t.data.toList [61]).2.2])=_;rw [e3])
 clear ht hts
 go_wp2_with fail
 refine SC.out.mono ?_;rintro e w5 ⟨rfl,hd⟩;have B5:=hid (below_step B4.out hd.below);have O5:=hid ((hd.below.block w.heap.size (Array.getElem?_eq_some_iff.1 O4.out).1).trans O4.out);clear hd SC cvs2;have SZ:=hid (fun W hW=>ZSize.size_calls r (by omega) W hW);have HZ:=hid HDN.out.2;obtain ⟨key,val⟩:=r;have SZ2:=hid (SZ.out (w5.alloc (.cells #[.string key,.string val] 125)) (GW.out.below (B5.out.alloc B5.out.size _)));rw [HZ.out] at SZ2;have B6:=hid (B5.out.alloc B5.out.size (.cells #[.string key,.string val] 125));have O6:=hid ((heap_alloc_old w5 (.cells #[.string key,.string val] 125) (Array.getElem?_eq_some_iff.1 O5.out).1).trans O5.out);have X6:=hid (heap_alloc_new w5 (.cells #[.string key,.string val] 125))
 go_wp2_with fail
 refine SZ2.out.mono ?_;rintro e w6 ⟨rfl,hb⟩;have B7:=hid (below_step B6.out hb);have O7:=(hb.block w.heap.size (Array.getElem?_eq_some_iff.1 O6.out).1).trans O6.out;have X7:=(hb.block w5.heap.size (Array.getElem?_eq_some_iff.1 X6.out).1).trans X6.out;have x0:w6.cell? ⟨w5.heap.size,0,none⟩=some (.string key):=by simp [World.cell?,X7]
 have x1:w6.cell? ⟨w5.heap.size,1,none⟩=some (.string val):=by simp [World.cell?,X7]
 have y0:w6.cell? ⟨w.heap.size,0,none⟩=some (.string ⟨#[]⟩):=by simp [World.cell?,O7]
 have y1:w6.cell? ⟨w.heap.size,1,none⟩=some (.string ⟨#[]⟩):=by simp [World.cell?,O7]
 have z0:w6.frozen? ⟨w.heap.size,0,none⟩=false:=by simp [World.frozen?,O7]
 have z1':w6.frozen? ⟨w.heap.size,1,none⟩=false:=by simp [World.frozen?,O7]
 have zz:((sz:Int) != (sz:Int))=false:=by simp
 clear hb SZ2 O7 X7
 go_wp2_with fail
 refine bodyPost_ret (v:=.tuple #[.agg #[.string key,.string val],.int .i64 sz,.int .i64 0]) (by simp [results,Tryz.results146,go_sem,y0,y1,z0,z1']) rfl ⟨rfl,?_⟩
 iterate 2 (refine Below.setCell ?_ (by show w.heap.size≤w.heap.size;omega) _)
 exact B7.out
end ZFirst
namespace ZPParse
open ZSize ZFit ZPlan ZFirst
theorem fmtB_split (l:List Rec) (j:Nat) (r:Rec) (h:l[j]?=some r):fmtB l=fmtB (l.take j)++(recB r++fmtB (l.drop (j+1))):=by
 have h1:=(List.getElem?_eq_some_iff.1 h).1;have e:l=l.take j++r :: l.drop (j+1):=by have:=List.take_append_drop j l;rw [List.drop_eq_getElem_cons h1,(List.getElem?_eq_some_iff.1 h).2] at this;exact this.symm
 conv=>lhs;rw [e]
 simp [fmtB]
theorem fmtB_take (l:List Rec) (j:Nat) (r:Rec) (h:l[j]?=some r):fmtB (l.take (j+1))=fmtB (l.take j)++recB r:=by rw [List.take_add_one,h];simp [fmtB]
theorem key_eq (r:Rec) (h:r.key=sLink∨r.key=sPath):(61:UInt8)∉r.key.data.toList:=by rcases h with h | h <;> rw [h] <;> decide
theorem rec_below {w w1:World} {base:Nat} {v:Value} {l:List Rec} (h:RecRow w base v l) (hb:Below w.heap.size w w1):RecRow w1 base v l:=h.upto fun k _ hk=>hb.block k hk
set_option maxHeartbeats 8000000 in
theorem parse_calls (b o n c:Nat) (l:List Rec) (hl:RecsOk l) (hn3:l.length≤3) (w:World) (hr:Kd.C (Kd.int .u8) w (some ⟨b,o,none⟩) n (fmtB l)) (hrg:∀ x∈fmtB l,0≤x∧x < 256) (hc:n≤c) (h1:n≤262144) (hG:Gl w): Calls Tryz.prog 114 #[.slice (some ⟨b,o,none⟩) n c] w fun e w'=>∃ v,e=.returned (.tuple #[v,.int .i64 n,.int .i64 0])∧RecRow w' w.heap.size v l∧Below w.heap.size w w':=by
 have hlen:=Kd.C_len hr;have HR:=hid (And.intro hr hrg);have HG:=hid hG;have HL:=hid hl;have HLEN:=hid hlen;have CC:=hid ZRec.check_calls;have FC:=hid first_calls;have hgt:¬ (n:Int) > 262144:=by omega
 have S0:Hid (RecRow w w.heap.size (.slice none 0 0) (l.take 0)∧Below w.heap.size w w):=hid ⟨Kd.R_nil _ _ _ _ _,Below.refl _ _⟩;clear hr hrg hG hl hlen;go_enter Tryz.func114,Tryz.ntmps114
 go_wp2_with fail
 go_loopw [5,6] (fun v i wr=>∃ j k:Nat,j≤l.length∧k≤n∧i=.int .i64 k∧Hid (k=(fmtB (l.take j)).length)∧Hid (RecRow wr w.heap.size v (l.take j)∧Below w.heap.size w wr)) (fun _ i _=>n - (intOf i).toNat)
 case atStart=>exact ⟨0,0,Nat.zero_le _,Nat.zero_le _,rfl,hid rfl,S0⟩
 case round =>
  clear S0;obtain ⟨j,k,hj,hkn,rfl,HK,HS⟩:=hrel;by_cases hlt:k < n
  ·
   have hltz:(k:Int) < (n:Int):=by omega
   have hjl:j < l.length:=by refine Nat.lt_of_le_of_ne hj fun e=>?_;have h2:=HK.out;have h3:=HLEN.out;rw [e,List.take_length] at h2;omega
   obtain ⟨r,hrr⟩:∃ r,l[j]?=some r:=⟨_,List.getElem?_eq_getElem hjl⟩;have hm:r∈l:=List.mem_of_getElem? hrr;have hck:¬ c=k:=by omega
   obtain ⟨A,cc,rfl⟩:=Kd.R_slice HS.out.1;have htl:(l.take j).length=j:=by simp;omega
   rw [htl] at HS ⊢;have hkey:=HL.out.key _ hm;have hval:=HL.out.val _ hm;have hrest:=HL.out.rest hm;have hRD:Kd.C (Kd.int .u8) wr (some ⟨b,o+k,none⟩) (n - k) (recB r++fmtB (l.drop (j+1))):=by
    have hR:=Kd.C_below HR.out.1 HS.out.2;have hR2:Kd.C (Kd.int .u8) wr (some ⟨b,o,none⟩) (fmtB l).length (fmtB l):=by rw [HLEN.out];exact hR
    have hD:=Kd.C_drop (m:=k) (c:=c) hR2 (by rw [HLEN.out];exact hkn) (by rw [HLEN.out];exact hc);rw [if_neg hck] at hD;have e1:(some (⟨b,o,none⟩:Addr)).map (·.add (k * (Kd.int .u8).sz))=some ⟨b,o+k,none⟩:=by have:k * (Kd.int .u8).sz=k:=Nat.mul_one _;rw [this];exact congrArg some (Addr.add_lit b o k)
    have e2:(fmtB l).drop k=recB r++fmtB (l.drop (j+1)):=by rw [fmtB_split l j r hrr,HK.out,List.drop_left' rfl]
    rw [e1,List.length_drop,HLEN.out,e2] at hD;exact hD
   have F1:=hid (FC.out b (o+k) (n - k) (c - k) r (fmtB (l.drop (j+1))) wr hRD (fun x hx=>HR.out.2 x (by rw [fmtB_split l j r hrr];exact List.mem_append_right _ hx)) (by omega) (by omega) (key_eq r hkey) hrest (HG.out.below HS.out.2));have HV:=hid (And.intro hrr (And.intro hkey (And.intro hval hrest)));have SZ:Hid (recSz r≤70000∧(k+recSz r≤n)∧k+recSz r=(fmtB (l.take (j+1))).length∧1≤recSz r):=hid (by
    have h2:=digN_spec (Rec.rest r) (by omega);have h3:=recB_len r (by omega);have h4:=Kd.C_len hRD;rw [List.length_append,h3] at h4;have h5:recSz r=Rec.rest r+digN (Rec.rest r):=rfl;refine ⟨by omega,by omega,?_,by omega⟩;rw [fmtB_take l j r hrr,List.length_append,h3,HK.out])
   clear hRD hkey hval hrest hrr hm htl;obtain ⟨key,val⟩:=r;obtain ⟨sz,hsz⟩:∃ q,recSz ⟨key,val⟩=q:=⟨_,rfl⟩;rw [hsz] at F1 SZ;dsimp only at F1;clear hsz;obtain ⟨s1,s2,s3,s4⟩:=SZ.out;clear s3
   go_wp2_with fail
   refine F1.out.mono ?_;rintro e w2 ⟨rfl,hb⟩;have B2:=hid hb;clear hb F1
   go_wp2_with fail
   have C1:=hid (CC.out key val HV.out.2.1 (w2.alloc (.cells #[.string key,.string val] 125)) (HG.out.below (below_step HS.out.2 (B2.out.alloc B2.out.size _))));refine C1.out.mono ?_;rintro e w3 ⟨x,rfl,hx,hb⟩;have hx0:=hx.2 HV.out.2.2.1;subst hx0;have B3:=hid (below_step B2.out (after1 hb));have X3:=hid ((hb.block _ (by simp)).trans (heap_alloc_new w2 (.cells #[.string key,.string val] 125)));obtain ⟨d0,d1⟩:w3.cell? ⟨w2.heap.size,0,none⟩=some (.string key)∧w3.cell? ⟨w2.heap.size,1,none⟩=some (.string val):=by simp [World.cell?,X3.out]
   have R3:=hid (And.intro (rec_below HS.out.1 B3.out) (below_step HS.out.2 B3.out));clear hx hb C1;have hlen:((l.take j).length+1) * 32≤140737488355328:=by rw [List.length_take];omega
   by_cases hj0:0 < j
   ·
    have hj0z:(0:Int) < (j:Int):=by omega
    obtain ⟨i,hi⟩:∃ i:Nat,(j:Int) - 1=(i:Int):=⟨j - 1,by omega⟩;have hij:j=i+1:=by omega
    obtain ⟨q,hq⟩:∃ q,l[i]?=some q:=⟨_,List.getElem?_eq_getElem (by omega)⟩;have hasc:=HL.out.asc i q _ hq (hij ▸ HV.out.1);have hl2:(l.take j).length=j:=by simp;omega
    obtain ⟨g,cap,e1,_,_,R4⟩:=RecRow.at_ R3.out.1 (by omega);simp only [Value.slice.injEq] at e1;obtain ⟨rfl,hx,rfl⟩:=e1;clear hx;obtain ⟨e0,e1⟩:=R4.cell i q (by rw [List.getElem?_take,if_pos (by omega)];exact hq);dsimp only at hasc;obtain ⟨qk,qv⟩:=q;have w2':IntKind.i64.wrap ((i:Int))=(i:Int):=by rw [IntKind.wrap_i64];omega
    have b3:(i:Int) < (j:Int):=by omega
    clear hq R4 hij hl2
    go_wp2_with fail
    repeat (go_quiet (fail);try go_wp2_with (at_builtin;refine Kd.R_append recKd (w0:=w) w.heap.size rfl (.tmp 52) (.tmp 54) 86 125 (.agg #[.string ⟨#[]⟩,.string ⟨#[]⟩]) 32 rfl Tryz.underlying86 info125 rfl (by decide) (by decide) _ (l.take j) ⟨key,val⟩ [.string key,.string val] (fun _=>True) (fun _=>False) rfl rfl ⟨[.string key],[.string val],rfl,rfl,rfl⟩ (fun _ h=>h.elim) (fun _ _=>trivial) (rec_below R3.out.1 (pw_below_drewN (Below.refl _ _) _)) (pw_below_drewN R3.out.2 _) R3.out.2.size hlen ?_;intro v1 w9 hr9 hb9 _ _;replace hr9:=hid hr9;replace hb9:=hid hb9))
    go_roundw
    case rel =>refine ⟨j+1,k+sz,by omega,by omega,by go_num,hid SZ.out.2.2.1,hid ⟨?_,hb9.out⟩⟩;rw [List.take_add_one,HV.out.1];exact hr9.out
    case measure=>simp [intOf];omega
   ·
    obtain rfl:j=0:=by omega
    go_wp2_with fail
    repeat (go_quiet (fail);try go_wp2_with (at_builtin;(refine Kd.R_append recKd (w0:=w) w.heap.size rfl (.tmp 52) (.tmp 54) 86 125 (.agg #[.string ⟨#[]⟩,.string ⟨#[]⟩]) 32 rfl Tryz.underlying86 info125 rfl (by decide) (by decide) _ (l.take 0) ⟨key,val⟩ [.string key,.string val] (fun _=>True) (fun _=>False) rfl rfl ⟨[.string key],[.string val],rfl,rfl,rfl⟩ (fun _ h=>h.elim) (fun _ _=>trivial) (rec_below R3.out.1 (pw_below_drewN (Below.refl _ _) _)) (pw_below_drewN R3.out.2 _) R3.out.2.size hlen ?_;intro v1 w9 hr9 hb9 _ _;replace hr9:=hid hr9;replace hb9:=hid hb9)))
    go_roundw
    case rel =>refine ⟨0+1,k+sz,by omega,by omega,by go_num,hid SZ.out.2.2.1,hid ⟨?_,hb9.out⟩⟩;rw [List.take_add_one,HV.out.1];exact hr9.out
    case measure=>simp [intOf];omega
  ·
   have hk2:k=n:=by omega
   have hje:j=l.length:=by
    refine Nat.le_antisymm hj (Nat.le_of_not_lt fun hjl=>?_);obtain ⟨r,hrr⟩:∃ r,l[j]?=some r:=⟨_,List.getElem?_eq_getElem hjl⟩;have h2:=congrArg List.length (fmtB_split l j r hrr);have h3:=HLEN.out;have h4:=HK.out;have h5:=recB_len r (by have:=HL.out.rest (List.mem_of_getElem? hrr);omega);have h6:recSz r=Rec.rest r+digN (Rec.rest r):=rfl;have h7:3≤Rec.rest r:=by unfold Rec.rest;omega
    rw [List.length_append,List.length_append] at h2;omega
   subst hk2
   go_wp2_with fail
   go_ret3
   have h8:=HS.out;rw [hje,List.take_length] at h8;exact ⟨_,rfl,h8.1,h8.2⟩
end ZPParse
namespace ZMergeA
open ZFit ZPlan
theorem typ_inj (i k:Int) (hi:0≤i∧i≤3) (hk:0≤k∧k≤3) (h:typOf k=typOf i):i=k:=by unfold typOf at h;rcases (show i=0∨i=1∨i=2∨i=3 by omega) with rfl | rfl | rfl | rfl <;> rcases (show k=0∨k=1∨k=2∨k=3 by omega) with rfl | rfl | rfl | rfl <;> first | rfl | (simp at h)
set_option maxHeartbeats 2000000 in
theorem index_calls (k:Nat) (hk:k≤3) (w:World) (hG:Gl w):Calls Tryz.prog 115 #[.slice (some ⟨6,0,none⟩) 4 4,.int .u8 (typOf k)] w fun r w'=>r=.returned (.int .i64 k)∧w=w':=by
 have HC:Hid (∀ j:Nat,j≤3→w.cell? ⟨6,j,none⟩=some (.int .u8 (typOf j))):=hid (fun j hj=>by
  have h:=hG.types;rcases (show j=0∨j=1∨j=2∨j=3 by omega) with rfl | rfl | rfl | rfl
  ·exact h.cell 0 _ rfl
  ·exact h.cell 1 _ rfl
  ·exact h.cell 2 _ rfl
  ·exact h.cell 3 _ rfl)
 clear hG;go_enter Tryz.func115,Tryz.ntmps115
 go_wp2_with fail
 go_loop [8] (fun i=>∃ j:Nat,j≤k∧i=.int .i64 j) (fun i=>10 - (intOf i).toNat)
 case atStart=>exact ⟨0,Nat.zero_le _,rfl⟩
 case round =>
  obtain ⟨j,hj,rfl⟩:=hrel;have c0:=HC.out j (by omega);have hlt:(j:Int) < 4:=by omega
  by_cases hjk:j=k
  ·
   subst hjk;have bx:(typOf (j:Int) == typOf (j:Int))=true:=by simp
   go_wp2_with fail
   go_ret;exact ⟨rfl,rfl⟩
  ·
   have bx:(typOf (k:Int) == typOf (j:Int))=false:=by rw [beq_eq_false_iff_ne];intro h;have:=typ_inj j k (by omega) (by omega) h;omega
   go_wp2_with fail
   go_round
   case rel=>exact ⟨j+1,by omega,by go_num⟩
   case measure=>simp [intOf];omega
set_option maxHeartbeats 1000000 in
theorem target_calls (b:Nat) (k p m t z:Value) (s:ByteArray) (w:World) (h:w.heap[b]?=some (.cells #[k,p,m,t,z] 190 (0,0))):Calls Tryz.prog 117 #[.pointer (some ⟨b,0,none⟩),.string s] w fun r w'=>r=.returned (.bool true)∧w'=w.setCell ⟨b,3,none⟩ (.string s):=by
 have c3:w.cell? ⟨b,3,none⟩=some t:=by simp [World.cell?,h]
 have f3:w.frozen? ⟨b,3,none⟩=false:=by simp [World.frozen?,h]
 clear h;go_enter Tryz.func117,Tryz.ntmps117
 go_wp2_with fail
 go_ret;exact ⟨rfl,rfl⟩
set_option maxHeartbeats 1000000 in
theorem path_calls (b:Nat) (k p m t z:Value) (s:ByteArray) (w:World) (h:w.heap[b]?=some (.cells #[k,p,m,t,z] 190 (0,0))):Calls Tryz.prog 118 #[.pointer (some ⟨b,0,none⟩),.string s] w fun r w'=>r=.returned (.bool true)∧w'=w.setCell ⟨b,1,none⟩ (.string s):=by
 have c3:w.cell? ⟨b,1,none⟩=some p:=by simp [World.cell?,h]
 have f3:w.frozen? ⟨b,1,none⟩=false:=by simp [World.frozen?,h]
 clear h;go_enter Tryz.func118,Tryz.ntmps118
 go_wp2_with fail
 go_ret;exact ⟨rfl,rfl⟩
def RecRd (w:World) (v:Value) (l:List Rec):Prop:=∃ A c,v=.slice A l.length c∧l.length≤c∧(0 < l.length→∃ g,A=some ⟨g,0,none⟩∧RecAt w g l)
theorem RecRd.of {w:World} {base:Nat} {v:Value} {l:List Rec} (h:RecRow w base v l):RecRd w v l:=by
 obtain ⟨A,c,hv⟩:=Kd.R_slice h;rcases Nat.eq_zero_or_pos l.length with h0 | h0
 ·exact ⟨A,c,hv,by omega,fun h=>by omega⟩
 ·obtain ⟨g,cap,e,_,h2,h3⟩:=RecRow.at_ h h0;exact ⟨some ⟨g,0,none⟩,cap,e,h2,fun _=>⟨g,rfl,h3⟩⟩
theorem RecRd.below {w w1:World} {v:Value} {l:List Rec} (h:RecRd w v l) (hb:Below w.heap.size w w1):RecRd w1 v l:=by obtain ⟨A,c,hv,hc,hr⟩:=h;refine ⟨A,c,hv,hc,fun h0=>?_⟩;obtain ⟨g,e,h3⟩:=hr h0;exact ⟨g,e,h3.of (hb.block _ h3.lt)⟩
set_option maxHeartbeats 2000000 in
theorem equal_calls (v u:Value) (l:List Rec) (hl:l.length≤1000) (w:World) (hv:RecRd w v l) (hu:RecRd w u l):Calls Tryz.prog 120 #[v,u] w fun r w'=>r=.returned (.bool true)∧Below w.heap.size w w':=by
 obtain ⟨A,c,rfl,hc,hA⟩:=hv;obtain ⟨A2,c2,rfl,hc2,hA2⟩:=hu;have HA:=hid (And.intro hA hA2);clear hA hA2;have bn:((l.length:Int) != (l.length:Int))=false:=by simp
 go_enter Tryz.func120,Tryz.ntmps120
 go_wp2_with fail
 go_loopw [13] (fun i wr=>∃ j:Nat,j≤l.length∧i=.int .i64 j∧Hid (Below w.heap.size w wr)) (fun i _=>l.length - (intOf i).toNat)
 case atStart=>exact ⟨0,Nat.zero_le _,rfl,hid (Below.refl _ _)⟩
 case round =>
  obtain ⟨j,hj,rfl,HB⟩:=hrel;by_cases hlt:j < l.length
  ·
   have hltz:(j:Int) < (l.length:Int):=by omega
   obtain ⟨r,hr⟩:∃ r,l[j]?=some r:=⟨_,List.getElem?_eq_getElem hlt⟩;obtain ⟨g,rfl,h1⟩:=HA.out.1 (by omega);obtain ⟨g2,rfl,h2⟩:=HA.out.2 (by omega);obtain ⟨c0,c1⟩:=(h1.of (HB.out.block _ h1.lt)).cell j r hr;obtain ⟨d0,d1⟩:=(h2.of (HB.out.block _ h2.lt)).cell j r hr;clear h1 h2 hr;obtain ⟨key,val⟩:=r;dsimp only at c0 c1 d0 d1
   go_wp2_with fail
   repeat (go_quiet (fail);try go_wp2_with fail)
   exact ⟨⟨j+1,by omega,by go_num,hid (pw_below_drewN HB.out _)⟩,by simp [intOf];omega⟩
  ·
   obtain rfl:j=l.length:=by omega
   go_wp2_with fail
   go_ret;exact ⟨rfl,HB.out⟩
end ZMergeA
namespace ZMerge
open ZFit ZPlan ZMap ZPath ZMergeA
def headE (e:Ent):Ent:=⟨e.kind,joinP (splitP e.path).1 (splitP e.path).2.1,e.mode,(planH e).link,(planH e).size⟩
def apply1 (e:Ent) (r:Rec):Ent:=if r.key=sLink then { e with target:=r.val } else { e with path:=r.val }
theorem apply_all (e:Ent) (hs:e.size≤8589934591):(planR e).foldl apply1 (headE e)=e:=ZJoin.back e hs
theorem map191:Tryz.prog.underlying 191=some (.map 9 122):=Tryz.underlying191
theorem skeys:Keys Tryz.prog 9 .string (Value.string:ByteArray→Value):=string_keys Tryz.underlying9
theorem zero122 (w:World):(zeroValue 122).run Tryz.prog w=.ok .nilFunc w:=by kernel_rfl
abbrev fval (bb:Nat) (n:Nat):Value:=.func (.func n) #[.pointer (some ⟨bb,0,none⟩)] #[]
def map3:List (ByteArray×Nat):=ZMap.put (ZMap.put (ZMap.put [] ⟨#[108,105,110,107,112,97,116,104]⟩ 117) ⟨#[112,97,116,104]⟩ 118) ⟨#[115,105,122,101]⟩ 119
theorem map3_link:ZMap.get map3 sLink=some 117:=by decide
theorem map3_path:ZMap.get map3 sPath=some 118:=by decide
theorem cello {W:World} {b:Nat} {cs:Array Value} {t:TypeId} {fr:Nat×Nat} (h:W.heap[b]?=some (.cells cs t fr)) (i:Nat) (v:Value) (hv:cs[i]?=some v):W.cell? ⟨b,i,none⟩=some v:=by simp [World.cell?,h,hv]
structure C8 (Wm wr:World) (bb mb:Nat) (e:Ent):Prop where
 blk:wr.heap[bb]?=some (.cells e.cells 190 (0,0))
 mo:Mo [bb] Wm wr
 map:MapAt wr Value.string (fval bb) mb map3
 ne:mb≠bb∧bb < Wm.heap.size
theorem C8.below {Wm wr w2:World} {bb mb:Nat} {e:Ent} (h:C8 Wm wr bb mb e) (hb:Below wr.heap.size wr w2):C8 Wm w2 bb mb e :=
 ⟨(hb.block _ (blk_lt h.blk)).trans h.blk,h.mo.step hb,MapAt.of h.map (hb.block _ h.map.lt),h.ne⟩
theorem C8.set {Wm wr:World} {bb mb:Nat} {e:Ent} (h:C8 Wm wr bb mb e) (i:Nat) (s:ByteArray) (e2:Ent) (he:e2.cells=e.cells.setIfInBounds i (.string s)):C8 Wm (wr.setCell ⟨bb,i,none⟩ (.string s)) bb mb e2:=by refine ⟨?_,h.mo.set (.inl (by simp)) _,MapAt.of h.map (Below.heap_setCell _ _ _ _ (by simpa using h.ne.1)),h.ne⟩;rw [setCell_eq_setRow _ _ _ _ 190 (0,0) _ h.blk,setRow_heap _ _ _ _ _ _ h.blk,he]
set_option maxHeartbeats 8000000 in
theorem merge_calls (e:Ent) (he:e.Ok) (hs:e.size≤8589934591) (v:Value) (w:World) (hG:Gl w) (hv:RecRd w v (planR e)):Calls Tryz.prog 79 #[(planH e).val,v] w fun r w'=>r=.returned (.tuple #[e.val,.int .i64 0])∧Below w.heap.size w w':=by
 obtain ⟨k,hk⟩:∃ k:Nat,e.kind=k:=⟨e.kind.toNat,by have:=he.kind;omega⟩;have IC:=hid (fun W hW=>index_calls k (by have:=he.kind;omega) W hW);obtain ⟨A,c,rfl,hc,hr⟩:=hv;have HR:=hid hr;have HG:=hid hG;have HE:=hid (And.intro he hs);have PC:=hid (fun W hW=>plan_calls e hs he W hW);obtain ⟨rok,hlen⟩:=ZPlanOk.planR_ok he hs;have ROK:=hid rok;clear rok;obtain ⟨hd,hhd⟩:∃ h,planH e=h:=⟨_,rfl⟩;have HHD:=hid hhd;rw [hhd];obtain ⟨typ,name,pre,lk,mode,size⟩:=hd;have htyp:typOf (k:Int)=typ:=by have:=congrArg ZCheck.Hdr.typ hhd;dsimp only at this;rw [← this,← hk];rfl
 rw [htyp] at IC;have hpn:pre=(splitP e.path).1∧name=(splitP e.path).2.1:=⟨(congrArg ZCheck.Hdr.pre hhd).symm,(congrArg ZCheck.Hdr.name hhd).symm⟩;have JC:=hid (fun W=>join_calls pre name (by
  have h:=ZPlanOk.split_ok he.path;rw [hpn.1,hpn.2];omega) W)
 obtain ⟨jp,hjp⟩:∃ q,joinP pre name=q:=⟨_,rfl⟩;rw [hjp] at JC;have HJ:=hid (And.intro hjp hpn);clear hjp hpn htyp;obtain ⟨rl,hrl⟩:∃ h,planR e=h:=⟨_,rfl⟩;rw [hrl] at HR hlen hc ⊢;have HRL:=hid hrl;clear hr hG he hs hhd hrl;unfold ZCheck.Hdr.val ZCheck.Hdr.cells;dsimp only;have hmm:=@run_makeMap Tryz.prog;have hmf:∀ (fn:Fn) (first cap:Array Value) (w:World),(Instr.makeFunc fn first cap).run Tryz.prog w=.ok (.func fn first cap) w:=fun _ _ _ _=>rfl;have B2:=hid (((Below.refl w.heap.size w).alloc (Nat.le_refl _) (.cells #[.int .u8 typ,.string name,.string pre,.string lk,.int .i64 mode,.int .i64 size] 138)).alloc (by simp) (.cells #[.int .i64 0,.string ⟨#[]⟩,.int .i64 0,.string ⟨#[]⟩,.int .i64 0] 54));have G2:=hid (HG.out.below B2.out);have G2d:=hid (HG.out.below B2.out.drew);have hW3:MapAt (((((w.alloc (.cells #[.int .u8 typ,.string name,.string pre,.string lk,.int .i64 mode,.int .i64 size] 138)).alloc (.cells #[.int .i64 0,.string ⟨#[]⟩,.int .i64 0,.string ⟨#[]⟩,.int .i64 0] 54)).alloc (.cells #[.int .i64 k,.string jp,.int .i64 mode,.string lk,.int .i64 size] 190)).alloc (.map #[] 0)).drew.drew) Value.string (fval (w.heap.size+1+1)) (w.heap.size+1+1+1) []:=by
  have:=heap_alloc_new (((w.alloc (.cells #[.int .u8 typ,.string name,.string pre,.string lk,.int .i64 mode,.int .i64 size] 138)).alloc (.cells #[.int .i64 0,.string ⟨#[]⟩,.int .i64 0,.string ⟨#[]⟩,.int .i64 0] 54)).alloc (.cells #[.int .i64 k,.string jp,.int .i64 mode,.string lk,.int .i64 size] 190)) (.map #[] 0);have hs:(((w.alloc (.cells #[.int .u8 typ,.string name,.string pre,.string lk,.int .i64 mode,.int .i64 size] 138)).alloc (.cells #[.int .i64 0,.string ⟨#[]⟩,.int .i64 0,.string ⟨#[]⟩,.int .i64 0] 54)).alloc (.cells #[.int .i64 k,.string jp,.int .i64 mode,.string lk,.int .i64 size] 190)).heap.size=w.heap.size+1+1+1:=by simp
  rw [hs] at this;exact this
 have hput0:=run_put map191 skeys hW3 (⟨#[108,105,110,107,112,97,116,104]⟩:ByteArray) 117;have hm0:=MapAt.put hW3 (ZMap.put ([]:List (ByteArray×Nat)) (⟨#[108,105,110,107,112,97,116,104]⟩:ByteArray) 117);obtain ⟨V0,hV0⟩:∃ X,(((((w.alloc (.cells #[.int .u8 typ,.string name,.string pre,.string lk,.int .i64 mode,.int .i64 size] 138)).alloc (.cells #[.int .i64 0,.string ⟨#[]⟩,.int .i64 0,.string ⟨#[]⟩,.int .i64 0] 54)).alloc (.cells #[.int .i64 k,.string jp,.int .i64 mode,.string lk,.int .i64 size] 190)).alloc (.map #[] 0)).drew.drew).putObj (w.heap.size+1+1+1) (.map (ents Value.string (fval (w.heap.size+1+1)) 0 (ZMap.put ([]:List (ByteArray×Nat)) (⟨#[108,105,110,107,112,97,116,104]⟩:ByteArray) 117)).toArray (ZMap.put ([]:List (ByteArray×Nat)) (⟨#[108,105,110,107,112,97,116,104]⟩:ByteArray) 117).length)=X:=⟨_,rfl⟩;rw [hV0] at hput0 hm0;have hput1:=run_put map191 skeys hm0 (⟨#[112,97,116,104]⟩:ByteArray) 118;have hm1:=MapAt.put hm0 (ZMap.put (ZMap.put ([]:List (ByteArray×Nat)) (⟨#[108,105,110,107,112,97,116,104]⟩:ByteArray) 117) (⟨#[112,97,116,104]⟩:ByteArray) 118);obtain ⟨V1,hV1⟩:∃ X,(V0).putObj (w.heap.size+1+1+1) (.map (ents Value.string (fval (w.heap.size+1+1)) 0 (ZMap.put (ZMap.put ([]:List (ByteArray×Nat)) (⟨#[108,105,110,107,112,97,116,104]⟩:ByteArray) 117) (⟨#[112,97,116,104]⟩:ByteArray) 118)).toArray (ZMap.put (ZMap.put ([]:List (ByteArray×Nat)) (⟨#[108,105,110,107,112,97,116,104]⟩:ByteArray) 117) (⟨#[112,97,116,104]⟩:ByteArray) 118).length)=X:=⟨_,rfl⟩;rw [hV1] at hput1 hm1;have hput2:=run_put map191 skeys hm1 (⟨#[115,105,122,101]⟩:ByteArray) 119;have hm2:=MapAt.put hm1 (ZMap.put (ZMap.put (ZMap.put ([]:List (ByteArray×Nat)) (⟨#[108,105,110,107,112,97,116,104]⟩:ByteArray) 117) (⟨#[112,97,116,104]⟩:ByteArray) 118) (⟨#[115,105,122,101]⟩:ByteArray) 119);obtain ⟨V2,hV2⟩:∃ X,(V1).putObj (w.heap.size+1+1+1) (.map (ents Value.string (fval (w.heap.size+1+1)) 0 (ZMap.put (ZMap.put (ZMap.put ([]:List (ByteArray×Nat)) (⟨#[108,105,110,107,112,97,116,104]⟩:ByteArray) 117) (⟨#[112,97,116,104]⟩:ByteArray) 118) (⟨#[115,105,122,101]⟩:ByteArray) 119)).toArray (ZMap.put (ZMap.put (ZMap.put ([]:List (ByteArray×Nat)) (⟨#[108,105,110,107,112,97,116,104]⟩:ByteArray) 117) (⟨#[112,97,116,104]⟩:ByteArray) 118) (⟨#[115,105,122,101]⟩:ByteArray) 119).length)=X:=⟨_,rfl⟩;rw [hV2] at hput2 hm2;have HV:Hid (C8 V2 V2 (w.heap.size+1+1) (w.heap.size+1+1+1) ⟨k,jp,mode,lk,size⟩∧V2.heap[w.heap.size]?=some (.cells #[.int .u8 typ,.string name,.string pre,.string lk,.int .i64 mode,.int .i64 size] 138 (0,0))∧V2.heap[w.heap.size+1]?=some (.cells #[.int .i64 0,.string ⟨#[]⟩,.int .i64 0,.string ⟨#[]⟩,.int .i64 0] 54 (0,0))∧Below w.heap.size w V2∧V2.heap.size=w.heap.size+4):=hid (by
  have q:∀ i,i≠(w.heap.size+1+1+1)→V2.heap[i]?=(((((w.alloc (.cells #[.int .u8 typ,.string name,.string pre,.string lk,.int .i64 mode,.int .i64 size] 138)).alloc (.cells #[.int .i64 0,.string ⟨#[]⟩,.int .i64 0,.string ⟨#[]⟩,.int .i64 0] 54)).alloc (.cells #[.int .i64 k,.string jp,.int .i64 mode,.string lk,.int .i64 size] 190)).alloc (.map #[] 0)).drew.drew).heap[i]?:=fun i hi=>by rw [← hV2,World.putObj_heap_other hi,← hV1,World.putObj_heap_other hi,← hV0,World.putObj_heap_other hi]
  have h1:(w.alloc (.cells #[.int .u8 typ,.string name,.string pre,.string lk,.int .i64 mode,.int .i64 size] 138)).heap.size=w.heap.size+1:=by simp
  have h2:((w.alloc (.cells #[.int .u8 typ,.string name,.string pre,.string lk,.int .i64 mode,.int .i64 size] 138)).alloc (.cells #[.int .i64 0,.string ⟨#[]⟩,.int .i64 0,.string ⟨#[]⟩,.int .i64 0] 54)).heap.size=w.heap.size+2:=by simp
  have h3:(((w.alloc (.cells #[.int .u8 typ,.string name,.string pre,.string lk,.int .i64 mode,.int .i64 size] 138)).alloc (.cells #[.int .i64 0,.string ⟨#[]⟩,.int .i64 0,.string ⟨#[]⟩,.int .i64 0] 54)).alloc (.cells #[.int .i64 k,.string jp,.int .i64 mode,.string lk,.int .i64 size] 190)).heap.size=w.heap.size+3:=by simp
  have hsz:V2.heap.size=w.heap.size+4:=by rw [← hV2,World.putObj_size,← hV1,World.putObj_size,← hV0,World.putObj_size];show ((((w.alloc (.cells #[.int .u8 typ,.string name,.string pre,.string lk,.int .i64 mode,.int .i64 size] 138)).alloc (.cells #[.int .i64 0,.string ⟨#[]⟩,.int .i64 0,.string ⟨#[]⟩,.int .i64 0] 54)).alloc (.cells #[.int .i64 k,.string jp,.int .i64 mode,.string lk,.int .i64 size] 190)).alloc (.map #[] 0)).heap.size=_;simp
  have b3:Below w.heap.size w (((((w.alloc (.cells #[.int .u8 typ,.string name,.string pre,.string lk,.int .i64 mode,.int .i64 size] 138)).alloc (.cells #[.int .i64 0,.string ⟨#[]⟩,.int .i64 0,.string ⟨#[]⟩,.int .i64 0] 54)).alloc (.cells #[.int .i64 k,.string jp,.int .i64 mode,.string lk,.int .i64 size] 190)).alloc (.map #[] 0)).drew.drew):=((B2.out.alloc B2.out.size _).alloc (by omega) _).drew.drew;have a1:(((((w.alloc (.cells #[.int .u8 typ,.string name,.string pre,.string lk,.int .i64 mode,.int .i64 size] 138)).alloc (.cells #[.int .i64 0,.string ⟨#[]⟩,.int .i64 0,.string ⟨#[]⟩,.int .i64 0] 54)).alloc (.cells #[.int .i64 k,.string jp,.int .i64 mode,.string lk,.int .i64 size] 190)).alloc (.map #[] 0)).drew.drew).heap[w.heap.size]?=some (.cells #[.int .u8 typ,.string name,.string pre,.string lk,.int .i64 mode,.int .i64 size] 138 (0,0)):=(heap_alloc_old _ _ (by omega)).trans ((heap_alloc_old _ _ (by omega)).trans ((heap_alloc_old _ _ (by omega)).trans (heap_alloc_new _ _)));have a2:(((((w.alloc (.cells #[.int .u8 typ,.string name,.string pre,.string lk,.int .i64 mode,.int .i64 size] 138)).alloc (.cells #[.int .i64 0,.string ⟨#[]⟩,.int .i64 0,.string ⟨#[]⟩,.int .i64 0] 54)).alloc (.cells #[.int .i64 k,.string jp,.int .i64 mode,.string lk,.int .i64 size] 190)).alloc (.map #[] 0)).drew.drew).heap[w.heap.size+1]?=some (.cells #[.int .i64 0,.string ⟨#[]⟩,.int .i64 0,.string ⟨#[]⟩,.int .i64 0] 54 (0,0)):=(heap_alloc_old _ _ (by omega)).trans ((heap_alloc_old _ _ (by omega)).trans (by rw [← h1];exact heap_alloc_new _ _));have a3:(((((w.alloc (.cells #[.int .u8 typ,.string name,.string pre,.string lk,.int .i64 mode,.int .i64 size] 138)).alloc (.cells #[.int .i64 0,.string ⟨#[]⟩,.int .i64 0,.string ⟨#[]⟩,.int .i64 0] 54)).alloc (.cells #[.int .i64 k,.string jp,.int .i64 mode,.string lk,.int .i64 size] 190)).alloc (.map #[] 0)).drew.drew).heap[w.heap.size+1+1]?=some (.cells #[.int .i64 k,.string jp,.int .i64 mode,.string lk,.int .i64 size] 190 (0,0)):=(heap_alloc_old _ _ (by omega)).trans (by rw [show w.heap.size+1+1=((w.alloc (.cells #[.int .u8 typ,.string name,.string pre,.string lk,.int .i64 mode,.int .i64 size] 138)).alloc (.cells #[.int .i64 0,.string ⟨#[]⟩,.int .i64 0,.string ⟨#[]⟩,.int .i64 0] 54)).heap.size by omega];exact heap_alloc_new _ _);refine ⟨⟨(q _ (by omega)).trans a3,Mo.refl _ _,hm2,by omega,by omega⟩,(q _ (by omega)).trans a1,(q _ (by omega)).trans a2,?_,hsz⟩;rw [← hV2,← hV1,← hV0];exact below_put (below_put (below_put b3 (by omega) _) (by omega) _) (by omega) _)
 clear hV0 hV1 hV2 hW3 hm0 hm1 hm2;by_cases h0:0 < rl.length
 ·
  have b0:(rl.length:Int) > 0:=by omega
  go_enter Tryz.func79,Tryz.ntmps79
  go_wp2_with fail
  go_region_with (go_at_call 115;refine (IC.out _ (by first | exact G2.out | exact G2d.out)).mono ?_;rintro e w' ⟨rfl,rfl⟩)
  all_goals go_wp2_with fail
  go_region_held3 (fun w'=>w'.cell? ⟨w.heap.size,1,none⟩=some (.string name)∧w'.cell? ⟨w.heap.size,2,none⟩=some (.string pre)∧w'.cell? ⟨w.heap.size,3,none⟩=some (.string lk)∧w'.cell? ⟨w.heap.size,4,none⟩=some (.int .i64 mode)∧w'.cell? ⟨w.heap.size,5,none⟩=some (.int .i64 size)) (go_keep) ((go_at_call 116;refine (JC.out _).mono ?_;rintro e w' ⟨rfl,rfl⟩))
  all_goals go_wp2_with fail
  go_loopw [49] (fun i wr=>∃ j:Nat,j≤rl.length∧i=.int .i64 j∧Hid (C8 V2 wr (w.heap.size+1+1) (w.heap.size+1+1+1) ((rl.take j).foldl apply1 ⟨k,jp,mode,lk,size⟩))) (fun i _=>rl.length - (intOf i).toNat)
  case atStart=>exact ⟨0,Nat.zero_le _,rfl,hid HV.out.1⟩
  case round =>
   obtain ⟨j,hj,rfl,HS⟩:=hrel;by_cases hlt:j < rl.length
   ·
    have hltz:(j:Int) < (rl.length:Int):=by omega
    obtain ⟨r,hrr⟩:∃ r,rl[j]?=some r:=⟨_,List.getElem?_eq_getElem hlt⟩;obtain ⟨g,rfl,hra⟩:=HR.out (by omega);have hne:∀ i,i < w.heap.size→i≠(w.heap.size+1+1):=fun i hi=>by omega
    have hkp:wr.heap[g]?=w.heap[g]?:=(HS.out.mo.keep g (by have:=HV.out.2.2.2.2;have:=hra.lt;omega) (by simpa using hne g hra.lt)).trans (HV.out.2.2.2.1.block g hra.lt);obtain ⟨c0,c1⟩:=(hra.of hkp).cell j r hrr;have hkey:=ROK.out.key r (by rw [HRL.out];exact List.mem_of_getElem? hrr);have HRR:=hid hrr;clear hra hrr hkp hne;obtain ⟨key,val⟩:=r;dsimp only at c0 c1 hkey;obtain ⟨E,hE⟩:∃ E,(rl.take j).foldl apply1 ⟨k,jp,mode,lk,size⟩=E:=⟨_,rfl⟩;rw [hE] at HS;have HEE:=hid hE;clear hE;have S1:=hid (HS.out.below (below_alloc (Below.refl _ wr) (.cells #[.string key,.string val] 125)));have hget:=run_get_ok map191 skeys S1.out.map key _ (zero122 _);by_cases hkl:key=sLink
    ·
     clear hkey;have hg:ZMap.get map3 key=some 117:=by rw [hkl];exact map3_link
     rw [hg] at hget;simp only [Option.map_some,Option.getD_some,Option.isSome_some] at hget;have TC:=hid (target_calls _ _ _ _ _ _ val _ S1.out.blk);have S2:=hid (S1.out.set 3 val { E with target:=val } rfl);have HA:Hid (apply1 E ⟨key,val⟩={ E with target:=val }):=hid (by unfold apply1;rw [if_pos hkl]);clear hg hkl
     go_wp2_with fail
     refine TC.out.mono ?_;rintro r w2 ⟨rfl,hw2⟩;rw [← hw2] at S2;clear hw2 TC
     go_wp2_with fail
     go_roundw
     case rel =>refine ⟨j+1,by omega,by go_num,hid ?_⟩;rw [List.take_add_one,HRR.out,List.foldl_append];show C8 V2 w2 _ _ (apply1 ((rl.take j).foldl apply1 ⟨k,jp,mode,lk,size⟩) ⟨key,val⟩);rw [HEE.out,HA.out];exact S2.out
     case measure=>simp [intOf];omega
    ·
     have hkp2:key=sPath:=hkey.resolve_left hkl;clear hkey;have hg:ZMap.get map3 key=some 118:=by rw [hkp2];exact map3_path
     rw [hg] at hget;simp only [Option.map_some,Option.getD_some,Option.isSome_some] at hget;have TC:=hid (path_calls _ _ _ _ _ _ val _ S1.out.blk);have S2:=hid (S1.out.set 1 val { E with path:=val } rfl);have HA:Hid (apply1 E ⟨key,val⟩={ E with path:=val }):=hid (by unfold apply1;rw [if_neg hkl]);clear hg hkl hkp2
     go_wp2_with fail
     refine TC.out.mono ?_;rintro r w2 ⟨rfl,hw2⟩;rw [← hw2] at S2;clear hw2 TC
     go_wp2_with fail
     go_roundw
     case rel =>refine ⟨j+1,by omega,by go_num,hid ?_⟩;rw [List.take_add_one,HRR.out,List.foldl_append];show C8 V2 w2 _ _ (apply1 ((rl.take j).foldl apply1 ⟨k,jp,mode,lk,size⟩) ⟨key,val⟩);rw [HEE.out,HA.out];exact S2.out
     case measure=>simp [intOf];omega
   ·
    obtain rfl:j=rl.length:=by omega
    have hE:∀ J,rl.length≤J→(rl.take J).foldl apply1 ⟨k,jp,mode,lk,size⟩=e:=fun J hJ=>by
     rw [List.take_of_length_le hJ,← HRL.out];have h:=apply_all e HE.out.2;have hh:headE e=⟨k,jp,mode,lk,size⟩:=by
      obtain ⟨j1,j2,j3⟩:=HJ.out;have e1:(planH e).link=lk:=by rw [HHD.out]
      have e2:(planH e).size=size:=by rw [HHD.out]
      have e3:(planH e).mode=mode:=by rw [HHD.out]
      unfold headE;rw [hk,← j2,← j3,j1,e1,e2,show e.mode=mode from e3]
     rw [hh] at h;exact h
    rw [hE _ (by omega)] at HS;have BW:=hid (HV.out.2.2.2.1.trans (HS.out.mo.below (by have:=HV.out.2.2.2.2;omega) (by simp;omega)));have PC1:=hid (PC.out wr (HG.out.below BW.out));rw [HHD.out,HRL.out] at PC1;unfold ZCheck.Hdr.val ZCheck.Hdr.cells at PC1;dsimp only at PC1;have K1:Hid (wr.heap[w.heap.size]?=some (.cells #[.int .u8 typ,.string name,.string pre,.string lk,.int .i64 mode,.int .i64 size] 138 (0,0))):=hid ((HS.out.mo.keep _ (by have:=HV.out.2.2.2.2;omega) (by simp;omega)).trans HV.out.2.1);have K2:Hid (wr.heap[w.heap.size+1]?=some (.cells #[.int .i64 0,.string ⟨#[]⟩,.int .i64 0,.string ⟨#[]⟩,.int .i64 0] 54 (0,0))):=hid ((HS.out.mo.keep _ (by have:=HV.out.2.2.2.2;omega) (by simp)).trans HV.out.2.2.1);have VR:Hid (RecRd w (.slice A rl.length c) rl):=hid ⟨A,c,rfl,hc,HR.out⟩;have bl:=HS.out.blk;clear hE;obtain ⟨kind,path,m2,tgt,sz2⟩:=e;dsimp only at hk;subst hk;unfold Ent.val Ent.cells at PC1;unfold Ent.cells at bl;dsimp only at PC1 bl;obtain ⟨d0,d1,d2,d3,d4⟩:wr.cell? ⟨w.heap.size+1+1,0,none⟩=some (.int .i64 k)∧wr.cell? ⟨w.heap.size+1+1,1,none⟩=some (.string path)∧wr.cell? ⟨w.heap.size+1+1,2,none⟩=some (.int .i64 m2)∧wr.cell? ⟨w.heap.size+1+1,3,none⟩=some (.string tgt)∧wr.cell? ⟨w.heap.size+1+1,4,none⟩=some (.int .i64 sz2):=by simp [World.cell?,bl]
    have BLK:=hid bl;clear bl
    go_wp2_with fail
    refine PC1.out.mono ?_;rintro r w3 ⟨v2,rfl,hrow,hb⟩;have B3:=hid (below_step BW.out hb);have L3:=hid (And.intro ((hb.block _ (blk_lt K1.out)).trans K1.out) (And.intro ((hb.block _ (blk_lt K2.out)).trans K2.out) ((hb.block _ (blk_lt BLK.out)).trans BLK.out)));have QC:=hid (equal_calls (.slice A rl.length c) v2 rl (by omega) (w3.alloc (.cells #[.int .u8 typ,.string name,.string pre,.string lk,.int .i64 mode,.int .i64 size] 138)) ((VR.out.below B3.out).below (below_alloc (Below.refl _ _) _)) ((RecRd.of hrow).below (below_alloc (Below.refl _ _) _)));have K3:=hid (heap_alloc_new w3 (.cells #[.int .u8 typ,.string name,.string pre,.string lk,.int .i64 mode,.int .i64 size] 138));have B4:=hid (B3.out.alloc B3.out.size (.cells #[.int .u8 typ,.string name,.string pre,.string lk,.int .i64 mode,.int .i64 size] 138));have L4:=hid (And.intro ((heap_alloc_old w3 (.cells #[.int .u8 typ,.string name,.string pre,.string lk,.int .i64 mode,.int .i64 size] 138) (blk_lt L3.out.1)).trans L3.out.1) (And.intro ((heap_alloc_old w3 (.cells #[.int .u8 typ,.string name,.string pre,.string lk,.int .i64 mode,.int .i64 size] 138) (blk_lt L3.out.2.1)).trans L3.out.2.1) ((heap_alloc_old w3 (.cells #[.int .u8 typ,.string name,.string pre,.string lk,.int .i64 mode,.int .i64 size] 138) (blk_lt L3.out.2.2)).trans L3.out.2.2)));obtain ⟨g0,g1,g2,g3,g4,g5⟩:(w3.alloc (.cells #[.int .u8 typ,.string name,.string pre,.string lk,.int .i64 mode,.int .i64 size] 138)).cell? ⟨w.heap.size,0,none⟩=some (.int .u8 typ)∧(w3.alloc (.cells #[.int .u8 typ,.string name,.string pre,.string lk,.int .i64 mode,.int .i64 size] 138)).cell? ⟨w.heap.size,1,none⟩=some (.string name)∧(w3.alloc (.cells #[.int .u8 typ,.string name,.string pre,.string lk,.int .i64 mode,.int .i64 size] 138)).cell? ⟨w.heap.size,2,none⟩=some (.string pre)∧(w3.alloc (.cells #[.int .u8 typ,.string name,.string pre,.string lk,.int .i64 mode,.int .i64 size] 138)).cell? ⟨w.heap.size,3,none⟩=some (.string lk)∧(w3.alloc (.cells #[.int .u8 typ,.string name,.string pre,.string lk,.int .i64 mode,.int .i64 size] 138)).cell? ⟨w.heap.size,4,none⟩=some (.int .i64 mode)∧(w3.alloc (.cells #[.int .u8 typ,.string name,.string pre,.string lk,.int .i64 mode,.int .i64 size] 138)).cell? ⟨w.heap.size,5,none⟩=some (.int .i64 size):=⟨cello L4.out.1 0 _ rfl,cello L4.out.1 1 _ rfl,cello L4.out.1 2 _ rfl,cello L4.out.1 3 _ rfl,cello L4.out.1 4 _ rfl,cello L4.out.1 5 _ rfl⟩;clear hrow hb
    go_wp2_with fail
    refine QC.out.mono ?_;rintro r w5 ⟨rfl,hb5⟩;have B5:=hid (below_step B4.out hb5);have r1:=(hb5.block _ (blk_lt L4.out.2.1)).trans L4.out.2.1;have r2:=(hb5.block _ (blk_lt L4.out.2.2)).trans L4.out.2.2;obtain ⟨y0,y1,y2,y3,y4⟩:w5.cell? ⟨w.heap.size+1,0,none⟩=some (.int .i64 0)∧w5.cell? ⟨w.heap.size+1,1,none⟩=some (.string ⟨#[]⟩)∧w5.cell? ⟨w.heap.size+1,2,none⟩=some (.int .i64 0)∧w5.cell? ⟨w.heap.size+1,3,none⟩=some (.string ⟨#[]⟩)∧w5.cell? ⟨w.heap.size+1,4,none⟩=some (.int .i64 0):=⟨cello r1 0 _ rfl,cello r1 1 _ rfl,cello r1 2 _ rfl,cello r1 3 _ rfl,cello r1 4 _ rfl⟩;obtain ⟨x0,x1,x2,x3,x4⟩:w5.cell? ⟨w.heap.size+1+1,0,none⟩=some (.int .i64 k)∧w5.cell? ⟨w.heap.size+1+1,1,none⟩=some (.string path)∧w5.cell? ⟨w.heap.size+1+1,2,none⟩=some (.int .i64 m2)∧w5.cell? ⟨w.heap.size+1+1,3,none⟩=some (.string tgt)∧w5.cell? ⟨w.heap.size+1+1,4,none⟩=some (.int .i64 sz2):=⟨cello r2 0 _ rfl,cello r2 1 _ rfl,cello r2 2 _ rfl,cello r2 3 _ rfl,cello r2 4 _ rfl⟩;obtain ⟨z0,z1,z2,z3,z4⟩:w5.frozen? ⟨w.heap.size+1,0,none⟩=false∧w5.frozen? ⟨w.heap.size+1,1,none⟩=false∧w5.frozen? ⟨w.heap.size+1,2,none⟩=false∧w5.frozen? ⟨w.heap.size+1,3,none⟩=false∧w5.frozen? ⟨w.heap.size+1,4,none⟩=false:=by simp [World.frozen?,r1]
    clear r1 r2 hb5 g0 g1 g2 g3 g4 g5 d0 d1 d2 d3 d4
    go_wp2_with fail
    refine bodyPost_ret (v:=.tuple #[.agg #[.int .i64 k,.string path,.int .i64 m2,.string tgt,.int .i64 sz2],.int .i64 0]) (by simp [results,Tryz.results79,go_sem,y0,y1,y2,y3,y4,z0,z1,z2,z3,z4]) rfl ⟨rfl,?_⟩
    iterate 5 (refine Below.setCell ?_ (by show w.heap.size≤w.heap.size+1;omega) _)
    exact B5.out
 ·
  obtain rfl:rl=[]:=List.eq_nil_of_length_eq_zero (by omega);clear h0;go_enter Tryz.func79,Tryz.ntmps79
  go_wp2_with fail
  go_region_with (go_at_call 115;refine (IC.out _ (by first | exact G2.out | exact G2d.out)).mono ?_;rintro e w' ⟨rfl,rfl⟩)
  all_goals go_wp2_with fail
  go_region_held3 (fun w'=>w'.cell? ⟨w.heap.size,1,none⟩=some (.string name)∧w'.cell? ⟨w.heap.size,2,none⟩=some (.string pre)∧w'.cell? ⟨w.heap.size,3,none⟩=some (.string lk)∧w'.cell? ⟨w.heap.size,4,none⟩=some (.int .i64 mode)∧w'.cell? ⟨w.heap.size,5,none⟩=some (.int .i64 size)) (go_keep) ((go_at_call 116;refine (JC.out _).mono ?_;rintro e w' ⟨rfl,rfl⟩))
  all_goals go_wp2_with fail
  go_loopw [49] (fun i wr=>∃ j:Nat,j≤([]:List Rec).length∧i=.int .i64 j∧Hid (C8 V2 wr (w.heap.size+1+1) (w.heap.size+1+1+1) ((([]:List Rec).take j).foldl apply1 ⟨k,jp,mode,lk,size⟩))) (fun i _=>([]:List Rec).length - (intOf i).toNat)
  case atStart=>exact ⟨0,Nat.zero_le _,rfl,hid HV.out.1⟩
  case round =>
   obtain ⟨j,hj,rfl,HS⟩:=hrel;obtain rfl:j=0:=by simpa using hj
   have hE:∀ J,([]:List Rec).length≤J→(([]:List Rec).take J).foldl apply1 ⟨k,jp,mode,lk,size⟩=e:=fun J hJ=>by
    rw [List.take_of_length_le hJ,← HRL.out];have h:=apply_all e HE.out.2;have hh:headE e=⟨k,jp,mode,lk,size⟩:=by
     obtain ⟨j1,j2,j3⟩:=HJ.out;have e1:(planH e).link=lk:=by rw [HHD.out]
     have e2:(planH e).size=size:=by rw [HHD.out]
     have e3:(planH e).mode=mode:=by rw [HHD.out]
     unfold headE;rw [hk,← j2,← j3,j1,e1,e2,show e.mode=mode from e3]
    rw [hh] at h;exact h
   rw [hE _ (by simp)] at HS;have BW:=hid (HV.out.2.2.2.1.trans (HS.out.mo.below (by have:=HV.out.2.2.2.2;omega) (by simp;omega)));have PC1:=hid (PC.out wr (HG.out.below BW.out));rw [HHD.out,HRL.out] at PC1;unfold ZCheck.Hdr.val ZCheck.Hdr.cells at PC1;dsimp only at PC1;have K1:Hid (wr.heap[w.heap.size]?=some (.cells #[.int .u8 typ,.string name,.string pre,.string lk,.int .i64 mode,.int .i64 size] 138 (0,0))):=hid ((HS.out.mo.keep _ (by have:=HV.out.2.2.2.2;omega) (by simp;omega)).trans HV.out.2.1);have K2:Hid (wr.heap[w.heap.size+1]?=some (.cells #[.int .i64 0,.string ⟨#[]⟩,.int .i64 0,.string ⟨#[]⟩,.int .i64 0] 54 (0,0))):=hid ((HS.out.mo.keep _ (by have:=HV.out.2.2.2.2;omega) (by simp)).trans HV.out.2.2.1);have VR:Hid (RecRd w (.slice A 0 c) []):=hid ⟨A,c,rfl,hc,HR.out⟩;have bl:=HS.out.blk;clear hE;obtain ⟨kind,path,m2,tgt,sz2⟩:=e;dsimp only at hk;subst hk;unfold Ent.val Ent.cells at PC1;unfold Ent.cells at bl;dsimp only at PC1 bl;obtain ⟨d0,d1,d2,d3,d4⟩:wr.cell? ⟨w.heap.size+1+1,0,none⟩=some (.int .i64 k)∧wr.cell? ⟨w.heap.size+1+1,1,none⟩=some (.string path)∧wr.cell? ⟨w.heap.size+1+1,2,none⟩=some (.int .i64 m2)∧wr.cell? ⟨w.heap.size+1+1,3,none⟩=some (.string tgt)∧wr.cell? ⟨w.heap.size+1+1,4,none⟩=some (.int .i64 sz2):=by simp [World.cell?,bl]
   have BLK:=hid bl;clear bl
   go_wp2_with fail
   refine PC1.out.mono ?_;rintro r w3 ⟨v2,rfl,hrow,hb⟩;have B3:=hid (below_step BW.out hb);have L3:=hid (And.intro ((hb.block _ (blk_lt K1.out)).trans K1.out) (And.intro ((hb.block _ (blk_lt K2.out)).trans K2.out) ((hb.block _ (blk_lt BLK.out)).trans BLK.out)));have QC:=hid (equal_calls (.slice A 0 c) v2 [] (by simp) (w3.alloc (.cells #[.int .u8 typ,.string name,.string pre,.string lk,.int .i64 mode,.int .i64 size] 138)) ((VR.out.below B3.out).below (below_alloc (Below.refl _ _) _)) ((RecRd.of hrow).below (below_alloc (Below.refl _ _) _)));have K3:=hid (heap_alloc_new w3 (.cells #[.int .u8 typ,.string name,.string pre,.string lk,.int .i64 mode,.int .i64 size] 138));have B4:=hid (B3.out.alloc B3.out.size (.cells #[.int .u8 typ,.string name,.string pre,.string lk,.int .i64 mode,.int .i64 size] 138));have L4:=hid (And.intro ((heap_alloc_old w3 (.cells #[.int .u8 typ,.string name,.string pre,.string lk,.int .i64 mode,.int .i64 size] 138) (blk_lt L3.out.1)).trans L3.out.1) (And.intro ((heap_alloc_old w3 (.cells #[.int .u8 typ,.string name,.string pre,.string lk,.int .i64 mode,.int .i64 size] 138) (blk_lt L3.out.2.1)).trans L3.out.2.1) ((heap_alloc_old w3 (.cells #[.int .u8 typ,.string name,.string pre,.string lk,.int .i64 mode,.int .i64 size] 138) (blk_lt L3.out.2.2)).trans L3.out.2.2)));obtain ⟨g0,g1,g2,g3,g4,g5⟩:(w3.alloc (.cells #[.int .u8 typ,.string name,.string pre,.string lk,.int .i64 mode,.int .i64 size] 138)).cell? ⟨w.heap.size,0,none⟩=some (.int .u8 typ)∧(w3.alloc (.cells #[.int .u8 typ,.string name,.string pre,.string lk,.int .i64 mode,.int .i64 size] 138)).cell? ⟨w.heap.size,1,none⟩=some (.string name)∧(w3.alloc (.cells #[.int .u8 typ,.string name,.string pre,.string lk,.int .i64 mode,.int .i64 size] 138)).cell? ⟨w.heap.size,2,none⟩=some (.string pre)∧(w3.alloc (.cells #[.int .u8 typ,.string name,.string pre,.string lk,.int .i64 mode,.int .i64 size] 138)).cell? ⟨w.heap.size,3,none⟩=some (.string lk)∧(w3.alloc (.cells #[.int .u8 typ,.string name,.string pre,.string lk,.int .i64 mode,.int .i64 size] 138)).cell? ⟨w.heap.size,4,none⟩=some (.int .i64 mode)∧(w3.alloc (.cells #[.int .u8 typ,.string name,.string pre,.string lk,.int .i64 mode,.int .i64 size] 138)).cell? ⟨w.heap.size,5,none⟩=some (.int .i64 size):=⟨cello L4.out.1 0 _ rfl,cello L4.out.1 1 _ rfl,cello L4.out.1 2 _ rfl,cello L4.out.1 3 _ rfl,cello L4.out.1 4 _ rfl,cello L4.out.1 5 _ rfl⟩;clear hrow hb
   go_wp2_with fail
   refine QC.out.mono ?_;rintro r w5 ⟨rfl,hb5⟩;have B5:=hid (below_step B4.out hb5);have r1:=(hb5.block _ (blk_lt L4.out.2.1)).trans L4.out.2.1;have r2:=(hb5.block _ (blk_lt L4.out.2.2)).trans L4.out.2.2;obtain ⟨y0,y1,y2,y3,y4⟩:w5.cell? ⟨w.heap.size+1,0,none⟩=some (.int .i64 0)∧w5.cell? ⟨w.heap.size+1,1,none⟩=some (.string ⟨#[]⟩)∧w5.cell? ⟨w.heap.size+1,2,none⟩=some (.int .i64 0)∧w5.cell? ⟨w.heap.size+1,3,none⟩=some (.string ⟨#[]⟩)∧w5.cell? ⟨w.heap.size+1,4,none⟩=some (.int .i64 0):=⟨cello r1 0 _ rfl,cello r1 1 _ rfl,cello r1 2 _ rfl,cello r1 3 _ rfl,cello r1 4 _ rfl⟩;obtain ⟨x0,x1,x2,x3,x4⟩:w5.cell? ⟨w.heap.size+1+1,0,none⟩=some (.int .i64 k)∧w5.cell? ⟨w.heap.size+1+1,1,none⟩=some (.string path)∧w5.cell? ⟨w.heap.size+1+1,2,none⟩=some (.int .i64 m2)∧w5.cell? ⟨w.heap.size+1+1,3,none⟩=some (.string tgt)∧w5.cell? ⟨w.heap.size+1+1,4,none⟩=some (.int .i64 sz2):=⟨cello r2 0 _ rfl,cello r2 1 _ rfl,cello r2 2 _ rfl,cello r2 3 _ rfl,cello r2 4 _ rfl⟩;obtain ⟨z0,z1,z2,z3,z4⟩:w5.frozen? ⟨w.heap.size+1,0,none⟩=false∧w5.frozen? ⟨w.heap.size+1,1,none⟩=false∧w5.frozen? ⟨w.heap.size+1,2,none⟩=false∧w5.frozen? ⟨w.heap.size+1,3,none⟩=false∧w5.frozen? ⟨w.heap.size+1,4,none⟩=false:=by simp [World.frozen?,r1]
   clear r1 r2 hb5 g0 g1 g2 g3 g4 g5 d0 d1 d2 d3 d4
   go_wp2_with fail
   refine bodyPost_ret (v:=.tuple #[.agg #[.int .i64 k,.string path,.int .i64 m2,.string tgt,.int .i64 sz2],.int .i64 0]) (by simp [results,Tryz.results79,go_sem,y0,y1,y2,y3,y4,z0,z1,z2,z3,z4]) rfl ⟨rfl,?_⟩
   iterate 5 (refine Below.setCell ?_ (by show w.heap.size≤w.heap.size+1;omega) _)
   exact B5.out
end ZMerge
end
namespace ZFirstN
open ZSize ZNum ZNumA ZFirst
open ZCPar (c_in index_miss)
open Go.Lib (decDigits)
theorem split_at (l:List UInt8) (c:UInt8):c∉l∨∃ a b,l=a++c :: b∧c∉a:=by
 induction l with
 | nil=>exact .inl (by simp)
 | cons x l ih =>
  by_cases h:x=c
  ·exact .inr ⟨[],l,by rw [h];rfl,by simp⟩
  ·
   rcases ih with h1 | ⟨a,b,h1,h2⟩
   ·exact .inl (by simp only [List.mem_cons,not_or];exact ⟨fun e=>h e.symm,h1⟩)
   ·exact .inr ⟨x :: a,b,by rw [h1];rfl,by simp only [List.mem_cons,not_or];exact ⟨fun e=>h e.symm,h2⟩⟩
theorem to_nums {l:List Int} (hl:∀ x∈l,0≤x∧x < 256):l=(Lib.bytesOf l).map (fun u=>(u.toNat:Int)):=by
 induction l with
 | nil=>rfl
 | cons x l ih =>
  have hx:=hl x (by simp);simp only [Lib.bytesOf,List.map_cons,List.cons.injEq];refine ⟨?_,ih fun y hy=>hl y (by simp [hy])⟩;have:x.toNat.toUInt8.toNat=x.toNat:=by show (UInt8.ofNat x.toNat).toNat=_;rw [UInt8.toNat_ofNat'];omega
  rw [this];omega
theorem cut0 (ad:Addr) (n c b:Nat) (sep:UInt8) (l:List Int) (w:World) (hr:Kd.C (Kd.int .u8) w (some ad) n l) (hl:∀ x∈l,0≤x∧x < 256) (hp:sep∉Lib.bytesOf l) (hc:n≤c) (h1:n≤1000000) (hG:Gl w) (hz:w.cell? ⟨b,0,none⟩=some (.int .u8 (sep.toNat:Int))): Calls Tryz.prog 144 #[.slice (some ad) n c,.slice (some ⟨b,0,none⟩) 1 1] w fun e w'=>e=.returned (.tuple #[.slice (some ad) n c,.slice none 0 0,.bool false])∧Drawn0 w w':=by
 obtain ⟨m,hm⟩:=hG.max;have hlen:=Kd.C_len hr;have hs:=sep.toNat_lt;refine (Tryz.bytes_Cut_all (some ad) (some ⟨b,0,none⟩) n c 1 1 l [(sep.toNat:Int)] m w hlen rfl hl (by simp;omega) (c_in hr) (fun _=>⟨b,0,rfl,fun i hi=>?_⟩) (fun e=>by cases e) hc (by omega) (by decide) hm).mono ?_
 ·
  obtain rfl:i=0:=by omega
  exact hz
 ·
  rintro e w' ⟨rfl,q,rfl⟩;refine ⟨?_,⟨⟨q,rfl⟩⟩⟩;have e2:Lib.bytesOf [(sep.toNat:Int)]=[sep]:=by simp [Lib.bytesOf]
  rw [e2,Lib.index_one,(ZPlanOk.index_neg _ _).2 hp];unfold Lib.cutV;rw [if_neg (by omega)]
theorem box_facts {W:World} {k:Nat} (h:W.heap[k]?=some (.cells #[.string ⟨#[]⟩,.string ⟨#[]⟩] 125 (0,0))): W.cell? ⟨k,0,none⟩=some (.string ⟨#[]⟩)∧W.cell? ⟨k,1,none⟩=some (.string ⟨#[]⟩)∧W.frozen? ⟨k,0,none⟩=false∧W.frozen? ⟨k,1,none⟩=false:=by
 simp [World.cell?,World.frozen?,h]
def Shp (r:Rec):Prop:=(61:UInt8)∉r.key.data.toList∧Rec.rest r≤262144
theorem has_suffix (l:List Int) (hl:∀ x∈l,0≤x∧x < 256) (h:Lib.hasSuffix (Lib.bytesOf l) (Lib.bytesOf [10])=true):∃ l',l=l'++[10]:=by unfold Lib.hasSuffix at h;rw [List.isSuffixOf_iff_suffix] at h;obtain ⟨p,hp⟩:=h;refine ⟨p.map (fun u=>(u.toNat:Int)),?_⟩;rw [to_nums hl,← hp];simp [Lib.bytesOf]
set_option maxHeartbeats 8000000 in
theorem first_none (b o:Nat) (n c:Nat) (l:List Int) (w:World) (hr:Kd.C (Kd.int .u8) w (some ⟨b,o,none⟩) n l) (hl:∀ x∈l,0≤x∧x < 256) (hc:n≤c) (h1:n≤262144) (hG:Gl w) (hno:∀ r rest,Shp r→l≠recB r++rest): Calls Tryz.prog 146 #[.slice (some ⟨b,o,none⟩) n c] w fun e w'=>Below w.heap.size w w'∧∃ x:Int,(x=5∨x=6)∧e=.returned (.tuple #[.agg #[.string ⟨#[]⟩,.string ⟨#[]⟩],.int .i64 0,.int .i64 x]):=by
 have hlen:=Kd.C_len hr;have HR:=hid (And.intro hr (And.intro hl (And.intro hno hlen)));have hsz:(w.alloc (.cells #[.string ⟨#[]⟩,.string ⟨#[]⟩] 125)).heap.size=w.heap.size+1:=by simp
 have cv1:=conv30 (.int .u8 32) (w.alloc (.cells #[.string ⟨#[]⟩,.string ⟨#[]⟩] 125));have cl1:=frz_cell (w.alloc (.cells #[.string ⟨#[]⟩,.string ⟨#[]⟩] 125)) (.int .u8 32);have B1:Hid (Below w.heap.size w (frz (w.alloc (.cells #[.string ⟨#[]⟩,.string ⟨#[]⟩] 125)) (.int .u8 32))):=hid (frz_below (below_alloc (Below.refl _ _) _) (by omega) _);have O1:Hid ((frz (w.alloc (.cells #[.string ⟨#[]⟩,.string ⟨#[]⟩] 125)) (.int .u8 32)).heap[w.heap.size]?=some (.cells #[.string ⟨#[]⟩,.string ⟨#[]⟩] 125 (0,0))∧(frz (w.alloc (.cells #[.string ⟨#[]⟩,.string ⟨#[]⟩] 125)) (.int .u8 32)).heap.size=w.heap.size+2):=hid (by
  refine ⟨?_,by rw [frz_size,hsz]⟩;have b:=frz_below (B:=(w.alloc (.cells #[.string ⟨#[]⟩,.string ⟨#[]⟩] 125)).heap.size) (Below.refl _ (w.alloc (.cells #[.string ⟨#[]⟩,.string ⟨#[]⟩] 125))) (Nat.le_refl _) (.int .u8 32);exact (b.block _ (by omega)).trans (heap_alloc_new _ _))
 rw [hsz] at cv1 cl1;obtain ⟨W1,hW1⟩:∃ X,frz (w.alloc (.cells #[.string ⟨#[]⟩,.string ⟨#[]⟩] 125)) (.int .u8 32)=X:=⟨_,rfl⟩;rw [hW1] at cv1 cl1 B1 O1;have GW:=hid hG;have CL:=hid cl1;clear hr hl hW1 hsz cl1 hG hno hlen;rcases split_at (Lib.bytesOf l) 32 with hp | ⟨pre,post,hp,hq⟩
 ·
  have C2:=hid (cut0 ⟨b,o,none⟩ n c (w.heap.size+1) 32 l W1 (Kd.C_below HR.out.1 B1.out) HR.out.2.1 hp hc (by omega) (GW.out.below B1.out) CL.out);clear hp;go_enter Tryz.func146,Tryz.ntmps146
  go_wp2_with fail
  refine C2.out.mono ?_;rintro e w2 ⟨rfl,hd⟩;have B2:=hid (below_step B1.out (hd.below));have O2:=hid ((hd.below.block w.heap.size (by rw [O1.out.2];omega)).trans O1.out.1);clear hd C2;have o7:=O2.out;obtain ⟨y0,y1,z0,z1'⟩:=box_facts o7;clear o7
  go_wp2_with fail
  refine bodyPost_ret (v:=.tuple #[.agg #[.string ⟨#[]⟩,.string ⟨#[]⟩],.int .i64 0,.int .i64 6]) (by simp [results,Tryz.results146,go_sem,y0,y1,z0,z1']) rfl ⟨?_,6,.inr rfl,rfl⟩
  iterate 2 (refine Below.setCell ?_ (by show w.heap.size≤w.heap.size;omega) _)
  exact B2.out
 ·
  obtain ⟨dn,hdn⟩:∃ d,pre.length=d:=⟨_,rfl⟩;have SP:=hid (show l=pre.map (fun u=>(u.toNat:Int))++((32:UInt8).toNat:Int) :: post.map (fun u=>(u.toNat:Int)) from by
   conv=>lhs;rw [to_nums HR.out.2.1,hp]
   simp)
  have C2:=hid (cut1 ⟨b,o,none⟩ n c (w.heap.size+1) pre 32 l (post.map (fun u=>(u.toNat:Int))) W1 (Kd.C_below HR.out.1 B1.out) HR.out.2.1 SP.out hq hc (by omega) (GW.out.below B1.out) CL.out);rw [hdn] at C2;have hdl:dn+1≤n:=by rw [← HR.out.2.2.2,SP.out];simp;omega
  have HDN:=hid hdn;clear hp hq hdn;go_enter Tryz.func146,Tryz.ntmps146
  go_wp2_with fail
  refine C2.out.mono ?_;rintro e w2 ⟨rfl,hd⟩;have B2:=hid (below_step B1.out (hd.below));have O2:=hid ((hd.below.block w.heap.size (by rw [O1.out.2];omega)).trans O1.out.1);clear hd C2;obtain ⟨ds,hds⟩:∃ s:ByteArray,s.data.toList=pre:=⟨⟨pre.toArray⟩,by simp⟩;have hdz:ds.size=dn:=by rw [← HDN.out,← hds];exact Array.length_toList.symm
  have cvs:(convert 30 9 (.slice (some ⟨b,o,none⟩) dn c)).run Tryz.prog w2=.ok (.string ds) w2:=by
   rw [← hdz];exact conv_part ⟨b,o,none⟩ n c _ ds w2 (Kd.C_below HR.out.1 B2.out) ⟨((32:UInt8).toNat:Int) :: post.map (fun u=>(u.toNat:Int)),by
    have h:=SP.out;rw [← hds] at h;exact h⟩
  have NC:=hid (fun W hW=>number_any ds 999999 (by decide) (by omega) W hW);have HDS:=hid (And.intro hds hdz);clear hds hdz
  go_wp2_with fail
  refine (NC.out _ (GW.out.below (by first | exact B2.out | exact B2.out.drew))).mono ?_;rintro e w3 ⟨hb,⟨u,hu,hu2,rfl⟩ | ⟨_,x,hx,rfl⟩⟩;rotate_left
  ·
   have B3:=hid (below_step B2.out hb);have O3:=hid ((hb.block w.heap.size (Array.getElem?_eq_some_iff.1 O2.out).1).trans O2.out);have x0:(x != 0)=true:=by rw [bne_iff_ne];omega
   clear hb NC cvs hx;have o7:=O3.out;obtain ⟨y0,y1,z0,z1'⟩:=box_facts o7;clear o7
   go_wp2_with fail
   refine bodyPost_ret (v:=.tuple #[.agg #[.string ⟨#[]⟩,.string ⟨#[]⟩],.int .i64 0,.int .i64 6]) (by simp [results,Tryz.results146,go_sem,y0,y1,z0,z1']) rfl ⟨?_,6,.inr rfl,rfl⟩
   iterate 2 (refine Below.setCell ?_ (by show w.heap.size≤w.heap.size;omega) _)
   exact B3.out
  ·
   have B3:=hid (below_step B2.out hb);have O3:=hid ((hb.block w.heap.size (Array.getElem?_eq_some_iff.1 O2.out).1).trans O2.out);have HU:=hid (And.intro hu hu2);clear hb NC cvs hu hu2;by_cases hu0:u=0
   ·
    subst hu0;have o7:=O3.out;obtain ⟨y0,y1,z0,z1'⟩:=box_facts o7;clear o7
    go_wp2_with fail
    refine bodyPost_ret (v:=.tuple #[.agg #[.string ⟨#[]⟩,.string ⟨#[]⟩],.int .i64 0,.int .i64 6]) (by simp [results,Tryz.results146,go_sem,y0,y1,z0,z1']) rfl ⟨?_,6,.inr rfl,rfl⟩
    iterate 2 (refine Below.setCell ?_ (by show w.heap.size≤w.heap.size;omega) _)
    exact B3.out
   ·
    have z1:(u:Int)≠0:=by omega
    have z2:((u:Int) == 0)=false:=beq_eq_false_iff_ne.2 z1;by_cases hun:n < u
    ·
     have z3:(n:Int) < (u:Int):=by omega
     have o7:=O3.out;obtain ⟨y0,y1,z0,z1'⟩:=box_facts o7;clear o7
     go_wp2_with fail
     refine bodyPost_ret (v:=.tuple #[.agg #[.string ⟨#[]⟩,.string ⟨#[]⟩],.int .i64 0,.int .i64 5]) (by simp [results,Tryz.results146,go_sem,y0,y1,z0,z1']) rfl ⟨?_,5,.inl rfl,rfl⟩
     iterate 2 (refine Below.setCell ?_ (by show w.heap.size≤w.heap.size;omega) _)
     exact B3.out
    ·
     have z3:¬ (n:Int) < (u:Int):=by omega
     have cv:=conv30;have hk1:u≤c:=by omega
     have LT:Hid ((l.take u).length=u∧∀ x∈l.take u,0≤x∧x < 256):=hid ⟨by rw [List.length_take,HR.out.2.2.2];omega,fun x hx=>HR.out.2.1 x (List.mem_of_mem_take hx)⟩;have CS0:=hid (show Calls Tryz.prog 166 #[.slice (some ⟨b,o,none⟩) u c,.slice (some ⟨w3.heap.size,0,none⟩) 1 1] (frz w3 (.int .u8 10)) fun e w'=>e=.returned (.tuple #[Lib.bytesTrimSuffix b o u c (l.take u) [10],.bool (Lib.hasSuffix (Lib.bytesOf (l.take u)) (Lib.bytesOf [10]))])∧w'=frz w3 (.int .u8 10) from by
      have hR:=HR.out.1;have hR2:Kd.C (Kd.int .u8) w (some ⟨b,o,none⟩) l.length l:=by rw [HR.out.2.2.2];exact hR
      have hT:=Kd.C_take (m:=u) hR2 (by rw [HR.out.2.2.2];omega);have hT2:=Kd.C_below hT (frz_below B3.out B3.out.size (.int .u8 10));exact Tryz.bytes_CutSuffix_all (some ⟨b,o,none⟩) (some ⟨w3.heap.size,0,none⟩) u c 1 1 (l.take u) [10] (frz w3 (.int .u8 10)) LT.out.1 rfl (by omega) (by omega) (c_in (by rw [LT.out.1] at hT2;exact hT2)) (fun _=>⟨w3.heap.size,0,rfl,fun i hi=>by
       obtain rfl:i=0:=by omega
       exact frz_cell w3 _⟩))
     have B4:=hid (frz_below B3.out B3.out.size (.int .u8 10));have O4:Hid ((frz w3 (.int .u8 10)).heap[w.heap.size]?=some (.cells #[.string ⟨#[]⟩,.string ⟨#[]⟩] 125 (0,0))):=hid (((frz_below (Below.refl w3.heap.size w3) (Nat.le_refl _) (.int .u8 10)).block _ (Array.getElem?_eq_some_iff.1 O3.out).1).trans O3.out);by_cases hsf:Lib.hasSuffix (Lib.bytesOf (l.take u)) (Lib.bytesOf [10])=true;rotate_left
     ·
      have hsf2:Lib.hasSuffix (Lib.bytesOf (l.take u)) (Lib.bytesOf [10])=false:=by simpa using hsf
      unfold Lib.bytesTrimSuffix at CS0;rw [if_neg hsf,hsf2] at CS0;clear hsf hsf2
      go_wp2_with fail
      refine CS0.out.mono ?_;rintro e w4 ⟨rfl,hw4⟩;rw [← hw4] at B4 O4;clear hw4 CS0;have o7:=O4.out;obtain ⟨y0,y1,z0,z1'⟩:=box_facts o7;clear o7
      go_wp2_with fail
      refine bodyPost_ret (v:=.tuple #[.agg #[.string ⟨#[]⟩,.string ⟨#[]⟩],.int .i64 0,.int .i64 6]) (by simp [results,Tryz.results146,go_sem,y0,y1,z0,z1']) rfl ⟨?_,6,.inr rfl,rfl⟩
      iterate 2 (refine Below.setCell ?_ (by show w.heap.size≤w.heap.size;omega) _)
      exact B4.out
     ·
      unfold Lib.bytesTrimSuffix at CS0;rw [if_pos hsf,hsf] at CS0;have CS:Hid (Calls Tryz.prog 166 #[.slice (some ⟨b,o,none⟩) u c,.slice (some ⟨w3.heap.size,0,none⟩) 1 1] (frz w3 (.int .u8 10)) fun e w'=>e=.returned (.tuple #[.slice (some ⟨b,o,none⟩) (u - 1) c,.bool true])∧w'=frz w3 (.int .u8 10)):=hid CS0.out;obtain ⟨L',hL'⟩:=has_suffix _ LT.out.2 hsf;have HL:=hid hL';obtain ⟨m,hm⟩:∃ m,u - 1=m:=⟨_,rfl⟩;have hm2:u=m+1:=by omega
      rw [hm] at CS;have HM:=hid hm2;clear hm hsf CS0 hL';by_cases hmd:m≤dn
      ·
       have m1:(m:Int)≤(dn:Int):=by omega
       clear hm2
       go_wp2_with fail
       refine CS.out.mono ?_;rintro e w4 ⟨rfl,hw4⟩;rw [← hw4] at B4 O4;clear hw4 CS;have o7:=O4.out;obtain ⟨y0,y1,z0,z1'⟩:=box_facts o7;clear o7
       go_wp2_with fail
       refine bodyPost_ret (v:=.tuple #[.agg #[.string ⟨#[]⟩,.string ⟨#[]⟩],.int .i64 0,.int .i64 6]) (by simp [results,Tryz.results146,go_sem,y0,y1,z0,z1']) rfl ⟨?_,6,.inr rfl,rfl⟩
       iterate 2 (refine Below.setCell ?_ (by show w.heap.size≤w.heap.size;omega) _)
       exact B4.out
      ·
       have m1:¬ (m:Int)≤(dn:Int):=by omega
       have m2:dn+1≤m:=by omega
       have m3:m≤c:=by omega
       have m5:¬ c=dn+1:=by omega
       clear hm2
       go_wp2_with fail
       refine CS.out.mono ?_;rintro e w4 ⟨rfl,hw4⟩;rw [← hw4] at B4 O4;clear hw4 CS;obtain ⟨t,ht⟩:∃ t:ByteArray,t.data.toList=Lib.bytesOf (L'.drop (dn+1)):=⟨⟨(Lib.bytesOf (L'.drop (dn+1))).toArray⟩,by simp⟩;have hLl:L'.length=m:=by have h:=LT.out.1;rw [HL.out,List.length_append] at h;have:=HM.out;simp at h;omega
       have hts:t.size=m - (dn+1):=by have h2:t.size=t.data.toList.length:=Array.length_toList.symm;rw [ht] at h2;simp [Lib.bytesOf,hLl] at h2;exact h2
       have hLb:∀ x∈L'.drop (dn+1),0≤x∧x < 256:=fun x hx=>LT.out.2 x (by rw [HL.out];exact List.mem_append_left _ (List.mem_of_mem_drop hx));have htb:bytesOf t=L'.drop (dn+1):=by
        conv=>rhs;rw [to_nums hLb]
        unfold bytesOf;rw [ht]
       have cvs2:(convert 30 9 (.slice (some ⟨b,o+(dn+1),none⟩) (m - (dn+1)) (c - (dn+1)))).run Tryz.prog w4=.ok (.string t) w4:=by
        have hR:=Kd.C_below HR.out.1 B4.out;have hR2:Kd.C (Kd.int .u8) w4 (some ⟨b,o,none⟩) l.length l:=by rw [HR.out.2.2.2];exact hR
        have hD:=Kd.C_drop (m:=dn+1) (c:=c) hR2 (by rw [HR.out.2.2.2];omega) (by rw [HR.out.2.2.2];omega);rw [if_neg m5] at hD;have e1:(some (⟨b,o,none⟩:Addr)).map (·.add ((dn+1) * (Kd.int .u8).sz))=some ⟨b,o+(dn+1),none⟩:=by have:(dn+1) * (Kd.int .u8).sz=dn+1:=Nat.mul_one _;rw [this];rfl
        have e2:l.drop (dn+1)=bytesOf t++10 :: l.drop u:=by
         conv=>lhs;rw [← List.take_append_drop u l,HL.out]
         rw [htb,List.append_assoc,List.drop_append_of_le_length (by omega)];rfl
        rw [e1,e2] at hD;have:=conv_part _ _ (c - (dn+1)) _ t w4 hD ⟨_,rfl⟩;rw [hts] at this;exact this
       have TT:=hid (And.intro htb hLl);clear ht hLl hLb htb;rcases split_at t.data.toList 61 with h61 | ⟨kk,vv,h61,h62⟩
       ·
        have SC:Hid (Calls Tryz.prog 167 #[.string t,.string ⟨#[61]⟩] w4 fun e w'=>e=.returned (.tuple #[.string t,.string ⟨#[]⟩,.bool false])∧Drawn0 w4 w'):=hid (by
         obtain ⟨mx,hmx⟩:=(GW.out.below B4.out).max;refine (Tryz.strings_Cut t ⟨#[61]⟩ mx w4 (by have:=HM.out;omega) hmx).mono ?_;rintro e w' ⟨rfl,q,rfl⟩;refine ⟨?_,⟨⟨q,rfl⟩⟩⟩;have e3:Lib.cut t.data.toList [61]=(t.data.toList,[],false):=by unfold Lib.cut;rw [Lib.index_one,(ZPlanOk.index_neg _ _).2 h61,if_neg (by omega)]
         show Ending.returned (.tuple #[.string ⟨(Lib.cut t.data.toList [61]).1.toArray⟩,.string ⟨(Lib.cut t.data.toList [61]).2.1.toArray⟩,.bool (Lib.cut t.data.toList [61]).2.2])=_;rw [e3])
        clear hts h61
        go_wp2_with fail
        refine SC.out.mono ?_;rintro e w5 ⟨rfl,hd⟩;have B5:=hid (below_step B4.out hd.below);have O5:=hid ((hd.below.block w.heap.size (Array.getElem?_eq_some_iff.1 O4.out).1).trans O4.out);clear hd SC cvs2;have B6:=hid (B5.out.alloc B5.out.size (.cells #[.string t,.string ⟨#[]⟩] 125));have O6:=hid ((heap_alloc_old w5 (.cells #[.string t,.string ⟨#[]⟩] 125) (Array.getElem?_eq_some_iff.1 O5.out).1).trans O5.out);have o7:=O6.out;obtain ⟨y0,y1,z0,z1'⟩:=box_facts o7;clear o7
        go_wp2_with fail
        refine bodyPost_ret (v:=.tuple #[.agg #[.string ⟨#[]⟩,.string ⟨#[]⟩],.int .i64 0,.int .i64 6]) (by simp [results,Tryz.results146,go_sem,y0,y1,z0,z1']) rfl ⟨?_,6,.inr rfl,rfl⟩
        iterate 2 (refine Below.setCell ?_ (by show w.heap.size≤w.heap.size;omega) _)
        exact B6.out
       ·
        obtain ⟨key,hkey⟩:∃ t:ByteArray,t.data.toList=kk:=⟨⟨kk.toArray⟩,by simp⟩;obtain ⟨val,hval⟩:∃ t:ByteArray,t.data.toList=vv:=⟨⟨vv.toArray⟩,by simp⟩;have SC:Hid (Calls Tryz.prog 167 #[.string t,.string ⟨#[61]⟩] w4 fun e w'=>e=.returned (.tuple #[.string key,.string val,.bool true])∧Drawn0 w4 w'):=hid (by
         obtain ⟨mx,hmx⟩:=(GW.out.below B4.out).max;refine (Tryz.strings_Cut t ⟨#[61]⟩ mx w4 (by have:=HM.out;omega) hmx).mono ?_;rintro e w' ⟨rfl,q,rfl⟩;refine ⟨?_,⟨⟨q,rfl⟩⟩⟩;have e3:Lib.cut t.data.toList [61]=(key.data.toList,val.data.toList,true):=by
          have hi:Lib.index (kk++61 :: vv) [61]=kk.length:=by rw [Lib.index_one,index_miss _ _ ((ZPlanOk.index_neg _ _).2 h62)]
          rw [h61,hkey,hval];unfold Lib.cut;rw [hi,if_pos (by omega),Int.toNat_natCast,List.take_left' rfl];congr 2;rw [show kk++61 :: vv=(kk++[61])++vv by simp,List.drop_left' (by simp)]
         show Ending.returned (.tuple #[.string ⟨(Lib.cut t.data.toList [61]).1.toArray⟩,.string ⟨(Lib.cut t.data.toList [61]).2.1.toArray⟩,.bool (Lib.cut t.data.toList [61]).2.2])=_;rw [e3])
        have RR:=hid (show Shp ⟨key,val⟩∧key.size+val.size+1=m - (dn+1)∧bytesOf t=bytesOf key++61 :: bytesOf val from by
         have h3:key.size=kk.length:=by rw [← hkey];exact Array.length_toList.symm
         have h4:val.size=vv.length:=by rw [← hval];exact Array.length_toList.symm
         have h5:t.size=t.data.toList.length:=Array.length_toList.symm;rw [h61,List.length_append,List.length_cons] at h5;refine ⟨⟨?_,?_⟩,by omega,?_⟩
         ·rw [hkey];exact h62
         ·unfold Rec.rest;have:=HM.out;dsimp only;omega
         ·unfold bytesOf;rw [h61,hkey,hval];simp)
        clear hts h61 h62 hkey hval
        go_wp2_with fail
        refine SC.out.mono ?_;rintro e w5 ⟨rfl,hd⟩;have B5:=hid (below_step B4.out hd.below);have O5:=hid ((hd.below.block w.heap.size (Array.getElem?_eq_some_iff.1 O4.out).1).trans O4.out);clear hd SC cvs2;have SZ2:=hid (ZSize.size_calls ⟨key,val⟩ (by have:=RR.out.1.2;omega) (w5.alloc (.cells #[.string key,.string val] 125)) (GW.out.below (B5.out.alloc B5.out.size _)));obtain ⟨sz,hsz⟩:∃ q,recSz ⟨key,val⟩=q:=⟨_,rfl⟩;rw [hsz] at SZ2;have HZ:=hid hsz;clear hsz;have B6:=hid (B5.out.alloc B5.out.size (.cells #[.string key,.string val] 125));have O6:=hid ((heap_alloc_old w5 (.cells #[.string key,.string val] 125) (Array.getElem?_eq_some_iff.1 O5.out).1).trans O5.out);have zz:((sz:Int) != (u:Int))=true:=by
         rw [bne_iff_ne];intro e;have e1:sz=u:=by omega
         refine HR.out.2.2.1 ⟨key,val⟩ (l.drop u) RR.out.1 ?_
         conv=>lhs;rw [← List.take_append_drop u l]
         congr 1;have p1:L'.take (dn+1)=pre.map (fun u=>(u.toNat:Int))++[((32:UInt8).toNat:Int)]:=by
          have q1:l.take (dn+1)=pre.map (fun u=>(u.toNat:Int))++[((32:UInt8).toNat:Int)]:=by rw [SP.out,show pre.map (fun u=>(u.toNat:Int))++((32:UInt8).toNat:Int) :: post.map (fun u=>(u.toNat:Int))=(pre.map (fun u=>(u.toNat:Int))++[((32:UInt8).toNat:Int)])++post.map (fun u=>(u.toNat:Int)) by simp,List.take_left' (by simp [HDN.out])]
          have q2:(l.take u).take (dn+1)=l.take (dn+1):=by rw [List.take_take];congr 1;have:=HM.out;omega
          rw [HL.out,List.take_append_of_le_length (by rw [TT.out.2];omega)] at q2;rw [q2,q1]
         have p2:L'=pre.map (fun u=>(u.toNat:Int))++32 :: (bytesOf key++61 :: bytesOf val):=by
          conv=>lhs;rw [← List.take_append_drop (dn+1) L',p1,← TT.out.1,RR.out.2.2]
          simp
         rw [HL.out,p2];unfold recB decB;rw [HZ.out,e1,← HU.out.1,HDS.out.1];simp
        go_wp2_with fail
        refine SZ2.out.mono ?_;rintro e w6 ⟨rfl,hb⟩;have B7:=hid (below_step B6.out hb);have O7:=hid ((hb.block w.heap.size (Array.getElem?_eq_some_iff.1 O6.out).1).trans O6.out);clear hb SZ2;have o7:=O7.out;obtain ⟨y0,y1,z0,z1'⟩:=box_facts o7;clear o7
        go_wp2_with fail
        refine bodyPost_ret (v:=.tuple #[.agg #[.string ⟨#[]⟩,.string ⟨#[]⟩],.int .i64 0,.int .i64 6]) (by simp [results,Tryz.results146,go_sem,y0,y1,z0,z1']) rfl ⟨?_,6,.inr rfl,rfl⟩
        iterate 2 (refine Below.setCell ?_ (by show w.heap.size≤w.heap.size;omega) _)
        exact B7.out
end ZFirstN
namespace ZFirstN
open ZSize ZNum ZNumA ZFirst
open ZCPar (c_in index_miss)
open Go.Lib (decDigits)
set_option maxHeartbeats 4000000 in
theorem first_rec (b o:Nat) (n c:Nat) (r:Rec) (rest:List Int) (w:World) (hr:Kd.C (Kd.int .u8) w (some ⟨b,o,none⟩) n (recB r++rest)) (hl:∀ x∈recB r++rest,0≤x∧x < 256) (hc:n≤c) (h1:n≤262144) (hk:(61:UInt8)∉r.key.data.toList) (hv:Rec.rest r≤262144) (hG:Gl w): Calls Tryz.prog 146 #[.slice (some ⟨b,o,none⟩) n c] w fun e w'=>e=.returned (.tuple #[.agg #[.string r.key,.string r.val],.int .i64 (recSz r),.int .i64 0])∧Below w.heap.size w w':=by
 obtain ⟨dl,ds,d7,d1⟩:=dec_len r (by omega);have C1:=hid (fun W (h1:Below w.heap.size w W) b2 hz=>cut1 ⟨b,o,none⟩ n c b2 (decDigits (recSz r)) 32 (recB r++rest) _ W (Kd.C_below hr h1) hl (rec_bytes r rest) (no_sp _) hc (by omega) (hG.below h1) hz);have HR:=hid (And.intro hr hl);have hsz:(w.alloc (.cells #[.string ⟨#[]⟩,.string ⟨#[]⟩] 125)).heap.size=w.heap.size+1:=by simp
 have cv1:=conv30 (.int .u8 32) (w.alloc (.cells #[.string ⟨#[]⟩,.string ⟨#[]⟩] 125));have cl1:=frz_cell (w.alloc (.cells #[.string ⟨#[]⟩,.string ⟨#[]⟩] 125)) (.int .u8 32);have B1:Hid (Below w.heap.size w (frz (w.alloc (.cells #[.string ⟨#[]⟩,.string ⟨#[]⟩] 125)) (.int .u8 32))):=hid (frz_below (below_alloc (Below.refl _ _) _) (by omega) _);have O1:Hid ((frz (w.alloc (.cells #[.string ⟨#[]⟩,.string ⟨#[]⟩] 125)) (.int .u8 32)).heap[w.heap.size]?=some (.cells #[.string ⟨#[]⟩,.string ⟨#[]⟩] 125 (0,0))∧(frz (w.alloc (.cells #[.string ⟨#[]⟩,.string ⟨#[]⟩] 125)) (.int .u8 32)).heap.size=w.heap.size+2):=hid (by
  refine ⟨?_,by rw [frz_size,hsz]⟩;have b:=frz_below (B:=(w.alloc (.cells #[.string ⟨#[]⟩,.string ⟨#[]⟩] 125)).heap.size) (Below.refl _ (w.alloc (.cells #[.string ⟨#[]⟩,.string ⟨#[]⟩] 125))) (Nat.le_refl _) (.int .u8 32);exact (b.block _ (by omega)).trans (heap_alloc_new _ _))
 rw [hsz] at cv1 cl1;obtain ⟨W1,hW1⟩:∃ X,frz (w.alloc (.cells #[.string ⟨#[]⟩,.string ⟨#[]⟩] 125)) (.int .u8 32)=X:=⟨_,rfl⟩;rw [hW1] at cv1 cl1 B1 O1;have C2:=hid (C1.out W1 B1.out (w.heap.size+1) cl1);have GW:=hid hG;clear hr hl hW1 C1 hsz cl1;have DD:=hid (And.intro dl (And.intro ds (And.intro d7 d1)));obtain ⟨dn,hdn⟩:∃ d,(decDigits (recSz r)).length=d:=⟨_,rfl⟩;obtain ⟨sz,hsz2⟩:∃ d,recSz r=d:=⟨_,rfl⟩;have HDN:=hid (And.intro hdn hsz2);rw [hdn] at C2;rw [hsz2];clear dl ds d7 d1;go_enter Tryz.func146,Tryz.ntmps146
 go_wp2_with fail
 refine C2.out.mono ?_;rintro e w2 ⟨rfl,hd⟩;have B2:=hid (below_step B1.out (hd.below));have O2:=hid ((hd.below.block w.heap.size (by rw [O1.out.2];omega)).trans O1.out.1);clear hd C2;have F:=hid (show dn=digN (Rec.rest r)∧sz=Rec.rest r+digN (Rec.rest r)∧dn≤7∧1≤dn from by obtain ⟨dl,ds,d7,d1⟩:=DD.out;obtain ⟨hdn,hsz2⟩:=HDN.out;rw [hdn] at dl;rw [hsz2] at ds;omega)
 have hn:n=sz+rest.length:=by have h1:=Kd.C_len HR.out.1;have h2:=recB_len r (by omega);have h3:=HDN.out.2;rw [List.length_append] at h1;omega
 obtain ⟨ds,hds⟩:∃ s:ByteArray,s.data.toList=decDigits (recSz r):=⟨⟨(decDigits (recSz r)).toArray⟩,by simp⟩;have hdz:ds.size=dn:=by rw [← HDN.out.1,← hds];exact Array.length_toList.symm
 have cvs:(convert 30 9 (.slice (some ⟨b,o,none⟩) dn c)).run Tryz.prog w2=.ok (.string ds) w2:=by rw [← hdz];exact conv_part ⟨b,o,none⟩ n c _ ds w2 (Kd.C_below HR.out.1 B2.out) ⟨((32:UInt8).toNat:Int) :: (bytesOf r.key++61 :: (bytesOf r.val++10 :: rest)),by rw [rec_bytes,← hds];rfl⟩
 have szr:3≤Rec.rest r:=by unfold Rec.rest;omega
 have z1:(sz:Int)≠0:=by have:=F.out;omega
 have z2:((sz:Int) == 0)=false:=beq_eq_false_iff_ne.2 z1;have z3:¬ (sz:Int) > (n:Int):=by omega
 have NC:=hid (fun W=>number_calls ds sz 999999 (by rw [hds,HDN.out.2]) (by have:=F.out;omega) (by have:=F.out;omega) (by have:=F.out;omega) (by have:=F.out;omega) W);have HDS:=hid (And.intro hds hdz);have SR:=hid (And.intro szr hn);clear hds hdz szr
 go_wp2_with fail
 refine (NC.out _).mono ?_;rintro e w3 ⟨rfl,hb⟩;have B3:=hid (below_step B2.out hb);have O3:=hid ((hb.block w.heap.size (Array.getElem?_eq_some_iff.1 O2.out).1).trans O2.out);clear hb NC cvs;have cv:=conv30;have hk1:sz≤c:=by omega
 have CS:Hid (Calls Tryz.prog 166 #[.slice (some ⟨b,o,none⟩) sz c,.slice (some ⟨w3.heap.size,0,none⟩) 1 1] (frz w3 (.int .u8 10)) fun e w'=>e=.returned (.tuple #[.slice (some ⟨b,o,none⟩) (sz - 1) c,.bool true])∧w'=frz w3 (.int .u8 10)):=hid (by
  have hR:=HR.out.1;have hrl:(recB r).length=sz:=by rw [recB_len r (by omega),HDN.out.2]
  have hR2:Kd.C (Kd.int .u8) w (some ⟨b,o,none⟩) (recB r++rest).length (recB r++rest):=by rw [Kd.C_len hR];exact hR
  have hT:=Kd.C_take (m:=sz) hR2 (by rw [List.length_append];omega);rw [List.take_left' hrl,hrl] at hT;have hT2:=Kd.C_below hT (frz_below B3.out B3.out.size (.int .u8 10));have h:=Tryz.bytes_CutSuffix_all (some ⟨b,o,none⟩) (some ⟨w3.heap.size,0,none⟩) sz c 1 1 (recB r) [10] (frz w3 (.int .u8 10)) hrl rfl (by omega) (by omega) (c_in hT2) (fun _=>⟨w3.heap.size,0,rfl,fun i hi=>by
   obtain rfl:i=0:=by omega
   exact frz_cell w3 _⟩)
  have hsuf:Lib.hasSuffix (Lib.bytesOf (recB r)) (Lib.bytesOf [10])=true:=by unfold Lib.hasSuffix;rw [List.isSuffixOf_iff_suffix];refine ⟨Lib.bytesOf (decB (recSz r)++(32 :: (bytesOf r.key++(61 :: bytesOf r.val)))),?_⟩;unfold recB;simp [Lib.bytesOf]
  have ht:Lib.trimSuffixV (some ⟨b,o,none⟩) sz c (recB r) [10]=.slice (some ⟨b,o,none⟩) (sz - 1) c:=by show Lib.bytesTrimSuffix b o sz c (recB r) [10]=_;unfold Lib.bytesTrimSuffix;rw [if_pos hsuf];rfl
  rw [ht,hsuf] at h;exact h)
 obtain ⟨m,hm⟩:∃ m,sz - 1=m:=⟨_,rfl⟩;have hm2:sz=m+1:=by have:=F.out;omega
 rw [hm] at CS;have HM:=hid hm2;have B4:=hid (frz_below B3.out B3.out.size (.int .u8 10));have O4:Hid ((frz w3 (.int .u8 10)).heap[w.heap.size]?=some (.cells #[.string ⟨#[]⟩,.string ⟨#[]⟩] 125 (0,0))):=hid (((frz_below (Below.refl w3.heap.size w3) (Nat.le_refl _) (.int .u8 10)).block _ (Array.getElem?_eq_some_iff.1 O3.out).1).trans O3.out);have m1:¬ (m:Int)≤(dn:Int):=by have:=F.out;have:=SR.out.1;omega
 have m2:dn+1≤m:=by have:=F.out;have:=SR.out.1;omega
 have m3:m≤c:=by omega
 have m4:dn≤7:=F.out.2.2.1;have m5:¬ c=dn+1:=by omega
 clear hm hm2
 go_wp2_with fail
 refine CS.out.mono ?_;rintro e w4 ⟨rfl,hw4⟩;rw [← hw4] at B4 O4;clear hw4 CS;obtain ⟨t,ht⟩:∃ t:ByteArray,t.data.toList=r.key.data.toList++61 :: r.val.data.toList:=⟨⟨(r.key.data.toList++61 :: r.val.data.toList).toArray⟩,by simp⟩;have hts:t.size=m - (dn+1):=by have h2:t.size=t.data.toList.length:=Array.length_toList.symm;have h3:r.key.size=r.key.data.toList.length:=Array.length_toList.symm;have h4:r.val.size=r.val.data.toList.length:=Array.length_toList.symm;have h5:=F.out;have h6:=HM.out;rw [ht,List.length_append,List.length_cons] at h2;unfold Rec.rest at h5;omega
 have cvs2:(convert 30 9 (.slice (some ⟨b,o+(dn+1),none⟩) (m - (dn+1)) (c - (dn+1)))).run Tryz.prog w4=.ok (.string t) w4:=by
  have hR:=Kd.C_below HR.out.1 B4.out;have hR2:Kd.C (Kd.int .u8) w4 (some ⟨b,o,none⟩) (recB r++rest).length (recB r++rest):=by rw [Kd.C_len hR];exact hR
  have hD:=Kd.C_drop (m:=dn+1) (c:=c) hR2 (by have:=HM.out;rw [Kd.C_len hR];omega) (by rw [Kd.C_len hR];omega);rw [if_neg m5] at hD;have e1:(some (⟨b,o,none⟩:Addr)).map (·.add ((dn+1) * (Kd.int .u8).sz))=some ⟨b,o+(dn+1),none⟩:=by have:(dn+1) * (Kd.int .u8).sz=dn+1:=Nat.mul_one _;rw [this];rfl
  have e2:(recB r++rest).drop (dn+1)=bytesOf t++10 :: rest:=by
   have q:recB r++rest=(decB (recSz r)++[32])++(bytesOf t++10 :: rest):=by
    have q2:bytesOf t=bytesOf r.key++61 :: bytesOf r.val:=by unfold bytesOf;rw [ht];simp
    rw [q2];unfold recB;simp
   rw [q,List.drop_left'];have:=HDN.out.1;unfold decB;simp [this]
  rw [e1,e2] at hD;have:=conv_part _ _ (c - (dn+1)) _ t w4 hD ⟨_,rfl⟩;rw [hts] at this;exact this
 have SC:Hid (Calls Tryz.prog 167 #[.string t,.string ⟨#[61]⟩] w4 fun e w'=>e=.returned (.tuple #[.string r.key,.string r.val,.bool true])∧Drawn0 w4 w'):=hid (by
  obtain ⟨mx,hmx⟩:=(GW.out.below B4.out).max;refine (Tryz.strings_Cut t ⟨#[61]⟩ mx w4 (by have:=HM.out;omega) hmx).mono ?_;rintro e w' ⟨rfl,q,rfl⟩;refine ⟨?_,⟨⟨q,rfl⟩⟩⟩;have e3:Lib.cut t.data.toList [61]=(r.key.data.toList,r.val.data.toList,true):=by
   have hi:Lib.index (r.key.data.toList++61 :: r.val.data.toList) [61]=r.key.data.toList.length:=by rw [Lib.index_one,index_miss _ _ ((ZPlanOk.index_neg _ _).2 hk)]
   rw [ht];unfold Lib.cut;rw [hi,if_pos (by omega),Int.toNat_natCast,List.take_left' rfl];congr 2;rw [show r.key.data.toList++61 :: r.val.data.toList=(r.key.data.toList++[61])++r.val.data.toList by simp,List.drop_left' (by simp)]
  show Ending.returned (.tuple #[.string ⟨(Lib.cut t.data.toList [61]).1.toArray⟩,.string ⟨(Lib.cut t.data.toList [61]).2.1.toArray⟩,.bool (Lib.cut t.data.toList [61]).2.2])=_;rw [e3])
 clear ht hts
 go_wp2_with fail
 refine SC.out.mono ?_;rintro e w5 ⟨rfl,hd⟩;have B5:=hid (below_step B4.out hd.below);have O5:=hid ((hd.below.block w.heap.size (Array.getElem?_eq_some_iff.1 O4.out).1).trans O4.out);clear hd SC cvs2;have SZ:=hid (fun W hW=>ZSize.size_calls r (by omega) W hW);have HZ:=hid HDN.out.2;obtain ⟨key,val⟩:=r;have SZ2:=hid (SZ.out (w5.alloc (.cells #[.string key,.string val] 125)) (GW.out.below (B5.out.alloc B5.out.size _)));rw [HZ.out] at SZ2;have B6:=hid (B5.out.alloc B5.out.size (.cells #[.string key,.string val] 125));have O6:=hid ((heap_alloc_old w5 (.cells #[.string key,.string val] 125) (Array.getElem?_eq_some_iff.1 O5.out).1).trans O5.out);have X6:=hid (heap_alloc_new w5 (.cells #[.string key,.string val] 125))
 go_wp2_with fail
 refine SZ2.out.mono ?_;rintro e w6 ⟨rfl,hb⟩;have B7:=hid (below_step B6.out hb);have O7:=(hb.block w.heap.size (Array.getElem?_eq_some_iff.1 O6.out).1).trans O6.out;have X7:=(hb.block w5.heap.size (Array.getElem?_eq_some_iff.1 X6.out).1).trans X6.out;have x0:w6.cell? ⟨w5.heap.size,0,none⟩=some (.string key):=by simp [World.cell?,X7]
 have x1:w6.cell? ⟨w5.heap.size,1,none⟩=some (.string val):=by simp [World.cell?,X7]
 have y0:w6.cell? ⟨w.heap.size,0,none⟩=some (.string ⟨#[]⟩):=by simp [World.cell?,O7]
 have y1:w6.cell? ⟨w.heap.size,1,none⟩=some (.string ⟨#[]⟩):=by simp [World.cell?,O7]
 have z0:w6.frozen? ⟨w.heap.size,0,none⟩=false:=by simp [World.frozen?,O7]
 have z1':w6.frozen? ⟨w.heap.size,1,none⟩=false:=by simp [World.frozen?,O7]
 have zz:((sz:Int) != (sz:Int))=false:=by simp
 clear hb SZ2 O7 X7
 go_wp2_with fail
 refine bodyPost_ret (v:=.tuple #[.agg #[.string key,.string val],.int .i64 sz,.int .i64 0]) (by simp [results,Tryz.results146,go_sem,y0,y1,z0,z1']) rfl ⟨rfl,?_⟩
 iterate 2 (refine Below.setCell ?_ (by show w.heap.size≤w.heap.size;omega) _)
 exact B7.out
def FirstPost (l:List Int) (w:World) (e:Ending) (w':World):Prop:=Below w.heap.size w w' ∧
 ((∃ r rest,Shp r∧l=recB r++rest∧e=.returned (.tuple #[.agg #[.string r.key,.string r.val],.int .i64 (recSz r),.int .i64 0])) ∨
  ((∀ r rest,Shp r→l≠recB r++rest)∧∃ x:Int,(x=5∨x=6)∧e=.returned (.tuple #[.agg #[.string ⟨#[]⟩,.string ⟨#[]⟩],.int .i64 0,.int .i64 x])))
theorem first_any (b o n c:Nat) (l:List Int) (w:World) (hr:Kd.C (Kd.int .u8) w (some ⟨b,o,none⟩) n l) (hl:∀ x∈l,0≤x∧x < 256) (hc:n≤c) (h1:n≤262144) (hG:Gl w): Calls Tryz.prog 146 #[.slice (some ⟨b,o,none⟩) n c] w (FirstPost l w):=by
 by_cases h:∃ r rest,Shp r∧l=recB r++rest
 ·obtain ⟨r,rest,h2,h3⟩:=h;subst h3;exact (first_rec b o n c r rest w hr hl hc h1 h2.1 h2.2 hG).mono fun e w' ⟨he,hb⟩=>⟨hb,.inl ⟨r,rest,h2,rfl,he⟩⟩
 ·have hno:∀ r rest,Shp r→l≠recB r++rest:=fun r rest h2 h3=>h ⟨r,rest,h2,h3⟩;exact (first_none b o n c l w hr hl hc h1 hG hno).mono fun e w' ⟨hb,x,hx,he⟩=>⟨hb,.inr ⟨hno,x,hx,he⟩⟩
def RecOk (r:Rec):Prop:=((r.key=sLink∨r.key=sPath)∧valOk r.val)∨(r.key=sSize∧¬ NoNum r.val 1099511627776)
theorem contains_any (k:ByteArray) (w:World) (hG:VarIs w 13 #[.string sLink,.string sPath,.string sSize]):Calls Tryz.prog 158 #[.slice (some ⟨13,0,none⟩) 3 3,.string k] w fun e w'=>e=.returned (.bool (Lib.containsS [sLink,sPath,sSize] k))∧w=w':=by
 refine (Tryz.slices_Contains_string 13 0 3 3 [sLink,sPath,sSize] k w (by decide) (by decide) ?_).mono ?_
 ·
  intro j hj;have hj:j < 3:=hj;rw [Nat.zero_add];refine VarIs.cell hG j _ ?_;obtain rfl | rfl | rfl:j=0∨j=1∨j=2:=by omega
  ·rfl
  ·rfl
  ·rfl
 ·rintro e w' ⟨rfl,rfl⟩;exact ⟨rfl,rfl⟩
theorem contains_no {k:ByteArray} (h:¬ (k=sLink∨k=sPath∨k=sSize)):Lib.containsS [sLink,sPath,sSize] k=false:=by rw [← Bool.not_eq_true,Lib.containsS_iff];simpa using h
set_option maxHeartbeats 2000000 in
theorem check_no (k v:ByteArray) (hk:¬ (k=sLink∨k=sPath∨k=sSize)) (w:World) (hG:Gl w):Calls Tryz.prog 133 #[.agg #[.string k,.string v]] w fun e w'=>e=.returned (.int .i64 17)∧Below w.heap.size w w':=by
 have hG1:∀ X:World,X.heap=(w.alloc (.cells #[.string k,.string v] 125)).heap→VarIs X 13 #[.string sLink,.string sPath,.string sSize]:=fun X hX=>by have:=hG.keys.below (below_alloc (Below.refl w.heap.size w) (.cells #[.string k,.string v] 125));exact VarIs.of this (by rw [hX])
 have CN:=hid (fun X hX=>contains_any k X (hG1 X hX));rw [contains_no hk] at CN;clear hk hG hG1;have BL:=hid (pw_below_drewN (below_alloc (Below.refl w.heap.size w) (.cells #[.string k,.string v] 125)));go_enter Tryz.func133,Tryz.ntmps133
 go_wp2_with fail
 go_quiet (first | exact quiet1 CN.out _ | exact quiet2 CN.out _ _)
 go_wp2_with fail
 go_ret;exact ⟨rfl,BL.out _⟩
set_option maxHeartbeats 2000000 in
theorem check_size (v:ByteArray) (hv:v.size≤1000000) (w:World) (hG:Gl w):Calls Tryz.prog 133 #[.agg #[.string sSize,.string v]] w fun e w'=>∃ x:Int,e=.returned (.int .i64 x)∧(x=0↔¬ NoNum v 1099511627776)∧(x=0∨x=3∨x=6)∧Below w.heap.size w w':=by
 have hG1:∀ X:World,X.heap=(w.alloc (.cells #[.string sSize,.string v] 125)).heap→VarIs X 13 #[.string sLink,.string sPath,.string sSize]:=fun X hX=>by have:=hG.keys.below (below_alloc (Below.refl w.heap.size w) (.cells #[.string sSize,.string v] 125));exact VarIs.of this (by rw [hX])
 have CN:=hid (fun X hX=>contains_key sSize (.inr (.inr rfl)) X (hG1 X hX));have BL:=hid (pw_below_drewN (below_alloc (Below.refl w.heap.size w) (.cells #[.string sSize,.string v] 125)));have NC:=hid (fun q=>number_any v 1099511627776 (by decide) hv ((w.alloc (.cells #[.string sSize,.string v] 125)).drewN q) (hG.below (BL.out q)));have hs2:(sSize.toList == [115,105,122,101])=true:=ZPath.str_yes [115,105,122,101] rfl;obtain ⟨k,hk⟩:∃ k,sSize=k:=⟨_,rfl⟩;rw [hk] at CN BL NC hs2 ⊢;clear hG hG1 hk;go_enter Tryz.func133,Tryz.ntmps133
 go_wp2_with fail
 go_quiet (first | exact quiet1 CN.out _ | exact quiet2 CN.out _ _)
 go_wp2_with fail
 refine (NC.out _).mono ?_;rintro e w3 ⟨hb,⟨u,hu,hu2,rfl⟩ | ⟨hn,x,hx,rfl⟩⟩
 ·
  have B3:=hid (below_step (BL.out _) hb);have HN:=hid (show ¬ NoNum v 1099511627776 from fun h=>h u hu2 hu);clear hb hu hu2
  go_wp2_with fail
  go_ret;exact ⟨0,rfl,⟨fun _=>HN.out,fun _=>rfl⟩,.inl rfl,B3.out⟩
 ·
  have B3:=hid (below_step (BL.out _) hb);have HN:=hid (And.intro hn hx);clear hb hn hx
  go_wp2_with fail
  go_ret;exact ⟨x,rfl,⟨fun h=>by have:=HN.out.2;omega,fun h=>absurd HN.out.1 h⟩,.inr HN.out.2,B3.out⟩
set_option maxHeartbeats 2000000 in
theorem check_lp (k v:ByteArray) (hk:k=sLink∨k=sPath) (w:World) (hG:Gl w):Calls Tryz.prog 133 #[.agg #[.string k,.string v]] w fun e w'=>∃ x:Int,e=.returned (.int .i64 x)∧(x=0↔valOk v)∧(x=0∨x=6∨x=7)∧Below w.heap.size w w':=by
 have hG1:∀ X:World,X.heap=(w.alloc (.cells #[.string k,.string v] 125)).heap→VarIs X 13 #[.string sLink,.string sPath,.string sSize]:=fun X hX=>by have:=hG.keys.below (below_alloc (Below.refl w.heap.size w) (.cells #[.string k,.string v] 125));exact VarIs.of this (by rw [hX])
 have CN:=hid (fun X hX=>contains_key k (hk.elim .inl fun h=>.inr (.inl h)) X (hG1 X hX));have IB:=hid (fun W=>Tryz.strings_IndexByte v 0 W);have hs2:(k.toList == [115,105,122,101])=false:=ZPath.str_no [115,105,122,101] (by
  rcases hk with rfl | rfl
  ·intro h;have:=congrArg (fun x:ByteArray=>x.data.size) h;cases this
  ·intro h;have:=congrArg (fun x:ByteArray=>x.data[0]!) h;cases this)
 have e0:(0:Int).toNat.toUInt8=0:=rfl;rw [e0] at IB;clear hk hG hG1;have BL:=hid (pw_below_drewN (below_alloc (Below.refl w.heap.size w) (.cells #[.string k,.string v] 125)));go_enter Tryz.func133,Tryz.ntmps133
 go_wp2_with fail
 go_quiet (first | exact quiet1 CN.out _ | exact quiet2 CN.out _ _)
 by_cases h1:v.size≤65536
 ·
  have h1z:¬ (65536:Int) < (v.size:Int):=by omega
  by_cases h2:v=⟨#[]⟩
  ·
   have hb:=ZPath.emp_yes h2;have H2:=hid h2;clear h2
   go_wp2_with fail
   go_ret;exact ⟨6,rfl,⟨fun h=>by omega,fun h=>absurd H2.out h.2.1⟩,.inr (.inl rfl),BL.out _⟩
  ·
   have hb:=ZPath.emp_no h2;have H2:=hid h2;clear h2;by_cases h3:0≤Lib.indexByte v.data.toList 0
   ·
    go_wp2_with fail
    refine (IB.out _).mono ?_;rintro e w' ⟨rfl,rfl⟩;go_wp2;go_ret;exact ⟨6,rfl,⟨fun h=>by omega,fun h=>by have:=h.2.2;omega⟩,.inr (.inl rfl),BL.out _⟩
   ·
    go_wp2_with fail
    refine (IB.out _).mono ?_;rintro e w' ⟨rfl,rfl⟩;go_wp2;go_ret;exact ⟨0,rfl,⟨fun _=>⟨h1,H2.out,by omega⟩,fun _=>rfl⟩,.inl rfl,BL.out _⟩
 ·
  have h1z:(65536:Int) < (v.size:Int):=by omega
  go_wp2_with fail
  go_ret;exact ⟨7,rfl,⟨fun h=>by omega,fun h=>absurd h.1 h1⟩,.inr (.inr rfl),BL.out _⟩
theorem check_any (k v:ByteArray) (hv:v.size≤1000000) (w:World) (hG:Gl w):Calls Tryz.prog 133 #[.agg #[.string k,.string v]] w fun e w'=>∃ x:Int,e=.returned (.int .i64 x)∧(x=0↔RecOk ⟨k,v⟩)∧x≠18∧Below w.heap.size w w':=by
 have e1:sSize≠sLink:=by decide
 have e2:sSize≠sPath:=by decide
 by_cases h:k=sLink∨k=sPath
 ·
  refine (check_lp k v h w hG).mono ?_;rintro e w' ⟨x,rfl,hx,h18,hb⟩;refine ⟨x,rfl,hx.trans ⟨fun h2=>.inl ⟨h,h2⟩,?_⟩,by omega,hb⟩;rintro (h2 | h2)
  ·exact h2.2
  ·
   have h3:k=sSize:=h2.1;rcases h with h | h
   ·exact absurd (h3.symm.trans h) e1
   ·exact absurd (h3.symm.trans h) e2
 ·
  by_cases h2:k=sSize
  ·
   subst h2;refine (check_size v hv w hG).mono ?_;rintro e w' ⟨x,rfl,hx,h18,hb⟩;refine ⟨x,rfl,hx.trans ⟨fun h3=>.inr ⟨rfl,h3⟩,?_⟩,by omega,hb⟩;rintro (h3 | h3)
   ·exact absurd h3.1 h
   ·exact h3.2
  ·
   refine (check_no k v (by rintro (h3 | h3 | h3) <;> simp_all) w hG).mono ?_;rintro e w' ⟨rfl,hb⟩;refine ⟨17,rfl,⟨fun h3=>by omega,?_⟩,by decide,hb⟩;rintro (h3 | h3)
   ·exact absurd h3.1 h
   ·exact absurd h3.1 h2
end ZFirstN
end Go.Proofs.YteikiojmcipkmaaGreatDoor
