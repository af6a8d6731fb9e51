/- Parts of the proof, gathered by a program: what calls of the functions answer, and what follows in plain lists. Conditions: those that each theorem states. -/
import Derived.Test.YteikiojmcipkmaaGreatDoorMR16
import Derived.Lib.LazyBuf
set_option linter.unusedVariables false
set_option linter.unusedSimpArgs false
namespace Go.Proofs.YteikiojmcipkmaaGreatDoor
open Go.Lib (hid)
set_option maxRecDepth 100000
section
namespace ZCPar
open Go.RowKit YteikiojmcipkmaaGreatDoorW.PrintWords YteikiojmcipkmaaGreatDoorW.PrintLast YteikiojmcipkmaaGreatDoorW.PrintMore Oct ZBase ZOctal ZGlob ZCstr
theorem bytes_back (s:ByteArray):Lib.bytesOf (bytesOf s)=s.data.toList:=by
 simp only [Lib.bytesOf,bytesOf,List.map_map]
 conv=>rhs;rw [← List.map_id s.data.toList]
 apply List.map_congr_left;intro x _;simp
theorem str_back (s:ByteArray):strOfNums (bytesOf s)=s:=by unfold bytesOf;rw [Go.Lib.Lz.strOfNums_map]
theorem bytes_range (s:ByteArray):∀ x∈bytesOf s,0≤x∧x < 256:=by intro x hx;simp only [bytesOf,List.mem_map] at hx;obtain ⟨b,_,rfl⟩:=hx;have:=b.toNat_lt;omega
theorem index_miss (a:List UInt8) (c:UInt8) (h:Lib.indexByte a c=-1) (r:List UInt8):Lib.indexByte (a++c :: r) c=a.length:=by
 induction a with
 | nil=>simp [Lib.indexByte]
 | cons x a ih =>
  simp only [Lib.indexByte] at h;have hx:(x == c)=false:=by
   cases hc:(x == c) with
   | false=>rfl
   | true=>rw [hc] at h;simp at h
  rw [hx] at h;have ha:Lib.indexByte a c=-1:=by
   cases hb:(Lib.indexByte a c == -1) with
   | true=>simpa using hb
   | false =>rw [hb] at h;have:=Lib.indexByte_ge a c;simp at h;omega
  have:=ih ha;simp only [List.cons_append,Lib.indexByte,hx,this];have hne:((a.length:Int) == -1)=false:=by rw [beq_eq_false_iff_ne];omega
  simp [hne]
def padded (s:ByteArray) (r:Nat):List Int:=bytesOf s++List.replicate r 0
theorem padded_len (s:ByteArray) (r:Nat):(padded s r).length=s.size+r:=by simp [padded,bytesOf_length]
theorem padded_range (s:ByteArray) (r:Nat):∀ x∈padded s r,0≤x∧x < 256:=by
 intro x hx;rcases List.mem_append.1 hx with h | h
 ·exact bytes_range s x h
 ·rw [List.eq_of_mem_replicate h];decide
theorem padded_index (s:ByteArray) (h:noNul s) (r:Nat):Lib.index (Lib.bytesOf (padded s (r+1))) (Lib.bytesOf [0])=s.size:=by
 have e:Lib.bytesOf (padded s (r+1))=s.data.toList++0 :: Lib.bytesOf (List.replicate r 0):=by
  rw [padded,List.replicate_succ];have:Lib.bytesOf (bytesOf s++0 :: List.replicate r 0)=Lib.bytesOf (bytesOf s)++0 :: Lib.bytesOf (List.replicate r 0):=by simp [Lib.bytesOf]
  rw [this,bytes_back]
 rw [e];have e2:Lib.bytesOf [0]=[0]:=rfl;rw [e2,Lib.index_one,index_miss _ _ h,data_length]
theorem full_index (s:ByteArray) (h:noNul s):Lib.index (Lib.bytesOf (padded s 0)) (Lib.bytesOf [0])=-1:=by
 have e:Lib.bytesOf (padded s 0)=s.data.toList:=by rw [padded];simp [bytes_back]
 have e2:Lib.bytesOf [0]=[0]:=rfl;rw [e,e2,Lib.index_one];exact h
theorem row_cell0 (w:World):(w.alloc (.cells #[.int .u8 0] 5)).cell? ⟨w.heap.size,0,none⟩=some (.int .u8 0):=by exact ZCheck.row_cell (heap_alloc_new w (.cells #[.int .u8 0] 5)) 0 _ rfl
theorem c_in {w:World} {A:Option Addr} {n:Nat} {l:List Int} (h:Kd.C (Kd.int .u8) w A n l):Lib.BytesIn w A n l:=by intro hn;obtain ⟨ad,rfl,_⟩:=Kd.at_int h 0 (by omega) (by omega);refine Lib.BytesIn.of_cells (a:=ad) (fun i hi=>?_) hn;obtain ⟨ad',e,hc⟩:=Kd.at_int h (i:Int) (by omega) (by omega);cases e;simpa [rd] using hc
theorem valid_w (n:Nat) (h0:1≤n) (h1:n≤256) (w:World):Calls Tryz.prog 143 #[.int .i64 (n:Int)] w fun e w'=>e=.returned (.bool true)∧w=w':=ZCstr.valid_calls n (by omega) (by omega) w
theorem cut_calls (A:Option Addr) (n c b:Nat) (l:List Int) (w:World) (hr:Kd.C (Kd.int .u8) w A n l) (hl:∀ x∈l,0≤x∧x < 256) (hc:n≤c) (h0:0 < n) (h1:n≤256) (hG:Gl w) (hz:w.cell? ⟨b,0,none⟩=some (.int .u8 0)): Calls Tryz.prog 144 #[.slice A n c,.slice (some ⟨b,0,none⟩) 1 1] w fun e w'=>e=.returned (Lib.cutV A n c 1 (Lib.index (Lib.bytesOf l) (Lib.bytesOf [0])))∧Drawn0 w w':=by
 obtain ⟨m,hm⟩:=hG.max;have hlen:=Kd.C_len hr;refine (Tryz.bytes_Cut_all A (some ⟨b,0,none⟩) n c 1 1 l [0] m w hlen rfl hl (by simp) (c_in hr) (fun _=>⟨b,0,rfl,fun i hi=>?_⟩) (fun e=>?_) hc (by omega) (by decide) hm).mono ?_
 ·
  obtain rfl:i=0:=by omega
  exact hz
 ·obtain ⟨ad,e2,_⟩:=hr.2.2 h0;rw [e2] at e;cases e
 ·rintro e w' ⟨rfl,q,rfl⟩;exact ⟨rfl,⟨⟨q,rfl⟩⟩⟩
theorem from_calls (ad:Addr) (n c r:Nat) (s:ByteArray) (w:World) (e:n=s.size+(r+1)) (hc:n≤c) (hr:Kd.C (Kd.int .u8) w (some ad) n (padded s (r+1))): ∃ X c2,Lib.fromV (some ad) n c (s.size+1)=.slice X r c2∧Kd.C (Kd.int .u8) w X r (List.replicate r 0):=by
 have hl:n=(padded s (r+1)).length:=by rw [padded_len];exact e
 have h:=Kd.C_drop (m:=s.size+1) (hl ▸ hr) (by omega) (hl ▸ hc);have e1:(padded s (r+1)).drop (s.size+1)=List.replicate r 0:=by
  have e2:padded s (r+1)=(bytesOf s++[0])++List.replicate r 0:=by simp [padded,List.replicate_succ]
  rw [e2,List.drop_left' (by simp [bytesOf_length])]
 have e3:(s.size+1) * (Kd.int .u8).sz=s.size+1:=Nat.mul_one _;rw [e1,e3,List.length_replicate] at h;refine ⟨_,c - (s.size+1),?_,h⟩;unfold Lib.fromV;have e4:n - (s.size+1)=r:=by omega
 rw [e4]
theorem conv_str (ad:Addr) (n c r:Nat) (s:ByteArray) (w:World) (e:n=s.size+r) (hr:Kd.C (Kd.int .u8) w (some ad) n (padded s r)) (h0:0 < n):(convert 30 9 (.slice (some ad) s.size c)).run Tryz.prog w=.ok (.string s) w:=by
 obtain ⟨b,o,e1,hc⟩:=c_in hr h0;cases e1;have:=run_convert_bytes_arg (P:=Tryz.prog) w 30 5 Tryz.underlying30 Tryz.underlying5 b o s.size c (bytesOf s) (bytesOf_length s) (fun i hi=>by rw [hc i (by omega)];congr 2;rw [padded,getD_before _ _ _ (by rw [bytesOf_length];exact hi)]) 9 Tryz.underlying9
 rw [str_back] at this;exact this
set_option maxHeartbeats 1000000 in
theorem parse_pad (ad:Addr) (c n r:Nat) (s:ByteArray) (w:World) (hn:noNul s) (e:n=s.size+(r+1)) (hr:Kd.C (Kd.int .u8) w (some ad) n (padded s (r+1))) (hc:n≤c) (h1:n≤256) (hG:Gl w): Calls Tryz.prog 112 #[.slice (some ad) n c] w fun e w'=>e=.returned (.tuple #[.string s,.int .i64 0])∧Below w.heap.size w w':=by
 have VC:=hid (valid_w n (by omega) h1);have CC:=hid (cut_calls (some ad) n c w.heap.size (padded s (r+1)) (w.alloc (.cells #[.int .u8 0] 5)) (Kd.C_alloc hr _) (padded_range s _) hc (by omega) h1 (hG.below (below_alloc (Below.refl _ _) _)) (row_cell0 w));rw [padded_index s hn] at CC;have hcv:Lib.cutV (some ad) n c 1 (s.size:Int)=.tuple #[.slice (some ad) s.size c,Lib.fromV (some ad) n c (s.size+1),.bool true]:=by unfold Lib.cutV;rw [if_pos (by omega),Int.toNat_natCast]
 obtain ⟨X,c2,hX,hR⟩:=from_calls ad n c r s w e hc hr;rw [hcv,hX] at CC;have HR:=hid hr;have HX:=hid hR;have E:=hid e;have mr:=Kd.C_max hR;clear hr hG hcv hX hR e;go_enter Tryz.func112,Tryz.ntmps112
 go_wp2_with fail
 refine (VC.out _).mono ?_;rintro e w' ⟨rfl,rfl⟩
 go_wp2_with fail
 refine CC.out.mono ?_;rintro e w1 ⟨rfl,hd⟩;have q1:=hid ((below_alloc (Below.refl w.heap.size w) (.cells #[.int .u8 0] 5)).trans (hd.below.mono (by simp)));clear hd CC VC
 go_wp2_with fail
 go_loop [22] (fun i=>∃ k:Nat,k≤r∧i=.int .i64 k) (fun i=>r - (intOf i).toNat)
 case atStart=>exact ⟨0,Nat.zero_le _,rfl⟩
 case round =>
  obtain ⟨k,hk,rfl⟩:=hrel;by_cases hlt:k < r
  ·
   obtain ⟨a0,rfl,x0⟩:=Kd.at_int (Kd.C_below HX.out q1.out) (k:Int) (by omega) (by omega);have r0:rd (List.replicate r 0) (k:Int)=0:=by simp [rd,List.getD_eq_getElem?_getD,hlt]
   rw [Int.toNat_natCast,r0] at x0;clear r0;go_wp2
   go_round
   case rel=>exact ⟨k+1,by omega,by go_num⟩
   case measure=>simp [intOf];omega
  ·
   have hcv:=conv_str ad n c (r+1) s w1 E.out (Kd.C_below HR.out q1.out) (by have:=E.out;omega);go_wp2
   go_ret2
   exact ⟨rfl,q1.out⟩
set_option maxHeartbeats 1000000 in
theorem parse_full (ad:Addr) (c n:Nat) (s:ByteArray) (w:World) (hn:noNul s) (e:n=s.size) (h0:0 < n) (hr:Kd.C (Kd.int .u8) w (some ad) n (padded s 0)) (hc:n≤c) (h1:n≤256) (hG:Gl w): Calls Tryz.prog 112 #[.slice (some ad) n c] w fun e w'=>e=.returned (.tuple #[.string s,.int .i64 0])∧Below w.heap.size w w':=by
 have VC:=hid (valid_w n (by omega) h1);have CC:=hid (cut_calls (some ad) n c w.heap.size (padded s 0) (w.alloc (.cells #[.int .u8 0] 5)) (Kd.C_alloc hr _) (padded_range s _) hc (by omega) h1 (hG.below (below_alloc (Below.refl _ _) _)) (row_cell0 w));rw [full_index s hn] at CC;have hcv:Lib.cutV (some ad) n c 1 (-1)=.tuple #[.slice (some ad) n c,.slice none 0 0,.bool false]:=by unfold Lib.cutV;rw [if_neg (by omega)]
 rw [hcv] at CC;have HR:=hid hr;have E:=hid e;clear hr hG hcv e;go_enter Tryz.func112,Tryz.ntmps112
 go_wp2_with fail
 refine (VC.out _).mono ?_;rintro e w' ⟨rfl,rfl⟩
 go_wp2_with fail
 refine CC.out.mono ?_;rintro e w1 ⟨rfl,hd⟩;have q1:=hid ((below_alloc (Below.refl w.heap.size w) (.cells #[.int .u8 0] 5)).trans (hd.below.mono (by simp)));clear hd CC VC
 go_wp2_with fail
 go_loop [22] (fun i=>i=.int .i64 0) (fun _=>0)
 case atStart=>exact rfl
 case round =>
  subst hrel;have hcv:=conv_str ad n c 0 s w1 E.out (Kd.C_below HR.out q1.out) h0;rw [← E.out] at hcv;go_wp2
  go_ret2
  exact ⟨rfl,q1.out⟩
theorem parse_calls (ad:Addr) (c n r:Nat) (s:ByteArray) (w:World) (hn:noNul s) (e:n=s.size+r) (h0:0 < n) (hr:Kd.C (Kd.int .u8) w (some ad) n (padded s r)) (hc:n≤c) (h1:n≤256) (hG:Gl w): Calls Tryz.prog 112 #[.slice (some ad) n c] w fun e w'=>e=.returned (.tuple #[.string s,.int .i64 0])∧Below w.heap.size w w':=by
 cases r with
 | zero=>exact parse_full ad c n s w hn e h0 hr hc h1 hG
 | succ r=>exact parse_pad ad c n r s w hn e hr hc h1 hG
end ZCPar
end
end Go.Proofs.YteikiojmcipkmaaGreatDoor
