/- Parts of the proof, gathered by a program: what calls of the functions answer, and what follows in plain lists. Conditions: those that each theorem states. -/
import Derived.Test.YteikiojmcipkmaaGreatDoorMR20
import Derived.Test.YteikiojmcipkmaaGreatDoorMR18
set_option linter.unusedVariables false
set_option linter.unusedSimpArgs false
namespace Go.Proofs.YteikiojmcipkmaaGreatDoor
open Go.Lib (hid)
set_option maxRecDepth 100000
section
namespace ZCAny
open Go.RowKit YteikiojmcipkmaaGreatDoorW.PrintWords YteikiojmcipkmaaGreatDoorW.PrintLast YteikiojmcipkmaaGreatDoorW.PrintMore Oct ZBase ZGlob ZCstr ZCPar
open ZPlanOk (noNul_iff)
open ZSumPlain (Bytes)
theorem nul_mem (s:ByteArray) (h:noNul s):(0:Int)∉bytesOf s:=by
 intro h0;simp only [bytesOf,List.mem_map] at h0;obtain ⟨b,hb,e⟩:=h0;have:b=0:=by apply UInt8.toNat_inj.1;show b.toNat=0;omega
 subst this;exact (noNul_iff s).1 h hb
theorem split_eq:∀ (a b a' b':List Int),(0:Int)∉a→(0:Int)∉a'→a++0 :: b=a'++0 :: b'→a=a'∧b=b'
 | [],_,[],_,_,_,h=>by simpa using h
 | [],_,y :: a',_,_,h',h=>by simp only [List.nil_append,List.cons_append,List.cons.injEq] at h;exact absurd h.1 (fun e=>h' (by simp [e]))
 | x :: a,_,[],_,h0,_,h=>by simp only [List.nil_append,List.cons_append,List.cons.injEq] at h;exact absurd h.1 (fun e=>h0 (by simp [e]))
 | x :: a,b,y :: a',b',h0,h',h=>by simp only [List.cons_append,List.cons.injEq] at h;have:=split_eq a b a' b' (fun e=>h0 (by simp [e])) (fun e=>h' (by simp [e])) h.2;exact ⟨by rw [h.1,this.1],this.2⟩
theorem bytes_inj {s t:ByteArray} (h:bytesOf s=bytesOf t):s=t:=by have:=congrArg Lib.bytesOf h;rw [bytes_back,bytes_back] at this;cases s;cases t;congr 1;exact Array.ext' this
theorem padded_inj {s t:ByteArray} {r q:Nat} (hs:noNul s) (ht:noNul t) (h:padded s r=padded t q):s=t:=by
 unfold padded at h;cases r with
 | zero =>
  cases q with
  | zero=>exact bytes_inj (by simpa using h)
  | succ q =>
   have:(0:Int)∈bytesOf s:=by rw [show bytesOf s=bytesOf t++List.replicate (q+1) 0 by simpa using h];simp
   exact absurd this (nul_mem s hs)
 | succ r =>
  cases q with
  | zero =>
   have:(0:Int)∈bytesOf t:=by rw [show bytesOf t=bytesOf s++List.replicate (r+1) 0 by simpa using h.symm];simp
   exact absurd this (nul_mem t ht)
  | succ q =>rw [List.replicate_succ,List.replicate_succ] at h;exact bytes_inj (split_eq _ _ _ _ (nul_mem s hs) (nul_mem t ht) h).1
theorem bad_not {s:ByteArray} {rest:List Int} (hs:noNul s) (hx:∃ x∈rest,x≠0) (t:ByteArray) (q:Nat) (ht:noNul t):bytesOf s++0 :: rest≠padded t q:=by
 intro h;unfold padded at h;cases q with
 | zero =>
  have:(0:Int)∈bytesOf t:=by rw [show bytesOf t=bytesOf s++0 :: rest by simpa using h.symm];simp
  exact nul_mem t ht this
 | succ q =>rw [List.replicate_succ] at h;have h2:=(split_eq _ _ _ _ (nul_mem s hs) (nul_mem t ht) h).2;obtain ⟨x,h3,h4⟩:=hx;rw [h2] at h3;exact h4 (List.eq_of_mem_replicate h3)
theorem split_nul:∀ (l:List Int),Bytes l→(∃ s r,noNul s∧l=padded s r)∨∃ s rest,noNul s∧l=bytesOf s++0 :: rest∧∃ x∈rest,x≠0
 | [],_=>.inl ⟨⟨#[]⟩,0,(noNul_iff _).2 (by simp),rfl⟩
 | x :: l,hb=>by
  by_cases hx:x=0
  ·
   subst hx;by_cases hz:∃ x∈l,x≠0
   ·exact .inr ⟨⟨#[]⟩,l,(noNul_iff _).2 (by simp),rfl,hz⟩
   ·refine .inl ⟨⟨#[]⟩,l.length+1,(noNul_iff _).2 (by simp),?_⟩;show _=List.replicate (l.length+1) 0;rw [List.replicate_succ];congr 1;rw [List.eq_replicate_iff];exact ⟨rfl,fun y hy=>Decidable.byContradiction fun h=>hz ⟨y,hy,h⟩⟩
  ·
   obtain ⟨h1,h2⟩:=hb x (by simp);have hu:((UInt8.ofNat x.toNat).toNat:Int)=x:=by rw [UInt8.toNat_ofNat'];omega
   have key:∀ s:ByteArray,noNul s→noNul ⟨(UInt8.ofNat x.toNat :: s.data.toList).toArray⟩∧bytesOf ⟨(UInt8.ofNat x.toNat :: s.data.toList).toArray⟩=x :: bytesOf s:=by
    intro s hs;constructor
    ·
     rw [noNul_iff] at hs ⊢;intro h;simp only [List.mem_cons] at h;rcases h with h | h
     ·rw [← h] at hu;exact hx hu.symm
     ·exact hs h
    ·simp only [bytesOf,List.map_cons,hu]
   rcases split_nul l fun y hy=>hb y (by simp [hy]) with ⟨s,r,h3,h4⟩ | ⟨s,rest,h3,h4,h5⟩
   ·obtain ⟨k1,k2⟩:=key s h3;exact .inl ⟨_,r,k1,by rw [padded,k2,h4];rfl⟩
   ·obtain ⟨k1,k2⟩:=key s h3;exact .inr ⟨_,rest,k1,by rw [k2,h4];rfl,h5⟩
theorem bad_index (s:ByteArray) (h:noNul s) (rest:List Int):Lib.index (Lib.bytesOf (bytesOf s++0 :: rest)) (Lib.bytesOf [0])=s.size:=by
 have e:Lib.bytesOf (bytesOf s++0 :: rest)=s.data.toList++0 :: Lib.bytesOf rest:=by
  have:Lib.bytesOf (bytesOf s++0 :: rest)=Lib.bytesOf (bytesOf s)++0 :: Lib.bytesOf rest:=by simp [Lib.bytesOf]
  rw [this,bytes_back]
 rw [e];have e2:Lib.bytesOf [0]=[0]:=rfl;rw [e2,Lib.index_one,index_miss _ _ h,data_length]
theorem from_any (ad:Addr) (n c:Nat) (s:ByteArray) (rest:List Int) (w:World) (hc:n≤c) (hr:Kd.C (Kd.int .u8) w (some ad) n (bytesOf s++0 :: rest)) : ∃ X c2,Lib.fromV (some ad) n c (s.size+1)=.slice X rest.length c2∧Kd.C (Kd.int .u8) w X rest.length rest:=by
 have hl:n=(bytesOf s++0 :: rest).length:=(Kd.C_len hr).symm;have hl2:n=s.size+(rest.length+1):=by rw [hl];simp [bytesOf_length]
 have h:=Kd.C_drop (m:=s.size+1) (hl ▸ hr) (by omega) (hl ▸ hc);have e1:(bytesOf s++0 :: rest).drop (s.size+1)=rest:=by
  have e2:bytesOf s++0 :: rest=(bytesOf s++[0])++rest:=by simp
  rw [e2,List.drop_left' (by simp [bytesOf_length])]
 have e3:(s.size+1) * (Kd.int .u8).sz=s.size+1:=Nat.mul_one _;rw [e1,e3] at h;refine ⟨_,c - (s.size+1),?_,h⟩;unfold Lib.fromV;have e4:n - (s.size+1)=rest.length:=by omega
 rw [e4]
set_option maxHeartbeats 1000000 in
theorem parse_bad (ad:Addr) (c n:Nat) (s:ByteArray) (rest:List Int) (w:World) (hn:noNul s) (hx:∃ x∈rest,x≠0) (hr:Kd.C (Kd.int .u8) w (some ad) n (bytesOf s++0 :: rest)) (hb:Bytes (bytesOf s++0 :: rest)) (hc:n≤c) (h1:n≤256) (hG:Gl w) : Calls Tryz.prog 112 #[.slice (some ad) n c] w fun e w'=>e=.returned (.tuple #[.string ⟨#[]⟩,.int .i64 6])∧Below w.heap.size w w':=by
 have hl:n=s.size+(rest.length+1):=by rw [← Kd.C_len hr];simp [bytesOf_length]
 have VC:=hid (valid_w n (by omega) h1);have CC:=hid (cut_calls (some ad) n c w.heap.size (bytesOf s++0 :: rest) (w.alloc (.cells #[.int .u8 0] 5)) (Kd.C_alloc hr _) hb hc (by omega) h1 (hG.below (below_alloc (Below.refl _ _) _)) (row_cell0 w));rw [bad_index s hn] at CC;have hcv:Lib.cutV (some ad) n c 1 (s.size:Int)=.tuple #[.slice (some ad) s.size c,Lib.fromV (some ad) n c (s.size+1),.bool true]:=by unfold Lib.cutV;rw [if_pos (by omega),Int.toNat_natCast]
 obtain ⟨X,c2,hX,hR⟩:=from_any ad n c s rest w hc hr;rw [hcv,hX] at CC;have HX:=hid hR;have mr:=Kd.C_max hR;have HNZ:=hid hx;obtain ⟨r,hrl⟩:∃ r,rest.length=r:=⟨_,rfl⟩;rw [hrl] at HX CC mr;have HRL:=hid hrl;clear hr hG hcv hX hR hx hl hb hrl;go_enter Tryz.func112,Tryz.ntmps112
 go_wp2_with fail
 refine (VC.out _).mono ?_;rintro e w' ⟨rfl,rfl⟩
 go_wp2_with fail
 refine CC.out.mono ?_;rintro e w1 ⟨rfl,hd⟩;have q1:=hid ((below_alloc (Below.refl w.heap.size w) (.cells #[.int .u8 0] 5)).trans (hd.below.mono (by simp)));clear hd CC VC
 go_wp2_with fail
 go_loop [22] (fun i=>∃ k:Nat,k≤r∧i=.int .i64 k∧Hid (∀ x∈rest.take k,x=0)) (fun i=>r - (intOf i).toNat)
 case atStart=>exact ⟨0,Nat.zero_le _,rfl,hid (by simp)⟩
 case round =>
  obtain ⟨k,hk,rfl,HZ⟩:=hrel;have hlt:k < r:=by refine Nat.lt_of_le_of_ne hk fun e=>?_;obtain ⟨x,h3,h4⟩:=HNZ.out;refine h4 (HZ.out x ?_);rw [e,← HRL.out,List.take_length];exact h3
  obtain ⟨a0,rfl,x0⟩:=Kd.at_int (Kd.C_below HX.out q1.out) (k:Int) (by omega) (by omega);obtain ⟨x,hx⟩:∃ x,rest[k]?=some x:=⟨_,List.getElem?_eq_getElem (by rw [HRL.out];exact hlt)⟩;have r0:rd rest (k:Int)=x:=by simp [rd,List.getD_eq_getElem?_getD,hx]
  rw [Int.toNat_natCast,r0] at x0;have HXX:=hid hx;clear r0 hx;by_cases hz:x=0
  ·
   have bz:(x != 0)=false:=by simp [hz]
   have HXZ:=hid hz;clear hz;go_wp2
   go_round
   case rel =>
    refine ⟨k+1,by omega,by go_num,hid fun y hy=>?_⟩;rw [List.take_add_one,HXX.out] at hy;rcases List.mem_append.1 hy with h | h
    ·exact HZ.out y h
    ·
     have:y=x:=by simpa using h
     rw [this,HXZ.out]
   case measure=>simp [intOf];omega
  ·
   have bz:(x != 0)=true:=by rw [bne_iff_ne];exact hz
   clear hz;go_wp2
   go_ret2
   exact ⟨rfl,q1.out⟩
theorem parse_any (ad:Addr) (c n:Nat) (l:List Int) (w:World) (h0:0 < n) (hr:Kd.C (Kd.int .u8) w (some ad) n l) (hb:Bytes l) (hc:n≤c) (h1:n≤256) (hG:Gl w): Calls Tryz.prog 112 #[.slice (some ad) n c] w fun e w'=>Below w.heap.size w w'∧((∃ s r,noNul s∧l=padded s r∧e=.returned (.tuple #[.string s,.int .i64 0]))∨((∀ s r,noNul s→l≠padded s r)∧e=.returned (.tuple #[.string ⟨#[]⟩,.int .i64 6]))):=by
 rcases split_nul l hb with ⟨s,r,h3,rfl⟩ | ⟨s,rest,h3,rfl,h5⟩
 ·refine (parse_calls ad c n r s w h3 (by rw [← Kd.C_len hr,padded_len]) h0 hr hc h1 hG).mono ?_;rintro e w' ⟨rfl,hb⟩;exact ⟨hb,.inl ⟨s,r,h3,rfl,rfl⟩⟩
 ·refine (parse_bad ad c n s rest w h3 h5 hr hb hc h1 hG).mono ?_;rintro e w' ⟨rfl,hb2⟩;exact ⟨hb2,.inr ⟨fun t q ht=>bad_not h3 h5 t q ht,rfl⟩⟩
end ZCAny
end
end Go.Proofs.YteikiojmcipkmaaGreatDoor
