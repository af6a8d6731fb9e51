/- Parts of the proof, gathered by a program: what calls of the functions answer, and what follows in plain lists. Conditions: those that each theorem states. -/
import Derived.RowKit
import Derived.Laws.BitsLemmas
import Derived.Laws.BytesArg
import Derived.Lib.Bytes
set_option linter.unusedVariables false
set_option linter.unusedSimpArgs false
namespace Go.Proofs.YteikiojmcipkmaaGreatDoor
open Go.RowKit
section
namespace Oct
theorem wraps_i64 (n:Int) (h₀:0≤n) (h₁:n < 2 ^ 63):IntKind.i64.wrap n=n:=by rw [IntKind.wrap_i64];omega
theorem and7 (x:Int) (h₀:0≤x) (h₁:x < 9223372036854775808):Go.bits .and .i64 x 7=x % 8 :=
 bits_mask .i64 63 (by decide) wraps_i64 3 (by decide) x h₀ h₁
theorem or3 (x y:Int) (hx₀:0≤x) (hx:x % 8=0) (hx₁:x < 9223372036854775808) (h₀:0≤y) (h₁:y < 8):Go.bits .or .i64 x y=x+y :=
 bits_join .i64 63 (by decide) wraps_i64 3 x y hx₀ hx hx₁ h₀ h₁ (by omega)
theorem w64s {x:Int} (h0:-9223372036854775808≤x) (h1:x < 9223372036854775808):wrap64 x=x:=by unfold wrap64;omega
theorem getD_behind (l m:List Int) (n:Nat) (c:Int) (h:l.length=n):(l++c :: m).getD n 0=c:=by subst h;simp [List.getD_eq_getElem?_getD]
theorem getD_before (l m:List Int) (n:Nat) (h:n < l.length):(l++m).getD n 0=l.getD n 0:=by simp [List.getD_eq_getElem?_getD,List.getElem?_append_left h]
def digs:Nat→Int→List Int
 | 0,_=>[]
 | d+1,n=>digs d (n / 8)++[48+n % 8]
def fld (d:Nat) (n:Int):List Int:=digs d n++[0]
theorem digs_len:∀ d n,(digs d n).length=d
 | 0,_=>rfl
 | d+1,n=>by simp [digs,digs_len d]
theorem fld_len (d:Nat) (n:Int):(fld d n).length=d+1:=by simp [fld,digs_len]
theorem digs_mem:∀ d n x,x∈digs d n→48≤x∧x≤55
 | 0,_,x,h=>by simp [digs] at h
 | d+1,n,x,h=>by
  simp only [digs,List.mem_append,List.mem_singleton] at h;rcases h with h | h
  ·exact digs_mem d _ x h
  ·omega
def prs:Int→List Int→Option Int
 | n,[]=>some n
 | n,c :: l=>if c < 48 then none else if c > 55 then none else prs (n * 8+(c - 48)) l
theorem prs_append (n:Int) (l m:List Int):prs n (l++m)=(prs n l).bind fun k=>prs k m:=by
 induction l generalizing n with
 | nil=>rfl
 | cons c l ih =>
  simp only [List.cons_append,prs];split
  ·rfl
  ·
   split
   ·rfl
   ·exact ih _
theorem prs_digs:∀ (d:Nat) (n:Int),0≤n→n < 8 ^ d→prs 0 (digs d n)=some n
 | 0,n,h0,h1=>by
  have:n=0:=by simp at h1;omega
  subst this;rfl
 | d+1,n,h0,h1=>by
  have h8:n < 8 ^ d * 8:=by rw [← Int.pow_succ];exact h1
  rw [digs,prs_append,prs_digs d (n / 8) (by omega) (by omega)];simp only [Option.bind_some,prs];rw [if_neg (by omega),if_neg (by omega)];congr 1;omega
theorem prs_bound:∀ (l:List Int) (n m:Int),0≤n→prs n l=some m→0≤m∧m < (n+1) * 8 ^ l.length
 | [],n,m,h0,h=>by simp only [prs,Option.some.injEq] at h;subst h;refine ⟨h0,?_⟩;simp only [List.length_nil,Int.pow_zero];omega
 | c :: l,n,m,h0,h=>by
  simp only [prs] at h;split at h
  ·cases h
  ·
   split at h
   ·cases h
   ·rename_i h1 h2;obtain ⟨a,b⟩:=prs_bound l _ m (by omega) h;refine ⟨a,Int.lt_of_lt_of_le b ?_⟩;rw [List.length_cons,Int.pow_succ,Int.mul_comm (8 ^ l.length) 8,← Int.mul_assoc];exact Int.mul_le_mul_of_nonneg_right (by omega) (Int.pow_nonneg (by omega))
theorem digs_prs:∀ (l:List Int) (m:Int),prs 0 l.reverse=some m→digs l.length m=l.reverse
 | [],m,_=>rfl
 | c :: l,m,h=>by
  rw [List.reverse_cons,prs_append] at h;cases e:prs 0 l.reverse with
  | none=>rw [e] at h;cases h
  | some q =>
   rw [e] at h;simp only [Option.bind_some,prs] at h;split at h
   ·cases h
   ·
    split at h
    ·cases h
    ·
     rename_i h1 h2;have hm:q * 8+(c - 48)=m:=by simpa using h
     have hq:=prs_bound _ _ _ (by omega) e;rw [List.length_cons,digs,List.reverse_cons];have e1:m / 8=q:=by omega
     have e2:48+m % 8=c:=by omega
     rw [e1,e2,digs_prs l q e]
theorem digs_of_prs (l:List Int) (m:Int) (h:prs 0 l=some m):digs l.length m=l:=by have:=digs_prs l.reverse m (by simpa using h);simpa using this
theorem pow_cast (d:Nat):((8 ^ d:Nat):Int)=(8:Int) ^ d:=by rw [Int.natCast_pow];rfl
theorem pow_le (d:Nat) (h:d≤21):(8:Int) ^ d≤9223372036854775808:=by
 have:=Nat.pow_le_pow_right (n:=8) (by omega) h;have e:(8:Nat) ^ 21=9223372036854775808:=by decide
 rw [e] at this;rw [← pow_cast];omega
theorem pow_pos (d:Nat):(1:Int)≤8 ^ d:=by have:=Nat.pow_pos (n:=d) (show 0 < 8 by omega);rw [← pow_cast];omega
end Oct
namespace ZSumPlain
open Oct
def Bytes (l:List Int):Prop:=∀ x∈l,0≤x∧x < 256
def tot:List Int→Int
 | []=>0
 | x :: l=>x+tot l
theorem tot_append (l m:List Int):tot (l++m)=tot l+tot m:=by
 induction l with
 | nil=>simp [tot]
 | cons x l ih=>simp [tot,ih];omega
theorem tot_bound (l:List Int) (h:Bytes l):0≤tot l∧tot l≤255 * l.length:=by
 induction l with
 | nil=>simp [tot]
 | cons x l ih =>have hx:=h x (by simp);have:=ih (fun y hy=>h y (by simp [hy]));simp only [tot,List.length_cons];omega
theorem Bytes.take {l:List Int} (h:Bytes l) (n:Nat):Bytes (l.take n):=fun x hx=>h x (List.mem_of_mem_take hx)
theorem Bytes.drop {l:List Int} (h:Bytes l) (n:Nat):Bytes (l.drop n):=fun x hx=>h x (List.mem_of_mem_drop hx)
theorem Bytes.append {l m:List Int} (h:Bytes l) (k:Bytes m):Bytes (l++m):=fun x hx=>by
 rcases List.mem_append.1 hx with hx | hx
 ·exact h x hx
 ·exact k x hx
theorem Bytes.spaces (n:Nat):Bytes (List.replicate n 32):=fun x hx=>by obtain ⟨_,rfl⟩:=List.mem_replicate.1 hx;omega
theorem Bytes.zeros (n:Nat):Bytes (List.replicate n 0):=fun x hx=>by obtain ⟨_,rfl⟩:=List.mem_replicate.1 hx;omega
theorem Bytes.fld (d:Nat) (n:Int):Bytes (fld d n):=by
 intro x hx;unfold Oct.fld at hx;simp only [List.mem_append,List.mem_singleton] at hx;rcases hx with h | h
 ·have:=digs_mem _ _ x h;omega
 ·omega
theorem Bytes.getD {l:List Int} (h:Bytes l) (i:Nat):0≤l.getD i 0∧l.getD i 0 < 256:=by
 by_cases hi:i < l.length
 ·rw [List.getD_eq_getElem?_getD,List.getElem?_eq_getElem hi];exact h _ (by simp)
 ·rw [List.getD_eq_getElem?_getD,List.getElem?_eq_none (by omega)];simp
theorem take_snoc (l:List Int) (k:Nat) (h:k < l.length):l.take (k+1)=l.take k++[l.getD k 0]:=by rw [List.take_succ_eq_append_getElem h];simp [List.getD_eq_getElem?_getD,List.getElem?_eq_getElem h]
theorem tot_snoc (l:List Int) (k:Nat) (h:k < l.length):tot (l.take (k+1))=tot (l.take k)+l.getD k 0:=by rw [take_snoc l k h,tot_append];simp [tot]
def fill (l:List Int):List Int:=l.take 148++(List.replicate 8 32++l.drop 156)
def sumL (l:List Int):Int:=tot (fill l)
def field (l:List Int):List Int:=fld 6 (sumL l)++[32]
def sealL (l:List Int):List Int:=l.take 148++(field l++l.drop 156)
theorem field_len (l:List Int):(field l).length=8:=by simp [field,fld_len]
theorem seal_len (l:List Int) (h:l.length=512):(sealL l).length=512:=by simp [sealL,field_len,h]
theorem fill_bytes (l:List Int) (h:Bytes l):Bytes (fill l):=(h.take _).append ((Bytes.spaces _).append (h.drop _))
theorem seal_bytes (l:List Int) (h:Bytes l):Bytes (sealL l):=(h.take _).append (((Bytes.fld _ _).append (Bytes.spaces 1)).append (h.drop _))
theorem sum_eq (l:List Int):sumL l=tot (l.take 148)+256+tot (l.drop 156):=by
 unfold sumL fill;rw [tot_append,tot_append];have:tot (List.replicate 8 32)=256:=by decide
 omega
theorem sum_bound (l:List Int) (hl:l.length=512) (h:Bytes l):256≤sumL l∧sumL l≤128776:=by
 have h1:=tot_bound _ (h.take 148);have h2:=tot_bound _ (h.drop 156);rw [List.length_take] at h1;rw [List.length_drop] at h2;have e1:min 148 l.length=148:=by omega
 rw [e1] at h1;rw [hl] at h2;rw [sum_eq];omega
theorem sum_small (l:List Int) (hl:l.length=512) (h:Bytes l):0≤sumL l∧sumL l < 8 ^ 6:=by
 have:=sum_bound l hl h;have e:(8:Int) ^ 6=262144:=by decide
 omega
theorem seal_take (l:List Int) (hl:l.length=512):(sealL l).take 148=l.take 148:=by unfold sealL;rw [List.take_left' (by simp [hl])]
theorem seal_drop (l:List Int) (hl:l.length=512):(sealL l).drop 156=l.drop 156:=by unfold sealL;rw [← List.append_assoc,List.drop_left' (by simp [hl,field_len])]
theorem sum_seal (l:List Int) (hl:l.length=512):sumL (sealL l)=sumL l:=by rw [sum_eq,sum_eq,seal_take l hl,seal_drop l hl]
theorem seal_seal (l:List Int) (hl:l.length=512):sealL (sealL l)=sealL l:=by
 have e:field (sealL l)=field l:=by unfold field;rw [sum_seal l hl]
 show (sealL l).take 148++(field (sealL l)++(sealL l).drop 156)=sealL l;rw [seal_take l hl,seal_drop l hl,e];rfl
def blk (l:List Int):List Int:=l.take 512++List.replicate (512 - l.length) 0
theorem blk_bytes (l:List Int) (h:Bytes l):Bytes (blk l):=(h.take _).append (Bytes.zeros _)
def vfy (l:List Int):Int:=if sealL l=l then 0 else 9
theorem vfy_seal (l:List Int) (hl:l.length=512):vfy (sealL l)=0:=by unfold vfy;rw [if_pos (seal_seal l hl)]
end ZSumPlain
end
end Go.Proofs.YteikiojmcipkmaaGreatDoor
