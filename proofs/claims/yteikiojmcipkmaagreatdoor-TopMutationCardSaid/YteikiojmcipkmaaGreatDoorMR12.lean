/- Parts of the proof, gathered by a program: what calls of the functions answer, and what follows in plain lists. Conditions: those that each theorem states. -/
import Derived.Test.YteikiojmcipkmaaGreatDoorMR09
import Derived.RangeFuncRecord
set_option linter.unusedVariables false
set_option linter.unusedSimpArgs false
namespace Go.Proofs.YteikiojmcipkmaaGreatDoor
section
namespace ZMap
open Go.RowKit Go.MapKept
section
variable {K V:Type}
def ents (kv:K→Value) (ve:V→Value):Nat→List (K×V)→List MapEntry
 | _,[]=>[]
 | i,p :: l=>⟨kv p.1,ve p.2,i⟩ :: ents kv ve (i+1) l
variable {kv:K→Value} {ve:V→Value}
theorem ents_len (i:Nat) (l:List (K×V)):(ents kv ve i l).length=l.length:=by
 induction l generalizing i with
 | nil=>rfl
 | cons p l ih=>simp [ents,ih]
theorem ents_append (i:Nat) (l m:List (K×V)):ents kv ve i (l++m)=ents kv ve i l++ents kv ve (i+l.length) m:=by
 induction l generalizing i with
 | nil=>rfl
 | cons p l ih =>simp only [List.cons_append,ents,List.length_cons];rw [ih,show i+1+l.length=i+(l.length+1) by omega]
def MapAt (w:World) (kv:K→Value) (ve:V→Value) (b:Nat) (l:List (K×V)):Prop:=w.heap[b]?=some (.map (ents kv ve 0 l).toArray l.length)
variable {w w1:World} {b:Nat} {l:List (K×V)}
theorem MapAt.lt (h:MapAt w kv ve b l):b < w.heap.size:=(Array.getElem?_eq_some_iff.1 h).1
theorem MapAt.of (h:MapAt w kv ve b l) (hb:w1.heap[b]?=w.heap[b]?):MapAt w1 kv ve b l:=hb.trans h
theorem MapAt.new (w:World):MapAt (w.alloc (.map #[] 0)) kv ve w.heap.size []:=by exact heap_alloc_new w _
theorem MapAt.put (h:MapAt w kv ve b l) (l2:List (K×V)):MapAt (w.putObj b (.map (ents kv ve 0 l2).toArray l2.length)) kv ve b l2:=World.putObj_heap_same h.lt
end
variable {K V:Type} [DecidableEq K]
def get:List (K×V)→K→Option V
 | [],_=>none
 | p :: l,k=>if k=p.1 then some p.2 else get l k
def put:List (K×V)→K→V→List (K×V)
 | [],k,v=>[(k,v)]
 | p :: l,k,v=>if k=p.1 then (k,v) :: l else p :: put l k v
def find:List (K×V)→K→Nat→Option (Nat×V)
 | [],_,_=>none
 | p :: l,k,j=>if k=p.1 then some (j,p.2) else find l k (j+1)
theorem get_put (l:List (K×V)) (k j:K) (v:V):get (put l k v) j=if j=k then some v else get l j:=by
 induction l with
 | nil=>simp [put,get]
 | cons p l ih =>
  by_cases h:k=p.1
  ·subst h;simp only [put,if_true,get];split <;> rfl
  ·
   simp only [put,if_neg h,get,ih];by_cases h2:j=p.1
   ·rw [if_pos h2,if_pos h2,if_neg (fun e=>h (e.symm.trans h2))]
   ·rw [if_neg h2,if_neg h2]
theorem get_find (l:List (K×V)) (k:K) (j:Nat):get l k=(find l k j).map (·.2):=by
 induction l generalizing j with
 | nil=>rfl
 | cons p l ih =>
  simp only [get,find];split
  ·rfl
  ·exact ih _
section
variable {kv:K→Value} {ve:V→Value}
theorem put_len_le (l:List (K×V)) (k:K) (v:V):(put l k v).length≤l.length+1:=by
 induction l with
 | nil=>simp [put]
 | cons p l ih =>
  simp only [put];split
  ·simp
  ·simpa using ih
theorem put_hit (l:List (K×V)) (k:K) (v:V) (j n:Nat) (v0:V) (h:find l k j=some (n,v0)):(put l k v).length=l.length:=by
 induction l generalizing j with
 | nil=>cases h
 | cons p l ih =>
  simp only [put,find] at *;split
  ·simp
  ·rename_i hne;rw [if_neg hne] at h;simpa using ih _ h
theorem put_miss (l:List (K×V)) (k:K) (v:V) (j:Nat) (h:find l k j=none):put l k v=l++[(k,v)]:=by
 induction l generalizing j with
 | nil=>rfl
 | cons p l ih =>
  simp only [put,find] at *;split at h
  ·cases h
  ·rename_i hne;rw [if_neg hne,ih _ h];rfl
theorem find_ge (l:List (K×V)) (k:K) (j n:Nat) (v0:V) (h:find l k j=some (n,v0)):j≤n∧n < j+l.length:=by
 induction l generalizing j with
 | nil=>cases h
 | cons p l ih =>
  simp only [find] at h;split at h
  ·simp only [Option.some.injEq,Prod.mk.injEq] at h;simp only [List.length_cons];omega
  ·have:=ih _ h;simp only [List.length_cons];omega
theorem ents_modify (l:List (K×V)) (k:K) (v:V) (i j n:Nat) (v0:V) (h:find l k j=some (n,v0)) (f:MapEntry→MapEntry) (hf:∀ e:MapEntry,e.key=kv k→f e=⟨kv k,ve v,e.born⟩):(ents kv ve i l).modify (n - j) f=ents kv ve i (put l k v):=by
 induction l generalizing i j with
 | nil=>cases h
 | cons p l ih =>
  simp only [find] at h;split at h
  ·rename_i he;simp only [Option.some.injEq,Prod.mk.injEq] at h;obtain ⟨rfl,_⟩:=h;simp only [put,if_pos he,ents,Nat.sub_self,List.modify_zero_cons];rw [hf _ (by rw [he])]
  ·rename_i hne;have hg:=find_ge _ _ _ _ _ h;simp only [put,if_neg hne,ents];rw [show n - j=(n - (j+1))+1 by omega,List.modify_succ_cons,ih _ _ h]
theorem ents_at (l:List (K×V)) (k:K) (i j n:Nat) (v0:V) (h:find l k j=some (n,v0)):(ents kv ve i l)[n - j]?=some ⟨kv k,ve v0,i+(n - j)⟩:=by
 induction l generalizing i j with
 | nil=>cases h
 | cons p l ih =>
  simp only [find] at h;split at h
  ·rename_i he;simp only [Option.some.injEq,Prod.mk.injEq] at h;obtain ⟨rfl,rfl⟩:=h;simp [ents,he]
  ·have hg:=find_ge _ _ _ _ _ h;simp only [ents];rw [show n - j=(n - (j+1))+1 by omega,List.getElem?_cons_succ,ih _ _ h,show i+1+(n - (j+1))=i+(n - (j+1)+1) by omega]
end
structure Keys (P:Program) (kt:TypeId) (d:TypeDesc) (kv:K→Value):Prop where
 und:P.underlying kt=some d
 isKey:∀ k,IsKey d (kv k)
 same:∀ a b,Instr.sameNow d (kv a) (kv b)=some (decide (a=b))
section
variable {P:Program} {kt et T:TypeId} {d:TypeDesc} {kv:K→Value} {ve:V→Value} {w w1:World} {b:Nat} {l:List (K×V)}
theorem findNow_ents (hk:Keys P kt d kv) (k:K) (i j:Nat):Instr.findNow d (kv k) (ents kv ve i l) j=some ((find l k j).map fun x=>(x.1,ve x.2)):=by
 induction l generalizing i j with
 | nil=>rfl
 | cons p l ih =>
  simp only [ents,Instr.findNow,hk.same,find];by_cases h:k=p.1
  ·simp [h]
  ·simp only [h,decide_false,if_false];exact ih _ _
theorem run_find (hk:Keys P kt d kv) (k:K):(Instr.findKey kt (kv k) (ents kv ve 0 l)).run P w=.ok ((find l k 0).map fun x=>(x.1,ve x.2)) w:=run_findKey hk.und (findNow_ents hk k 0 0)
theorem run_get (hT:P.underlying T=some (.map kt et)) (hk:Keys P kt d kv) (h:MapAt w kv ve b l) (k:K) (z:Value) (hz:(zeroValue et).run P w=.ok z w): (Instr.lookup T (.map (some b)) (kv k) false).run P w=.ok (((get l k).map ve).getD z) w:=by
 have hf:=run_find (ve:=ve) (l:=l) (w:=w) hk k;rw [get_find l k 0];cases hh:find l k 0 with
 | none =>rw [hh] at hf;simp [Instr.lookup,run_underlying hT,MapKept.run_getObj_map h,run_checkKey hk.und (hk.isKey k),hf,hz,Result.andThen]
 | some x =>rw [hh] at hf;simp [Instr.lookup,run_underlying hT,MapKept.run_getObj_map h,run_checkKey hk.und (hk.isKey k),hf,Result.andThen]
theorem run_get_ok (hT:P.underlying T=some (.map kt et)) (hk:Keys P kt d kv) (h:MapAt w kv ve b l) (k:K) (z:Value) (hz:(zeroValue et).run P w=.ok z w): (Instr.lookup T (.map (some b)) (kv k) true).run P w=.ok (.tuple #[((get l k).map ve).getD z,.bool (get l k).isSome]) w:=by
 have hf:=run_find (ve:=ve) (l:=l) (w:=w) hk k;rw [get_find l k 0];cases hh:find l k 0 with
 | none =>rw [hh] at hf;simp [Instr.lookup,run_underlying hT,MapKept.run_getObj_map h,run_checkKey hk.und (hk.isKey k),hf,hz,Result.andThen]
 | some x =>rw [hh] at hf;simp [Instr.lookup,run_underlying hT,MapKept.run_getObj_map h,run_checkKey hk.und (hk.isKey k),hf,Result.andThen]
theorem run_put (hT:P.underlying T=some (.map kt et)) (hk:Keys P kt d kv) (h:MapAt w kv ve b l) (k:K) (v:V): (Instr.mapUpdate T (.map (some b)) (kv k) (ve v)).run P w=.ok () (w.putObj b (.map (ents kv ve 0 (put l k v)).toArray (put l k v).length)):=by
 have hf:=run_find (ve:=ve) (l:=l) (w:=w) hk k;cases hh:find l k 0 with
 | none =>rw [hh] at hf;have hp:=put_miss l k v 0 hh;simp [Instr.mapUpdate,run_underlying hT,MapKept.run_getObj_map h,run_checkKey hk.und (hk.isKey k),hf,MapKept.run_setObj_map _ h,Result.andThen,hp,ents_append,ents,World.putObj]
 | some x =>obtain ⟨n,v0⟩:=x;rw [hh] at hf;have ha:=ents_at (kv:=kv) (ve:=ve) l k 0 0 n v0 hh;have hm:=ents_modify (kv:=kv) (ve:=ve) l k v 0 0 n v0 hh (fun e=>{ e with key:=kv k,val:=ve v }) (fun _ _=>rfl);simp only [Nat.sub_zero] at ha hm;simp [Instr.mapUpdate,run_underlying hT,MapKept.run_getObj_map h,run_checkKey hk.und (hk.isKey k),hf,ha,run_keyThatStays (hk.isKey k),MapKept.run_setObj_map _ h,Result.andThen,hm,put_hit l k v 0 n v0 hh,World.putObj]
end
theorem string_keys {P:Program} {kt:TypeId} (h:P.underlying kt=some .string):Keys P kt .string (Value.string:ByteArray→Value) :=
 ⟨h,fun _=>trivial,fun a b=>by simp only [Instr.sameNow,Option.some.injEq];rw [Bool.eq_iff_iff,MapKept.bytes_beq];simp⟩
theorem int_keys {P:Program} {kt:TypeId} (h:P.underlying kt=some (.int .i64)):Keys P kt (.int .i64) (fun n:Int=>Value.int .i64 n) :=
 ⟨h,fun _=>rfl,fun a b=>by simp only [Instr.sameNow,if_true,Option.some.injEq];by_cases e:a=b <;> simp [e]⟩
end ZMap
end
end Go.Proofs.YteikiojmcipkmaaGreatDoor
