/- Parts of the proof, gathered by a program: what calls of the functions answer, and what follows in plain lists. Conditions: those that each theorem states. -/
import Derived.RowKit
set_option linter.unusedVariables false
set_option linter.unusedSimpArgs false
namespace Go.Proofs.YteikiojmcipkmaaGreatDoor
section
namespace ZSortP
variable {α:Type}
def at_ (d:α) (l:List α) (i:Nat):α:=l.getD i d
def swapL (l:List α) (i j:Nat):List α:=if h:i < l.length∧j < l.length then (l.set i (l[j]'h.2)).set j (l[i]'h.1) else l
theorem swapL_perm (l:List α) (i j:Nat):(swapL l i j).Perm l:=by
 unfold swapL;split
 ·rename_i h;have:=Array.swap_perm (xs:=l.toArray) (i:=i) (j:=j) (by simpa using h.1) (by simpa using h.2);have h2:=Array.perm_iff_toList_perm.1 this;simpa [Array.swap] using h2
 ·exact List.Perm.refl _
theorem at_swap (d:α) (l:List α) (i j k:Nat) (hi:i < l.length) (hj:j < l.length):at_ d (swapL l i j) k=if k=j then at_ d l i else if k=i then at_ d l j else at_ d l k:=by
 unfold swapL at_;rw [dif_pos ⟨hi,hj⟩];simp only [List.getD_eq_getElem?_getD,List.getElem?_set,List.length_set];by_cases h1:k=j
 ·subst h1;simp [hj,List.getElem?_eq_getElem hi]
 ·
  rw [if_neg (fun e=>h1 e.symm),if_neg h1];by_cases h2:k=i
  ·subst h2;simp [hi,List.getElem?_eq_getElem hj]
  ·rw [if_neg (fun e=>h2 e.symm),if_neg h2]
structure Re (d:α) (a b:Nat) (l l':List α):Prop where
 perm:l'.Perm l
 out:∀ i,¬ (a≤i∧i < b)→at_ d l' i=at_ d l i
 ins:∀ i,a≤i→i < b→∃ j,a≤j∧j < b∧at_ d l' i=at_ d l j
section
variable {d:α} {a b:Nat} {l l' l'':List α}
theorem Re.len (h:Re d a b l l'):l'.length=l.length:=h.perm.length_eq
theorem Re.refl (l:List α):Re d a b l l:=⟨List.Perm.refl _,fun _ _=>rfl,fun i h1 h2=>⟨i,h1,h2,rfl⟩⟩
theorem Re.trans (h:Re d a b l l') (k:Re d a b l' l''):Re d a b l l'' :=
 ⟨k.perm.trans h.perm,fun i hi=>(k.out i hi).trans (h.out i hi),fun i h1 h2=>by obtain ⟨j,h3,h4,e⟩:=k.ins i h1 h2;obtain ⟨m,h5,h6,e2⟩:=h.ins j h3 h4;exact ⟨m,h5,h6,e.trans e2⟩⟩
theorem Re.more {a' b':Nat} (h:Re d a b l l') (ha:a'≤a) (hb:b≤b'):Re d a' b' l l' :=
 ⟨h.perm,fun i hi=>h.out i (by omega),fun i h1 h2=>by
  by_cases hi:a≤i∧i < b
  ·obtain ⟨j,h3,h4,e⟩:=h.ins i hi.1 hi.2;exact ⟨j,by omega,by omega,e⟩
  ·exact ⟨i,h1,h2,h.out i hi⟩⟩
end
structure Ord (le:α→α→Prop):Prop where
 trans:∀ {x y z},le x y→le y z→le x z
 total:∀ x y,le x y∨le y x
def Srt (le:α→α→Prop) (d:α) (l:List α) (a b:Nat):Prop:=∀ i j,a≤i→i < j→j < b→le (at_ d l i) (at_ d l j)
section
variable {le:α→α→Prop} {d:α} {l l':List α} {a b m:Nat}
theorem Ord.refl (O:Ord le) (x:α):le x x:=(O.total x x).elim id id
theorem Srt.at_le (O:Ord le) (h:Srt le d l a b) {i j:Nat} (h1:a≤i) (h2:i≤j) (h3:j < b):le (at_ d l i) (at_ d l j):=by
 rcases Nat.lt_or_ge i j with h4 | h4
 ·exact h i j h1 h4 h3
 ·
  obtain rfl:i=j:=by omega
  exact O.refl _
theorem Srt.small (h:b≤a+1):Srt le d l a b:=fun i j h1 h2 h3=>by omega
theorem Srt.same (h:Srt le d l a b) (he:∀ i,a≤i→i < b→at_ d l' i=at_ d l i):Srt le d l' a b:=fun i j h1 h2 h3=>by rw [he i h1 (by omega),he j (by omega) h3];exact h i j h1 h2 h3
def Ins (le:α→α→Prop) (d:α) (l:List α) (a i j:Nat):Prop:=∀ p q,a≤p→p < q→q≤i→q≠j→le (at_ d l p) (at_ d l q)
theorem Ins.start {i:Nat} (h:Srt le d l a i):Ins le d l a i i:=fun p q h1 h2 h3 h4=>h p q h1 h2 (by omega)
theorem Ins.done (O:Ord le) {i j:Nat} (h:Ins le d l a i j) (hj:j≤i) (he:a < j→le (at_ d l (j - 1)) (at_ d l j)):Srt le d l a (i+1):=fun p q h1 h2 h3=>by
 by_cases hq:q=j
 ·
  subst hq;have h4:=he (by omega);rcases Nat.lt_or_ge p (q - 1) with h5 | h5
  ·exact O.trans (h p (q - 1) h1 h5 (by omega) (by omega)) h4
  ·
   obtain rfl:p=q - 1:=by omega
   exact h4
 ·exact h p q h1 h2 (by omega) hq
def Up (d:α) (l0 l:List α) (a k:Nat):Prop:=∀ t,at_ d l t=if t=k then at_ d l0 a else if a≤t∧t < k then at_ d l0 (t+1) else at_ d l0 t
theorem Up.start (l0:List α) (a:Nat):Up d l0 l0 a a:=fun t=>by
 by_cases h:t=a
 ·simp [h]
 ·rw [if_neg h,if_neg (by omega)]
theorem Up.step {l0:List α} {k:Nat} (h:Up d l0 l a k) (hk:a≤k) (hl:k+1 < l.length):Up d l0 (swapL l k (k+1)) a (k+1):=fun t=>by
 rw [at_swap d l k (k+1) t (by omega) hl,h,h,h]
 repeat' split
 all_goals first | rfl | omega | (congr 1;omega)
def Dn (d:α) (l0 l:List α) (m k:Nat):Prop:=∀ t,at_ d l t=if t=k then at_ d l0 m else if k < t∧t≤m then at_ d l0 (t - 1) else at_ d l0 t
theorem Dn.start (l0:List α) (m:Nat):Dn d l0 l0 m m:=fun t=>by
 by_cases h:t=m
 ·simp [h]
 ·rw [if_neg h,if_neg (by omega)]
theorem Dn.step {l0:List α} {k:Nat} (h:Dn d l0 l m k) (hk:k≤m) (h0:0 < k) (hl:k < l.length):Dn d l0 (swapL l k (k - 1)) m (k - 1):=fun t=>by
 rw [at_swap d l k (k - 1) t (by omega) (by omega),h,h,h]
 repeat' split
 all_goals first | rfl | omega | (congr 1;omega)
theorem Up.sorted {l0:List α} {i:Nat} (h:Up d l0 l a (i - 1)) (hs:Srt le d l0 (a+1) b) (h1:a+1≤i) (h2:i≤b) (hlo:∀ t,a+1≤t→t < i→le (at_ d l0 t) (at_ d l0 a)) (hhi:∀ t,i≤t→t < b→le (at_ d l0 a) (at_ d l0 t)):Srt le d l a b:=fun p q h3 h4 h5=>by
 rw [h,h];by_cases hp:p=i - 1
 ·rw [if_pos hp,if_neg (by omega),if_neg (by omega)];exact hhi q (by omega) h5
 ·
  rw [if_neg hp];by_cases hq:q=i - 1
  ·rw [if_pos hq,if_pos (by omega)];exact hlo _ (by omega) (by omega)
  ·
   rw [if_neg hq]
   repeat' split
   ·exact hs _ _ (by omega) (by omega) (by omega)
   ·exact hs _ _ (by omega) (by omega) (by omega)
   ·omega
   ·exact hs _ _ (by omega) (by omega) (by omega)
theorem Dn.sorted {l0:List α} {i:Nat} (h:Dn d l0 l m i) (hs:Srt le d l0 a m) (h1:a≤i) (h2:i≤m) (hlo:∀ t,a≤t→t < i→le (at_ d l0 t) (at_ d l0 m)) (hhi:∀ t,i≤t→t < m→le (at_ d l0 m) (at_ d l0 t)):Srt le d l a (m+1):=fun p q h3 h4 h5=>by
 rw [h,h];by_cases hp:p=i
 ·rw [if_pos hp,if_neg (by omega),if_pos (by omega)];exact hhi _ (by omega) (by omega)
 ·
  rw [if_neg hp];by_cases hq:q=i
  ·rw [if_pos hq,if_neg (by omega)];exact hlo p h3 (by omega)
  ·
   rw [if_neg hq]
   repeat' split
   ·exact hs _ _ (by omega) (by omega) (by omega)
   ·omega
   ·exact hs _ _ (by omega) (by omega) (by omega)
   ·exact hs _ _ (by omega) (by omega) (by omega)
def SwR (d:α) (l0 l:List α) (p q k:Nat):Prop:=∀ t,at_ d l t=if p≤t∧t < p+k then at_ d l0 (t - p+q) else if q≤t∧t < q+k then at_ d l0 (t - q+p) else at_ d l0 t
theorem SwR.start (l0:List α) (p q:Nat):SwR d l0 l0 p q 0:=fun t=>by rw [if_neg (by omega),if_neg (by omega)]
theorem SwR.step {l0:List α} {p q k:Nat} (h:SwR d l0 l p q k) (hpq:p+k < q) (hl:q+k < l.length):SwR d l0 (swapL l (p+k) (q+k)) p q (k+1):=fun t=>by
 rw [at_swap d l (p+k) (q+k) t (by omega) (by omega),h,h,h]
 repeat' split
 all_goals first | rfl | omega | (congr 1;omega)
def Rot (d:α) (l0 l:List α) (lo m hi:Nat):Prop:=∀ t,at_ d l t=if lo≤t∧t < lo+(hi - m) then at_ d l0 (t - lo+m) else if lo+(hi - m)≤t∧t < hi then at_ d l0 (t - (hi - m)) else at_ d l0 t
theorem Rot.left {l0 l1:List α} {m i j:Nat} (hs:SwR d l0 l1 (m - i) m j) (hij:j < i) (hi:i≤m) (h:Rot d l1 l (m - (i - j)) m (m+j)):Rot d l0 l (m - i) m (m+j):=fun t=>by
 rw [h]
 repeat' split
 all_goals (rw [hs];repeat' split)
 all_goals first | rfl | omega | (congr 1;omega)
theorem Rot.right {l0 l1:List α} {m i j:Nat} (hs:SwR d l0 l1 (m - i) (m+j - i) i) (hij:i < j) (hi:i≤m) (h:Rot d l1 l (m - i) m (m+(j - i))):Rot d l0 l (m - i) m (m+j):=fun t=>by
 rw [h]
 repeat' split
 all_goals (rw [hs];repeat' split)
 all_goals first | rfl | omega | (congr 1;omega)
theorem Rot.both {l0:List α} {m i:Nat} (hs:SwR d l0 l (m - i) m i) (hi:i≤m):Rot d l0 l (m - i) m (m+i):=fun t=>by
 rw [hs]
 repeat' split
 all_goals first | rfl | omega | (congr 1;omega)
theorem Rot.none {l:List α} {lo m hi:Nat} (h:lo=m∨m=hi) (h1:lo≤m) (h2:m≤hi):Rot d l l lo m hi:=fun t=>by
 rcases h with rfl | rfl
 ·
  repeat' split
  all_goals first | rfl | omega | (congr 1;omega)
 ·
  repeat' split
  all_goals first | rfl | omega | (congr 1;omega)
structure Cut (le:α→α→Prop) (d:α) (l:List α) (a m b mid s:Nat):Prop where
 lo:a≤s
 hi:s≤m
 lo2:m≤mid+m - s
 hi2:mid+m - s≤b
 one:∀ x y,a≤x→x < s→mid+m - s≤y→y < b→le (at_ d l x) (at_ d l y)
 two:∀ x y,m≤x→x < mid+m - s→s≤y→y < m→le (at_ d l x) (at_ d l y)
theorem Cut.mk' (O:Ord le) {s mid:Nat} (h1:Srt le d l a m) (h2:Srt le d l m b) (lo:a≤s) (hi:s≤m) (lo2:m≤mid+m - s) (hi2:mid+m - s≤b) (e1:a < s→mid+m - s < b→le (at_ d l (s - 1)) (at_ d l (mid+m - s))) (e2:m < mid+m - s→s < m→le (at_ d l (mid+m - s - 1)) (at_ d l s)):Cut le d l a m b mid s :=
 ⟨lo,hi,lo2,hi2,fun x y h3 h4 h5 h6=>O.trans (h1.at_le O h3 (by omega:x≤s - 1) (by omega)) (O.trans (e1 (by omega) (by omega)) (h2.at_le O (by omega) h5 h6)),
  fun x y h3 h4 h5 h6=>O.trans (h2.at_le O h3 (by omega:x≤mid+m - s - 1) (by omega)) (O.trans (e2 (by omega) (by omega)) (h1.at_le O (by omega) h5 h6))⟩
theorem Cut.rot {s mid:Nat} (c:Cut le d l a m b mid s) (h1:Srt le d l a m) (h2:Srt le d l m b) (hr:Rot d l l' s m (mid+m - s)) (ha:a≤mid): Srt le d l' a s∧Srt le d l' s mid∧Srt le d l' mid (mid+m - s)∧Srt le d l' (mid+m - s) b∧∀ x y,a≤x→x < mid→mid≤y→y < b→le (at_ d l' x) (at_ d l' y):=by
 obtain ⟨lo,hi,lo2,hi2,one,two⟩:=c;have e:s+(mid+m - s - m)=mid:=by omega
 have hr':∀ t,at_ d l' t=if s≤t∧t < mid then at_ d l (t - s+m) else if mid≤t∧t < mid+m - s then at_ d l (t - (mid+m - s - m)) else at_ d l t:=fun t=>by
  have:=hr t
  rwa [e] at this
 refine ⟨fun i j h3 h4 h5=>?_,fun i j h3 h4 h5=>?_,fun i j h3 h4 h5=>?_,fun i j h3 h4 h5=>?_,fun x y h3 h4 h5 h6=>?_⟩
 ·rw [hr',hr',if_neg (by omega),if_neg (by omega),if_neg (by omega),if_neg (by omega)];exact h1 i j h3 h4 (by omega)
 ·rw [hr',hr',if_pos (by omega),if_pos (by omega)];exact h2 _ _ (by omega) (by omega) (by omega)
 ·rw [hr',hr',if_neg (by omega),if_pos (by omega),if_neg (by omega),if_pos (by omega)];exact h1 _ _ (by omega) (by omega) (by omega)
 ·rw [hr',hr',if_neg (by omega),if_neg (by omega),if_neg (by omega),if_neg (by omega)];exact h2 _ _ (by omega) (by omega) (by omega)
 ·
  rw [hr',hr'];by_cases hx:x < s
  ·
   rw [if_neg (by omega),if_neg (by omega)];by_cases hy:y < mid+m - s
   ·rw [if_neg (by omega),if_pos (by omega)];exact h1 _ _ (by omega) (by omega) (by omega)
   ·rw [if_neg (by omega),if_neg (by omega)];exact one _ _ h3 hx (by omega) h6
  ·
   rw [if_pos (by omega)];by_cases hy:y < mid+m - s
   ·rw [if_neg (by omega),if_pos (by omega)];exact two _ _ (by omega) (by omega) (by omega) (by omega)
   ·rw [if_neg (by omega),if_neg (by omega)];exact h2 _ _ (by omega) (by omega) (by omega)
theorem Rot.re {lo hi:Nat} (h:Rot d l l' lo m hi) (hp:l'.Perm l) (h1:lo≤m) (h2:m≤hi):Re d lo hi l l' :=
 ⟨hp,fun i hi=>by rw [h,if_neg (by omega),if_neg (by omega)],fun i h3 h4=>by
  rw [h];by_cases h5:i < lo+(hi - m)
  ·rw [if_pos (by omega)];exact ⟨_,by omega,by omega,rfl⟩
  ·rw [if_neg (by omega),if_pos (by omega)];exact ⟨_,by omega,by omega,rfl⟩⟩
theorem halves {mid:Nat} {l1 l2:List α} (hx:∀ x y,a≤x→x < mid→mid≤y→y < b→le (at_ d l x) (at_ d l y)) (r1:Re d a mid l l1) (s1:Srt le d l1 a mid) (r2:Re d mid b l1 l2) (s2:Srt le d l2 mid b):Srt le d l2 a b:=fun i j h1 h2 h3=>by
 by_cases hj:j < mid
 ·rw [r2.out i (by omega),r2.out j (by omega)];exact s1 i j h1 h2 hj
 ·
  by_cases hi:mid≤i
  ·exact s2 i j hi h2 h3
  ·rw [r2.out i (by omega)];obtain ⟨j',h4,h5,e⟩:=r2.ins j (by omega) h3;rw [e,r1.out j' (by omega)];obtain ⟨i',h6,h7,e2⟩:=r1.ins i h1 (by omega);rw [e2];exact hx i' j' h6 h7 h4 h5
end
end ZSortP
end
end Go.Proofs.YteikiojmcipkmaaGreatDoor
