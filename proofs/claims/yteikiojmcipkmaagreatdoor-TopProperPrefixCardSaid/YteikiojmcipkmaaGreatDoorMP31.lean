/- Parts of the proof, gathered by a program: ZDRecA, ZDRec, ZDecA, ZTrail, ZDecB, ZDecC, ZDecD, ZDecE, ZDecF, ZDecG: what calls of the functions answer, and what follows in plain lists. Conditions: those that each theorem states. -/
import Derived.Test.YteikiojmcipkmaaGreatDoorMP28
import Derived.Test.YteikiojmcipkmaaGreatDoorMP30
set_option linter.unusedVariables false
set_option linter.unusedSimpArgs false
section
namespace Go.Proofs.YteikiojmcipkmaaGreatDoor.ZDRecA
open Go.RowKit Go.Proofs.YteikiojmcipkmaaGreatDoorW.PrintWords Go.Proofs.YteikiojmcipkmaaGreatDoorW.PrintLast Go.Proofs.YteikiojmcipkmaaGreatDoorW.PrintMore Oct ZBase ZGlob ZMo ZBlock ZCheck ZPay ZDHead ZRec ZMergeA
open ZEntry (blkB blkB_len extH sPax blocks extended_calls)
theorem stood138 : Tryz.prog.stoodInHeld 138 = false := by kernel_rfl
theorem und138 : Tryz.prog.underlying 138 = some (.struct (Tryz.prog.fieldsOf 138)) := by kernel_rfl
theorem hdr_same (t1 : Int) (n1 p1 l1 : ByteArray) (m1 s1 : Int) (w : World) :
    (binOp .neq 138 (.agg #[.int .u8 t1, .string n1, .string p1, .string l1, .int .i64 m1, .int .i64 s1]) (.agg #[.int .u8 t1, .string n1, .string p1, .string l1, .int .i64 m1, .int .i64 s1])).run Tryz.prog w = .ok (.bool false) w := by
  rw [run_neq_struct]
  show ((Op.equalIn (9999 + 1) 138 _ _).run Tryz.prog w).andThen _ = _
  rw [run_equalIn_struct _ _ _ _ _ und138 stood138]
  go_simp
abbrev hcells (typ : Int) (name pre lk : ByteArray) (mode : Int) (n : Nat) : Array Value := #[.int .u8 typ, .string name, .string pre, .string lk, .int .i64 mode, .int .i64 n]
def Sx (w : World) (typ : Int) (name pre lk : ByteArray) (mode : Int) (n : Nat) (w' : World) : Prop := w'.heap[w.heap.size]? = some (.cells (hcells typ name pre lk mode n) 138 (0, 0)) ∧ Below w.heap.size w w'
/-- The six cells of a header's box, and where they come from. -/
def Sy (w : World) (typ : Int) (name pre lk : ByteArray) (mode : Int) (n : Nat) (w' : World) : Prop := (w'.cell? ⟨w.heap.size, 0, none⟩ = some (.int .u8 typ) ∧ w'.cell? ⟨w.heap.size, 1, none⟩ = some (.string name) ∧ w'.cell? ⟨w.heap.size, 2, none⟩ = some (.string pre) ∧ w'.cell? ⟨w.heap.size, 3, none⟩ = some (.string lk) ∧ w'.cell? ⟨w.heap.size, 4, none⟩ = some (.int .i64 mode) ∧ w'.cell? ⟨w.heap.size, 5, none⟩ = some (.int .i64 n)) ∧ Hid (Sx w typ name pre lk mode n w')
theorem Sx.y {w w' : World} {typ : Int} {name pre lk : ByteArray} {mode : Int} {n : Nat} (h : Sx w typ name pre lk mode n w') : Sy w typ name pre lk mode n w' :=
  ⟨⟨row_cell h.1 0 _ rfl, row_cell h.1 1 _ rfl, row_cell h.1 2 _ rfl, row_cell h.1 3 _ rfl, row_cell h.1 4 _ rfl, row_cell h.1 5 _ rfl⟩, Lib.hid h⟩
theorem Sx.start (w : World) (typ : Int) (name pre lk : ByteArray) (mode : Int) (n : Nat) : Sx w typ name pre lk mode n (w.alloc (.cells (hcells typ name pre lk mode n) 138)).drew :=
  ⟨heap_alloc_new w _, ((Below.refl _ _).alloc (Nat.le_refl _) _).drew⟩
theorem Sx.step {w w1 w2 : World} {typ : Int} {name pre lk : ByteArray} {mode : Int} {n : Nat} (h : Sx w typ name pre lk mode n w1) (hb : Below w1.heap.size w1 w2) : Sx w typ name pre lk mode n w2 :=
  ⟨(hb.block _ (blk_lt h.1)).trans h.1, below_step h.2 hb⟩
theorem ext_calls (w : World) (typ : Int) (name pre lk : ByteArray) (mode : Int) (n : Nat) (W : World) (hW : Hid (Sx w typ name pre lk mode n W)) :
    Calls Tryz.prog 94 #[.int .i64 n] W fun e w' => e = .returned (.agg #[.int .u8 120, .string ⟨#[112, 97, 120]⟩, .string ⟨#[]⟩, .string ⟨#[]⟩, .int .i64 0, .int .i64 n]) ∧ ((w'.cell? ⟨w.heap.size, 0, none⟩ = some (.int .u8 typ) ∧ w'.cell? ⟨w.heap.size, 1, none⟩ = some (.string name) ∧ w'.cell? ⟨w.heap.size, 2, none⟩ = some (.string pre) ∧ w'.cell? ⟨w.heap.size, 3, none⟩ = some (.string lk) ∧ w'.cell? ⟨w.heap.size, 4, none⟩ = some (.int .i64 mode) ∧ w'.cell? ⟨w.heap.size, 5, none⟩ = some (.int .i64 n)) ∧ Hid (Sx w typ name pre lk mode n w')) := by
  refine (extended_calls n W).mono ?_
  rintro e w' ⟨rfl, hb⟩
  exact ⟨rfl, (hW.out.step hb).y⟩
/-- payload.Read, its answer in three values. -/
def PayRes (w : World) (rb sb : Nat) (off : Int) (av : List Int) (ε : Int) (size : Nat) (v : Value) (a x : Int) (w' : World) : Prop :=
  Mo [sb, rb] w w' ∧
    ((∃ A cap, blocks size * 512 ≤ av.length ∧ (∀ x ∈ (av.take (blocks size * 512)).drop size, x = 0) ∧ v = .slice A size cap ∧ a = off + (blocks size * 512 : Nat) ∧ x = 0 ∧ size ≤ cap ∧ Kd.C (Kd.int .u8) w' A size (av.take size) ∧
        (0 < size → ∃ g, A = some ⟨g, 0, none⟩ ∧ w.heap.size ≤ g ∧ g < w'.heap.size) ∧ Rd w' rb sb (off + (blocks size * 512 : Nat)) (av.drop (blocks size * 512)) ε)
    ∨ (av.length < blocks size * 512 ∧ v = .slice none 0 0 ∧ a = off + av.length ∧ x = cutE ε ∧ ∃ err, Rdr w' rb sb (off + av.length) err)
    ∨ (blocks size * 512 ≤ av.length ∧ (∃ x ∈ (av.take (blocks size * 512)).drop size, x ≠ 0) ∧ v = .slice none 0 0 ∧ x = 10 ∧ ∃ o err, Rdr w' rb sb o err))
theorem pay_calls (w : World) (rb sb : Nat) (off : Int) (av : List Int) (ε : Int) (h : Rd w rb sb off av ε) (size : Nat) (hs : size ≤ 1099511627776) (hav : av.length ≤ 1000000000) :
    Calls Tryz.prog 46 #[.pointer (some ⟨rb, 0, none⟩), .int .i64 size] w fun e w' => ∃ v a x, e = .returned (.tuple #[v, .int .i64 a, .int .i64 x]) ∧ PayRes w rb sb off av ε size v a x w' := by
  refine (read_calls w rb sb off av ε h size hs hav).mono ?_
  rintro e w' ⟨hm, ⟨A, cap, h1, h2, rfl, h4, h5, h6, h7⟩ | ⟨h1, rfl, h2⟩ | ⟨h1, h2, ⟨a, rfl⟩, h3⟩⟩
  · exact ⟨_, _, _, rfl, hm, .inl ⟨A, cap, h1, h2, rfl, rfl, rfl, h4, h5, h6, h7⟩⟩
  · exact ⟨_, _, _, rfl, hm, .inr (.inl ⟨h1, rfl, rfl, rfl, h2⟩)⟩
  · exact ⟨_, _, _, rfl, hm, .inr (.inr ⟨h1, h2, rfl, rfl, h3⟩)⟩
theorem join3 {P : Program} {c : Code} {K : Act → World → Prop} {Q : Exit → Act → World → Prop} {a : Act} {w : World} (A : Value → Int → Int → Act) (S : Value → Int → Int → World → Prop) (h : c.wp P (Exit.then (fun a' w' => ∃ v x y, a' = A v x y ∧ S v x y w') Q) a w) (k : ∀ v x y w', S v x y w' → K (A v x y) w') : c.wp P (Exit.then K Q) a w :=
  Code.wp_mono (fun e a' w' h => by
    cases e with
    | normal =>
      obtain ⟨v, x, y, rfl, hS⟩ := h
      exact k v x y w' hS
    | _ => exact h) h
/-- What is asked of paxrec.Parse at these bytes: records that are S, or an error that is T. -/
def ParseC (rb : List Int) (S : List Rec → Prop) (T : Int → Int → Prop) : Prop :=
  ∀ (g c : Nat) (W : World), Kd.C (Kd.int .u8) W (some ⟨g, 0, none⟩) rb.length rb → rb.length ≤ c → Gl W →
    Calls Tryz.prog 114 #[.slice (some ⟨g, 0, none⟩) rb.length c] W fun e w' => Below W.heap.size W w' ∧ ((∃ l v, S l ∧ e = .returned (.tuple #[v, .int .i64 rb.length, .int .i64 0]) ∧ ZPlan.RecRow w' W.heap.size v l) ∨ (∃ m x : Int, T m x ∧ x ≠ 0 ∧ 0 ≤ m ∧ m ≤ rb.length ∧ e = .returned (.tuple #[.slice none 0 0, .int .i64 m, .int .i64 x])))
/-- What the records answer behind a fitting header. -/
def RecPost (w : World) (db rb sb : Nat) (off : Int) (av : List Int) (ε : Int) (n : Nat) (S : List Rec → Prop) (T : Int → Int → Prop) (e : Ending) (w' : World) : Prop :=
  Mo [sb, rb, db] w w' ∧
  ((av.length < blocks n * 512 ∧ e = .returned (.tuple #[.slice none 0 0, .int .i64 (cutE ε)]) ∧ Dc w' db rb (off + av.length) ∧ ∃ err, Rdr w' rb sb (off + av.length) err)
  ∨ (blocks n * 512 ≤ av.length ∧ (∃ x ∈ (av.take (blocks n * 512)).drop n, x ≠ 0) ∧ e = .returned (.tuple #[.slice none 0 0, .int .i64 10]) ∧ (∃ a, Dc w' db rb a) ∧ ∃ o err, Rdr w' rb sb o err)
  ∨ (blocks n * 512 ≤ av.length ∧ (∀ x ∈ (av.take (blocks n * 512)).drop n, x = 0) ∧ (∃ m x : Int, T m x ∧ x ≠ 0 ∧ e = .returned (.tuple #[.slice none 0 0, .int .i64 x]) ∧ Dc w' db rb (off + m)) ∧ Rd w' rb sb (off + (blocks n * 512 : Nat)) (av.drop (blocks n * 512)) ε)
  ∨ (blocks n * 512 ≤ av.length ∧ (∀ x ∈ (av.take (blocks n * 512)).drop n, x = 0) ∧ (∃ l v, S l ∧ e = .returned (.tuple #[v, .int .i64 0]) ∧ ZPlan.RecRow w' w.heap.size v l) ∧ Dc w' db rb (off + n) ∧ Rd w' rb sb (off + (blocks n * 512 : Nat)) (av.drop (blocks n * 512)) ε))
theorem Rdr.far' {w : World} {rb sb : Nat} {off err : Int} (h : Rdr w rb sb off err) {p : Addr} (hp : rb ≠ p.block) (v : Value) : Rdr (w.setCell p v) rb sb off err := h.of (Below.heap_setCell _ _ _ _ hp)
end Go.Proofs.YteikiojmcipkmaaGreatDoor.ZDRecA
end
section
namespace Go.Proofs.YteikiojmcipkmaaGreatDoor.ZDRec
open Go.RowKit Go.Proofs.YteikiojmcipkmaaGreatDoorW.PrintWords Go.Proofs.YteikiojmcipkmaaGreatDoorW.PrintLast Go.Proofs.YteikiojmcipkmaaGreatDoorW.PrintMore Oct ZBase ZGlob ZMo ZBlock ZCheck ZPay ZDHead ZRec ZMergeA ZDRecA
open ZEntry (blkB blkB_len extH sPax blocks extended_calls)
set_option maxHeartbeats 8000000 in
set_option maxRecDepth 100000 in
theorem accept (w : World) (db rb sb : Nat) (off at0 : Int) (av : List Int) (ε : Int) (h : Rd w rb sb off av ε) (hd : Dc w db rb at0) (hlt : rb < db) (hG : Gl w) (h20 : 20 ≤ w.heap.size) (hsb : 20 ≤ sb) (n : Nat) (h1 : 1 ≤ n) (h2 : n ≤ 262144) (hav : av.length ≤ 1000000000) (hoff : 0 ≤ off ∧ off ≤ 4611686018427387904)
    (S : List Rec → Prop) (T : Int → Int → Prop) (hP : blocks n * 512 ≤ av.length → (∀ x ∈ (av.take (blocks n * 512)).drop n, x = 0) → ParseC (av.take n) S T) :
    Calls Tryz.prog 77 #[.pointer (some ⟨db, 0, none⟩), .agg #[.int .u8 120, .string ⟨#[112, 97, 120]⟩, .string ⟨#[]⟩, .string ⟨#[]⟩, .int .i64 0, .int .i64 n]] w (RecPost w db rb sb off av ε n S T) := by
  have HD : ∀ W : World, (binOp .neq 138 (.agg #[.int .u8 120, .string ⟨#[112, 97, 120]⟩, .string ⟨#[]⟩, .string ⟨#[]⟩, .int .i64 0, .int .i64 n]) (.agg #[.int .u8 120, .string ⟨#[112, 97, 120]⟩, .string ⟨#[]⟩, .string ⟨#[]⟩, .int .i64 0, .int .i64 n])).run Tryz.prog W = .ok (.bool false) W := fun W => hdr_same _ _ _ _ _ _ W
  have SS0 := (Sx.start w 120 ⟨#[112, 97, 120]⟩ ⟨#[]⟩ ⟨#[]⟩ 0 n).y
  obtain ⟨⟨u0, u1, u2, u3, u4, u5⟩, SS⟩ := SS0
  have EC := Lib.hid (ext_calls w 120 ⟨#[112, 97, 120]⟩ ⟨#[]⟩ ⟨#[]⟩ 0 n)
  have g1 : ¬ (n : Int) < 1 := by omega
  have g2 : ¬ (262144 : Int) < (n : Int) := by omega
  have HH := Lib.hid (And.intro h (And.intro hd (And.intro hlt (And.intro hG (And.intro h20 (And.intro hsb (And.intro hav hoff)))))))
  have HP := Lib.hid hP
  have HN := Lib.hid (And.intro h1 h2)
  clear h hd hlt hG h20 hsb hav h1 h2 hP hoff
  go_enter Tryz.func77, Tryz.ntmps77
  go_wp2_with fail
  apply ZHead.join (S := Sx w 120 ⟨#[112, 97, 120]⟩ ⟨#[]⟩ ⟨#[]⟩ 0 n)
  · first | (go_region_with (go_at_call 94; refine (EC.out _ ?_).mono ?_; exact SS; rintro e w' ⟨rfl, ⟨c0, c1, c2, c3, c4, c5⟩, hS⟩)) | fail
    all_goals exact ⟨rfl, hS.out⟩
  clear u0 u1 u2 u3 u4 u5 SS EC HD
  intro W1 S1
  have R1 := Lib.hid (HH.out.1.below S1.2)
  have D1 := Lib.hid (HH.out.2.1.of (S1.2.block _ HH.out.2.1.lt))
  have B1 := Lib.hid S1.2
  have X1 := Lib.hid S1.1
  have c5 := row_cell S1.1 5 _ rfl
  obtain ⟨q0, q1, q2⟩ := D1.out.facts
  have OC := Lib.hid (offset_calls W1 rb sb off 0 R1.out.rdr)
  clear S1
  go_wp2_with fail
  refine OC.out.mono ?_
  rintro e w' ⟨rfl, rfl⟩
  have PC := Lib.hid (fun (W : World) (hW : W.heap = W1.heap) => pay_calls W rb sb off av ε (R1.out.step fun k _ => by rw [hW]) n (by have := HN.out; omega) HH.out.2.2.2.2.2.2.1)
  go_wp2_with fail
  apply join3 (S := PayRes W1.drew rb sb off av ε n)
  · first | (go_region_with (go_at_call 46; refine (PC.out _ ?_).mono ?_; exact rfl; rintro e w' ⟨v, a, x, rfl, hres⟩)) | fail
    all_goals exact ⟨v, a, x, rfl, hres⟩
  intro v a x W2 hres
  have M2 := Lib.hid (show Mo [sb, rb] w W2 from (Mo.of_below (B1.out.drew)).then_ hres.1 (by simp))
  have hl : rb < w.heap.size ∧ sb < rb ∧ db < w.heap.size := ⟨blk_lt HH.out.1.rdr.blk, HH.out.1.ord, HH.out.2.1.lt⟩
  have HL := Lib.hid hl
  have D2 := Lib.hid (HH.out.2.1.of (M2.out.keep db hl.2.2 (by have := HH.out.2.2.1; simp; omega)))
  have G2 := Lib.hid (HH.out.2.2.2.1.mo M2.out HH.out.2.2.2.2.1 (by have := HH.out.2.2.2.2.2.1; simp; omega))
  obtain ⟨q3, q4, q5⟩ := D2.out.facts
  clear q0 q1 q2 c5 PC hl
  rcases hres.2 with ⟨A, cap, p1, p2, rfl, p4, rfl, p6, p7, p8, p9⟩ | ⟨p1, rfl, p3, p4, p5⟩ | ⟨p1, p2, rfl, rfl, p5⟩
  · have HR := Lib.hid (And.intro p1 (And.intro p2 p9))
    obtain ⟨g, rfl, _, _⟩ := p8 (by have := HN.out; omega)
    have hlen : (av.take n).length = n := by
      have hb : n ≤ blocks n * 512 := by unfold blocks; omega
      rw [List.length_take]
      omega
    have PS := HP.out p1 p2 g cap W2 (by rw [hlen]; exact p7) (by rw [hlen]; exact p6) G2.out
    rw [hlen] at PS
    replace PS := Lib.hid PS
    have bx : ((0 : Int) != 0) = false := rfl
    clear p1 p2 p4 p6 p7 p8 p9 hres hlen
    go_wp2_with fail
    refine PS.out.mono ?_
    rintro e W3 ⟨hb3, hres⟩
    have M3 := Lib.hid (M2.out.step hb3)
    have D3 := Lib.hid (D2.out.of (hb3.block db D2.out.lt))
    have R3 := Lib.hid (HR.out.2.2.below hb3)
    obtain ⟨q6, q7, q8⟩ := D3.out.facts
    have HRES := Lib.hid hres
    clear hb3 hres PS q3 q4 q5
    rcases HRES.out with ⟨l, v, hs, rfl, hv⟩ | ⟨m, x, ht, hx, hm0, hm1, rfl⟩
    · have HV := Lib.hid (And.intro hs hv)
      have hw : wrap64 (off + (n : Int)) = off + n := w64s (by have := HH.out.2.2.2.2.2.2.2; omega) (by have := HH.out.2.2.2.2.2.2.2; omega)
      clear hs hv HRES
      go_wp2_with fail
      go_ret2
      rw [hw]
      refine ⟨(M3.out.more (by simp)).set (.inl (by simp)) _, .inr (.inr (.inr ⟨HR.out.1, HR.out.2.1, ⟨l, v, HV.out.1, rfl, ?_⟩, D3.out.set _, Rd.far R3.out (by show rb < db; exact HH.out.2.2.1) _⟩))⟩
      refine (HV.out.2.lower M2.out.size).upto fun k hk1 hk2 => Below.heap_setCell _ _ _ _ ?_
      have h1 := HH.out.2.1.lt
      show k ≠ db
      omega
    · have HV := Lib.hid (And.intro ht (And.intro hx (And.intro hm0 hm1)))
      have hw : wrap64 (off + m) = off + m := w64s (by have := HH.out.2.2.2.2.2.2.2; omega) (by have := HH.out.2.2.2.2.2.2.2; omega)
      clear ht hx hm0 hm1 HRES
      go_wp2_with fail
      go_ret2
      rw [hw]
      exact ⟨(M3.out.more (by simp)).set (.inl (by simp)) _, .inr (.inr (.inl ⟨HR.out.1, HR.out.2.1, ⟨m, x, HV.out.1, HV.out.2.1, rfl, D3.out.set _⟩, Rd.far R3.out (by show rb < db; exact HH.out.2.2.1) _⟩))⟩
  · have HE := Lib.hid (Str.eps HH.out.1.str)
    have HR := Lib.hid (And.intro p1 (And.intro p3 (And.intro p4 p5)))
    have hx0 : x ≠ 0 := by
      rw [p4]
      rcases HE.out with rfl | rfl <;> decide
    have bx : (x != 0) = true := by rw [bne_iff_ne]; exact hx0
    clear p1 p3 p4 p5 hres hx0
    go_wp2_with fail
    go_ret2
    obtain ⟨p1, p3, p4, err, p5⟩ := HR.out
    refine ⟨(M2.out.more (by simp)).set (.inl (by simp)) _, .inl ⟨p1, by rw [← p4]; rfl, ?_, err, Rdr.far' p5 (by have := HH.out.2.2.1; show rb ≠ db; omega) _⟩⟩
    rw [← p3]
    exact D2.out.set _
  · have HR := Lib.hid (And.intro p1 (And.intro p2 p5))
    have bx : ((10 : Int) != 0) = true := rfl
    clear p1 p2 p5 hres
    go_wp2_with fail
    go_ret2
    obtain ⟨p1, p2, o, err, p5⟩ := HR.out
    exact ⟨(M2.out.more (by simp)).set (.inl (by simp)) _, .inr (.inl ⟨p1, p2, rfl, ⟨_, D2.out.set _⟩, o, err, Rdr.far' p5 (by have := HH.out.2.2.1; show rb ≠ db; omega) _⟩)⟩
end Go.Proofs.YteikiojmcipkmaaGreatDoor.ZDRec
end
section
namespace Go.Proofs.YteikiojmcipkmaaGreatDoor.ZDecA
open Go.RowKit Go.Proofs.YteikiojmcipkmaaGreatDoorW.PrintWords Go.Proofs.YteikiojmcipkmaaGreatDoorW.PrintLast Go.Proofs.YteikiojmcipkmaaGreatDoorW.PrintMore Oct ZBase ZGlob ZMo ZBlock ZCheck ZPay ZDHead ZRec ZMergeA ZDRecA ZFit
open ZEntry (blkB blkB_len extH sPax blocks extended_calls)
abbrev ecells : Array Value := #[.int .i64 0, .string ⟨#[]⟩, .int .i64 0, .string ⟨#[]⟩, .int .i64 0]
abbrev zent : Value := .agg ecells
/-- The result's box and the decoder, behind what the call has laid. -/
structure Dw (w W : World) (rb sb : Nat) (at_ : Int) : Prop where
  mo : Mo [sb, rb] w W
  box : W.heap[w.heap.size]? = some (.cells ecells 54 (0, 0))
  dec : Dc W (w.heap.size + 1) rb at_
  lo : rb < w.heap.size ∧ sb < rb
theorem Dw.start {w : World} {rb sb : Nat} {off : Int} {av : List Int} {ε : Int} (h : Rd w rb sb off av ε) : Dw w ((w.alloc (.cells ecells 54)).alloc (.cells #[.pointer (some ⟨rb, 0, none⟩), .int .i64 0] 137)) rb sb 0 := by
  have hs : (w.alloc (.cells ecells 54)).heap.size = w.heap.size + 1 := by simp
  refine ⟨Mo.of_below (((Below.refl _ _).alloc (Nat.le_refl _) _).alloc (by simp) _), heap_alloc2_old _ _ _, ⟨?_⟩, blk_lt h.rdr.blk, h.ord⟩
  rw [← hs]
  exact heap_alloc_new _ _
theorem Dw.step {w W W2 : World} {rb sb : Nat} {a : Int} {S : List Nat} (h : Dw w W rb sb a) (hm : Mo S W W2) (hS : ∀ s ∈ S, s = sb ∨ s = rb) : Dw w W2 rb sb a := by
  have h1 := h.lo
  have h2 := h.dec.lt
  have h3 : w.heap.size < W.heap.size := blk_lt h.box
  have key : ∀ k, w.heap.size ≤ k → k ∉ S := fun k hk hs => by rcases hS k hs with rfl | rfl <;> omega
  exact ⟨h.mo.then_ hm (fun t ht => .inl (by rcases hS t ht with rfl | rfl <;> simp)), (hm.keep _ h3 (key _ (Nat.le_refl _))).trans h.box, h.dec.of (hm.keep _ h2 (key _ (by omega))), h1⟩
theorem Dw.below {w W W2 : World} {rb sb : Nat} {a : Int} (h : Dw w W rb sb a) (hb : Below W.heap.size W W2) : Dw w W2 rb sb a := h.step (S := []) (Mo.of_below hb) (by simp)
theorem Dw.set {w W : World} {rb sb : Nat} {a : Int} (h : Dw w W rb sb a) (n : Int) : Dw w (W.setCell ⟨w.heap.size + 1, 1, none⟩ (.int .i64 n)) rb sb n :=
  ⟨h.mo.set (.inr (by show w.heap.size ≤ w.heap.size + 1; omega)) _, (Below.heap_setCell _ _ _ _ (by show w.heap.size ≠ w.heap.size + 1; omega)).trans h.box, h.dec.set n, h.lo⟩
theorem Dw.more {w W W2 : World} {rb sb : Nat} {a n : Int} (h : Dw w W rb sb a) (hm : Mo [sb, rb, w.heap.size + 1] W W2) (hd : Dc W2 (w.heap.size + 1) rb n) : Dw w W2 rb sb n := by
  have h1 := h.lo
  have h3 : w.heap.size < W.heap.size := blk_lt h.box
  refine ⟨h.mo.then_ hm (fun t ht => ?_), (hm.keep _ h3 (by simp; omega)).trans h.box, hd, h1⟩
  simp only [List.mem_cons, List.not_mem_nil, or_false] at ht
  rcases ht with rfl | rfl | rfl
  · exact .inl (by simp)
  · exact .inl (by simp)
  · exact .inr (by omega)
theorem Dw.facts {w W : World} {rb sb : Nat} {a : Int} (h : Dw w W rb sb a) :
    (W.cell? ⟨w.heap.size, 0, none⟩ = some (.int .i64 0) ∧ W.cell? ⟨w.heap.size, 1, none⟩ = some (.string ⟨#[]⟩) ∧ W.cell? ⟨w.heap.size, 2, none⟩ = some (.int .i64 0) ∧ W.cell? ⟨w.heap.size, 3, none⟩ = some (.string ⟨#[]⟩) ∧ W.cell? ⟨w.heap.size, 4, none⟩ = some (.int .i64 0)) ∧
    (W.frozen? ⟨w.heap.size, 0, none⟩ = false ∧ W.frozen? ⟨w.heap.size, 1, none⟩ = false ∧ W.frozen? ⟨w.heap.size, 2, none⟩ = false ∧ W.frozen? ⟨w.heap.size, 3, none⟩ = false ∧ W.frozen? ⟨w.heap.size, 4, none⟩ = false) := by
  refine ⟨⟨?_, ?_, ?_, ?_, ?_⟩, ?_, ?_, ?_, ?_, ?_⟩ <;> first | exact row_cell h.box _ _ rfl | simp [World.frozen?, h.box]
theorem Dw.five {w W : World} {rb sb : Nat} {a : Int} (h : Dw w W rb sb a) (v0 v1 v2 v3 v4 : Value) :
    Mo [sb, rb] w (((((W.setCell ⟨w.heap.size, 0, none⟩ v0).setCell ⟨w.heap.size, 1, none⟩ v1).setCell ⟨w.heap.size, 2, none⟩ v2).setCell ⟨w.heap.size, 3, none⟩ v3).setCell ⟨w.heap.size, 4, none⟩ v4) :=
  ((((h.mo.set (.inr (Nat.le_refl _)) _).set (.inr (Nat.le_refl _)) _).set (.inr (Nat.le_refl _)) _).set (.inr (Nat.le_refl _)) _).set (.inr (Nat.le_refl _)) _
theorem five_keep (W : World) (k j : Nat) (hj : j ≠ k) (v0 v1 v2 v3 v4 : Value) :
    (((((W.setCell ⟨k, 0, none⟩ v0).setCell ⟨k, 1, none⟩ v1).setCell ⟨k, 2, none⟩ v2).setCell ⟨k, 3, none⟩ v3).setCell ⟨k, 4, none⟩ v4).heap[j]? = W.heap[j]? := by
  rw [Below.heap_setCell _ _ _ _ hj, Below.heap_setCell _ _ _ _ hj, Below.heap_setCell _ _ _ _ hj, Below.heap_setCell _ _ _ _ hj, Below.heap_setCell _ _ _ _ hj]
set_option maxHeartbeats 8000000 in
set_option maxRecDepth 100000 in
theorem dec_end (w : World) (rb sb : Nat) (off : Int) (av : List Int) (ε : Int) (h : Rd w rb sb off av ε) (hG : Gl w) (h20 : 20 ≤ w.heap.size) (hsb : 20 ≤ sb) (hav : av.length ≤ 1000000000) (hoff : 0 ≤ off ∧ off ≤ 1000000000000) (hl : av.length < 512) :
    Calls Tryz.prog 44 #[.pointer (some ⟨rb, 0, none⟩)] w fun e w' => Mo [sb, rb] w w' ∧ e = .returned (.tuple #[zent, .int .i64 (off + av.length), .int .i64 (endE av.length ε)]) := by
  have D0 := Lib.hid (Dw.start h)
  obtain ⟨X, hX⟩ : ∃ X, (w.alloc (.cells ecells 54)).alloc (.cells #[.pointer (some ⟨rb, 0, none⟩), .int .i64 0] 137) = X := ⟨_, rfl⟩
  have R0 := Lib.hid (h.below (((Below.refl w.heap.size w).alloc (Nat.le_refl _) (.cells ecells 54)).alloc (by simp) (.cells #[.pointer (some ⟨rb, 0, none⟩), .int .i64 0] 137)))
  rw [hX] at D0 R0
  have HH := Lib.hid (And.intro hG (And.intro h20 (And.intro hsb (And.intro hav hoff))))
  have HB := Lib.hid (Str.bytes h.str)
  have HE := Lib.hid (Str.eps h.str)
  have OC := Lib.hid (offset_calls X rb sb off 0 R0.out.rdr)
  have NC := Lib.hid (next_end X rb sb off av ε R0.out hl)
  obtain ⟨len, hlen⟩ : ∃ q, av.length = q := ⟨_, rfl⟩
  rw [hlen] at NC ⊢
  obtain ⟨x, hx⟩ : ∃ x, endE len ε = x := ⟨_, rfl⟩
  have bx : (x != 0) = true := by
    rw [bne_iff_ne, ← hx]
    unfold endE
    rcases HE.out with rfl | rfl <;> split <;> decide
  rw [hx] at NC ⊢
  clear hl hlen hx
  clear h hG h20 hsb hav hoff
  go_enter Tryz.func44, Tryz.ntmps44
  go_wp2_with fail
  refine OC.out.mono ?_
  rintro e w' ⟨rfl, rfl⟩
  go_wp2_with fail
  refine NC.out.mono ?_
  rintro e w2 ⟨rfl, hr, hm⟩
  have D2 := Lib.hid (D0.out.step hm (by simp))
  have OC2 := Lib.hid (offset_calls w2 rb sb _ _ hr)
  obtain ⟨⟨y0, y1, y2, y3, y4⟩, z0, z1, z2, z3, z4⟩ := D2.out.facts
  clear hr hm NC
  go_wp2_with fail
  refine OC2.out.mono ?_
  rintro e w3 ⟨rfl, rfl⟩
  go_wp2_with fail
  refine bodyPost_ret (v := .tuple #[zent, .int .i64 (off + len), .int .i64 x]) (by simp [results, Tryz.results44, go_sem, y0, y1, y2, y3, y4, z0, z1, z2, z3, z4]) rfl ⟨D2.out.five _ _ _ _ _, rfl⟩
set_option maxHeartbeats 8000000 in
set_option maxRecDepth 100000 in
theorem dec_zero (w : World) (rb sb : Nat) (off : Int) (av : List Int) (ε : Int) (h : Rd w rb sb off av ε) (hG : Gl w) (h20 : 20 ≤ w.heap.size) (hsb : 20 ≤ sb) (hav : av.length ≤ 1000000000) (hoff : 0 ≤ off ∧ off ≤ 1000000000000) (hl : 512 ≤ av.length) (hz : ∀ x ∈ av.take 512, x = 0) :
    Calls Tryz.prog 44 #[.pointer (some ⟨rb, 0, none⟩)] w fun e w' => Mo [sb, rb] w w' ∧ e = .returned (.tuple #[zent, .int .i64 off, .int .i64 18]) ∧ Rd w' rb sb (off + 512) (av.drop 512) ε := by
  have D0 := Lib.hid (Dw.start h)
  obtain ⟨X, hX⟩ : ∃ X, (w.alloc (.cells ecells 54)).alloc (.cells #[.pointer (some ⟨rb, 0, none⟩), .int .i64 0] 137) = X := ⟨_, rfl⟩
  have R0 := Lib.hid (h.below (((Below.refl w.heap.size w).alloc (Nat.le_refl _) (.cells ecells 54)).alloc (by simp) (.cells #[.pointer (some ⟨rb, 0, none⟩), .int .i64 0] 137)))
  rw [hX] at D0 R0
  have HH := Lib.hid (And.intro hG (And.intro h20 (And.intro hsb (And.intro hav hoff))))
  have HB := Lib.hid (Str.bytes h.str)
  have HE := Lib.hid (Str.eps h.str)
  have OC := Lib.hid (offset_calls X rb sb off 0 R0.out.rdr)
  have NC := Lib.hid (next_ok X rb sb off av ε R0.out hl)
  have HZ := Lib.hid hz
  clear hl hz
  clear h hG h20 hsb hav hoff
  go_enter Tryz.func44, Tryz.ntmps44
  go_wp2_with fail
  refine OC.out.mono ?_
  rintro e w' ⟨rfl, rfl⟩
  go_wp2_with fail
  refine NC.out.mono ?_
  rintro e w2 ⟨g, cap, rfl, ho, hr, hm⟩
  have D2 := Lib.hid (D0.out.step hm (by simp))
  have T2 := Lib.hid (And.intro ho hr)
  have ZC := Lib.hid (ZZero.zero_calls (some ⟨g, 0, none⟩) 512 cap (av.take 512) w2 ho.reads (by decide))
  clear ho hr hm NC
  go_wp2_with fail
  refine ZC.out.mono ?_
  rintro e w3 ⟨b, rfl, hbz, rfl⟩
  obtain rfl : b = true := hbz.2 HZ.out
  obtain ⟨⟨y0, y1, y2, y3, y4⟩, z0, z1, z2, z3, z4⟩ := D2.out.facts
  clear hbz ZC
  go_wp2_with fail
  refine bodyPost_ret (v := .tuple #[zent, .int .i64 (off), .int .i64 18]) (by simp [results, Tryz.results44, go_sem, y0, y1, y2, y3, y4, z0, z1, z2, z3, z4]) rfl ⟨D2.out.five _ _ _ _ _, rfl, ?_⟩
  exact T2.out.2.step fun k hk => five_keep _ _ _ (by have := D2.out.lo; omega) _ _ _ _ _
end Go.Proofs.YteikiojmcipkmaaGreatDoor.ZDecA
end
section
namespace Go.Proofs.YteikiojmcipkmaaGreatDoor.ZTrail
open Go.RowKit Go.Proofs.YteikiojmcipkmaaGreatDoorW.PrintWords Go.Proofs.YteikiojmcipkmaaGreatDoorW.PrintLast Go.Proofs.YteikiojmcipkmaaGreatDoorW.PrintMore Oct ZBase ZGlob ZMo ZBlock ZCheck ZPay ZDHead ZRec ZMergeA ZDRecA ZFit
open ZEntry (blkB blkB_len extH sPax blocks extended_calls)
open ZDecA
def TrailPost (w : World) (rb sb : Nat) (off : Int) (av : List Int) (ε : Int) (e : Ending) (w' : World) : Prop :=
  Mo [sb, rb] w w' ∧
    ((av.length < 512 ∧ e = .returned (.tuple #[.int .i64 (off + av.length), .int .i64 (cutE ε)]))
    ∨ (512 ≤ av.length ∧ (∃ x ∈ av.take 512, x ≠ 0) ∧ e = .returned (.tuple #[.int .i64 off, .int .i64 18]))
    ∨ (512 ≤ av.length ∧ (∀ x ∈ av.take 512, x = 0) ∧ av.length = 512 ∧ ε = 4 ∧ e = .returned (.tuple #[.int .i64 (off + 512), .int .i64 0]))
    ∨ (512 ≤ av.length ∧ (∀ x ∈ av.take 512, x = 0) ∧ av.length < 1024 ∧ ε = 11 ∧ e = .returned (.tuple #[.int .i64 (off + av.length), .int .i64 11]))
    ∨ (512 ≤ av.length ∧ (∀ x ∈ av.take 512, x = 0) ∧ (1024 ≤ av.length ∨ (512 < av.length ∧ ε = 4)) ∧ e = .returned (.tuple #[.int .i64 (off + 512), .int .i64 18])))
set_option maxHeartbeats 4000000 in
set_option maxRecDepth 100000 in
theorem trail_calls (w : World) (rb sb : Nat) (off : Int) (av : List Int) (ε : Int) (h : Rd w rb sb off av ε) :
    Calls Tryz.prog 23 #[.pointer (some ⟨rb, 0, none⟩)] w (TrailPost w rb sb off av ε) := by
  have OC := Lib.hid (offset_calls w rb sb off 0 h.rdr)
  have HE := Lib.hid (Str.eps h.str)
  have HH := Lib.hid h
  by_cases hl : av.length < 512
  · have NC := Lib.hid (next_end w rb sb off av ε h hl)
    obtain ⟨x, hx⟩ : ∃ x, endE av.length ε = x := ⟨_, rfl⟩
    rw [hx] at NC
    have hc : (x = 4 ∧ cutE ε = 5) ∨ (x ≠ 4 ∧ x ≠ 0 ∧ cutE ε = x) := by
      rw [← hx]
      unfold endE cutE
      rcases HE.out with e | e <;> rw [e] <;> by_cases h0 : 0 < av.length <;> simp [h0]
    have HL := Lib.hid hl
    clear h hl hx
    rcases hc with ⟨rfl, hc⟩ | ⟨hx4, hx0, hc⟩
    · have b4 : ((4 : Int) == 4) = true := rfl
      go_enter Tryz.func23, Tryz.ntmps23
      go_wp2_with fail
      refine OC.out.mono ?_
      rintro e w' ⟨rfl, rfl⟩
      go_wp2_with fail
      refine NC.out.mono ?_
      rintro e w1 ⟨rfl, hr, hm⟩
      have O2 := Lib.hid (offset_calls w1 rb sb _ _ hr)
      have HM := Lib.hid hm
      clear hr hm
      go_wp2_with fail
      refine O2.out.mono ?_
      rintro e w' ⟨rfl, rfl⟩
      go_wp2_with fail
      refine bodyPost_ret (v := .tuple #[.int .i64 (off + av.length), .int .i64 5]) (by simp [results, Tryz.results23, go_sem]) rfl ⟨HM.out, .inl ⟨HL.out, by rw [hc]⟩⟩
    · have b4 : (x == 4) = false := beq_eq_false_iff_ne.2 hx4
      have b0 : (x != 0) = true := by rw [bne_iff_ne]; exact hx0
      have HC := Lib.hid hc
      clear hx4 hx0 hc
      go_enter Tryz.func23, Tryz.ntmps23
      go_wp2_with fail
      refine OC.out.mono ?_
      rintro e w' ⟨rfl, rfl⟩
      go_wp2_with fail
      refine NC.out.mono ?_
      rintro e w1 ⟨rfl, hr, hm⟩
      have O2 := Lib.hid (offset_calls w1 rb sb _ _ hr)
      have HM := Lib.hid hm
      clear hr hm
      go_wp2_with fail
      refine O2.out.mono ?_
      rintro e w' ⟨rfl, rfl⟩
      go_wp2_with fail
      refine bodyPost_ret (v := .tuple #[.int .i64 (off + av.length), .int .i64 x]) (by simp [results, Tryz.results23, go_sem]) rfl ⟨HM.out, .inl ⟨HL.out, by rw [HC.out]⟩⟩
  · have hl2 : 512 ≤ av.length := by omega
    have NC := Lib.hid (next_ok w rb sb off av ε h hl2)
    have HL := Lib.hid hl2
    clear h hl hl2
    go_enter Tryz.func23, Tryz.ntmps23
    go_wp2_with fail
    refine OC.out.mono ?_
    rintro e w' ⟨rfl, rfl⟩
    go_wp2_with fail
    refine NC.out.mono ?_
    rintro e w1 ⟨g, cap, rfl, ho, hr, hm⟩
    have ZC := Lib.hid (ZZero.zero_calls (some ⟨g, 0, none⟩) 512 cap (av.take 512) w1 ho.reads (by decide))
    have O2 := Lib.hid (offset_calls w1 rb sb _ _ hr.rdr)
    have HM := Lib.hid hm
    have HR := Lib.hid hr
    clear hr hm ho
    have b4 : ((0 : Int) == 4) = false := rfl
    have b0 : ((0 : Int) != 0) = false := rfl
    go_wp2_with fail
    refine ZC.out.mono ?_
    rintro e w' ⟨b, rfl, hb, rfl⟩
    cases b with
    | false =>
      have HNZ : Hid (∃ x ∈ av.take 512, x ≠ 0) := Lib.hid (by
        apply Classical.byContradiction
        intro hn
        have := hb.2 fun x hx => Classical.byContradiction fun h0 => hn ⟨x, hx, h0⟩
        cases this)
      clear hb
      go_wp2_with fail
      refine bodyPost_ret (v := .tuple #[.int .i64 off, .int .i64 18]) (by simp [results, Tryz.results23, go_sem]) rfl ⟨HM.out, .inr (.inl ⟨HL.out, HNZ.out, rfl⟩)⟩
    | true =>
      have HZ := Lib.hid (hb.1 rfl)
      clear hb
      go_wp2_with fail
      refine O2.out.mono ?_
      rintro e w' ⟨rfl, rfl⟩
      by_cases hl : (av.drop 512).length < 512
      · have N2 := Lib.hid (next_end w1 rb sb _ _ ε HR.out hl)
        obtain ⟨x, hx⟩ : ∃ x, endE (av.drop 512).length ε = x := ⟨_, rfl⟩
        rw [hx] at N2
        have hc : (x = 4 ∧ ε = 4 ∧ av.length = 512) ∨ (x = 11 ∧ ε = 11) ∨ (x ≠ 4 ∧ x ≠ 11 ∧ ε = 4 ∧ 512 < av.length) := by
          rw [← hx]
          have := HL.out
          unfold endE
          rw [List.length_drop]
          rcases HE.out with e | e <;> rw [e] <;> by_cases h0 : 0 < av.length - 512 <;> simp [h0] <;> omega
        have HL2 : Hid (av.length < 1024) := Lib.hid (by rw [List.length_drop] at hl; omega)
        clear hl hx
        rcases hc with ⟨rfl, h1, h2⟩ | ⟨rfl, h1⟩ | ⟨hx1, hx2, h1, h2⟩
        · have c4 : ((4 : Int) == 4) = true := rfl
          have HQ := Lib.hid (And.intro h1 h2)
          clear h1 h2
          go_wp2_with fail
          refine N2.out.mono ?_
          rintro e w2 ⟨rfl, hr, hm⟩
          have M2 := Lib.hid (HM.out.trans hm)
          clear hr hm
          go_wp2_with fail
          refine bodyPost_ret (v := .tuple #[.int .i64 (off + 512), .int .i64 0]) (by simp [results, Tryz.results23, go_sem]) rfl ⟨M2.out, .inr (.inr (.inl ⟨HL.out, HZ.out, HQ.out.2, HQ.out.1, rfl⟩))⟩
        · have c4 : ((11 : Int) == 4) = false := rfl
          have c11 : ((11 : Int) == 11) = true := rfl
          have HQ := Lib.hid h1
          clear h1
          go_wp2_with fail
          refine N2.out.mono ?_
          rintro e w2 ⟨rfl, hr, hm⟩
          have M2 := Lib.hid (HM.out.trans hm)
          have O3 := Lib.hid (offset_calls w2 rb sb _ _ hr)
          clear hr hm
          go_wp2_with fail
          refine O3.out.mono ?_
          rintro e w' ⟨rfl, rfl⟩
          go_wp2_with fail
          refine bodyPost_ret (v := .tuple #[.int .i64 (off + 512 + ((av.drop 512).length : Nat)), .int .i64 11]) (by simp [results, Tryz.results23, go_sem]) rfl ⟨M2.out, .inr (.inr (.inr (.inl ⟨HL.out, HZ.out, HL2.out, HQ.out, ?_⟩)))⟩
          have := HL.out
          rw [List.length_drop, show off + 512 + ((av.length - 512 : Nat) : Int) = off + av.length by omega]
        · have c4 : (x == 4) = false := beq_eq_false_iff_ne.2 hx1
          have c11 : (x == 11) = false := beq_eq_false_iff_ne.2 hx2
          have HQ := Lib.hid (And.intro h1 h2)
          clear h1 h2
          go_wp2_with fail
          refine N2.out.mono ?_
          rintro e w2 ⟨rfl, hr, hm⟩
          have M2 := Lib.hid (HM.out.trans hm)
          clear hr hm
          go_wp2_with fail
          refine bodyPost_ret (v := .tuple #[.int .i64 (off + 512), .int .i64 18]) (by simp [results, Tryz.results23, go_sem]) rfl ⟨M2.out, .inr (.inr (.inr (.inr ⟨HL.out, HZ.out, .inr ⟨HQ.out.2, HQ.out.1⟩, rfl⟩)))⟩
      · have hl2 : 512 ≤ (av.drop 512).length := by omega
        have N2 := Lib.hid (next_ok w1 rb sb _ _ ε HR.out hl2)
        have HL2 : Hid (1024 ≤ av.length) := Lib.hid (by rw [List.length_drop] at hl2; omega)
        clear hl hl2
        have c11 : ((0 : Int) == 11) = false := rfl
        go_wp2_with fail
        refine N2.out.mono ?_
        rintro e w2 ⟨g2, cap2, rfl, ho, hr, hm⟩
        have M2 := Lib.hid (HM.out.trans hm)
        clear hr hm ho
        go_wp2_with fail
        refine bodyPost_ret (v := .tuple #[.int .i64 (off + 512), .int .i64 18]) (by simp [results, Tryz.results23, go_sem]) rfl ⟨M2.out, .inr (.inr (.inr (.inr ⟨HL.out, HZ.out, .inl HL2.out, rfl⟩)))⟩
end Go.Proofs.YteikiojmcipkmaaGreatDoor.ZTrail
end
section
namespace Go.Proofs.YteikiojmcipkmaaGreatDoor.ZDecB
open Go.RowKit Go.Proofs.YteikiojmcipkmaaGreatDoorW.PrintWords Go.Proofs.YteikiojmcipkmaaGreatDoorW.PrintLast Go.Proofs.YteikiojmcipkmaaGreatDoorW.PrintMore Oct ZBase ZGlob ZMo ZBlock ZCheck ZPay ZDHead ZRec ZMergeA ZDRecA ZFit ZDecA
open ZEntry (blkB blkB_len extH sPax blocks extended_calls)
/-- What is asked of fit.Merge at this header and these records: an entry that is S, or an error that is T. -/
def MergeC (h : Hdr) (l : List Rec) (S : Ent → Prop) (T : Int → Prop) : Prop :=
  ∀ (v : Value) (W : World), Gl W → RecRd W v l → Calls Tryz.prog 79 #[h.val, v] W fun e w' => Below W.heap.size W w' ∧ ((∃ x, S x ∧ e = .returned (.tuple #[x.val, .int .i64 0])) ∨ ∃ c, T c ∧ c ≠ 0 ∧ e = .returned (.tuple #[zent, .int .i64 c]))
theorem nil_rd (W : World) : RecRd W (.slice none 0 0) [] := ⟨none, 0, rfl, Nat.le_refl _, fun h => by cases h⟩
set_option maxHeartbeats 8000000 in
set_option maxRecDepth 100000 in
theorem dec_plain (w : World) (rb sb : Nat) (off : Int) (av : List Int) (ε : Int) (h : Rd w rb sb off av ε) (hG : Gl w) (h20 : 20 ≤ w.heap.size) (hsb : 20 ≤ sb) (hav : av.length ≤ 1000000000) (hoff : 0 ≤ off ∧ off ≤ 1000000000000) (hd : Hdr) (hk : hd.Ok) (hl : 512 ≤ av.length) (hz : ∃ x ∈ av.take 512, x ≠ 0) (hbl : av.take 512 = blkB hd) (ht : hd.typ ≠ 120) (S : Ent → Prop) (T : Int → Prop) (hM : MergeC hd [] S T) :
    Calls Tryz.prog 44 #[.pointer (some ⟨rb, 0, none⟩)] w fun e w' => Mo [sb, rb] w w' ∧ ((∃ x, S x ∧ e = .returned (.tuple #[x.val, .int .i64 off, .int .i64 0]) ∧ Rd w' rb sb (off + 512) (av.drop 512) ε) ∨ ∃ c, T c ∧ c ≠ 0 ∧ e = .returned (.tuple #[zent, .int .i64 off, .int .i64 c])) := by
  have D0 := Lib.hid (Dw.start h)
  obtain ⟨X, hX⟩ : ∃ X, (w.alloc (.cells ecells 54)).alloc (.cells #[.pointer (some ⟨rb, 0, none⟩), .int .i64 0] 137) = X := ⟨_, rfl⟩
  have R0 := Lib.hid (h.below (((Below.refl w.heap.size w).alloc (Nat.le_refl _) (.cells ecells 54)).alloc (by simp) (.cells #[.pointer (some ⟨rb, 0, none⟩), .int .i64 0] 137)))
  rw [hX] at D0 R0
  have HH := Lib.hid (And.intro hG (And.intro h20 (And.intro hsb (And.intro hav hoff))))
  have HB := Lib.hid (Str.bytes h.str)
  have HE := Lib.hid (Str.eps h.str)
  have OC := Lib.hid (offset_calls X rb sb off 0 R0.out.rdr)
  have NC := Lib.hid (next_ok X rb sb off av ε R0.out hl)
  have HZ := Lib.hid hz
  have HK := Lib.hid (And.intro hk hbl)
  have HM := Lib.hid hM
  clear hl hz hk hbl hM
  clear h hG h20 hsb hav hoff
  go_enter Tryz.func44, Tryz.ntmps44
  go_wp2_with fail
  refine OC.out.mono ?_
  rintro e w' ⟨rfl, rfl⟩
  go_wp2_with fail
  refine NC.out.mono ?_
  rintro e w2 ⟨g, cap, rfl, ho, hr, hm⟩
  have D2 := Lib.hid (D0.out.step hm (by simp))
  have T2 := Lib.hid (And.intro ho hr)
  have ZC := Lib.hid (ZZero.zero_calls (some ⟨g, 0, none⟩) 512 cap (av.take 512) w2 ho.reads (by decide))
  clear ho hr hm NC
  go_wp2_with fail
  refine ZC.out.mono ?_
  rintro e w3 ⟨b, rfl, hbz, rfl⟩
  obtain rfl : b = false := by
    cases b with
    | false => rfl
    | true =>
      obtain ⟨x, h1, h2⟩ := HZ.out
      exact absurd (hbz.1 rfl x h1) h2
  obtain ⟨q0, q1, q2⟩ := D2.out.dec.facts
  have D3 := Lib.hid (D2.out.set off)
  have HD := Lib.hid (ZUDec.decode_calls g cap (av.take 512) (w2.setCell ⟨w.heap.size + 1, 1, none⟩ (.int .i64 off)) (T2.out.1.blk (Below.heap_setCell _ _ _ _ (by
      have h1 := T2.out.1.from_
      have h2 := D0.out.dec.lt
      show g ≠ w.heap.size + 1
      omega))).reads (fun x hx => HB.out x (List.mem_of_mem_take hx)) T2.out.1.le T2.out.1.max (HH.out.1.mo D3.out.mo HH.out.2.1 (by
      have h1 := D0.out.lo
      have h2 := HH.out.2.2.1
      simp
      omega)))
  have R3 := Lib.hid (Rd.far T2.out.2 (p := ⟨w.heap.size + 1, 1, none⟩) (by have := D0.out.lo; show rb < w.heap.size + 1; omega) (.int .i64 off))
  clear hbz ZC
  go_wp2_with fail
  refine HD.out.mono ?_
  rintro e w4 ⟨hb4, hres⟩
  have D4 := Lib.hid (D3.out.below hb4)
  have R4 := Lib.hid (R3.out.below hb4)
  have he : e = .returned (.tuple #[hd.val, .int .i64 0]) := by
    rcases hres with ⟨h, hk, hb, he⟩ | ⟨hbad, _⟩
    · rw [he, ZHdr.blkB_inj hk HK.out.1 (hb.symm.trans HK.out.2)]
    · exact absurd HK.out.2 (hbad hd HK.out.1)
  subst he
  obtain ⟨typ, name, pre, lk, mode, size⟩ := hd
  dsimp only at ht
  have bx : ((0 : Int) != 0) = false := rfl
  have b120 : (typ == 120) = false := beq_eq_false_iff_ne.2 ht
  have BA := Lib.hid (below_alloc (Below.refl _ w4) (.cells #[.int .u8 typ, .string name, .string pre, .string lk, .int .i64 mode, .int .i64 size] 138))
  have D5 := Lib.hid (D4.out.below BA.out)
  have R5 := Lib.hid (R4.out.below BA.out)
  have MC := Lib.hid (HM.out (.slice none 0 0) (w4.alloc (.cells #[.int .u8 typ, .string name, .string pre, .string lk, .int .i64 mode, .int .i64 size] 138)) (HH.out.1.mo D5.out.mo HH.out.2.1 (by
      have h1 := D0.out.lo
      have h2 := HH.out.2.2.1
      simp
      omega)) (nil_rd _))
  clear hres hb4 HD ht q0 q1 q2
  unfold Hdr.val Hdr.cells at *
  dsimp only at *
  go_wp2_with fail
  refine MC.out.mono ?_
  rintro e w6 ⟨hb6, hres⟩
  have D6 := Lib.hid (D5.out.below hb6)
  have R6 := Lib.hid (R5.out.below hb6)
  have HRES := Lib.hid hres
  clear hb6 hres MC
  rcases HRES.out with ⟨x, hs, rfl⟩ | ⟨c, hc, hc0, rfl⟩
  · have HS := Lib.hid hs
    clear hs HRES
    obtain ⟨kind, path, m2, tgt, sz⟩ := x
    have BB := Lib.hid (below_alloc (Below.refl _ w6) (.cells #[.int .i64 kind, .string path, .int .i64 m2, .string tgt, .int .i64 sz] 54))
    have D7 := Lib.hid (D6.out.below BB.out)
    have R7 := Lib.hid (R6.out.below BB.out)
    obtain ⟨⟨y0, y1, y2, y3, y4⟩, z0, z1, z2, z3, z4⟩ := D7.out.facts
    unfold Ent.val Ent.cells
    dsimp only
    go_wp2_with fail
    refine bodyPost_ret (v := .tuple #[(⟨kind, path, m2, tgt, sz⟩ : Ent).val, .int .i64 off, .int .i64 0]) (by simp [results, Tryz.results44, go_sem, Ent.val, Ent.cells, y0, y1, y2, y3, y4, z0, z1, z2, z3, z4]) rfl ⟨D7.out.five _ _ _ _ _, .inl ⟨_, HS.out, rfl, ?_⟩⟩
    exact R7.out.step fun k hk => five_keep _ _ _ (by have := D7.out.lo; omega) _ _ _ _ _
  · have HC := Lib.hid (And.intro hc hc0)
    have bc : (c != 0) = true := by rw [bne_iff_ne]; exact hc0
    clear hc hc0 HRES
    have BB := Lib.hid (below_alloc (Below.refl _ w6) (.cells ecells 54))
    have D7 := Lib.hid (D6.out.below BB.out)
    obtain ⟨⟨y0, y1, y2, y3, y4⟩, z0, z1, z2, z3, z4⟩ := D7.out.facts
    obtain ⟨q0, q1, q2⟩ := D7.out.dec.facts
    go_wp2_with fail
    go_region
    all_goals
      go_wp2_with fail
      refine bodyPost_ret (v := .tuple #[zent, .int .i64 off, .int .i64 c]) (by simp [results, Tryz.results44, go_sem, y0, y1, y2, y3, y4, z0, z1, z2, z3, z4]) rfl ⟨?_, .inr ⟨c, HC.out.1, HC.out.2, rfl⟩⟩
      exact (D7.out.below (Below.refl _ _).drew).five _ _ _ _ _
end Go.Proofs.YteikiojmcipkmaaGreatDoor.ZDecB
end
section
namespace Go.Proofs.YteikiojmcipkmaaGreatDoor.ZDecC
open Go.RowKit Go.Proofs.YteikiojmcipkmaaGreatDoorW.PrintWords Go.Proofs.YteikiojmcipkmaaGreatDoorW.PrintLast Go.Proofs.YteikiojmcipkmaaGreatDoorW.PrintMore Oct ZBase ZGlob ZMo ZBlock ZCheck ZPay ZDHead ZRec ZMergeA ZDRecA ZFit ZDecA ZDecB
open ZEntry (blkB blkB_len extH sPax blocks extended_calls)
end Go.Proofs.YteikiojmcipkmaaGreatDoor.ZDecC
end
section
namespace Go.Proofs.YteikiojmcipkmaaGreatDoor.ZDecD
open Go.RowKit Go.Proofs.YteikiojmcipkmaaGreatDoorW.PrintWords Go.Proofs.YteikiojmcipkmaaGreatDoorW.PrintLast Go.Proofs.YteikiojmcipkmaaGreatDoorW.PrintMore Oct ZBase ZGlob ZMo ZBlock ZCheck ZPay ZDHead ZRec ZMergeA ZDRecA ZFit ZDecA ZDecB
open ZEntry (blkB blkB_len extH sPax blocks extended_calls)
set_option maxHeartbeats 8000000 in
set_option maxRecDepth 100000 in
theorem dec_paxA (w : World) (rb sb : Nat) (off : Int) (av : List Int) (ε : Int) (h : Rd w rb sb off av ε) (hG : Gl w) (h20 : 20 ≤ w.heap.size) (hsb : 20 ≤ sb) (hav : av.length ≤ 1000000000) (hoff : 0 ≤ off ∧ off ≤ 1000000000000) (n : Nat) (h1 : 1 ≤ n) (h2 : n ≤ 262144) (hl : 512 ≤ av.length) (hz : ∃ x ∈ av.take 512, x ≠ 0) (hbl : av.take 512 = blkB (extH n)) (S : List Rec → Prop) (T : Int → Int → Prop) (hP : blocks n * 512 ≤ (av.drop 512).length → (∀ x ∈ ((av.drop 512).take (blocks n * 512)).drop n, x = 0) → ParseC ((av.drop 512).take n) S T) (hS : ∀ l, ¬ S l) :
    Calls Tryz.prog 44 #[.pointer (some ⟨rb, 0, none⟩)] w fun e w' => Mo [sb, rb] w w' ∧ 
      ((av.drop 512).length < blocks n * 512 ∧ e = .returned (.tuple #[zent, .int .i64 (off + av.length), .int .i64 (cutE ε)])
      ∨ (blocks n * 512 ≤ (av.drop 512).length ∧ (∃ x ∈ ((av.drop 512).take (blocks n * 512)).drop n, x ≠ 0) ∧ ∃ a : Int, e = .returned (.tuple #[zent, .int .i64 a, .int .i64 10]))
      ∨ (blocks n * 512 ≤ (av.drop 512).length ∧ (∀ x ∈ ((av.drop 512).take (blocks n * 512)).drop n, x = 0) ∧ ∃ m x : Int, T m x ∧ x ≠ 0 ∧ e = .returned (.tuple #[zent, .int .i64 (off + 512 + m), .int .i64 x]))) := by
  have D0 := Lib.hid (Dw.start h)
  obtain ⟨X, hX⟩ : ∃ X, (w.alloc (.cells ecells 54)).alloc (.cells #[.pointer (some ⟨rb, 0, none⟩), .int .i64 0] 137) = X := ⟨_, rfl⟩
  have R0 := Lib.hid (h.below (((Below.refl w.heap.size w).alloc (Nat.le_refl _) (.cells ecells 54)).alloc (by simp) (.cells #[.pointer (some ⟨rb, 0, none⟩), .int .i64 0] 137)))
  rw [hX] at D0 R0
  have HH := Lib.hid (And.intro hG (And.intro h20 (And.intro hsb (And.intro hav hoff))))
  have HB := Lib.hid (Str.bytes h.str)
  have HE := Lib.hid (Str.eps h.str)
  have OC := Lib.hid (offset_calls X rb sb off 0 R0.out.rdr)
  have hk : (extH n).Ok := ZEntry.extH_ok n (by omega) (by omega)
  have NC := Lib.hid (next_ok X rb sb off av ε R0.out hl)
  have HZ := Lib.hid hz
  have HK := Lib.hid (And.intro hk hbl)
  have HP := Lib.hid hP
  have HN := Lib.hid (And.intro h1 h2)
  have HS := Lib.hid hS
  clear hS
  clear hl hz hk hbl hP h1 h2
  clear h hG h20 hsb hav hoff
  go_enter Tryz.func44, Tryz.ntmps44
  go_wp2_with fail
  refine OC.out.mono ?_
  rintro e w' ⟨rfl, rfl⟩
  go_wp2_with fail
  refine NC.out.mono ?_
  rintro e w2 ⟨g, cap, rfl, ho, hr, hm⟩
  have D2 := Lib.hid (D0.out.step hm (by simp))
  have T2 := Lib.hid (And.intro ho hr)
  have ZC := Lib.hid (ZZero.zero_calls (some ⟨g, 0, none⟩) 512 cap (av.take 512) w2 ho.reads (by decide))
  clear ho hr hm NC
  go_wp2_with fail
  refine ZC.out.mono ?_
  rintro e w3 ⟨b, rfl, hbz, rfl⟩
  obtain rfl : b = false := by
    cases b with
    | false => rfl
    | true =>
      obtain ⟨x, h1, h2⟩ := HZ.out
      exact absurd (hbz.1 rfl x h1) h2
  obtain ⟨q0, q1, q2⟩ := D2.out.dec.facts
  have D3 := Lib.hid (D2.out.set off)
  have HD := Lib.hid (ZUDec.decode_calls g cap (av.take 512) (w2.setCell ⟨w.heap.size + 1, 1, none⟩ (.int .i64 off)) (T2.out.1.blk (Below.heap_setCell _ _ _ _ (by
      have h1 := T2.out.1.from_
      have h2 := D0.out.dec.lt
      show g ≠ w.heap.size + 1
      omega))).reads (fun x hx => HB.out x (List.mem_of_mem_take hx)) T2.out.1.le T2.out.1.max (HH.out.1.mo D3.out.mo HH.out.2.1 (by
      have h1 := D0.out.lo
      have h2 := HH.out.2.2.1
      simp
      omega)))
  have R3 := Lib.hid (Rd.far T2.out.2 (p := ⟨w.heap.size + 1, 1, none⟩) (by have := D0.out.lo; show rb < w.heap.size + 1; omega) (.int .i64 off))
  clear hbz ZC
  go_wp2_with fail
  refine HD.out.mono ?_
  rintro e w4 ⟨hb4, hres⟩
  have D4 := Lib.hid (D3.out.below hb4)
  have R4 := Lib.hid (R3.out.below hb4)
  have he : e = .returned (.tuple #[(extH n).val, .int .i64 0]) := by
    rcases hres with ⟨h, hk, hb, he⟩ | ⟨hbad, _⟩
    · rw [he, ZHdr.blkB_inj hk HK.out.1 (hb.symm.trans HK.out.2)]
    · exact absurd HK.out.2 (hbad (extH n) HK.out.1)
  subst he
  have bx : ((0 : Int) != 0) = false := rfl
  have BA := Lib.hid (below_alloc (Below.refl _ w4) (.cells #[.int .u8 120, .string ⟨#[112, 97, 120]⟩, .string ⟨#[]⟩, .string ⟨#[]⟩, .int .i64 0, .int .i64 n] 138))
  have D5 := Lib.hid (D4.out.below BA.out)
  have R5 := Lib.hid (R4.out.below BA.out)
  have G5 : Hid (∀ W a, Dw w W rb sb a → Gl W) := Lib.hid (fun W a hd => HH.out.1.mo hd.mo HH.out.2.1 (by
      have h1 := D0.out.lo
      have h2 := HH.out.2.2.1
      simp
      omega))
  have b120 : ((120 : Int) == 120) = true := rfl
  have AC := Lib.hid (ZDRec.accept (w4.alloc (.cells #[.int .u8 120, .string ⟨#[112, 97, 120]⟩, .string ⟨#[]⟩, .string ⟨#[]⟩, .int .i64 0, .int .i64 n] 138)) (w.heap.size + 1) rb sb (off + 512) off (av.drop 512) ε R5.out D5.out.dec (by have := D0.out.lo; omega) (G5.out _ _ D5.out) (by
      have h1 := HH.out.2.1
      have h2 := D5.out.mo.size
      omega) HH.out.2.2.1 n HN.out.1 HN.out.2 (by have := HH.out.2.2.2.1; rw [List.length_drop]; omega) (by have := HH.out.2.2.2.2; omega) S T HP.out)
  clear hres hb4 HD q0 q1 q2
  unfold extH sPax Hdr.val Hdr.cells
  dsimp only
  go_wp2_with fail
  refine AC.out.mono ?_
  rintro e w6 ⟨hm6, hres⟩
  rcases hres with ⟨p1, rfl, p3, p4⟩ | ⟨p1, p2, rfl, ⟨a, p3⟩, p4⟩ | ⟨p1, p2, ⟨m, x, p3, p4, rfl, p5⟩, p6⟩ | ⟨_, _, ⟨l, v, hs, _⟩, _⟩
  · have D6 := Lib.hid (D5.out.more hm6 p3)
    have hat : off + 512 + ((av.drop 512).length : Int) = off + av.length := by
      have := HK.out.2
      have h3 := congrArg List.length this
      rw [List.length_take, blkB_len HK.out.1] at h3
      rw [List.length_drop]
      omega
    rw [hat] at D6
    have HR := Lib.hid p1
    have hc0 : cutE ε ≠ 0 := by
      rcases HE.out with rfl | rfl <;> decide
    obtain ⟨c, hc⟩ : ∃ c, cutE ε = c := ⟨_, rfl⟩
    rw [hc] at hc0 ⊢
    have HCC := Lib.hid hc
    have bc : (c != 0) = true := by rw [bne_iff_ne]; exact hc0
    clear p1 p3 p4 hm6 AC hat hc hc0
    obtain ⟨⟨y0, y1, y2, y3, y4⟩, z0, z1, z2, z3, z4⟩ := D6.out.facts
    obtain ⟨q0, q1, q2⟩ := D6.out.dec.facts
    go_wp2_with fail
    go_region
    all_goals
      go_wp2_with fail
      refine bodyPost_ret (v := .tuple #[zent, .int .i64 (off + av.length), .int .i64 c]) (by simp [results, Tryz.results44, go_sem, y0, y1, y2, y3, y4, z0, z1, z2, z3, z4]) rfl ⟨?_, .inl ⟨HR.out, by rw [HCC.out]⟩⟩
      exact (D6.out.below (Below.refl _ _).drew).five _ _ _ _ _
  · have D6 := Lib.hid (D5.out.more hm6 p3)
    have HR := Lib.hid (And.intro p1 p2)
    have bc : ((10 : Int) != 0) = true := rfl
    clear p1 p2 p3 p4 hm6 AC
    obtain ⟨⟨y0, y1, y2, y3, y4⟩, z0, z1, z2, z3, z4⟩ := D6.out.facts
    obtain ⟨q0, q1, q2⟩ := D6.out.dec.facts
    go_wp2_with fail
    go_region
    all_goals
      go_wp2_with fail
      refine bodyPost_ret (v := .tuple #[zent, .int .i64 (a), .int .i64 10]) (by simp [results, Tryz.results44, go_sem, y0, y1, y2, y3, y4, z0, z1, z2, z3, z4]) rfl ⟨?_, .inr (.inl ⟨HR.out.1, HR.out.2, a, rfl⟩)⟩
      exact (D6.out.below (Below.refl _ _).drew).five _ _ _ _ _
  · have D6 := Lib.hid (D5.out.more hm6 p5)
    have HR := Lib.hid (And.intro p1 (And.intro p2 (And.intro p3 p4)))
    have bc : (x != 0) = true := by rw [bne_iff_ne]; exact p4
    clear p1 p2 p3 p4 p5 p6 hm6 AC
    obtain ⟨⟨y0, y1, y2, y3, y4⟩, z0, z1, z2, z3, z4⟩ := D6.out.facts
    obtain ⟨q0, q1, q2⟩ := D6.out.dec.facts
    go_wp2_with fail
    go_region
    all_goals
      go_wp2_with fail
      refine bodyPost_ret (v := .tuple #[zent, .int .i64 (off + 512 + m), .int .i64 x]) (by simp [results, Tryz.results44, go_sem, y0, y1, y2, y3, y4, z0, z1, z2, z3, z4]) rfl ⟨?_, .inr (.inr ⟨HR.out.1, HR.out.2.1, m, x, HR.out.2.2.1, HR.out.2.2.2, rfl⟩)⟩
      exact (D6.out.below (Below.refl _ _).drew).five _ _ _ _ _
  · exact absurd hs (HS.out l)
end Go.Proofs.YteikiojmcipkmaaGreatDoor.ZDecD
end
section
namespace Go.Proofs.YteikiojmcipkmaaGreatDoor.ZDecE
open Go.RowKit Go.Proofs.YteikiojmcipkmaaGreatDoorW.PrintWords Go.Proofs.YteikiojmcipkmaaGreatDoorW.PrintLast Go.Proofs.YteikiojmcipkmaaGreatDoorW.PrintMore Oct ZBase ZGlob ZMo ZBlock ZCheck ZPay ZDHead ZRec ZMergeA ZDRecA ZFit ZDecA ZDecB
open ZEntry (blkB blkB_len extH sPax blocks extended_calls)
set_option maxHeartbeats 8000000 in
set_option maxRecDepth 100000 in
theorem dec_paxE (w : World) (rb sb : Nat) (off : Int) (av : List Int) (ε : Int) (h : Rd w rb sb off av ε) (hG : Gl w) (h20 : 20 ≤ w.heap.size) (hsb : 20 ≤ sb) (hav : av.length ≤ 1000000000) (hoff : 0 ≤ off ∧ off ≤ 1000000000000) (n : Nat) (h1 : 1 ≤ n) (h2 : n ≤ 262144) (hl : 512 ≤ av.length) (hz : ∃ x ∈ av.take 512, x ≠ 0) (hbl : av.take 512 = blkB (extH n)) (S : List Rec → Prop) (T : Int → Int → Prop) (hP : blocks n * 512 ≤ (av.drop 512).length → (∀ x ∈ ((av.drop 512).take (blocks n * 512)).drop n, x = 0) → ParseC ((av.drop 512).take n) S T) (kk : Nat) (hkk : blocks n * 512 = kk) (hK : kk ≤ (av.drop 512).length) (h0 : ∀ x ∈ ((av.drop 512).take kk).drop n, x = 0) (hT : ∀ m x, ¬ T m x) (hc : ((av.drop 512).drop kk).length < 512) :
    Calls Tryz.prog 44 #[.pointer (some ⟨rb, 0, none⟩)] w fun e w' => Mo [sb, rb] w w' ∧ (∃ l, S l) ∧ e = .returned (.tuple #[zent, .int .i64 (off + av.length), .int .i64 (cutE ε)]) := by
  have D0 := Lib.hid (Dw.start h)
  obtain ⟨X, hX⟩ : ∃ X, (w.alloc (.cells ecells 54)).alloc (.cells #[.pointer (some ⟨rb, 0, none⟩), .int .i64 0] 137) = X := ⟨_, rfl⟩
  have R0 := Lib.hid (h.below (((Below.refl w.heap.size w).alloc (Nat.le_refl _) (.cells ecells 54)).alloc (by simp) (.cells #[.pointer (some ⟨rb, 0, none⟩), .int .i64 0] 137)))
  rw [hX] at D0 R0
  have HH := Lib.hid (And.intro hG (And.intro h20 (And.intro hsb (And.intro hav hoff))))
  have HB := Lib.hid (Str.bytes h.str)
  have HE := Lib.hid (Str.eps h.str)
  have OC := Lib.hid (offset_calls X rb sb off 0 R0.out.rdr)
  have hk : (extH n).Ok := ZEntry.extH_ok n (by omega) (by omega)
  have NC := Lib.hid (next_ok X rb sb off av ε R0.out hl)
  have HZ := Lib.hid hz
  have HK := Lib.hid (And.intro hk hbl)
  have HP := Lib.hid hP
  have HN := Lib.hid (And.intro h1 h2)
  have HT := Lib.hid hT
  have H0 := Lib.hid (And.intro hK h0)
  have HKK := Lib.hid hkk
  have HCUT := Lib.hid hc
  clear hc
  clear hT hK h0 hkk
  clear hl hz hk hbl hP h1 h2
  clear h hG h20 hsb hav hoff
  go_enter Tryz.func44, Tryz.ntmps44
  go_wp2_with fail
  refine OC.out.mono ?_
  rintro e w' ⟨rfl, rfl⟩
  go_wp2_with fail
  refine NC.out.mono ?_
  rintro e w2 ⟨g, cap, rfl, ho, hr, hm⟩
  have D2 := Lib.hid (D0.out.step hm (by simp))
  have T2 := Lib.hid (And.intro ho hr)
  have ZC := Lib.hid (ZZero.zero_calls (some ⟨g, 0, none⟩) 512 cap (av.take 512) w2 ho.reads (by decide))
  clear ho hr hm NC
  go_wp2_with fail
  refine ZC.out.mono ?_
  rintro e w3 ⟨b, rfl, hbz, rfl⟩
  obtain rfl : b = false := by
    cases b with
    | false => rfl
    | true =>
      obtain ⟨x, h1, h2⟩ := HZ.out
      exact absurd (hbz.1 rfl x h1) h2
  obtain ⟨q0, q1, q2⟩ := D2.out.dec.facts
  have D3 := Lib.hid (D2.out.set off)
  have HD := Lib.hid (ZUDec.decode_calls g cap (av.take 512) (w2.setCell ⟨w.heap.size + 1, 1, none⟩ (.int .i64 off)) (T2.out.1.blk (Below.heap_setCell _ _ _ _ (by
      have h1 := T2.out.1.from_
      have h2 := D0.out.dec.lt
      show g ≠ w.heap.size + 1
      omega))).reads (fun x hx => HB.out x (List.mem_of_mem_take hx)) T2.out.1.le T2.out.1.max (HH.out.1.mo D3.out.mo HH.out.2.1 (by
      have h1 := D0.out.lo
      have h2 := HH.out.2.2.1
      simp
      omega)))
  have R3 := Lib.hid (Rd.far T2.out.2 (p := ⟨w.heap.size + 1, 1, none⟩) (by have := D0.out.lo; show rb < w.heap.size + 1; omega) (.int .i64 off))
  clear hbz ZC
  go_wp2_with fail
  refine HD.out.mono ?_
  rintro e w4 ⟨hb4, hres⟩
  have D4 := Lib.hid (D3.out.below hb4)
  have R4 := Lib.hid (R3.out.below hb4)
  have he : e = .returned (.tuple #[(extH n).val, .int .i64 0]) := by
    rcases hres with ⟨h, hk, hb, he⟩ | ⟨hbad, _⟩
    · rw [he, ZHdr.blkB_inj hk HK.out.1 (hb.symm.trans HK.out.2)]
    · exact absurd HK.out.2 (hbad (extH n) HK.out.1)
  subst he
  have bx : ((0 : Int) != 0) = false := rfl
  have BA := Lib.hid (below_alloc (Below.refl _ w4) (.cells #[.int .u8 120, .string ⟨#[112, 97, 120]⟩, .string ⟨#[]⟩, .string ⟨#[]⟩, .int .i64 0, .int .i64 n] 138))
  have D5 := Lib.hid (D4.out.below BA.out)
  have R5 := Lib.hid (R4.out.below BA.out)
  have G5 : Hid (∀ W a, Dw w W rb sb a → Gl W) := Lib.hid (fun W a hd => HH.out.1.mo hd.mo HH.out.2.1 (by
      have h1 := D0.out.lo
      have h2 := HH.out.2.2.1
      simp
      omega))
  have b120 : ((120 : Int) == 120) = true := rfl
  have AC := Lib.hid (ZDRec.accept (w4.alloc (.cells #[.int .u8 120, .string ⟨#[112, 97, 120]⟩, .string ⟨#[]⟩, .string ⟨#[]⟩, .int .i64 0, .int .i64 n] 138)) (w.heap.size + 1) rb sb (off + 512) off (av.drop 512) ε R5.out D5.out.dec (by have := D0.out.lo; omega) (G5.out _ _ D5.out) (by
      have h1 := HH.out.2.1
      have h2 := D5.out.mo.size
      omega) HH.out.2.2.1 n HN.out.1 HN.out.2 (by have := HH.out.2.2.2.1; rw [List.length_drop]; omega) (by have := HH.out.2.2.2.2; omega) S T HP.out)
  clear hres hb4 HD q0 q1 q2
  unfold RecPost at AC
  rw [HKK.out] at AC
  unfold extH sPax Hdr.val Hdr.cells
  dsimp only
  go_wp2_with fail
  refine AC.out.mono ?_
  rintro e w6 ⟨hm6, hres⟩
  rcases hres with ⟨p1, _⟩ | ⟨_, ⟨x, p2, p3⟩, _⟩ | ⟨_, _, ⟨m, x, p3, _⟩, _⟩ | ⟨p1, p2, ⟨l, v, p3, rfl, p4⟩, p5, p6⟩
  · exact absurd H0.out.1 (by omega)
  · exact absurd (H0.out.2 x p2) p3
  · exact absurd p3 (HT.out m x)
  obtain ⟨hx, hhx⟩ : ∃ k, w4.heap.size = k := ⟨_, rfl⟩
  have D6 := Lib.hid (D5.out.more hm6 p5)
  have K6 : Hid (w6.heap[hx]? = some (.cells #[.int .u8 120, .string ⟨#[112, 97, 120]⟩, .string ⟨#[]⟩, .string ⟨#[]⟩, .int .i64 0, .int .i64 n] 138 (0, 0)) ∧ w.heap.size + 1 < hx) := Lib.hid (by
    have h1 := D4.out.dec.lt
    have h2 := D4.out.lo
    have h3 : (w4.alloc (.cells #[.int .u8 120, .string ⟨#[112, 97, 120]⟩, .string ⟨#[]⟩, .string ⟨#[]⟩, .int .i64 0, .int .i64 n] 138)).heap.size = w4.heap.size + 1 := by simp
    refine ⟨(hm6.keep hx (by omega) (by simp; omega)).trans ?_, by omega⟩
    rw [← hhx]
    exact heap_alloc_new _ _)
  have R6 := Lib.hid p6
  have V6 := Lib.hid (And.intro p3 p4)
  rw [hhx]
  clear p1 p2 p3 p4 p5 p6 hm6 AC hhx
  go_wp2_with fail
  have HC := Lib.hid (ZDHead.header_calls w6 (w.heap.size + 1) rb sb _ _ _ ε R6.out D6.out.dec (by have := D0.out.lo; omega) (G5.out _ _ D6.out) (by
      have h1 := HH.out.2.1
      have h2 := D6.out.mo.size
      omega) HH.out.2.2.1)
  refine HC.out.mono ?_
  rintro e w7 ⟨hm7, hres⟩
  have K7 := Lib.hid ((hm7.keep hx (blk_lt K6.out.1) (by have h1 := K6.out.2; have h2 := D0.out.lo; simp; omega)).trans K6.out.1)
  have Z7 : Hid ((w7.cell? ⟨hx, 0, none⟩ = some (.int .u8 120) ∧ w7.cell? ⟨hx, 1, none⟩ = some (.string ⟨#[112, 97, 120]⟩) ∧ w7.cell? ⟨hx, 2, none⟩ = some (.string ⟨#[]⟩) ∧ w7.cell? ⟨hx, 3, none⟩ = some (.string ⟨#[]⟩) ∧ w7.cell? ⟨hx, 4, none⟩ = some (.int .i64 0) ∧ w7.cell? ⟨hx, 5, none⟩ = some (.int .i64 n)) ∧
    (w7.frozen? ⟨hx, 0, none⟩ = false ∧ w7.frozen? ⟨hx, 1, none⟩ = false ∧ w7.frozen? ⟨hx, 2, none⟩ = false ∧ w7.frozen? ⟨hx, 3, none⟩ = false ∧ w7.frozen? ⟨hx, 4, none⟩ = false ∧ w7.frozen? ⟨hx, 5, none⟩ = false)) := Lib.hid (by
    refine ⟨⟨row_cell K7.out 0 _ rfl, row_cell K7.out 1 _ rfl, row_cell K7.out 2 _ rfl, row_cell K7.out 3 _ rfl, row_cell K7.out 4 _ rfl, row_cell K7.out 5 _ rfl⟩, ?_, ?_, ?_, ?_, ?_, ?_⟩ <;> simp [World.frozen?, K7.out])
  have SIX : Hid (∀ a v0 v1 v2 v3 v4 v5, Dw w w7 rb sb a → Dw w ((((((w7.setCell ⟨hx, 0, none⟩ v0).setCell ⟨hx, 1, none⟩ v1).setCell ⟨hx, 2, none⟩ v2).setCell ⟨hx, 3, none⟩ v3).setCell ⟨hx, 4, none⟩ v4).setCell ⟨hx, 5, none⟩ v5) rb sb a) := Lib.hid (fun a v0 v1 v2 v3 v4 v5 hd => by
    have h1 := K6.out.2
    exact ⟨six_mo hd.mo hx (by omega) _ _ _ _ _ _, (six_keep _ _ _ (by omega) _ _ _ _ _ _).trans hd.box, hd.dec.of (six_keep _ _ _ (by omega) _ _ _ _ _ _), hd.lo⟩)
  obtain ⟨⟨s0, s1, s2, s3, s4, s5⟩, t0, t1, t2, t3, t4, t5⟩ := Z7.out
  have HAV : Hid (off + 512 + (kk : Int) + (((av.drop 512).drop kk).length : Int) = off + av.length) := Lib.hid (by
    have h3 := congrArg List.length HK.out.2
    have h4 := H0.out.1
    rw [List.length_take, blkB_len HK.out.1] at h3
    rw [List.length_drop] at h4
    rw [List.length_drop, List.length_drop]
    omega)
  rcases hres with ⟨p1, rfl, p3, p4⟩ | ⟨p1, _⟩ | ⟨p1, _⟩
  · have D7 := Lib.hid (D6.out.more hm7 p3)
    rw [HAV.out] at D7
    have HCE : Hid (∃ c, cutE ε = c ∧ (endE ((av.drop 512).drop kk).length ε = 4 ∧ c = 5 ∨ endE ((av.drop 512).drop kk).length ε = c ∧ c ≠ 0 ∧ c ≠ 4)) := Lib.hid ⟨_, rfl, by
      rcases HE.out with rfl | rfl
      · by_cases hz : 0 < ((av.drop 512).drop kk).length
        · exact .inr ⟨by rw [endE, if_pos ⟨rfl, hz⟩]; rfl, by decide, by decide⟩
        · exact .inl ⟨by rw [endE, if_neg (fun h => hz h.2)], rfl⟩
      · exact .inr ⟨by rw [endE, if_neg (fun h => absurd h.1 (by decide))]; rfl, by decide, by decide⟩⟩
    clear p1 p3 p4 hm7 HC
    obtain ⟨c, hcc, hcx⟩ := HCE.out
    have HCC := Lib.hid hcc
    unfold zhdr Hdr.val Hdr.cells
    dsimp only
    have D8 := Lib.hid (SIX.out _ (.int .u8 0) (.string ⟨#[]⟩) (.string ⟨#[]⟩) (.string ⟨#[]⟩) (.int .i64 0) (.int .i64 0) D7.out)
    clear hcc HCE
    obtain ⟨W8, hW8⟩ : ∃ Y, (((((w7.setCell ⟨hx, 0, none⟩ (.int .u8 0)).setCell ⟨hx, 1, none⟩ (.string ⟨#[]⟩)).setCell ⟨hx, 2, none⟩ (.string ⟨#[]⟩)).setCell ⟨hx, 3, none⟩ (.string ⟨#[]⟩)).setCell ⟨hx, 4, none⟩ (.int .i64 0)).setCell ⟨hx, 5, none⟩ (.int .i64 0) = Y := ⟨_, rfl⟩
    rw [hW8] at D8
    rcases hcx with ⟨hx1, rfl⟩ | ⟨hx1, hx2, hx3⟩
    · rw [hx1]
      clear hx1
      have b4 : ((4 : Int) == 4) = true := rfl
      obtain ⟨⟨y0, y1, y2, y3, y4⟩, z0, z1, z2, z3, z4⟩ := D8.out.facts
      obtain ⟨q0, q1, q2⟩ := D8.out.dec.facts
      go_wp2_with fail
      go_region
      all_goals
        go_wp2_with fail
        refine bodyPost_ret (v := .tuple #[zent, .int .i64 (off + av.length), .int .i64 5]) (by simp [results, Tryz.results44, go_sem, y0, y1, y2, y3, y4, z0, z1, z2, z3, z4]) rfl ⟨?_, ⟨l, V6.out.1⟩, by rw [HCC.out]⟩
        exact (D8.out.below (Below.refl _ _).drew).five _ _ _ _ _
    · rw [hx1]
      have b4 : (c == 4) = false := beq_eq_false_iff_ne.2 hx3
      have bc : (c != 0) = true := by rw [bne_iff_ne]; exact hx2
      clear hx1 hx2 hx3
      obtain ⟨⟨y0, y1, y2, y3, y4⟩, z0, z1, z2, z3, z4⟩ := D8.out.facts
      obtain ⟨q0, q1, q2⟩ := D8.out.dec.facts
      go_wp2_with fail
      go_region
      all_goals
        go_wp2_with fail
        refine bodyPost_ret (v := .tuple #[zent, .int .i64 (off + av.length), .int .i64 c]) (by simp [results, Tryz.results44, go_sem, y0, y1, y2, y3, y4, z0, z1, z2, z3, z4]) rfl ⟨?_, ⟨l, V6.out.1⟩, by rw [HCC.out]⟩
        exact (D8.out.below (Below.refl _ _).drew).five _ _ _ _ _
  · exact absurd p1 (by have := HCUT.out; omega)
  · exact absurd p1 (by have := HCUT.out; omega)
end Go.Proofs.YteikiojmcipkmaaGreatDoor.ZDecE
end
section
namespace Go.Proofs.YteikiojmcipkmaaGreatDoor.ZDecF
open Go.RowKit Go.Proofs.YteikiojmcipkmaaGreatDoorW.PrintWords Go.Proofs.YteikiojmcipkmaaGreatDoorW.PrintLast Go.Proofs.YteikiojmcipkmaaGreatDoorW.PrintMore Oct ZBase ZGlob ZMo ZBlock ZCheck ZPay ZDHead ZRec ZMergeA ZDRecA ZFit ZDecA ZDecB
open ZEntry (blkB blkB_len extH sPax blocks extended_calls)
end Go.Proofs.YteikiojmcipkmaaGreatDoor.ZDecF
end
section
namespace Go.Proofs.YteikiojmcipkmaaGreatDoor.ZDecG
open Go.RowKit Go.Proofs.YteikiojmcipkmaaGreatDoorW.PrintWords Go.Proofs.YteikiojmcipkmaaGreatDoorW.PrintLast Go.Proofs.YteikiojmcipkmaaGreatDoorW.PrintMore Oct ZBase ZGlob ZMo ZBlock ZCheck ZPay ZDHead ZRec ZMergeA ZDRecA ZFit ZDecA ZDecB
open ZEntry (blkB blkB_len extH sPax blocks extended_calls)
set_option maxHeartbeats 8000000 in
set_option maxRecDepth 100000 in
theorem dec_paxG (w : World) (rb sb : Nat) (off : Int) (av : List Int) (ε : Int) (h : Rd w rb sb off av ε) (hG : Gl w) (h20 : 20 ≤ w.heap.size) (hsb : 20 ≤ sb) (hav : av.length ≤ 1000000000) (hoff : 0 ≤ off ∧ off ≤ 1000000000000) (n : Nat) (h1 : 1 ≤ n) (hn2 : n ≤ 262144) (hl : 512 ≤ av.length) (hz : ∃ x ∈ av.take 512, x ≠ 0) (hbl : av.take 512 = blkB (extH n)) (S : List Rec → Prop) (T : Int → Int → Prop) (hP : blocks n * 512 ≤ (av.drop 512).length → (∀ x ∈ ((av.drop 512).take (blocks n * 512)).drop n, x = 0) → ParseC ((av.drop 512).take n) S T) (kk : Nat) (hkk : blocks n * 512 = kk) (hK : kk ≤ (av.drop 512).length) (h0 : ∀ x ∈ ((av.drop 512).take kk).drop n, x = 0) (hT : ∀ m x, ¬ T m x) (h2 : Hdr) (hk2 : h2.Ok) (hc : 512 ≤ ((av.drop 512).drop kk).length) (hb2 : ((av.drop 512).drop kk).take 512 = blkB h2) (S2 : List Rec → Ent → Prop) (T2 : List Rec → Int → Prop) (hM : ∀ l, S l → MergeC h2 l (S2 l) (T2 l)) :
    Calls Tryz.prog 44 #[.pointer (some ⟨rb, 0, none⟩)] w fun e w' => Mo [sb, rb] w w' ∧ ∃ l, S l ∧ ((∃ x, S2 l x ∧ e = .returned (.tuple #[x.val, .int .i64 off, .int .i64 0]) ∧ Rd w' rb sb (off + 512 + kk + 512) (((av.drop 512).drop kk).drop 512) ε) ∨ ∃ c, T2 l c ∧ c ≠ 0 ∧ e = .returned (.tuple #[zent, .int .i64 (off + 512 + kk), .int .i64 c])) := by
  have D0 := Lib.hid (Dw.start h)
  obtain ⟨X, hX⟩ : ∃ X, (w.alloc (.cells ecells 54)).alloc (.cells #[.pointer (some ⟨rb, 0, none⟩), .int .i64 0] 137) = X := ⟨_, rfl⟩
  have R0 := Lib.hid (h.below (((Below.refl w.heap.size w).alloc (Nat.le_refl _) (.cells ecells 54)).alloc (by simp) (.cells #[.pointer (some ⟨rb, 0, none⟩), .int .i64 0] 137)))
  rw [hX] at D0 R0
  have HH := Lib.hid (And.intro hG (And.intro h20 (And.intro hsb (And.intro hav hoff))))
  have HB := Lib.hid (Str.bytes h.str)
  have HE := Lib.hid (Str.eps h.str)
  have OC := Lib.hid (offset_calls X rb sb off 0 R0.out.rdr)
  have hk : (extH n).Ok := ZEntry.extH_ok n (by omega) (by omega)
  have NC := Lib.hid (next_ok X rb sb off av ε R0.out hl)
  have HZ := Lib.hid hz
  have HK := Lib.hid (And.intro hk hbl)
  have HP := Lib.hid hP
  have HN := Lib.hid (And.intro h1 hn2)
  have HT := Lib.hid hT
  have H0 := Lib.hid (And.intro hK h0)
  have HKK := Lib.hid hkk
  have HCUT := Lib.hid (And.intro hc (And.intro hk2 hb2))
  have HM := Lib.hid hM
  clear hc hk2 hb2 hM
  clear hT hK h0 hkk
  clear hl hz hk hbl hP h1 hn2
  clear h hG h20 hsb hav hoff
  go_enter Tryz.func44, Tryz.ntmps44
  go_wp2_with fail
  refine OC.out.mono ?_
  rintro e w' ⟨rfl, rfl⟩
  go_wp2_with fail
  refine NC.out.mono ?_
  rintro e w2 ⟨g, cap, rfl, ho, hr, hm⟩
  have D2 := Lib.hid (D0.out.step hm (by simp))
  have T2 := Lib.hid (And.intro ho hr)
  have ZC := Lib.hid (ZZero.zero_calls (some ⟨g, 0, none⟩) 512 cap (av.take 512) w2 ho.reads (by decide))
  clear ho hr hm NC
  go_wp2_with fail
  refine ZC.out.mono ?_
  rintro e w3 ⟨b, rfl, hbz, rfl⟩
  obtain rfl : b = false := by
    cases b with
    | false => rfl
    | true =>
      obtain ⟨x, h1, h2⟩ := HZ.out
      exact absurd (hbz.1 rfl x h1) h2
  obtain ⟨q0, q1, q2⟩ := D2.out.dec.facts
  have D3 := Lib.hid (D2.out.set off)
  have HD := Lib.hid (ZUDec.decode_calls g cap (av.take 512) (w2.setCell ⟨w.heap.size + 1, 1, none⟩ (.int .i64 off)) (T2.out.1.blk (Below.heap_setCell _ _ _ _ (by
      have h1 := T2.out.1.from_
      have h2 := D0.out.dec.lt
      show g ≠ w.heap.size + 1
      omega))).reads (fun x hx => HB.out x (List.mem_of_mem_take hx)) T2.out.1.le T2.out.1.max (HH.out.1.mo D3.out.mo HH.out.2.1 (by
      have h1 := D0.out.lo
      have h2 := HH.out.2.2.1
      simp
      omega)))
  have R3 := Lib.hid (Rd.far T2.out.2 (p := ⟨w.heap.size + 1, 1, none⟩) (by have := D0.out.lo; show rb < w.heap.size + 1; omega) (.int .i64 off))
  clear hbz ZC
  go_wp2_with fail
  refine HD.out.mono ?_
  rintro e w4 ⟨hb4, hres⟩
  have D4 := Lib.hid (D3.out.below hb4)
  have R4 := Lib.hid (R3.out.below hb4)
  have he : e = .returned (.tuple #[(extH n).val, .int .i64 0]) := by
    rcases hres with ⟨h, hk, hb, he⟩ | ⟨hbad, _⟩
    · rw [he, ZHdr.blkB_inj hk HK.out.1 (hb.symm.trans HK.out.2)]
    · exact absurd HK.out.2 (hbad (extH n) HK.out.1)
  subst he
  have bx : ((0 : Int) != 0) = false := rfl
  have BA := Lib.hid (below_alloc (Below.refl _ w4) (.cells #[.int .u8 120, .string ⟨#[112, 97, 120]⟩, .string ⟨#[]⟩, .string ⟨#[]⟩, .int .i64 0, .int .i64 n] 138))
  have D5 := Lib.hid (D4.out.below BA.out)
  have R5 := Lib.hid (R4.out.below BA.out)
  have G5 : Hid (∀ W a, Dw w W rb sb a → Gl W) := Lib.hid (fun W a hd => HH.out.1.mo hd.mo HH.out.2.1 (by
      have h1 := D0.out.lo
      have h2 := HH.out.2.2.1
      simp
      omega))
  have b120 : ((120 : Int) == 120) = true := rfl
  have AC := Lib.hid (ZDRec.accept (w4.alloc (.cells #[.int .u8 120, .string ⟨#[112, 97, 120]⟩, .string ⟨#[]⟩, .string ⟨#[]⟩, .int .i64 0, .int .i64 n] 138)) (w.heap.size + 1) rb sb (off + 512) off (av.drop 512) ε R5.out D5.out.dec (by have := D0.out.lo; omega) (G5.out _ _ D5.out) (by
      have h1 := HH.out.2.1
      have h2 := D5.out.mo.size
      omega) HH.out.2.2.1 n HN.out.1 HN.out.2 (by have := HH.out.2.2.2.1; rw [List.length_drop]; omega) (by have := HH.out.2.2.2.2; omega) S T HP.out)
  clear hres hb4 HD q0 q1 q2
  unfold RecPost at AC
  rw [HKK.out] at AC
  unfold extH sPax Hdr.val Hdr.cells
  dsimp only
  go_wp2_with fail
  refine AC.out.mono ?_
  rintro e w6 ⟨hm6, hres⟩
  rcases hres with ⟨p1, _⟩ | ⟨_, ⟨x, p2, p3⟩, _⟩ | ⟨_, _, ⟨m, x, p3, _⟩, _⟩ | ⟨p1, p2, ⟨l, v, p3, rfl, p4⟩, p5, p6⟩
  · exact absurd H0.out.1 (by omega)
  · exact absurd (H0.out.2 x p2) p3
  · exact absurd p3 (HT.out m x)
  obtain ⟨hx, hhx⟩ : ∃ k, w4.heap.size = k := ⟨_, rfl⟩
  have D6 := Lib.hid (D5.out.more hm6 p5)
  have K6 : Hid (w6.heap[hx]? = some (.cells #[.int .u8 120, .string ⟨#[112, 97, 120]⟩, .string ⟨#[]⟩, .string ⟨#[]⟩, .int .i64 0, .int .i64 n] 138 (0, 0)) ∧ w.heap.size + 1 < hx) := Lib.hid (by
    have h1 := D4.out.dec.lt
    have h2 := D4.out.lo
    have h3 : (w4.alloc (.cells #[.int .u8 120, .string ⟨#[112, 97, 120]⟩, .string ⟨#[]⟩, .string ⟨#[]⟩, .int .i64 0, .int .i64 n] 138)).heap.size = w4.heap.size + 1 := by simp
    refine ⟨(hm6.keep hx (by omega) (by simp; omega)).trans ?_, by omega⟩
    rw [← hhx]
    exact heap_alloc_new _ _)
  have R6 := Lib.hid p6
  have HHX := Lib.hid hhx
  have V6 := Lib.hid (And.intro p3 p4)
  rw [hhx]
  clear p1 p2 p3 p4 p5 p6 hm6 AC hhx
  go_wp2_with fail
  have HC := Lib.hid (ZDHead.header_calls w6 (w.heap.size + 1) rb sb _ _ _ ε R6.out D6.out.dec (by have := D0.out.lo; omega) (G5.out _ _ D6.out) (by
      have h1 := HH.out.2.1
      have h2 := D6.out.mo.size
      omega) HH.out.2.2.1)
  refine HC.out.mono ?_
  rintro e w7 ⟨hm7, hres⟩
  have K7 := Lib.hid ((hm7.keep hx (blk_lt K6.out.1) (by have h1 := K6.out.2; have h2 := D0.out.lo; simp; omega)).trans K6.out.1)
  have Z7 : Hid ((w7.cell? ⟨hx, 0, none⟩ = some (.int .u8 120) ∧ w7.cell? ⟨hx, 1, none⟩ = some (.string ⟨#[112, 97, 120]⟩) ∧ w7.cell? ⟨hx, 2, none⟩ = some (.string ⟨#[]⟩) ∧ w7.cell? ⟨hx, 3, none⟩ = some (.string ⟨#[]⟩) ∧ w7.cell? ⟨hx, 4, none⟩ = some (.int .i64 0) ∧ w7.cell? ⟨hx, 5, none⟩ = some (.int .i64 n)) ∧
    (w7.frozen? ⟨hx, 0, none⟩ = false ∧ w7.frozen? ⟨hx, 1, none⟩ = false ∧ w7.frozen? ⟨hx, 2, none⟩ = false ∧ w7.frozen? ⟨hx, 3, none⟩ = false ∧ w7.frozen? ⟨hx, 4, none⟩ = false ∧ w7.frozen? ⟨hx, 5, none⟩ = false)) := Lib.hid (by
    refine ⟨⟨row_cell K7.out 0 _ rfl, row_cell K7.out 1 _ rfl, row_cell K7.out 2 _ rfl, row_cell K7.out 3 _ rfl, row_cell K7.out 4 _ rfl, row_cell K7.out 5 _ rfl⟩, ?_, ?_, ?_, ?_, ?_, ?_⟩ <;> simp [World.frozen?, K7.out])
  have SIX : Hid (∀ a v0 v1 v2 v3 v4 v5, Dw w w7 rb sb a → Dw w ((((((w7.setCell ⟨hx, 0, none⟩ v0).setCell ⟨hx, 1, none⟩ v1).setCell ⟨hx, 2, none⟩ v2).setCell ⟨hx, 3, none⟩ v3).setCell ⟨hx, 4, none⟩ v4).setCell ⟨hx, 5, none⟩ v5) rb sb a) := Lib.hid (fun a v0 v1 v2 v3 v4 v5 hd => by
    have h1 := K6.out.2
    exact ⟨six_mo hd.mo hx (by omega) _ _ _ _ _ _, (six_keep _ _ _ (by omega) _ _ _ _ _ _).trans hd.box, hd.dec.of (six_keep _ _ _ (by omega) _ _ _ _ _ _), hd.lo⟩)
  obtain ⟨⟨s0, s1, s2, s3, s4, s5⟩, t0, t1, t2, t3, t4, t5⟩ := Z7.out
  have he : e = .returned (.tuple #[h2.val, .int .i64 0]) ∧ Dc w7 (w.heap.size + 1) rb (off + 512 + kk) ∧ Rd w7 rb sb (off + 512 + kk + 512) (((av.drop 512).drop kk).drop 512) ε := by
    rcases hres with ⟨p1, _⟩ | ⟨p1, ⟨h3, p2, p3, he⟩, p4, p5⟩ | ⟨p1, p2, _⟩
    · exact absurd p1 (by have := HCUT.out.1; omega)
    · rw [he, ZHdr.blkB_inj p2 HCUT.out.2.1 (p3.symm.trans HCUT.out.2.2)]
      exact ⟨rfl, p4, p5⟩
    · exact absurd HCUT.out.2.2 (p2 h2 HCUT.out.2.1)
  obtain ⟨rfl, p4, p5⟩ := he
  have D7 := Lib.hid (D6.out.more hm7 p4)
  have R7 := Lib.hid p5
  have V7 : Hid (ZPlan.RecRow w7 (w4.alloc (.cells #[.int .u8 120, .string ⟨#[112, 97, 120]⟩, .string ⟨#[]⟩, .string ⟨#[]⟩, .int .i64 0, .int .i64 n] 138)).heap.size v l ∧ hx < (w4.alloc (.cells #[.int .u8 120, .string ⟨#[112, 97, 120]⟩, .string ⟨#[]⟩, .string ⟨#[]⟩, .int .i64 0, .int .i64 n] 138)).heap.size) := Lib.hid (by
    have h1 := D5.out.dec.lt
    have h2 := D5.out.lo
    refine ⟨V6.out.2.upto fun k hk1 hk2 => hm7.keep k hk2 (by simp; omega), ?_⟩
    rw [← HHX.out]
    simp)
  obtain ⟨typ, name, pre, lk, mode, size⟩ := h2
  have D8 := Lib.hid (SIX.out _ (.int .u8 typ) (.string name) (.string pre) (.string lk) (.int .i64 mode) (.int .i64 size) D7.out)
  have R8 := Lib.hid (R7.out.step fun k hk => six_keep w7 hx k (by have h1 := K6.out.2; have h2 := D0.out.lo; omega) (.int .u8 typ) (.string name) (.string pre) (.string lk) (.int .i64 mode) (.int .i64 size))
  have V8 := Lib.hid (RecRd.of (V7.out.1.upto fun k hk1 hk2 => six_keep w7 hx k (by have h1 := V7.out.2; omega) (.int .u8 typ) (.string name) (.string pre) (.string lk) (.int .i64 mode) (.int .i64 size)))
  have X8 : Hid (((((((w7.setCell ⟨hx, 0, none⟩ (.int .u8 typ)).setCell ⟨hx, 1, none⟩ (.string name)).setCell ⟨hx, 2, none⟩ (.string pre)).setCell ⟨hx, 3, none⟩ (.string lk)).setCell ⟨hx, 4, none⟩ (.int .i64 mode)).setCell ⟨hx, 5, none⟩ (.int .i64 size)).heap[hx]? = some (.cells #[.int .u8 typ, .string name, .string pre, .string lk, .int .i64 mode, .int .i64 size] 138 (0, 0))) := Lib.hid (by
    have b0 := blk_set K7.out 0 (.int .u8 typ)
    have b1 := blk_set b0 1 (.string name)
    have b2 := blk_set b1 2 (.string pre)
    have b3 := blk_set b2 3 (.string lk)
    have b4 := blk_set b3 4 (.int .i64 mode)
    have b5 := blk_set b4 5 (.int .i64 size)
    simpa using b5)
  clear hres p4 p5 hm7 HC
  unfold Hdr.val Hdr.cells
  dsimp only
  obtain ⟨W8, hW8⟩ : ∃ Y, (((((w7.setCell ⟨hx, 0, none⟩ (.int .u8 typ)).setCell ⟨hx, 1, none⟩ (.string name)).setCell ⟨hx, 2, none⟩ (.string pre)).setCell ⟨hx, 3, none⟩ (.string lk)).setCell ⟨hx, 4, none⟩ (.int .i64 mode)).setCell ⟨hx, 5, none⟩ (.int .i64 size) = Y := ⟨_, rfl⟩
  rw [hW8] at D8 R8 V8 X8
  obtain ⟨r0, r1, r2, r3, r4, r5⟩ : W8.cell? ⟨hx, 0, none⟩ = some (.int .u8 typ) ∧ W8.cell? ⟨hx, 1, none⟩ = some (.string name) ∧ W8.cell? ⟨hx, 2, none⟩ = some (.string pre) ∧ W8.cell? ⟨hx, 3, none⟩ = some (.string lk) ∧ W8.cell? ⟨hx, 4, none⟩ = some (.int .i64 mode) ∧ W8.cell? ⟨hx, 5, none⟩ = some (.int .i64 size) :=
    ⟨row_cell X8.out 0 _ rfl, row_cell X8.out 1 _ rfl, row_cell X8.out 2 _ rfl, row_cell X8.out 3 _ rfl, row_cell X8.out 4 _ rfl, row_cell X8.out 5 _ rfl⟩
  have MC := Lib.hid (HM.out l V6.out.1 v W8 (G5.out _ _ D8.out) V8.out)
  unfold Hdr.val Hdr.cells at MC
  dsimp only at MC
  have b4 : ((0 : Int) == 4) = false := rfl
  go_wp2_with fail
  refine MC.out.mono ?_
  rintro e w9 ⟨hb9, hres⟩
  have D9 := Lib.hid (D8.out.below hb9)
  have R9 := Lib.hid (R8.out.below hb9)
  have HRES := Lib.hid hres
  clear hb9 hres MC r0 r1 r2 r3 r4 r5 s0 s1 s2 s3 s4 s5 t0 t1 t2 t3 t4 t5 hW8
  rcases HRES.out with ⟨x, hs, rfl⟩ | ⟨c, hcc, hc0, rfl⟩
  · have HS := Lib.hid hs
    clear hs HRES
    obtain ⟨kind, path, m2, tgt, sz⟩ := x
    have BB := Lib.hid (below_alloc (Below.refl _ w9) (.cells #[.int .i64 kind, .string path, .int .i64 m2, .string tgt, .int .i64 sz] 54))
    have D10 := Lib.hid (D9.out.below BB.out)
    have R10 := Lib.hid (R9.out.below BB.out)
    obtain ⟨⟨y0, y1, y2, y3, y4⟩, z0, z1, z2, z3, z4⟩ := D10.out.facts
    unfold Ent.val Ent.cells
    dsimp only
    go_wp2_with fail
    refine bodyPost_ret (v := .tuple #[(⟨kind, path, m2, tgt, sz⟩ : Ent).val, .int .i64 off, .int .i64 0]) (by simp [results, Tryz.results44, go_sem, Ent.val, Ent.cells, y0, y1, y2, y3, y4, z0, z1, z2, z3, z4]) rfl ⟨D10.out.five _ _ _ _ _, l, V6.out.1, .inl ⟨_, HS.out, rfl, ?_⟩⟩
    exact R10.out.step fun k hk => five_keep _ _ _ (by have := D10.out.lo; omega) _ _ _ _ _
  · have HCC := Lib.hid (And.intro hcc hc0)
    have bc : (c != 0) = true := by rw [bne_iff_ne]; exact hc0
    clear hcc hc0 HRES
    have BB := Lib.hid (below_alloc (Below.refl _ w9) (.cells ecells 54))
    have D10 := Lib.hid (D9.out.below BB.out)
    obtain ⟨⟨y0, y1, y2, y3, y4⟩, z0, z1, z2, z3, z4⟩ := D10.out.facts
    obtain ⟨q0, q1, q2⟩ := D10.out.dec.facts
    go_wp2_with fail
    go_region
    all_goals
      go_wp2_with fail
      refine bodyPost_ret (v := .tuple #[zent, .int .i64 (off + 512 + kk), .int .i64 c]) (by simp [results, Tryz.results44, go_sem, y0, y1, y2, y3, y4, z0, z1, z2, z3, z4]) rfl ⟨?_, l, V6.out.1, .inr ⟨c, HCC.out.1, HCC.out.2, rfl⟩⟩
      exact (D10.out.below (Below.refl _ _).drew).five _ _ _ _ _
end Go.Proofs.YteikiojmcipkmaaGreatDoor.ZDecG
end
