/- The walk of PathheapMergeMatchesReference. -/
import Derived.Test.YtiibkhogahdeiaaAlive
namespace Go.Proofs.Ytiibkhogahdeiaa.Matches
open Go.RowKit Go.Proofs.YtiibkhogahdeiaaW.PrintWords Go.Proofs.YtiibkhogahdeiaaW.PrintLast Go.Proofs.YtiibkhogahdeiaaW.PrintMore Go.Proofs.Ytiibkhogahdeiaa.Base Go.Proofs.Ytiibkhogahdeiaa.Plain Go.Proofs.Ytiibkhogahdeiaa.Sift Go.Proofs.Ytiibkhogahdeiaa.Ops Go.Proofs.Ytiibkhogahdeiaa.Methods Go.Proofs.Ytiibkhogahdeiaa.Sorted Go.Proofs.Ytiibkhogahdeiaa.Refs Go.Proofs.Ytiibkhogahdeiaa.RefMerge Go.Proofs.Ytiibkhogahdeiaa.Merge Go.Proofs.Ytiibkhogahdeiaa.Other Go.Proofs.Ytiibkhogahdeiaa.Alive
theorem Below.up {a b c : World} (h : Below a.heap.size a b) (h' : Below b.heap.size b c) : Below a.heap.size a c := h.trans (h'.mono h.size)
set_option maxHeartbeats 8000000 in
set_option maxRecDepth 100000 in
theorem law_walk (A : Option Addr) (n c : Nat) (ls : List (List ByteArray)) (w : World) (hr : CC w A n ls) (hN : ls.flatten.length < 8796093022207) :
    Calls Try.prog 3 #[.slice A n c] w fun e w' => e = .returned (.bool true) ∧ Below w.heap.size w w' := by
  have HR := Lib.hid hr
  have SC := Lib.hid (size_calls A n c ls w hr)
  have AL := Lib.hid alive_calls
  clear hr
  go_enter Try.func3, Try.ntmps3
  go_wp2_with fail
  refine SC.out.mono ?_
  rintro e w1 ⟨⟨k, rfl⟩, hd⟩
  have q0 := Lib.hid hd.below
  clear hd SC
  by_cases hk : 5000 < k
  · go_wp2_with fail
    refine (AL.out _).mono ?_
    rintro e w3 ⟨rfl, hb3⟩
    have hb4 := Lib.hid (Below.up q0.out hb3)
    clear hb3
    go_wp2
    go_ret
    exact ⟨rfl, hb4.out⟩
  · go_wp2_with fail
    refine (AL.out _).mono ?_
    rintro e w2 ⟨rfl, bz⟩
    have q1 := Lib.hid (Below.up q0.out bz)
    have MC := Lib.hid (merge_calls A n c ls w2 (HR.out.below q1.out) hN)
    clear bz q0
    go_wp2_with fail
    refine MC.out.mono ?_
    rintro e w3 ⟨v, r, rfl, ho, hs, hp, bz⟩
    obtain ⟨A1, c1, rfl, hc1, hC1⟩ := own_strs ho
    have q2 := Lib.hid (Below.up q1.out bz)
    have RC := Lib.hid (refmerge_calls A n c ls w3 (HR.out.below q2.out) hN)
    replace hC1 := Lib.hid hC1
    replace hs := Lib.hid hs
    replace hp := Lib.hid hp
    clear ho bz q1 MC
    go_wp2_with fail
    refine RC.out.mono ?_
    rintro e w4 ⟨v, r2, rfl, ho, hs2, hp2, bz⟩
    obtain rfl := srt_unique hs.out hs2 (hp.out.trans hp2.symm)
    obtain ⟨A2, c2, rfl, hc2, hC2⟩ := own_strs ho
    have q3 := Lib.hid (Below.up q2.out bz)
    have EC := Lib.hid (equal_same A1 A2 r.length c1 c2 r w4 (Kd.C_below hC1.out bz) hC2)
    clear ho bz q2 RC hs2 hp2 hC2
    go_wp2_with fail
    refine EC.out.mono ?_
    rintro e w5 ⟨rfl, bz⟩
    have q4 := Lib.hid (Below.up q3.out bz)
    clear bz
    go_wp2
    go_ret
    exact ⟨rfl, q4.out⟩
end Go.Proofs.Ytiibkhogahdeiaa.Matches
