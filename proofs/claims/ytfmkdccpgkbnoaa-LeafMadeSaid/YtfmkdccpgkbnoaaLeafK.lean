/-
  Layer 39: the document's example (known).
-/
import Derived.Test.YtfmkdccpgkbnoaaLeafH
namespace Go.Proofs.Ytfmkdccpgkbnoaa.lf
set_option linter.unusedVariables false
set_option linter.unusedSimpArgs false
open Go.RowKit bs rg

theorem LB.new (w : World) (cs : Array Value) (n : Nat) (l : List UInt8) (h : cs.toList = vals l) (hn : l.length = n) : LB (w.alloc (.cells cs 5)) (some ⟨w.heap.size, 0, none⟩) n n l := by
  refine ⟨Bytes.of_blk (Blk.new w _ cs) hn (Nat.le_refl _) (fun j hj => ?_), .inr ⟨_, _, rfl, by simp⟩⟩
  rw [← Array.getElem?_toList, h]
  simp [vals, List.getElem?_eq_getElem hj]

set_option maxRecDepth 100000 in
set_option maxHeartbeats 1600000 in
theorem lknown_any (w : World) : Calls Try.prog 12 #[] w fun e w' => e = .returned (.bool true) ∧ Below w.heap.size w w' := by
  have P1 : putL 1 1 [255, 255, 255] = [84, 89, 1, 1, 0, 255, 255, 255] := by decide
  have P2 : putL 3 1 [0, 0, 0, 0, 0, 0, 0, 0, 0] = [84, 89, 3, 1, 1, 1, 2, 0, 0, 0] := by decide
  have T1 : takeB [84, 89, 1, 1, 0, 255, 255, 255] = (1, 1, [255, 255, 255], ([], 0)) := by rw [← P1]; exact takeB_put (by decide) (by decide) _ rfl
  have C1 := Lib.hid (fun A W' hb => lput_any 1 1 3 3 A [255, 255, 255] W' (by decide) (by decide) (by decide) hb)
  have C2 := Lib.hid (fun A W' hb => lput_any 3 1 9 9 A [0, 0, 0, 0, 0, 0, 0, 0, 0] W' (by decide) (by decide) (by decide) hb)
  have C3 := Lib.hid (fun A W' hb => ltake_ok A 8 8 [84, 89, 1, 1, 0, 255, 255, 255] W' (by decide) hb 1 1 [255, 255, 255] 3 T1 rfl)
  obtain ⟨i0, hi, hz0, hz1, hz2⟩ := info_parts (show (Try.prog.info? 5).map (fun i => (i.zero, i.size, i.bytes)) = some (some (.int .u8 0), 1, 1) by kernel_rfl)
  have hmk : ∀ W, (Instr.makeSlice 22 (.int .i64 9) (.int .i64 9)).run Try.prog W = _ := fun W => run_make_rowN (P := Try.prog) 22 5 i0 (.int .u8 0) Try.underlying22 hi hz0 .i64 .i64 9 9 (Nat.le_refl _) (by rw [hz2]; omega) (by omega) W
  simp only [hz1, Nat.mul_one] at hmk
  go_enter Try.func12, Try.ntmps12
  go_wp2_with fail
  refine (C1.out _ _ (LB.new _ _ 3 _ rfl rfl)).mono ?_
  rintro e_ w1 ⟨D1, m1, f1, rfl, h1, hm1, hb1⟩
  rw [P1] at h1
  have H1 := Lib.hid h1
  have HB1 := Lib.hid (btrans (balloc (Below.refl _ _) _) hb1)
  clear h1 hb1
  obtain ⟨m0, m2⟩ := hm1
  obtain rfl : m1 = 8 := H1.out.len.symm
  go_wp2_with fail
  refine (C2.out _ _ (LB.new _ (madeCells #[.int .u8 0] 9) 9 _ (by kernel_rfl) rfl)).mono ?_
  rintro e_ w2 ⟨D2, m2, f2, rfl, h2, hm2, hb2⟩
  rw [P2] at h2
  obtain rfl : m2 = 10 := h2.len.symm
  have H2 := Lib.hid h2
  have H1' := Lib.hid ((H1.out.below (balloc (Below.refl _ _) _)).below hb2)
  have HB2 := Lib.hid (btrans (balloc HB1.out _) hb2)
  clear h2 hb2 H1 HB1 hm2
  go_wp2_with fail
  refine (C3.out _ _ (LB.new _ _ 8 _ rfl rfl)).mono ?_
  rintro e_ w3 ⟨D3, f3, rfl, h3, hb3⟩
  have HB3 := Lib.hid (btrans (balloc HB2.out _) hb3)
  have S1 := ((H1'.out.below (btrans (balloc (Below.refl _ _) _) hb3)).below (w' := w3.alloc (.cells #[.int .i64 1, .int .i64 1, .slice D3 3 f3] 24)) (by (repeat' (first | exact Below.refl _ _ | exact Below.refl _ _ | refine balloc ?_ _ | refine Below.drew ?_ | refine below_drewN ?_ _ | refine bset ?_ (by first | omega | (simp <;> omega)) _)))).str
  have S2 := ((H2.out.below (btrans (balloc (Below.refl _ _) _) hb3)).below (w' := w3.alloc (.cells #[.int .i64 1, .int .i64 1, .slice D3 3 f3] 24)) (by (repeat' (first | exact Below.refl _ _ | exact Below.refl _ _ | refine balloc ?_ _ | refine Below.drew ?_ | refine below_drewN ?_ _ | refine bset ?_ (by first | omega | (simp <;> omega)) _)))).str
  clear h3 hb3 H1' H2 HB2
  go_wp2_with fail
  trace_state
  go_ret
  exact ⟨by first | rfl | simp, by (repeat' (first | exact HB3.out | exact Below.refl _ _ | refine balloc ?_ _ | refine Below.drew ?_ | refine below_drewN ?_ _ | refine bset ?_ (by first | omega | (simp <;> omega)) _))⟩
end Go.Proofs.Ytfmkdccpgkbnoaa.lf
