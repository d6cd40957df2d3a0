/-
  region.Same of regions that are alike. (PRUNE)
-/
import Derived.Test.YtegpjjkbbdfggaaRegMay
import Derived.BigQuiet
namespace Go.Proofs.Ytegpjjkbbdfggaa.rg
set_option linter.unusedVariables false
set_option linter.unusedSimpArgs false
open Go.RowKit bs sp ik

/-- the loops of region.Same: nothing but its two boxes matters -/
def SRel (w : World) (ca cb : Array Value) (wr : World) : Prop :=
  Blk wr w.heap.size 51 ca ∧ Blk wr (w.heap.size + 1) 51 cb ∧ Below w.heap.size w wr
theorem SRel.below {w wr w' : World} {ca cb : Array Value} (h : SRel w ca cb wr) (hb : Below wr.heap.size wr w') : SRel w ca cb w' := ⟨h.1.below hb h.1.lt, h.2.1.below hb h.2.1.lt, btrans h.2.2 hb⟩

set_option maxRecDepth 100000 in
set_option maxHeartbeats 3200000 in
theorem rsame_yes (W H c d : Nat) (A D : Option Addr) (R S : Nat → Nat → Bool) (w : World) (hW : 1 ≤ W ∧ W ≤ 64) (hH : 1 ≤ H ∧ H ≤ 64) (ha : Rows w A H c (rowsOf W R)) (hb : Rows w D H d (rowsOf W S)) (hRS : ∀ j, j < H → ∀ i, i < W → R j i = S j i) :
    Calls Try.prog 54 #[.agg #[.int .i64 (W : Int), .int .i64 (H : Int), .slice A H c], .agg #[.int .i64 (W : Int), .int .i64 (H : Int), .slice D H d]] w fun e w' => e = .returned (.bool true) ∧ Below w.heap.size w w' := by
  replace hb : Rows w D H d (rowsOf W R) := hb.ext fun j hj => (rowsOf_ext (fun i hi => hRS j hj i hi)).symm
  clear hRS
  obtain ⟨hac, ha⟩ := ha
  obtain ⟨ab, ao, rfl, hal, ha⟩ := ha (by omega)
  obtain ⟨hbc, hb⟩ := hb
  obtain ⟨bb, bo, rfl, hbl, hb⟩ := hb (by omega)
  have HA := Lib.hid ha
  have HB := Lib.hid hb
  have hst : SRel w #[.int .i64 (W : Int), .int .i64 (H : Int), .slice (some ⟨ab, ao, none⟩) H c] #[.int .i64 (W : Int), .int .i64 (H : Int), .slice (some ⟨bb, bo, none⟩) H d] ((w.alloc (.cells #[.int .i64 (W : Int), .int .i64 (H : Int), .slice (some ⟨ab, ao, none⟩) H c] 51)).alloc (.cells #[.int .i64 (W : Int), .int .i64 (H : Int), .slice (some ⟨bb, bo, none⟩) H d] 51)) := by
    have b2 := Blk.new (w.alloc (.cells #[.int .i64 (W : Int), .int .i64 (H : Int), .slice (some ⟨ab, ao, none⟩) H c] 51)) 51 #[.int .i64 (W : Int), .int .i64 (H : Int), .slice (some ⟨bb, bo, none⟩) H d]
    have s1 : ∀ (u : World) (o : Obj), (u.alloc o).heap.size = u.heap.size + 1 := fun u o => by simp
    simp only [s1] at b2
    exact ⟨(Blk.new _ _ _).alloc _, b2, by (repeat' (first | exact Below.refl _ _ | exact Below.refl _ _ | refine balloc ?_ _ | refine Below.drew ?_ | refine below_drewN ?_ _ | refine bset ?_ (by first | omega | (simp <;> omega)) _))⟩
  have HST := Lib.hid hst
  obtain ⟨h0, h1⟩ := hH
  clear ha hb hst hW
  go_enter Try.func54, Try.ntmps54
  go_wp2_with fail
  go_loopw [32] (fun kv wr => ∃ k : Nat, k ≤ H ∧ kv = .int .i64 (k : Int) ∧ SRel w #[.int .i64 (W : Int), .int .i64 (H : Int), .slice (some ⟨ab, ao, none⟩) H c] #[.int .i64 (W : Int), .int .i64 (H : Int), .slice (some ⟨bb, bo, none⟩) H d] wr) (fun kv _ => H - (intOf kv).toNat)
  case atStart => exact ⟨0, by omega, rfl, HST.out⟩
  case round =>
    clear HST
    obtain ⟨k, hk, rfl, hS⟩ := hrel
    by_cases hlt : k < H
    · have d1 : decide ((k : Int) < (H : Int)) = true := by simp; omega
      obtain ⟨hlen, A1, c1, q1, r1⟩ := HA.out k hlt
      obtain ⟨_, A2, c2, q2, r2⟩ := HB.out k hlt
      obtain ⟨L, hL⟩ : ∃ L, rowsOf W R k = L := ⟨_, rfl⟩
      rw [hL] at hlen q1 q2 r1 r2
      clear hL
      obtain ⟨ns, hns⟩ : ∃ ns, L.length = ns := ⟨_, rfl⟩
      rw [hns] at hlen q1 q2 r1 r2
      have HNS := Lib.hid hns
      have x1 := (hS.2.2.cell (p := ⟨ab, ao + k, none⟩) hal).trans q1
      have x2 := (hS.2.2.cell (p := ⟨bb, bo + k, none⟩) hbl).trans q2
      have s2 := hS.1.cell 2
      have t2 := hS.2.1.cell 2
      simp only [List.getElem?_toArray, List.getElem?_cons_succ, List.getElem?_cons_zero] at s2 t2
      have HR1 := Lib.hid r1
      have HR2 := Lib.hid r2
      have HQ2 := Lib.hid q2
      have HS := Lib.hid hS
      clear q1 q2 r1 r2 hns hS
      have hk2 : (k : Int) < (H : Int) := by omega
      have hk0 : (0 : Int) ≤ (k : Int) := by omega
      go_wp2_with fail
      go_quiet (fail)
      go_wp2_with fail
      go_loopw [54] (fun tv wi => ∃ t : Nat, t ≤ ns ∧ tv = .int .i64 (t : Int) ∧ SRel w #[.int .i64 (W : Int), .int .i64 (H : Int), .slice (some ⟨ab, ao, none⟩) H c] #[.int .i64 (W : Int), .int .i64 (H : Int), .slice (some ⟨bb, bo, none⟩) H d] wi) (fun tv _ => ns - (intOf tv).toNat)
      case atStart => exact ⟨0, by omega, rfl, HS.out.below (by (repeat' (first | exact Below.refl _ _ | exact Below.refl _ _ | refine balloc ?_ _ | refine Below.drew ?_ | refine below_drewN ?_ _ | refine bset ?_ (by first | omega | (simp <;> omega)) _)))⟩
      case round =>
        clear HS s2 t2 x1 x2
        obtain ⟨t, ht, rfl, hS⟩ := hrel
        by_cases htl : t < ns
        · have d2 : decide ((t : Int) < (ns : Int)) = true := by simp; omega
          obtain ⟨_, _, p3⟩ := HR1.out.below hS.2.2
          obtain ⟨y, oy, rfl, hy, hc⟩ := p3 (by omega)
          obtain ⟨c1, c2⟩ := hc t (by rw [HNS.out]; exact htl)
          obtain ⟨_, _, p4⟩ := HR2.out.below hS.2.2
          obtain ⟨z, oz, rfl, hz, hd⟩ := p4 (by omega)
          obtain ⟨c3, c4⟩ := hd t (by rw [HNS.out]; exact htl)
          have x2 := (hS.2.2.cell (p := ⟨bb, bo + k, none⟩) hbl).trans HQ2.out
          have hb2 := Nat.lt_of_lt_of_le hbl hS.2.2.size
          have t2 := hS.2.1.cell 2
          have lt2 := hS.2.1.lt
          simp only [List.getElem?_toArray, List.getElem?_cons_succ, List.getElem?_cons_zero] at t2
          generalize L[t].1 = e1 at *
          generalize L[t].2 = e2 at *
          have HN := Lib.hid fun (wz : World) (hb : Below wr.heap.size wr wz) => hS.below hb
          have hbx := Blk.new wr 109 #[.int .i64 e1, .int .i64 e2]
          have y0 := hbx.cell 0
          have y1 := hbx.cell 1
          simp only [List.getElem?_toArray, List.getElem?_cons_succ, List.getElem?_cons_zero] at y0 y1
          have ht2 : (t : Int) < (ns : Int) := by omega
          have ht0 : (0 : Int) ≤ (t : Int) := by omega
          have n1 : ¬ y = wr.heap.size := by omega
          have n2 : ¬ z = wr.heap.size := by omega
          have n3 : ¬ bb = wr.heap.size := by omega
          have n4 : ¬ w.heap.size + 1 = wr.heap.size := by omega
          clear hc hd p3 p4 hS hbx
          go_wp2_with fail
          have eb1 : (e1 == e1) = true := by simp
          have eb2 : (e2 == e2) = true := by simp
          go_quiet (fail)
          go_wp2_with fail
          go_roundw
          case rel => exact ⟨t + 1, by omega, by go_num, HN.out _ (by (repeat' (first | exact Below.refl _ _ | exact Below.refl _ _ | refine balloc ?_ _ | refine Below.drew ?_ | refine below_drewN ?_ _ | refine bset ?_ (by first | omega | (simp <;> omega)) _)))⟩
          case measure => simp [intOf]; omega
        · obtain rfl : t = ns := by omega
          have d2 : decide ((t : Int) < (t : Int)) = false := by simp
          have HS := Lib.hid hS
          clear hS
          go_wp2_with fail
          go_roundw
          case rel => exact ⟨k + 1, by omega, by go_num, HS.out⟩
          case measure => simp [intOf]; omega
    · obtain rfl : k = H := by omega
      have d1 : decide ((k : Int) < (k : Int)) = false := by simp
      go_wp2_with fail
      go_ret
      exact ⟨rfl, hS.2.2⟩
end Go.Proofs.Ytegpjjkbbdfggaa.rg
