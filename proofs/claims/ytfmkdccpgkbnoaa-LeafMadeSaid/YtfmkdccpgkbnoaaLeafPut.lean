/-
  leaf.Put of a page that may be.
-/
import Derived.Test.YtfmkdccpgkbnoaaLeafR
import Derived.Test.YtfmkdccpgkbnoaaLeafP
import Derived.Test.YtfmkdccpgkbnoaaPage
namespace Go.Proofs.Ytfmkdccpgkbnoaa.lf
set_option linter.unusedVariables false
set_option linter.unusedSimpArgs false
open Go.RowKit bs rg

theorem one_reads (w : World) (x : UInt8) : Reads (w.alloc (.cells #[.int .u8 (x.toNat : Int)] 5)) (w.heap.size + 1) 1 (some ⟨w.heap.size, 0, none⟩) 1 (vals [x]) := by
  refine ⟨rfl, fun _ => ⟨_, rfl, Nat.lt_succ_self _, fun j u hu => ?_⟩⟩
  rw [Go.WideShapes.add_plain, (Blk.new w _ _).cell, Nat.zero_add]
  simp only [vals, List.map_cons, List.map_nil] at hu
  simpa using hu
theorem own_ne {w : World} {base : Nat} {v : Value} {l : List UInt8} (h : OwnB w (base + 1) v l) : some base ≠ v.ownBlock := fun e => by
  have := (h.ge base e.symm).1
  omega
theorem head_vals {W H : Nat} (hW : W < 256) (hH : H < 256) : (#[.int .u8 84, .int .u8 89, .int .u8 (W : Int), .int .u8 (H : Int)] : Array Value).toList.take (headL W H).length = vals (headL W H) := by
  have e1 : ((UInt8.ofNat W).toNat : Int) = W := by rw [ofNat_toNat hW]
  have e2 : ((UInt8.ofNat H).toNat : Int) = H := by rw [ofNat_toNat hH]
  simp only [vals, headL, List.map_cons, List.map_nil, e1, e2]
  rfl
/-- ahead of row j -/
def PutAt (w : World) (W H : Nat) (cs : Array Value) (l : List UInt8) (j : Nat) (ov : Value) (wr : World) : Prop :=
  OwnB wr (w.heap.size + 1) ov (headL W H ++ encs W l 0 j) ∧ Blk wr w.heap.size 24 cs ∧ Below w.heap.size w wr

set_option maxRecDepth 100000 in
set_option maxHeartbeats 1600000 in
theorem put_any (W H n c : Nat) (A : Option Addr) (l : List UInt8) (w : World) (hW : 1 ≤ W ∧ W ≤ 64) (hH : 1 ≤ H ∧ H ≤ 64) (hn : n = 3 * (W * H)) (hb : Bytes w A n c l) :
    Calls Try.prog 13 #[.agg #[.int .i64 (W : Int), .int .i64 (H : Int), .slice A n c]] w fun e w' => ∃ v, e = .returned (.tuple #[v, .int .i64 0]) ∧ OwnB w' w.heap.size v (putL W H l) ∧ Below w.heap.size w w' := by
  obtain ⟨i0, hi, hz0, hz1, hz2⟩ := info_parts (show (Try.prog.info? 5).map (fun i => (i.zero, i.size, i.bytes)) = some (some (.int .u8 0), 1, 1) by kernel_rfl)
  have hs := page_size hW hH
  obtain ⟨b, o, hA, hlt, hcell⟩ := hb.2.2 (by omega)
  subst hA
  have hnc := hb.2.1
  have hn1 : 0 < n ∧ n ≤ 12288 := by omega
  obtain ⟨hW0, hW1⟩ := hW
  obtain ⟨hH0, hH1⟩ := hH
  have HN := Lib.hid hn
  have HB := Lib.hid hb
  clear hn hb hcell hs
  go_enter Try.func13, Try.ntmps13
  obtain ⟨cs, hcs⟩ : ∃ cs : Array Value, (#[.int .i64 (W : Int), .int .i64 (H : Int), .slice (some ⟨b, o, none⟩) n c] : Array Value) = cs := ⟨_, rfl⟩
  have HCS := Lib.hid hcs
  clear hcs
  go_wp2_with (go_at_call 23; refine (inkmay_yes W H n c _ _ ⟨hW0, hW1⟩ ⟨hH0, hH1⟩ HN.out).mono ?_; rintro e w1 ⟨rfl, hbm⟩; have K1 := (Blk.new w 24 #[.int .i64 (W : Int), .int .i64 (H : Int), .slice (some ⟨b, o, none⟩) n c]).below hbm (by simp); have k0 := K1.cell 0; have k1 := K1.cell 1; have k3 := fun o => (K1.alloc o).cell 1; simp only [List.getElem?_toArray, List.getElem?_cons_succ, List.getElem?_cons_zero] at k0 k1 k3; have HK := Lib.hid K1; have HBM := Lib.hid (btrans (balloc (Below.refl _ _) _) hbm); have hsz1 : w.heap.size + 1 ≤ w1.heap.size := (by have := hbm.size; simp at this; exact this); clear K1 hbm)
  go_loopw [4, 20] (fun ov jv wr => ∃ j : Nat, j ≤ H ∧ jv = .int .i64 (j : Int) ∧ Hid (PutAt w W H cs l j ov wr)) (fun _ jv _ => 64 - (intOf jv).toNat)
  case atStart => exact ⟨0, by omega, rfl, Lib.hid ⟨(OwnB.new (base := w.heap.size + 1) (c := 4) w1 (headL W H) _ (head_vals (by omega) (by omega)) (by simp [headL]) rfl (by simp [maxLen]) hsz1), by rw [← HCS.out]; exact HK.out.alloc _, by (repeat' (first | exact HBM.out | exact Below.refl _ _ | refine balloc ?_ _ | refine Below.drew ?_ | refine below_drewN ?_ _ | refine bset ?_ (by first | omega | (simp <;> omega)) _))⟩⟩
  case round =>
    obtain ⟨j, hj, rfl, hR⟩ := hrel
    obtain ⟨wo, rfl⟩ : ∃ wo, wo = wr := ⟨_, rfl⟩
    obtain ⟨r, hr⟩ : ∃ r, 3 * W = r := ⟨_, rfl⟩
    by_cases hend : j = H
    · go_wp2_with fail
      go_ret2
      subst hend
      exact ⟨_, rfl, hR.out.1.mono (by omega), hR.out.2.2⟩
    · have hjH : j < H := by omega
      have K1 := hR.out.2.1
      rw [← HCS.out] at K1
      have k0 := K1.cell 0; have k1 := K1.cell 1; have k2 := K1.cell 2; simp only [List.getElem?_toArray, List.getElem?_cons_succ, List.getElem?_cons_zero] at k0 k1 k2
      have e0 : 3 * (W : Int) = (r : Int) := by omega
      obtain ⟨s, hs⟩ : ∃ s, r * j = s := ⟨_, rfl⟩
      have e1 : (r : Int) * (j : Int) = (s : Int) := by rw [← hs]; push_cast; rfl
      have e2 : (r : Int) * ((j : Int) + 1) = ((s + r : Nat) : Int) := by rw [Int.mul_add, e1]; push_cast; omega
      have hsr : s + r ≤ n := by
        have h1 : 3 * W * (j + 1) ≤ 3 * W * H := Nat.mul_le_mul_left _ (by omega)
        rw [Nat.mul_assoc 3 W H, ← HN.out, hr, Nat.mul_add, hs] at h1
        omega
      have HS := Lib.hid hs
      have HRR := Lib.hid hr
      clear hs hr
      clear K1
      obtain ⟨row, hrow⟩ : ∃ x, rowOf W l j = x := ⟨_, rfl⟩
      have HROW := Lib.hid hrow
      have HBR := Lib.hid (show ∀ u, Below w.heap.size w u → Bytes u (some ⟨b, o + s, none⟩) r (c - s) row from fun u hu => by
        have := lf.Bytes.cut (HB.out.below hu) s (s + r) (by omega) hsr b o rfl
        rw [show s + r - s = r by omega] at this
        rw [← hrow]
        unfold rowOf
        rw [HRR.out, HS.out]
        exact this)
      have hlr : row.length = r := (HBR.out wo hR.out.2.2).1
      obtain ⟨don, hdon⟩ : ∃ x, headL W H ++ encs W l 0 j = x := ⟨_, rfl⟩
      have HDON := Lib.hid hdon
      have HO := Lib.hid (show OwnB wo (w.heap.size + 1) _ don from by rw [← hdon]; exact hR.out.1)
      have hdl : don.length ≤ 20000 := by
        rw [← hdon]
        have := encs_len W l 0 j (by
          rw [HB.out.1, HN.out, Nat.zero_add, Nat.mul_assoc]
          exact Nat.mul_le_mul_left _ (Nat.mul_le_mul_left _ (by omega)))
        have h2 : j * (1 + 3 * W) ≤ 64 * 193 := Nat.mul_le_mul (by omega) (by omega)
        simp [headL]
        omega
      obtain ⟨q, hq⟩ : ∃ q, (runsB row W).length = q := ⟨_, rfl⟩
      have hr192 : r ≤ 192 := by have := HRR.out; omega
      have hrun : (encRow W row) = if q < 1 + r then runsB row W else 0 :: row := by unfold encRow; rw [hq, HRR.out]
      clear hrow hdon
      by_cases hsh : q < 1 + r
      · rw [if_pos hsh] at hrun
        have HRUN := Lib.hid hrun
        clear hrun
        go_wp2_with (first | (go_at_call 30; refine (runs_any W r (c - s) _ row _ (by have := HRR.out; omega) (by omega) (HBR.out _ hR.out.2.2)).mono ?_; rintro e w2 ⟨v2, rfl, hv2, hbw2⟩; obtain ⟨A2, c2, rfl, hv2b, hv2o⟩ := hv2.bytes; rw [hq] at hv2b; have HV := Lib.hid hv2b; have HBW := Lib.hid hbw2; rw [hq]; have hsz2 := hbw2.size; have HO2 := Lib.hid (HO.out.below hbw2); have HB2 := Lib.hid (btrans hR.out.2.2 hbw2); have HK2 := Lib.hid (hR.out.2.1.below hbw2 hR.out.2.1.lt); have hsw2 := HB2.out.size; have hsb2 := HK2.out.lt; clear hv2 hv2b hv2o hbw2) | (at_builtin; refine wpList_append_any _ rfl (.tmp 45) (.tmp 46) 22 rfl (w.heap.size + 1) 5 i0 (.int .u8 0) 1 1 Try.underlying22 hi hz0 hz1 hz2 rfl (by omega) u4 (don).length (vals (don)) (by rfl) HO2.out _ A2 q c2 (vals (runsB row W)) (by rfl) (lf.Bytes.reads HV.out) (vals_one _) (by simp [maxLen]; omega) (by first | omega | (simp; omega)) (by first | omega | (simp; omega)) ?_; intro v3 w3 hown3 hg3 _; have HO3 := Lib.hid (OwnB.push (l := don) (x := runsB row W) hown3 hq.symm); have HB3 := Lib.hid (grown_below HO2.out HB2.out (by omega) hg3); have HK3 := Lib.hid (HK2.out.grown hg3 (own_ne HO2.out)); clear hown3 hg3))
        go_roundw
        case rel => exact ⟨j + 1, by omega, by go_num, Lib.hid ⟨by rw [encs_snoc, Nat.zero_add, HROW.out, HRUN.out, ← List.append_assoc, HDON.out]; exact HO3.out, HK3.out, HB3.out⟩⟩
        case measure => simp [intOf]; omega
      · rw [if_neg hsh] at hrun
        have HRUN := Lib.hid hrun
        clear hrun
        go_wp2_with (first | (go_at_call 30; refine (runs_any W r (c - s) _ row _ (by have := HRR.out; omega) (by omega) (HBR.out _ hR.out.2.2)).mono ?_; rintro e w2 ⟨v2, rfl, hv2, hbw2⟩; obtain ⟨A2, c2, rfl, hv2b, hv2o⟩ := hv2.bytes; rw [hq] at hv2b; have HV := Lib.hid hv2b; have HBW := Lib.hid hbw2; rw [hq]; have hsz2 := hbw2.size; have HO2 := Lib.hid (HO.out.below hbw2); have HB2 := Lib.hid (btrans hR.out.2.2 hbw2); have HK2 := Lib.hid (hR.out.2.1.below hbw2 hR.out.2.1.lt); have hsw2 := HB2.out.size; have hsb2 := HK2.out.lt; clear hv2 hv2b hv2o hbw2) | (at_builtin; refine wpList_append_any _ rfl (.tmp 48) (.tmp 49) 22 rfl (w.heap.size + 1) 5 i0 (.int .u8 0) 1 1 Try.underlying22 hi hz0 hz1 hz2 rfl (by omega) u4 (don).length (vals (don)) (by rfl) (OwnB.below HO2.out (balloc (Below.refl _ _) _)) _ (some ⟨w2.heap.size, 0, none⟩) 1 1 (vals ([0])) (by rfl) (one_reads w2 0) (vals_one _) (by simp [maxLen]; omega) (by first | omega | (simp; omega)) (by first | omega | (simp; omega)) ?_; intro v3 w3 hown3 hg3 _; have HO3 := Lib.hid (OwnB.push (l := don) (x := [0]) hown3 rfl); have HB3 := Lib.hid (grown_below (OwnB.below HO2.out (balloc (Below.refl _ _) _)) (balloc HB2.out _) (by omega) hg3); have HK3 := Lib.hid ((HK2.out.alloc _).grown hg3 (own_ne HO2.out)); have hsw3 := HB3.out.size; have hsb3 := HK3.out.lt; clear hown3 hg3) | (at_builtin; refine wpList_append_any _ rfl (.tmp 50) (.tmp 51) 22 rfl (w.heap.size + 1) 5 i0 (.int .u8 0) 1 1 Try.underlying22 hi hz0 hz1 hz2 rfl (by omega) v3 (List.length (α := UInt8) (don ++ [0])) (vals (don ++ [0])) (by rfl) HO3.out _ (some ⟨b, o + s, none⟩) r (c - s) (vals (row)) (by rfl) (lf.Bytes.reads (HBR.out _ HB3.out)) (vals_one _) (by simp [maxLen]; omega) (by first | omega | (simp; omega)) (by first | omega | (simp; omega)) ?_; intro v4 w4 hown4 hg4 _; have HO4 := Lib.hid (OwnB.push (l := don ++ [0]) (x := row) hown4 hlr.symm); have HB4 := Lib.hid (grown_below HO3.out HB3.out (by omega) hg4); have HK4 := Lib.hid (HK3.out.grown hg4 (own_ne HO3.out)); clear hown4 hg4))
        go_roundw
        case rel => exact ⟨j + 1, by omega, by go_num, Lib.hid ⟨by rw [encs_snoc, Nat.zero_add, HROW.out, HRUN.out, ← List.append_assoc, HDON.out]; exact (by have := HO4.out; rw [List.append_assoc] at this; exact this), HK4.out, HB4.out⟩⟩
        case measure => simp [intOf]; omega
end Go.Proofs.Ytfmkdccpgkbnoaa.lf
