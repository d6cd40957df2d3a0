/-
  Layer 39's reference: PutLeaf; a row of the form 0.
-/
import Derived.Test.YtfmkdccpgkbnoaaRefLR
import Derived.Test.YtfmkdccpgkbnoaaRefLS
import Derived.Test.YtfmkdccpgkbnoaaRefMay
namespace Go.Proofs.Ytfmkdccpgkbnoaa.lr
set_option linter.unusedVariables false
set_option linter.unusedSimpArgs false
open Go.RowKit bs rg
open lf (S tkV tkS wt failS hd tkV_len OwnB LB putL headL encs encRow runsB runsB_len rle pxs px enc enc_len pxs_len rle_len rowOf Held wpList_push wpList_copy vals encs_snoc encs_len plainL ofNat_toNat)

theorem one_new (w : World) (x : UInt8) (k : Int) (h : k = (x.toNat : Int)) : LB (w.alloc (.cells #[.int .u8 k] 5)) (some ⟨w.heap.size, 0, none⟩) 1 1 [x] := by
  subst h
  exact lf.LB.new w _ 1 [x] rfl rfl
theorem two_new (w : World) (x y : UInt8) (k m : Int) (h : k = (x.toNat : Int)) (h2 : m = (y.toNat : Int)) : LB (w.alloc (.cells #[.int .u8 k, .int .u8 m] 5)) (some ⟨w.heap.size, 0, none⟩) 2 2 [x, y] := by
  subst h h2
  exact lf.LB.new w _ 2 [x, y] rfl rfl

theorem own_grown {w w' w0 : World} {base b0 : Nat} {v v0 : Value} {l l0 : List UInt8} (h : OwnB w base v l) (h0 : OwnB w0 b0 v0 l0) (hw : w0.heap.size ≤ base) (hg : w.grownBy w' v0.ownBlock) : OwnB w' base v l :=
  World.ownsRow.kept h hg (by
    rcases hv : v.ownBlock with _ | k
    · exact .inl rfl
    · right
      intro e
      have a := (lf.OwnB.ge h k hv).1
      have b := (lf.OwnB.ge h0 k e.symm).2
      omega)
/-- append to bytes that the function made itself; what is left alone -/
theorem wpList_push2 {ops : Array Oper} {rest : List Oper} {o : Oper} {a : Act} {Q : Exit → Act → World → Prop} {u w : World} (s x : Operand) (v : Value) (A : Option Addr) (m c : Nat) (l k : List UInt8) (hgd : o.guard = none)
    (ho : o.op = .call { callee := .builtin .append, args := #[s, x], argTypes := #[22, 22] })
    (hs : a.eval s = v) (hx : a.eval x = .slice A m c) (hown : OwnB w u.heap.size v l) (hk : LB w A m c k) (hbu : Below u.heap.size u w) (hn : l.length + m ≤ 20000)
    (h : ∀ v' w', OwnB w' u.heap.size v' (l ++ k) → Below u.heap.size u w' → w.grownBy w' v.ownBlock → wpList Try.prog ops Q rest (a.put o.dst v') w') : wpList Try.prog ops Q (o :: rest) a w := by
  obtain ⟨i0, hi, hz0, hz1, hz2⟩ := info_parts (show (Try.prog.info? 5).map (fun i => (i.zero, i.size, i.bytes)) = some (some (.int .u8 0), 1, 1) by kernel_rfl)
  have hlen := hk.len
  refine wpList_append_any _ hgd s x 22 ho u.heap.size 5 i0 (.int .u8 0) 1 1 Try.underlying22 hi hz0 hz1 hz2 rfl (by omega) v l.length (vals l) hs hown _ A m c (vals k) hx (lf.Bytes.reads hk.1) (lf.vals_one _) (by simp [maxLen]; omega) (by omega) hbu.size ?_
  intro v' w' hown' hg _
  exact h v' w' (lf.OwnB.push hown' hlen.symm) (lf.grown_below hown hbu (Nat.le_refl _) hg) hg
theorem lb_of {w : World} {b o n c : Nat} {l : List UInt8} (h : Bytes w (some ⟨b, o, none⟩) n c l) (hb : b < w.heap.size) : LB w (some ⟨b, o, none⟩) n c l := ⟨h, .inr ⟨b, o, rfl, hb⟩⟩
set_option maxRecDepth 100000 in
set_option maxHeartbeats 800000 in
theorem putleaf_no (W H : Int) (A : Option Addr) (n c : Nat) (w : World) (hn : n ≤ 9223372036854775807) (hm : ik.mayB W H n = false) :
    Calls Try.prog 14 #[.agg #[.int .i64 W, .int .i64 H, .slice A n c]] w fun e w' => e = .returned (.tuple #[.slice none 0 0, .int .i64 1]) ∧ Below w.heap.size w w' := by
  have HM := Lib.hid (fun W' => ik.rmay_any W H A n c W' hn)
  rw [hm] at HM
  clear hm
  go_enter Try.func14, Try.ntmps14
  go_wp2_with fail
  refine (HM.out _).mono ?_
  rintro e_ w1 ⟨rfl, hb⟩
  have HB := Lib.hid (btrans (balloc (Below.refl _ _) _) hb)
  clear hb
  go_wp2_with fail
  go_ret2
  exact ⟨rfl, HB.out⟩

set_option maxRecDepth 100000 in
set_option maxHeartbeats 1600000 in
theorem putleaf_any (W H n c : Nat) (A : Option Addr) (l : List UInt8) (w : World) (hW : 1 ≤ W ∧ W ≤ 64) (hH : 1 ≤ H ∧ H ≤ 64) (hn : n = 3 * (W * H)) (hb : Bytes w A n c l) :
    Calls Try.prog 14 #[.agg #[.int .i64 (W : Int), .int .i64 (H : Int), .slice A n c]] w fun e w' => ∃ v, e = .returned (.tuple #[v, .int .i64 0]) ∧ OwnB w' w.heap.size v (putL W H l) ∧ Below w.heap.size w w' := by
  have hs := page_size hW hH
  have HM := Lib.hid (fun W' => ik.rmay_any (W : Int) (H : Int) A n c W' (by omega))
  rw [show ik.mayB (W : Int) (H : Int) n = true by rw [hn]; exact pmay_yes hW hH] at HM
  obtain ⟨b, o, hA, hlt, hcell⟩ := hb.2.2 (by omega)
  subst hA
  have hnc := hb.2.1
  have hn1 : 0 < n ∧ n ≤ 12288 := by omega
  obtain ⟨hW0, hW1⟩ := hW
  obtain ⟨hH0, hH1⟩ := hH
  have HN := Lib.hid hn
  have HB := Lib.hid hb
  clear hn hb hcell hs
  have K0 := Blk.new w 24 #[.int .i64 (W : Int), .int .i64 (H : Int), .slice (some ⟨b, o, none⟩) n c]
  have hb0 : Below w.heap.size w (w.alloc (.cells #[.int .i64 (W : Int), .int .i64 (H : Int), .slice (some ⟨b, o, none⟩) n c] 24)) := balloc (Below.refl _ _) _
  go_enter Try.func14, Try.ntmps14
  go_wp2_with fail
  refine (HM.out _).mono ?_
  rintro e_ u ⟨rfl, hb1⟩
  have K := K0.below hb1 K0.lt
  have k0 := K.cell 0
  have k1 := K.cell 1
  have lK := K.lt
  have k4 := fun o => (K.alloc o).cell 1
  simp only [List.getElem?_toArray, List.getElem?_cons_succ, List.getElem?_cons_zero] at k0 k1 k4
  have HK := Lib.hid K
  have HBU := Lib.hid (btrans hb0 hb1)
  have hsz : w.heap.size ≤ u.heap.size := HBU.out.size
  clear K0 hb0 hb1 K
  go_wp2_with fail
  go_loopw [4, 5] (fun ov jv wr => ∃ j : Nat, j ≤ H ∧ jv = .int .i64 (j : Int) ∧ Hid (OwnB wr u.heap.size ov (headL W H ++ encs W l 0 j) ∧ Below u.heap.size u wr)) (fun _ jv _ => 64 - (intOf jv).toNat)
  case atStart => exact ⟨0, by omega, rfl, Lib.hid ⟨(lf.OwnB.new (base := u.heap.size) (c := 4) u (headL W H) _ (lf.head_vals (by omega) (by omega)) (by simp [headL]) rfl (by simp [maxLen]) (Nat.le_refl _)), by (repeat' (first | exact Below.refl _ _ | exact Below.refl _ _ | refine balloc ?_ _ | refine Below.drew ?_ | refine below_drewN ?_ _ | refine bset ?_ (by first | omega | (simp <;> omega)) _))⟩⟩
  case round =>
    clear k0 k1 k4
    obtain ⟨j, hj, rfl, hR⟩ := hrel
    obtain ⟨wo, rfl⟩ : ∃ wo, wo = wr := ⟨_, rfl⟩
    have K1 := HK.out.below hR.out.2 lK
    have k0 := K1.cell 0; have k1 := K1.cell 1; have k2 := K1.cell 2; simp only [List.getElem?_toArray, List.getElem?_cons_succ, List.getElem?_cons_zero] at k0 k1 k2
    clear K1
    by_cases hend : j = H
    · subst hend
      go_wp2_with fail
      go_ret2
      exact ⟨_, rfl, hR.out.1.mono hsz, btrans HBU.out hR.out.2⟩
    · have hjH : j < H := by omega
      obtain ⟨r, hr⟩ : ∃ r, 3 * W = r := ⟨_, rfl⟩
      have e0 : 3 * (W : Int) = (r : Int) := by omega
      obtain ⟨s, hs⟩ : ∃ s, r * j = s := ⟨_, rfl⟩
      have e1 : (r : Int) * (j : Int) = (s : Int) := by rw [← hs]; push_cast; rfl
      have e2 : (r : Int) * ((j : Int) + 1) = ((s + r : Nat) : Int) := by rw [Int.mul_add, e1]; push_cast; omega
      have hsr : s + r ≤ n := by
        have h1 : 3 * W * (j + 1) ≤ 3 * W * H := Nat.mul_le_mul_left _ (by omega)
        rw [Nat.mul_assoc 3 W H, ← HN.out, hr, Nat.mul_add, hs] at h1
        omega
      obtain ⟨row, hrow⟩ : ∃ x, rowOf W l j = x := ⟨_, rfl⟩
      have HBR := Lib.hid (show ∀ v, Below u.heap.size u v → Bytes v (some ⟨b, o + s, none⟩) r (c - s) row from fun v hv => by
        have := lf.Bytes.cut (HB.out.below (btrans HBU.out hv)) s (s + r) (by omega) hsr b o rfl
        rw [show s + r - s = r by omega] at this
        rw [← hrow]
        unfold rowOf
        rw [hr, hs]
        exact this)
      have hsr2 : s + r - s = r := by omega
      have hlr : row.length = r := (HBR.out wo hR.out.2).1
      obtain ⟨don, hdon⟩ : ∃ x, headL W H ++ encs W l 0 j = x := ⟨_, rfl⟩
      have HDON := Lib.hid hdon
      have HO := Lib.hid (show OwnB wo u.heap.size _ don from by rw [← hdon]; exact hR.out.1)
      have hdl : don.length ≤ 12500 := by
        rw [← hdon]
        have := encs_len W l 0 j (by
          rw [HB.out.1, HN.out, Nat.zero_add, Nat.mul_assoc]
          exact Nat.mul_le_mul_left _ (Nat.mul_le_mul_left _ (by omega)))
        have h2 : j * (1 + 3 * W) ≤ 64 * 193 := Nat.mul_le_mul (by omega) (by omega)
        simp [headL]
        omega
      have HBo := Lib.hid hR.out.2
      obtain ⟨ro, hro⟩ : ∃ ro, rle (pxs row 0 W) = ro := ⟨_, rfl⟩
      have hrl : ro.length ≤ 64 := by have h := rle_len (pxs row 0 W); rw [hro, pxs_len] at h; omega
      obtain ⟨q, hq⟩ : ∃ q : Nat, 4 * ro.length = q := ⟨_, rfl⟩
      obtain ⟨kk, hkk⟩ : ∃ kk : Nat, ro.length = kk := ⟨_, rfl⟩
      have hr192 : r ≤ 192 := by omega
      have hquo : ((q : Nat) : Int).tdiv 4 = (kk : Int) := by rw [← hq, ← hkk, Int.tdiv_eq_ediv_of_nonneg (by omega)]; omega
      have hrun : encRow W row = if 2 + q < 1 + r then 1 :: UInt8.ofNat kk :: enc ro else 0 :: row := by
        have h1 := runsB_len row W
        unfold encRow
        rw [h1, hr, hro, hq]
        unfold runsB
        rw [hro, hkk]
      have HRR := Lib.hid hr
      have HROW := Lib.hid hrow
      have HRU := Lib.hid (fun W' hb => rruns_any W r (c - s) (some ⟨b, o + s, none⟩) row W' (by omega) hW1 hb)
      rw [hro] at HRU
      have hel : (enc ro).length = q := by rw [enc_len, hq]
      have HEL := Lib.hid hel
      have hkk2 : kk ≤ 64 := by omega
      have hq2 : q ≤ 256 := by omega
      have HW := Lib.hid hlr
      clear hrow hdon hR hs hr hro hq hkk hel hlr hrl
      go_wp2_with fail
      refine (HRU.out _ (HBR.out _ HBo.out)).mono ?_
      rintro e_ w2 ⟨v2, rfl, hv2, hb2⟩
      obtain ⟨A2, c2, rfl, hl2⟩ := lf.OwnB.lbn hv2 HEL.out
      have HV2 := Lib.hid hv2
      have HL2 := Lib.hid hl2
      have HO2 := Lib.hid (HO.out.below hb2)
      have HB2 := Lib.hid (btrans HBo.out hb2)
      clear hv2 hl2 hb2 k0 k1 k2
      by_cases hsh : 2 + q < 1 + r
      · have hd1 : decide (1 + (r : Int) ≤ 2 + (q : Int)) = false := by simp; omega
        rw [if_pos hsh] at hrun
        have HRUN := Lib.hid hrun
        clear hrun
        go_wp2_with (at_builtin; refine Held.of ?_)
        unfold Held
        refine wpList_push2 (u := u) (.tmp 52) (.tmp 57) _ _ _ _ _ _ rfl rfl rfl rfl (HO2.out.below (balloc (Below.refl _ _) _)) (two_new w2 1 (UInt8.ofNat kk) 1 (kk : Int) rfl (by rw [ofNat_toNat (by omega)])) (balloc HB2.out _) (by omega) ?_
        intro v3 w3 hO3 hB3 hg3
        have hv3 := own_grown (HV2.out.below (balloc (Below.refl _ _) _)) HO.out (Nat.le_refl _) hg3
        obtain ⟨A3, c3, e3, hl3⟩ := lf.OwnB.lbn hv3 HEL.out
        injection e3 with e31 e32 e33
        subst e31 e33
        have HL3 := Lib.hid hl3
        have HO3 := Lib.hid hO3
        have HB3 := Lib.hid hB3
        clear hO3 hB3 hg3 hv3 hl3 e32
        go_wp2_with (at_builtin; refine Held.of ?_)
        unfold Held
        refine wpList_push (u := u) (.tmp 58) (.tmp 59) _ _ _ _ _ _ rfl rfl rfl rfl HO3.out HL3.out HB3.out (by rw [List.length_append]; simp only [List.length_cons, List.length_nil]; omega) ?_
        intro v4 w4 hO4 hB4
        have HO4 := Lib.hid hO4
        have HB4 := Lib.hid hB4
        clear hO4 hB4
        go_wp2_with fail
        go_roundw
        case rel => exact ⟨j + 1, by omega, by go_num, Lib.hid ⟨by rw [encs_snoc, Nat.zero_add, HROW.out, HRUN.out, ← List.append_assoc, HDON.out]; have h := HO4.out; rw [List.append_assoc] at h; exact h, HB4.out⟩⟩
        case measure => simp [intOf]; omega
      · have hd1 : decide (1 + (r : Int) ≤ 2 + (q : Int)) = true := by simp; omega
        rw [if_neg hsh] at hrun
        have HRUN := Lib.hid hrun
        clear hrun
        go_wp2_with (at_builtin; refine Held.of ?_)
        unfold Held
        refine wpList_push (u := u) (.tmp 47) (.tmp 48) _ _ _ _ _ _ rfl rfl rfl rfl (HO2.out.below (balloc (Below.refl _ _) _)) (one_new w2 0 0 rfl) (balloc HB2.out _) (by omega) ?_
        intro v3 w3 hO3 hB3
        have HO3 := Lib.hid hO3
        have HB3 := Lib.hid hB3
        clear hO3 hB3
        go_wp2_with (at_builtin; refine Held.of ?_)
        unfold Held
        refine wpList_push (u := u) (.tmp 49) (.tmp 50) _ _ _ _ _ _ rfl rfl rfl rfl HO3.out (lb_of (HBR.out _ HB3.out) (Nat.lt_of_lt_of_le (Nat.lt_of_lt_of_le hlt hsz) HB3.out.size)) HB3.out (by rw [List.length_append]; simp only [List.length_cons, List.length_nil]; omega) ?_
        intro v4 w4 hO4 hB4
        have HO4 := Lib.hid hO4
        have HB4 := Lib.hid hB4
        clear hO4 hB4
        go_wp2_with fail
        go_roundw
        case rel => exact ⟨j + 1, by omega, by go_num, Lib.hid ⟨by rw [encs_snoc, Nat.zero_add, HROW.out, HRUN.out, ← List.append_assoc, HDON.out]; have h := HO4.out; rw [List.append_assoc] at h; exact h, HB4.out⟩⟩
        case measure => simp [intOf]; omega
end Go.Proofs.Ytfmkdccpgkbnoaa.lr
