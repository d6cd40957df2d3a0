/-
  Layer 39: runs of a row.
-/
import Derived.Test.YtfmkdccpgkbnoaaLeafO
import Derived.Test.YtfmkdccpgkbnoaaUpTail
import Derived.Test.YtfmkdccpgkbnoaaUpLate
import Derived.BigQuiet
import Derived.BigRegion
namespace Go.Proofs.Ytfmkdccpgkbnoaa.lf
set_option linter.unusedVariables false
set_option linter.unusedSimpArgs false
open Go.RowKit bs

/-- the state ahead of pixel a: what lies done -/
def RunsAt (w : World) (l : List UInt8) (m a : Nat) (ov : Value) (wr : World) : Prop :=
  ∃ d, rle (pxs l 0 m) = d ++ rle (pxs l a (m - a)) ∧ OwnB wr w.heap.size ov (1 :: UInt8.ofNat d.length :: enc d) ∧ Below w.heap.size w wr

theorem str_eq (p q : T) : ((⟨(three p).toArray⟩ : ByteArray).toList == (⟨(three q).toArray⟩ : ByteArray).toList) = decide (p = q) := by
  have e : ∀ p : T, (⟨(three p).toArray⟩ : ByteArray).toList = three p := fun p => by rw [ByteArray.toList_eq]
  rw [e, e]
  by_cases h : p = q
  · subst h; simp
  · rw [decide_eq_false h]
    simp
    exact fun e => h (three_inj e)

set_option maxRecDepth 100000 in
set_option maxHeartbeats 1600000 in
theorem runs_any (m n c : Nat) (A : Option Addr) (l : List UInt8) (w : World) (hn : n = 3 * m) (hm : m ≤ 64) (hb : Bytes w A n c l) :
    Calls Try.prog 30 #[.slice A n c] w fun e w' => ∃ v, e = .returned v ∧ OwnB w' w.heap.size v (runsB l m) ∧ Below w.heap.size w w' := by
  obtain ⟨i0, hi, hz0, hz1, hz2⟩ := info_parts (show (Try.prog.info? 5).map (fun i => (i.zero, i.size, i.bytes)) = some (some (.int .u8 0), 1, 1) by kernel_rfl)
  have HB := Lib.hid hb
  have HN := Lib.hid hn
  have hnc := hb.2.1
  have hn192 : n ≤ 192 := by omega
  clear hb hn
  go_enter Try.func30, Try.ntmps30
  go_wp2_with fail
  go_loopw [3, 4] (fun ov iv wr => ∃ i a : Nat, Hid (i = 3 * a) ∧ a ≤ m ∧ iv = .int .i64 (i : Int) ∧ RunsAt w l m a ov wr) (fun _ iv _ => 192 - (intOf iv).toNat)
  case atStart => exact ⟨0, 0, Lib.hid (by omega), by omega, rfl, [], rfl, OwnB.new (base := w.heap.size) (c := 2) w [1, 0] _ rfl (by simp) rfl (by simp [maxLen]) (Nat.le_refl _), by (repeat' (first | exact Below.refl _ _ | exact Below.refl _ _ | refine balloc ?_ _ | refine Below.drew ?_ | refine below_drewN ?_ _ | refine bset ?_ (by first | omega | (simp <;> omega)) _))⟩
  case round =>
    obtain ⟨i, a, hia, ham, rfl, hR⟩ := hrel
    obtain ⟨wo, rfl⟩ : ∃ wo, wo = wr := ⟨_, rfl⟩
    have HR := Lib.hid hR
    clear hR
    by_cases hend : a = m
    · have hin : i = n := by have := hia.out; have := HN.out; omega
      subst hin
      go_wp2_with fail
      go_ret
      obtain ⟨d, hd, ho, hbw⟩ := HR.out
      refine ⟨_, rfl, ?_, hbw⟩
      subst hend
      rw [Nat.sub_self] at hd
      have hd2 : rle (pxs l 0 a) = d := by rw [hd]; simp [pxs, rle]
      unfold runsB
      rw [hd2]
      exact ho
    · have hin : i < n := by have := hia.out; have := HN.out; omega
      go_wp2_with fail
      obtain ⟨bb, oo, hA, hlt, hcell⟩ := HB.out.2.2 (by omega)
      have hbo : Below w.heap.size w wo := by obtain ⟨d, _, _, h⟩ := HR.out; exact h
      have HBO := Lib.hid (HB.out.below hbo)
      have HCE := Lib.hid hcell
      clear hcell hbo
      subst hA
      go_loopw [5] (fun kv wr => ∃ k b : Nat, Hid (k = 3 * b) ∧ Hid (a ≤ b ∧ ∀ j, a ≤ j → j < b → px l j = px l a) ∧ b ≤ m ∧ kv = .int .i64 (k : Int) ∧ Hid (Below wo.heap.size wo wr)) (fun kv _ => 192 - (intOf kv).toNat)
      case atStart => exact ⟨i, a, hia, Lib.hid ⟨Nat.le_refl _, fun j h1 h2 => by omega⟩, ham, rfl, Lib.hid (Below.refl _ _)⟩
      case round =>
        obtain ⟨k, b, hkb, hab, hbm, rfl, hbw⟩ := hrel
        by_cases hbe : b = m
        · have hkn : k = n := by have := hkb.out; have := HN.out; omega
          have hab1 : a < b := by omega
          have hd1 : decide (k < n) = false := by simp; omega
          have hk192 : k ≤ 192 := by omega
          clear hkn
          go_wp2_with fail
          (refine wp_region_up (by kernel_rfl) (by kernel_rfl) ?_; (repeat (go_big_quiet_step (fail))); refine wpQuiet_nil ?_; rintro _ ⟨uq, rfl⟩)
          have HBU := Lib.hid (btrans hbw.out uq.ok)
          generalize hwx : uq.val = wz at *
          clear hwx uq
          have HAB := Lib.hid hab1
          have HRD := Lib.hid (rle_round l a b m HAB.out hbm hab.out.2 fun h => absurd h (by omega))
          have hin3 : i + 3 ≤ n := by have := hia.out; have := HN.out; omega
          clear hab
          go_wp2_with fail
          obtain ⟨q, hq1⟩ : ∃ q : Nat, b = a + (q + 1) := ⟨b - a - 1, by have := HAB.out; omega⟩
          have HQ := Lib.hid hq1
          have hq63 : q ≤ 63 := by omega
          have hquo : ((k : Int) - (i : Int)).tdiv 3 = (q : Int) + 1 := by
            have e : (k : Int) - (i : Int) = 3 * ((q : Int) + 1) := by have := hkb.out; have := hia.out; omega
            rw [e, Int.mul_tdiv_cancel_left _ (by omega)]
          obtain ⟨x, hx⟩ : ∃ x, (px l a).1 = x := ⟨_, rfl⟩
          obtain ⟨y, hy⟩ : ∃ x, (px l a).2.1 = x := ⟨_, rfl⟩
          obtain ⟨z, hz⟩ : ∃ x, (px l a).2.2 = x := ⟨_, rfl⟩
          have HXYZ := Lib.hid (show px l a = (x, y, z) from by rw [← hx, ← hy, ← hz])
          have hx0 := u8_lt x
          have hy0 := u8_lt y
          have hz0' := u8_lt z
          have HBR := HBO.out.below HBU.out
          have hbz : bb < wz.heap.size := Nat.lt_of_lt_of_le hlt (Nat.le_trans (by obtain ⟨d, _, _, h⟩ := HR.out; exact h.size) HBU.out.size)
          have hcl : ∀ j, 3 * a + j < n → wz.cell? ⟨bb, oo + (i + j), none⟩ = some (.int .u8 ((l.getD (3 * a + j) 0).toNat : Int)) := fun j hj => by
            obtain ⟨b', o', e, _, hc⟩ := HBR.at_ (by omega)
            cases e
            rw [hia.out]
            exact hc _ (by omega)
          have c0 : wz.cell? ⟨bb, oo + i, none⟩ = some (.int .u8 (x.toNat : Int)) := by rw [← hx]; exact hcl 0 (by have := hia.out; omega)
          have c1 : wz.cell? ⟨bb, oo + (i + 1), none⟩ = some (.int .u8 (y.toNat : Int)) := by rw [← hy]; exact hcl 1 (by have := hia.out; omega)
          have c2 : wz.cell? ⟨bb, oo + (i + 2), none⟩ = some (.int .u8 (z.toNat : Int)) := by rw [← hz]; exact hcl 2 (by have := hia.out; omega)
          have U0 := fun (v : Up wz) (u : Up v.val) => ((u.cell (p := ⟨bb, oo + i, none⟩) (Nat.lt_of_lt_of_le hbz v.ok.size)).trans (v.cell (p := ⟨bb, oo + i, none⟩) hbz)).trans c0
          have U1 := fun (v : Up wz) (u : Up v.val) => ((u.cell (p := ⟨bb, oo + (i + 1), none⟩) (Nat.lt_of_lt_of_le hbz v.ok.size)).trans (v.cell (p := ⟨bb, oo + (i + 1), none⟩) hbz)).trans c1
          have U2 := fun (v : Up wz) (u : Up v.val) => ((u.cell (p := ⟨bb, oo + (i + 2), none⟩) (Nat.lt_of_lt_of_le hbz v.ok.size)).trans (v.cell (p := ⟨bb, oo + (i + 2), none⟩) hbz)).trans c2
          have t1 : ((i : Int) + 1).toNat = i + 1 := by omega
          have t2 : ((i : Int) + 2).toNat = i + 2 := by omega
          clear hx hy hz HBR hcl c0 c1 c2 hq1
          refine wp_region_late 21 [0] (by kernel_rfl) (by kernel_rfl) (fun d _ _ _ _ h => by cases d <;> exact h) ?_
          intro u0
          replace U0 := U0 u0
          replace U1 := U1 u0
          replace U2 := U2 u0
          simp only [List.take_succ_cons, List.take_zero, List.drop_succ_cons, List.drop_zero]
          repeat (go_big_quiet_step (fail))
          refine wpQuiet_nil ?_
          rintro _ ⟨uq, rfl⟩
          replace HBU := Lib.hid (btrans HBU.out uq.ok)
          generalize hwx : uq.val = wy at *
          clear hwx uq U0 U1 U2 u0
          obtain ⟨d, hd, ho, hbw0⟩ := HR.out
          have hdl : d.length ≤ 63 := by
            have e := congrArg List.length hd
            have e2 := rle_len (pxs l 0 m)
            rw [pxs_len] at e2
            rw [List.length_append, HRD.out, List.length_cons] at e
            omega
          have HD := Lib.hid hd
          have hsz : w.heap.size ≤ wy.heap.size := Nat.le_trans hbw0.size HBU.out.size
          have HBW := Lib.hid (btrans hbw0 HBU.out)
          have ho2 := ho.below HBU.out
          obtain ⟨bs0, hbs0⟩ : ∃ bs, (1 :: UInt8.ofNat d.length :: enc d) = bs := ⟨_, rfl⟩
          rw [hbs0] at ho2
          have hbl : bs0.length = 2 + 4 * d.length := by rw [← hbs0]; simp [enc_len]; omega
          have HBS := Lib.hid hbs0
          have HOW := Lib.hid ho2
          clear hd ho hbw0 hbs0 ho2
          go_wp2_with (at_builtin; refine wpList_append_any _ rfl (.tmp 33) (.tmp 54) 22 rfl w.heap.size 5 i0 (.int .u8 0) 1 1 Try.underlying22 hi hz0 hz1 hz2 rfl (by omega) _ bs0.length (vals bs0) rfl ((show OwnB wy w.heap.size _ bs0 from HOW.out).alloc _) _ (some ⟨wy.heap.size, 0, none⟩) 4 4 (vals [UInt8.ofNat q, x, y, z]) rfl (four_reads hq63 wy x y z) (vals_one _) (by simp [maxLen]; omega) (by omega) (by simp; omega) ?_; intro v1 w1 hown1 hg1 _; have hl1 : (bs0 ++ [UInt8.ofNat q, x, y, z]).length = 2 + 4 * d.length + 4 := (by simp; omega); obtain ⟨g1, c1, cs1, hv1, hg1b, hbk, hc1, hm1, hs1, ht1⟩ := OwnB.blk (OwnB.push (l := bs0) hown1 rfl) (by rw [List.length_append]; exact Nat.succ_pos _); have HB1 := Lib.hid (grown_below (HOW.out.alloc _) (HBW.out.alloc (by omega) _) (Nat.le_refl _) hg1); clear hown1 hg1; rw [hl1] at hc1 ht1 hv1; subst hv1; have hcc := hbk.cell 1; have hcf := hbk.frozen 1; rw [take_cell (l := bs0 ++ [UInt8.ofNat q, x, y, z]) (by rw [hl1]; exact ht1) 1 (by omega)] at hcc; have hcv : ((bs0 ++ [UInt8.ofNat q, x, y, z]).getD 1 0).toNat = d.length := (by rw [← HBS.out]; simp [List.getD]; omega); rw [hcv] at hcc; have HT1 := Lib.hid ht1; have HBK := Lib.hid hbk; have HS1 := Lib.hid hs1; clear ht1 hbk hs1 hcv hl1)
          go_roundw
          case rel =>
            have hqb : b - a = q + 1 := by have := HQ.out; omega
            exact ⟨k, b, hkb, hbm, rfl, d ++ [(b - a, px l a)], by rw [HD.out, HRD.out]; simp, by
              rw [hqb]
              exact runs_step HXYZ.out hdl HBK.out hg1b hc1 hm1 HS1.out (by rw [HBS.out]; exact HT1.out), by (repeat' (first | refine bset ?_ (by first | omega | (simp <;> omega)) _ | refine balloc ?_ _ | refine Below.drew ?_ | refine below_drewN ?_ _ | exact HB1.out | exact Below.refl _ _))⟩
          case measure => simp [intOf]; have := HQ.out; have := hkb.out; have := hia.out; omega
        · have hkn : k + 3 ≤ n := by have := hkb.out; have := HN.out; omega
          have hin3 : i + 3 ≤ n := by have := hia.out; have := HN.out; omega
          have hd1 : decide (k < n) = true := by simp; omega
          have hc1 : ¬ c = k := by omega
          have hc2 : ¬ c = i := by omega
          have HBR := HBO.out.below hbw.out
          obtain ⟨s1, hs1⟩ : ∃ s : ByteArray, ⟨(three (px l b)).toArray⟩ = s := ⟨_, rfl⟩
          obtain ⟨s2, hs2⟩ : ∃ s : ByteArray, ⟨(three (px l a)).toArray⟩ = s := ⟨_, rfl⟩
          have e1 : (l.drop k).take (k + 3 - k) = three (px l b) := by rw [show k + 3 - k = 3 by omega, hkb.out]; exact three_take (by have := HB.out.1; have := hkb.out; omega)
          have e2 : (l.drop i).take (i + 3 - i) = three (px l a) := by rw [show i + 3 - i = 3 by omega, hia.out]; exact three_take (by have := HB.out.1; have := hia.out; omega)
          have U1 : ∀ u : Up wr, (convert 22 9 (.slice (some ⟨bb, oo + k, none⟩) 3 (c - k))).run Try.prog u.val = .ok (.string s1) u.val := fun u => by
            have := Bytes.str (Bytes.cut (HBR.below u.ok) k (k + 3) (by omega) (by omega) bb oo rfl)
            rw [e1, hs1, show k + 3 - k = 3 by omega] at this
            exact this
          have U2 : ∀ u : Up wr, (convert 22 9 (.slice (some ⟨bb, oo + i, none⟩) 3 (c - i))).run Try.prog u.val = .ok (.string s2) u.val := fun u => by
            have := Bytes.str (Bytes.cut (HBR.below u.ok) i (i + 3) (by omega) (by omega) bb oo rfl)
            rw [e2, hs2, show i + 3 - i = 3 by omega] at this
            exact this
          have HE := Lib.hid (And.intro hs1 hs2)
          have hq : (s1.toList == s2.toList) = decide (px l b = px l a) := by
            rw [← hs1, ← hs2]
            exact str_eq _ _
          clear e1 e2 hs1 hs2 HBR HE
          by_cases hpx : px l b = px l a
          · rw [decide_eq_true hpx] at hq
            have HPX := Lib.hid hpx
            clear hpx
            go_wp2_with fail
            (refine wp_region_up (by kernel_rfl) (by kernel_rfl) ?_; (repeat (go_big_quiet_step (fail))); refine wpQuiet_nil ?_; rintro _ ⟨uq, rfl⟩)
            have HBU := Lib.hid (btrans hbw.out uq.ok)
            generalize hwx : uq.val = wz at *
            clear hwx uq U1 U2
            go_wp2_with fail
            go_roundw
            case rel => exact ⟨k + 3, b + 1, Lib.hid (by have := hkb.out; omega), Lib.hid ⟨by have := hab.out.1; omega, fun j h1 h2 => by
              rcases Nat.lt_or_ge j b with h | h
              · exact hab.out.2 j h1 h
              · obtain rfl : j = b := by omega
                exact HPX.out⟩, by omega, by go_num, HBU⟩
            case measure => simp [intOf]; omega
          · rw [decide_eq_false hpx] at hq
            have HPX := Lib.hid hpx
            clear hpx
            go_wp2_with fail
            (refine wp_region_up (by kernel_rfl) (by kernel_rfl) ?_; (repeat (go_big_quiet_step (fail))); refine wpQuiet_nil ?_; rintro _ ⟨uq, rfl⟩)
            have HBU := Lib.hid (btrans hbw.out uq.ok)
            generalize hwx : uq.val = wz at *
            clear hwx uq U1 U2
            clear hq
            go_wp2_with fail
            have HAB := Lib.hid (show a < b from by
              rcases Nat.lt_or_ge a b with h | h
              · exact h
              · have := hab.out.1
                obtain rfl : a = b := by omega
                exact absurd rfl HPX.out)
            have HRD := Lib.hid (rle_round l a b m HAB.out hbm hab.out.2 fun _ => HPX.out)
            obtain ⟨q, hq1⟩ : ∃ q : Nat, b = a + (q + 1) := ⟨b - a - 1, by have := HAB.out; omega⟩
            have HQ := Lib.hid hq1
            have hq63 : q ≤ 63 := by omega
            have hquo : ((k : Int) - (i : Int)).tdiv 3 = (q : Int) + 1 := by
              have e : (k : Int) - (i : Int) = 3 * ((q : Int) + 1) := by have := hkb.out; have := hia.out; omega
              rw [e, Int.mul_tdiv_cancel_left _ (by omega)]
            obtain ⟨x, hx⟩ : ∃ x, (px l a).1 = x := ⟨_, rfl⟩
            obtain ⟨y, hy⟩ : ∃ x, (px l a).2.1 = x := ⟨_, rfl⟩
            obtain ⟨z, hz⟩ : ∃ x, (px l a).2.2 = x := ⟨_, rfl⟩
            have HXYZ := Lib.hid (show px l a = (x, y, z) from by rw [← hx, ← hy, ← hz])
            have hx0 := u8_lt x
            have hy0 := u8_lt y
            have hz0' := u8_lt z
            have HBR := HBO.out.below HBU.out
            have hbz : bb < wz.heap.size := Nat.lt_of_lt_of_le hlt (Nat.le_trans (by obtain ⟨d, _, _, h⟩ := HR.out; exact h.size) HBU.out.size)
            have hcl : ∀ j, 3 * a + j < n → wz.cell? ⟨bb, oo + (i + j), none⟩ = some (.int .u8 ((l.getD (3 * a + j) 0).toNat : Int)) := fun j hj => by
              obtain ⟨b', o', e, _, hc⟩ := HBR.at_ (by omega)
              cases e
              rw [hia.out]
              exact hc _ (by omega)
            have c0 : wz.cell? ⟨bb, oo + i, none⟩ = some (.int .u8 (x.toNat : Int)) := by rw [← hx]; exact hcl 0 (by have := hia.out; omega)
            have c1 : wz.cell? ⟨bb, oo + (i + 1), none⟩ = some (.int .u8 (y.toNat : Int)) := by rw [← hy]; exact hcl 1 (by have := hia.out; omega)
            have c2 : wz.cell? ⟨bb, oo + (i + 2), none⟩ = some (.int .u8 (z.toNat : Int)) := by rw [← hz]; exact hcl 2 (by have := hia.out; omega)
            have U0 := fun (v : Up wz) (u : Up v.val) => ((u.cell (p := ⟨bb, oo + i, none⟩) (Nat.lt_of_lt_of_le hbz v.ok.size)).trans (v.cell (p := ⟨bb, oo + i, none⟩) hbz)).trans c0
            have U1 := fun (v : Up wz) (u : Up v.val) => ((u.cell (p := ⟨bb, oo + (i + 1), none⟩) (Nat.lt_of_lt_of_le hbz v.ok.size)).trans (v.cell (p := ⟨bb, oo + (i + 1), none⟩) hbz)).trans c1
            have U2 := fun (v : Up wz) (u : Up v.val) => ((u.cell (p := ⟨bb, oo + (i + 2), none⟩) (Nat.lt_of_lt_of_le hbz v.ok.size)).trans (v.cell (p := ⟨bb, oo + (i + 2), none⟩) hbz)).trans c2
            have t1 : ((i : Int) + 1).toNat = i + 1 := by omega
            have t2 : ((i : Int) + 2).toNat = i + 2 := by omega
            clear hx hy hz HBR hcl c0 c1 c2 hq1
            refine wp_region_late 21 [0] (by kernel_rfl) (by kernel_rfl) (fun d _ _ _ _ h => by cases d <;> exact h) ?_
            intro u0
            replace U0 := U0 u0
            replace U1 := U1 u0
            replace U2 := U2 u0
            simp only [List.take_succ_cons, List.take_zero, List.drop_succ_cons, List.drop_zero]
            repeat (go_big_quiet_step (fail))
            refine wpQuiet_nil ?_
            rintro _ ⟨uq, rfl⟩
            replace HBU := Lib.hid (btrans HBU.out uq.ok)
            generalize hwx : uq.val = wy at *
            clear hwx uq U0 U1 U2 u0
            obtain ⟨d, hd, ho, hbw0⟩ := HR.out
            have hdl : d.length ≤ 63 := by
              have e := congrArg List.length hd
              have e2 := rle_len (pxs l 0 m)
              rw [pxs_len] at e2
              rw [List.length_append, HRD.out, List.length_cons] at e
              omega
            have HD := Lib.hid hd
            have hsz : w.heap.size ≤ wy.heap.size := Nat.le_trans hbw0.size HBU.out.size
            have HBW := Lib.hid (btrans hbw0 HBU.out)
            have ho2 := ho.below HBU.out
            obtain ⟨bs0, hbs0⟩ : ∃ bs, (1 :: UInt8.ofNat d.length :: enc d) = bs := ⟨_, rfl⟩
            rw [hbs0] at ho2
            have hbl : bs0.length = 2 + 4 * d.length := by rw [← hbs0]; simp [enc_len]; omega
            have HBS := Lib.hid hbs0
            have HOW := Lib.hid ho2
            clear hd ho hbw0 hbs0 ho2
            go_wp2_with (at_builtin; refine wpList_append_any _ rfl (.tmp 33) (.tmp 54) 22 rfl w.heap.size 5 i0 (.int .u8 0) 1 1 Try.underlying22 hi hz0 hz1 hz2 rfl (by omega) _ bs0.length (vals bs0) rfl ((show OwnB wy w.heap.size _ bs0 from HOW.out).alloc _) _ (some ⟨wy.heap.size, 0, none⟩) 4 4 (vals [UInt8.ofNat q, x, y, z]) rfl (four_reads hq63 wy x y z) (vals_one _) (by simp [maxLen]; omega) (by omega) (by simp; omega) ?_; intro v1 w1 hown1 hg1 _; have hl1 : (bs0 ++ [UInt8.ofNat q, x, y, z]).length = 2 + 4 * d.length + 4 := (by simp; omega); obtain ⟨g1, c1, cs1, hv1, hg1b, hbk, hc1, hm1, hs1, ht1⟩ := OwnB.blk (OwnB.push (l := bs0) hown1 rfl) (by rw [List.length_append]; exact Nat.succ_pos _); have HB1 := Lib.hid (grown_below (HOW.out.alloc _) (HBW.out.alloc (by omega) _) (Nat.le_refl _) hg1); clear hown1 hg1; rw [hl1] at hc1 ht1 hv1; subst hv1; have hcc := hbk.cell 1; have hcf := hbk.frozen 1; rw [take_cell (l := bs0 ++ [UInt8.ofNat q, x, y, z]) (by rw [hl1]; exact ht1) 1 (by omega)] at hcc; have hcv : ((bs0 ++ [UInt8.ofNat q, x, y, z]).getD 1 0).toNat = d.length := (by rw [← HBS.out]; simp [List.getD]; omega); rw [hcv] at hcc; have HT1 := Lib.hid ht1; have HBK := Lib.hid hbk; have HS1 := Lib.hid hs1; clear ht1 hbk hs1 hcv hl1)
            go_roundw
            case rel =>
              have hqb : b - a = q + 1 := by have := HQ.out; omega
              exact ⟨k, b, hkb, hbm, rfl, d ++ [(b - a, px l a)], by rw [HD.out, HRD.out]; simp, by
                rw [hqb]
                exact runs_step HXYZ.out hdl HBK.out hg1b hc1 hm1 HS1.out (by rw [HBS.out]; exact HT1.out), by (repeat' (first | refine bset ?_ (by first | omega | (simp <;> omega)) _ | refine balloc ?_ _ | refine Below.drew ?_ | refine below_drewN ?_ _ | exact HB1.out | exact Below.refl _ _))⟩
            case measure => simp [intOf]; have := HQ.out; have := hkb.out; have := hia.out; omega
end Go.Proofs.Ytfmkdccpgkbnoaa.lf
