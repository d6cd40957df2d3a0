/-
  LeafMade: for bytes made by numbers Take returns what the reference returns.
-/
import Derived.Test.YtfmkdccpgkbnoaaLawLSays
import Derived.Test.YtfmkdccpgkbnoaaUpTail
import Derived.BigQuiet
namespace Go.Proofs.Ytfmkdccpgkbnoaa.lf
set_option linter.unusedVariables false
set_option linter.unusedSimpArgs false
open Go.RowKit bs rg op
open lr (hpage_any rput_lb rtake_ok rtake_none putleaf_no nil_lb one_new)

def b8 (W q : Nat) : UInt8 := [0, 1, 2, UInt8.ofNat (W - 1), UInt8.ofNat W, 255, 3, 0].getD q 0
theorem idx8 (W q : Nat) (hW : 1 ≤ W ∧ W ≤ 64) (h : q < 8) (u : World) :
    (Instr.index 75 (.agg #[.int .u8 0, .int .u8 1, .int .u8 2, .int .u8 ((W : Int) - 1), .int .u8 (W : Int), .int .u8 255, .int .u8 3, .int .u8 0]) (.int .i64 (q : Int))).run Try.prog u = .ok (.int .u8 ((b8 W q).toNat : Int)) u := by
  have hb : (isAgg 5).run Try.prog u = .ok false u := by kernel_rfl
  have hs : (sizeOf 5).run Try.prog u = .ok 1 u := by kernel_rfl
  have e1 : ((UInt8.ofNat (W - 1)).toNat : Int) = (W : Int) - 1 := by rw [ofNat_toNat (by omega)]; omega
  have e2 : ((UInt8.ofNat W).toNat : Int) = (W : Int) := by rw [ofNat_toNat (by omega)]
  have hc : (#[.int .u8 0, .int .u8 1, .int .u8 2, .int .u8 ((W : Int) - 1), .int .u8 (W : Int), .int .u8 255, .int .u8 3, .int .u8 0] : Array Value)[q]? = some (.int .u8 ((b8 W q).toNat : Int)) := by
    rcases (show q = 0 ∨ q = 1 ∨ q = 2 ∨ q = 3 ∨ q = 4 ∨ q = 5 ∨ q = 6 ∨ q = 7 by omega) with rfl | rfl | rfl | rfl | rfl | rfl | rfl | rfl
    · rfl
    · rfl
    · rfl
    · show some (Value.int .u8 ((W : Int) - 1)) = some (.int .u8 ((UInt8.ofNat (W - 1)).toNat : Int)); rw [e1]
    · show some (Value.int .u8 (W : Int)) = some (.int .u8 ((UInt8.ofNat W).toNat : Int)); rw [e2]
    · rfl
    · rfl
    · rfl
  generalize (#[.int .u8 0, .int .u8 1, .int .u8 2, .int .u8 ((W : Int) - 1), .int .u8 (W : Int), .int .u8 255, .int .u8 3, .int .u8 0] : Array Value) = cs at hc ⊢
  simp [Instr.index, asIntOf, run_underlying Try.underlying75, part, hb, hs, hc, h]
set_option maxRecDepth 100000 in
set_option maxHeartbeats 3200000 in
theorem lbytes_any (A : Option Addr) (n c : Nat) (ns : Nat → Int) (w : World) (hr : Ints w A n c ns) (hn : n ≤ 9223372036854775807) :
    Calls Try.prog 19 #[.slice A n c] w fun e w' => ∃ D m d, e = .returned (.slice D m d) ∧ (∃ l, LB w' D m d l) ∧ m ≤ 44 ∧ Below w.heap.size w w' := by
  have HR := Lib.hid hr
  have hnc := hr.1
  clear hr
  by_cases h1 : 1 < n
  · obtain ⟨b, o, hA, hlt, hcell⟩ := HR.out.2 (by omega)
    subst hA
    obtain ⟨W, hW, hW2, hxW, hx0, hx1⟩ := side_fix (ns 0) 6 (by decide) (by decide)
    obtain ⟨H, hH, hH2, hyH, hy0, hy1⟩ := side_fix (ns 1) 4 (by decide) (by decide)
    have c0 := hcell 0 (by omega)
    have c1 := hcell 1 (by omega)
    obtain ⟨x, hx⟩ : ∃ x, ns 0 = x := ⟨_, rfl⟩
    obtain ⟨y, hy⟩ : ∃ x, ns 1 = x := ⟨_, rfl⟩
    rw [hx] at c0 hxW hx0 hx1
    rw [hy] at c1 hyH hy0 hy1
    have hPX := fun W => place_any x 6 W (by decide) (by decide)
    have hPY := fun W => place_any y 4 W (by decide) (by decide)
    obtain ⟨zx, hzx⟩ : ∃ z, x % 6 = z := ⟨_, rfl⟩
    obtain ⟨zy, hzy⟩ : ∃ z, y % 4 = z := ⟨_, rfl⟩
    rw [hzx] at hPX hxW hx0 hx1
    rw [hzy] at hPY hyH hy0 hy1
    rw [Nat.add_zero] at c0
    have U0 : ∀ u : Up w, u.val.cell? ⟨b, o, none⟩ = some (.int .i64 x) := fun u => (u.cell hlt).trans c0
    have U1 : ∀ u : Up w, u.val.cell? ⟨b, o + 1, none⟩ = some (.int .i64 y) := fun u => (u.cell (p := ⟨b, o + 1, none⟩) hlt).trans c1
    have HU1 := Lib.hid (fun u : Up w => up_same (u := u) (hPX u.val))
    have HU2 := Lib.hid (fun u : Up w => up_same (u := u) (hPY u.val))
    have HC := Lib.hid hcell
    obtain ⟨hW0, hW1⟩ := hW
    obtain ⟨hH0, hH1⟩ := hH
    have hn1 : (0 : Int) < (n : Int) := by omega
    have hn2 : (1 : Int) < (n : Int) := by omega
    have hn3 : 0 < n := by omega
    have hn4 : 2 ≤ n := by omega
    have hdn : decide ((1 : Int) < (n : Int)) = true := by simp; omega
    clear hcell hx hy hzx hzy hPX hPY c0 c1
    go_enter Try.func19, Try.ntmps19
    go_wp2_with fail
    refine wp_region_up (by kernel_rfl) (by kernel_rfl) ?_
    repeat (go_big_quiet_step (fail))
    go_big_quiet_step (exact HU1.out _)
    repeat (go_big_quiet_step (fail))
    go_big_quiet_step (exact HU2.out _)
    repeat (go_big_quiet_step (fail))
    refine wpQuiet_nil ?_
    rintro _ ⟨uq, rfl⟩
    have HBX := Lib.hid uq.ok
    generalize hwx : uq.val = wz at *
    clear hwx uq U0 U1 HU1 HU2
    obtain ⟨n', hn'⟩ : ∃ n', n - 2 = n' := ⟨_, rfl⟩
    obtain ⟨ns', hns⟩ : ∃ f : Nat → Int, (fun i => ns (i + 2)) = f := ⟨_, rfl⟩
    by_cases hc2 : c = 2
    · subst hc2
      obtain rfl : n = 2 := by omega
      have HR' := Lib.hid (show Ints w (some ⟨b, o, none⟩) 0 0 ns' from ⟨Nat.le_refl _, fun h => absurd h (by omega)⟩)
      clear HC HR hn' hns
      go_wp2_with fail
      have HST := Lib.hid (OwnB.new (base := w.heap.size) (c := 4) wz (headL W H) _ (head_vals (by omega) (by omega)) (by simp [headL]) rfl (by simp [maxLen]) (HBX.out.size))
      have HBY := Lib.hid (balloc HBX.out (.cells #[.int .u8 84, .int .u8 89, .int .u8 (W : Int), .int .u8 (H : Int)] 5))
      go_loopw [5, 6] (fun ov iv wr => ∃ (i : Nat) (l : List UInt8), i ≤ 40 ∧ i ≤ 0 ∧ iv = .int .i64 (i : Int) ∧ l.length = 4 + i ∧ Hid (OwnB wr w.heap.size ov l ∧ Below w.heap.size w wr)) (fun _ iv _ => 40 - (intOf iv).toNat)
      case atStart => exact ⟨0, headL W H, by omega, Nat.zero_le _, rfl, rfl, Lib.hid ⟨HST.out, HBY.out⟩⟩
      case round =>
        clear HST HBY
        obtain ⟨i, l, hi, hi0, rfl, hl, hR⟩ := hrel
        obtain ⟨wo, rfl⟩ : ∃ wo, wo = wr := ⟨_, rfl⟩
        by_cases hend : i = 0 ∨ i = 40
        · have HL := Lib.hid hl
          rcases hend with h | h
          · have h1 : decide (i < 0) = false := by first | (simp; done) | (simp; omega)
            have h1' : ¬ i < 0 := by omega
            clear hl h
            go_wp2_with fail
            go_ret
            obtain ⟨D, d, rfl, hlb⟩ := OwnB.lbn hR.out.1 rfl
            exact ⟨D, _, d, rfl, ⟨l, hlb⟩, by rw [HL.out]; omega, hR.out.2⟩
          · subst h
            by_cases h2 : 40 < 0
            · clear hl
              go_wp2_with fail
              go_ret
              obtain ⟨D, d, rfl, hlb⟩ := OwnB.lbn hR.out.1 rfl
              exact ⟨D, _, d, rfl, ⟨l, hlb⟩, by rw [HL.out]; exact Nat.le_refl _, hR.out.2⟩
            · clear hl
              go_wp2_with fail
              go_ret
              obtain ⟨D, d, rfl, hlb⟩ := OwnB.lbn hR.out.1 rfl
              exact ⟨D, _, d, rfl, ⟨l, hlb⟩, by rw [HL.out]; exact Nat.le_refl _, hR.out.2⟩
        · exact absurd (show i = 0 ∨ i = 40 by omega) hend
    · obtain ⟨o2, ho2⟩ : ∃ o2, o + 2 = o2 := ⟨_, rfl⟩
      have HR' := Lib.hid (show ∀ j, j < n' → w.cell? ⟨b, o2 + j, none⟩ = some (.int .i64 (ns' j)) from fun j hj => by rw [← hns, ← ho2, Nat.add_assoc, Nat.add_comm 2 j]; exact HC.out (j + 2) (by omega))
      clear HC HR hns
      go_wp2_with fail
      have HST := Lib.hid (OwnB.new (base := w.heap.size) (c := 4) wz (headL W H) _ (head_vals (by omega) (by omega)) (by simp [headL]) rfl (by simp [maxLen]) (HBX.out.size))
      have HBY := Lib.hid (balloc HBX.out (.cells #[.int .u8 84, .int .u8 89, .int .u8 (W : Int), .int .u8 (H : Int)] 5))
      go_loopw [5, 6] (fun ov iv wr => ∃ (i : Nat) (l : List UInt8), i ≤ 40 ∧ i ≤ n' ∧ iv = .int .i64 (i : Int) ∧ l.length = 4 + i ∧ Hid (OwnB wr w.heap.size ov l ∧ Below w.heap.size w wr)) (fun _ iv _ => 40 - (intOf iv).toNat)
      case atStart => exact ⟨0, headL W H, by omega, Nat.zero_le _, rfl, rfl, Lib.hid ⟨HST.out, HBY.out⟩⟩
      case round =>
        clear HST HBY
        obtain ⟨i, l, hi, hin', rfl, hl, hR⟩ := hrel
        obtain ⟨wo, rfl⟩ : ∃ wo, wo = wr := ⟨_, rfl⟩
        by_cases hend : i = n' ∨ i = 40
        · have HL := Lib.hid hl
          rcases hend with h | h
          · have h1 : decide (i < n') = false := by first | (simp; done) | (simp; omega)
            have h1' : ¬ i < n' := by omega
            clear hl h
            go_wp2_with fail
            go_ret
            obtain ⟨D, d, rfl, hlb⟩ := OwnB.lbn hR.out.1 rfl
            exact ⟨D, _, d, rfl, ⟨l, hlb⟩, by rw [HL.out]; omega, hR.out.2⟩
          · subst h
            by_cases h2 : 40 < n'
            · clear hl
              go_wp2_with fail
              go_ret
              obtain ⟨D, d, rfl, hlb⟩ := OwnB.lbn hR.out.1 rfl
              exact ⟨D, _, d, rfl, ⟨l, hlb⟩, by rw [HL.out]; exact Nat.le_refl _, hR.out.2⟩
            · clear hl
              go_wp2_with fail
              go_ret
              obtain ⟨D, d, rfl, hlb⟩ := OwnB.lbn hR.out.1 rfl
              exact ⟨D, _, d, rfl, ⟨l, hlb⟩, by rw [HL.out]; exact Nat.le_refl _, hR.out.2⟩
        · have hi1 : i < n' := by omega
          have hi2 : i < 40 := by omega
          have hii : (i : Int) < (n' : Int) := by omega
          have hcell := HR'.out
          have hci := hcell i hi1
          have hci2 := (hR.out.2.cell (p := ⟨b, o2 + i, none⟩) hlt).trans hci
          have hlo : b < wo.heap.size := Nat.lt_of_lt_of_le hlt hR.out.2.size
          obtain ⟨v, hv⟩ : ∃ v, ns' i = v := ⟨_, rfl⟩
          rw [hv] at hci2
          obtain ⟨q, hq, hq8⟩ := place_fix v 8 (by decide)
          have HPV := Lib.hid (fun u => place_any v 8 u (by decide) (by decide))
          replace hq : v % 8 = (q : Int) := hq
          rw [hq] at HPV
          have hix := fun u => idx8 W q ⟨by omega, by omega⟩ hq8 u
          obtain ⟨x, hx⟩ : ∃ x, b8 W q = x := ⟨_, rfl⟩
          rw [hx] at hix
          have HO := Lib.hid hR.out.1
          have HB := Lib.hid hR.out.2
          have hll : l.length ≤ 44 := by omega
          have HL := Lib.hid hl
          have hd1 : ((W : Int) - 1) ≤ 255 := by omega
          clear hcell hci hv hq hx hl hR hend
          go_wp2_with fail
          refine (HPV.out _).mono ?_
          rintro e_ w_ ⟨rfl, rfl⟩
          go_wp2_with (at_builtin; refine Held.of ?_)
          unfold Held
          refine wpList_push (u := w) (.tmp 37) (.tmp 50) _ _ _ _ _ _ rfl rfl rfl rfl (OwnB.below HO.out (balloc (Below.refl _ _) _)) (one_new wo x (x.toNat : Int) rfl) (balloc HB.out _) (by omega) ?_
          intro v3 w3 hO3 hB3
          have HO3 := Lib.hid hO3
          have HB3 := Lib.hid hB3
          clear hO3 hB3
          go_wp2_with fail
          go_roundw
          case rel => exact ⟨i + 1, l ++ [x], by omega, by omega, by go_num, by rw [List.length_append, HL.out]; rfl, Lib.hid ⟨HO3.out, HB3.out⟩⟩
          case measure => simp [intOf]; omega
  · have hdn : decide ((1 : Int) < (n : Int)) = false := by simp; omega
    have hdn2 : ¬ 1 < n := by omega
    obtain ⟨n', hn'⟩ : ∃ n', n = n' := ⟨_, rfl⟩
    obtain ⟨ns', hns⟩ : ∃ f : Nat → Int, ns = f := ⟨_, rfl⟩
    subst hn' hns
    have HR' := Lib.hid HR.out
    have HBX := Lib.hid (Below.refl w.heap.size w)
    clear HR
    go_enter Try.func19, Try.ntmps19
    go_wp2_with fail
    have HST := Lib.hid (OwnB.new (base := w.heap.size) (c := 4) w (headL 1 1) _ (head_vals (by omega) (by omega)) (by simp [headL]) rfl (by simp [maxLen]) (HBX.out.size))
    have HBY := Lib.hid (balloc HBX.out (.cells #[.int .u8 84, .int .u8 89, .int .u8 1, .int .u8 1] 5))
    go_loopw [5, 6] (fun ov iv wr => ∃ (i : Nat) (l : List UInt8), i ≤ 40 ∧ i ≤ n ∧ iv = .int .i64 (i : Int) ∧ l.length = 4 + i ∧ Hid (OwnB wr w.heap.size ov l ∧ Below w.heap.size w wr)) (fun _ iv _ => 40 - (intOf iv).toNat)
    case atStart => exact ⟨0, headL 1 1, by omega, Nat.zero_le _, rfl, rfl, Lib.hid ⟨HST.out, HBY.out⟩⟩
    case round =>
      clear HST HBY
      obtain ⟨i, l, hi, hin, rfl, hl, hR⟩ := hrel
      obtain ⟨wo, rfl⟩ : ∃ wo, wo = wr := ⟨_, rfl⟩
      by_cases hend : i = n ∨ i = 40
      · have HL := Lib.hid hl
        rcases hend with h | h
        · have h1 : decide (i < n) = false := by first | (simp; done) | (simp; omega)
          have h1' : ¬ i < n := by omega
          clear hl h
          go_wp2_with fail
          go_ret
          obtain ⟨D, d, rfl, hlb⟩ := OwnB.lbn hR.out.1 rfl
          exact ⟨D, _, d, rfl, ⟨l, hlb⟩, by rw [HL.out]; omega, hR.out.2⟩
        · exfalso; omega
      · have hi1 : i < n := by omega
        have hi2 : i < 40 := by omega
        have hii : (i : Int) < (n : Int) := by omega
        obtain ⟨b, o, hA, hlt, hcell⟩ := HR'.out.2 (by omega)
        subst hA
        have hci := hcell i hi1
        have hci2 := (hR.out.2.cell (p := ⟨b, o + i, none⟩) hlt).trans hci
        have hlo : b < wo.heap.size := Nat.lt_of_lt_of_le hlt hR.out.2.size
        obtain ⟨v, hv⟩ : ∃ v, ns i = v := ⟨_, rfl⟩
        rw [hv] at hci2
        obtain ⟨q, hq, hq8⟩ := place_fix v 8 (by decide)
        have HPV := Lib.hid (fun u => place_any v 8 u (by decide) (by decide))
        replace hq : v % 8 = (q : Int) := hq
        rw [hq] at HPV
        have hix : ∀ u, (Instr.index 75 (.agg #[.int .u8 0, .int .u8 1, .int .u8 2, .int .u8 0, .int .u8 1, .int .u8 255, .int .u8 3, .int .u8 0]) (.int .i64 (q : Int))).run Try.prog u = .ok (.int .u8 ((b8 1 q).toNat : Int)) u := fun u => idx8 1 q ⟨by omega, by omega⟩ hq8 u
        obtain ⟨x, hx⟩ : ∃ x, b8 1 q = x := ⟨_, rfl⟩
        rw [hx] at hix
        have HO := Lib.hid hR.out.1
        have HB := Lib.hid hR.out.2
        have hll : l.length ≤ 44 := by omega
        have HL := Lib.hid hl
        have hd1 : ((1 : Int) - 1) ≤ 255 := by omega
        clear hcell hci hv hq hx hl hR hend
        go_wp2_with fail
        refine (HPV.out _).mono ?_
        rintro e_ w_ ⟨rfl, rfl⟩
        go_wp2_with (at_builtin; refine Held.of ?_)
        unfold Held
        refine wpList_push (u := w) (.tmp 37) (.tmp 50) _ _ _ _ _ _ rfl rfl rfl rfl (OwnB.below HO.out (balloc (Below.refl _ _) _)) (one_new wo x (x.toNat : Int) rfl) (balloc HB.out _) (by omega) ?_
        intro v3 w3 hO3 hB3
        have HO3 := Lib.hid hO3
        have HB3 := Lib.hid hB3
        clear hO3 hB3
        go_wp2_with fail
        go_roundw
        case rel => exact ⟨i + 1, l ++ [x], by omega, by omega, by go_num, by rw [List.length_append, HL.out]; rfl, Lib.hid ⟨HO3.out, HB3.out⟩⟩
        case measure => simp [intOf]; omega
set_option maxRecDepth 100000 in
set_option maxHeartbeats 3200000 in
theorem lmade_law (A1 : Option Addr) (n1 c1 : Nat) (ns1 : Nat → Int) (w : World) (hr1 : Ints w A1 n1 c1 ns1) (hn1 : n1 ≤ 9223372036854775807) :
    Calls Try.prog 4 #[.slice A1 n1 c1] w fun ed w' => ed = .returned (.bool true) ∧ Below w.heap.size w w' := by
  have HI1 := Lib.hid hr1
  have HBY := Lib.hid (fun W' h => lbytes_any A1 n1 c1 ns1 W' h hn1)
  clear hr1 hn1
  go_enter Try.func4, Try.ntmps4
  go_wp2_with fail
  have hst0 : Below w.heap.size w w := by (repeat' (first | exact Below.refl _ _ | exact Below.refl _ _ | refine balloc ?_ _ | refine Below.drew ?_ | refine below_drewN ?_ _ | refine bset ?_ (by first | omega | (simp <;> omega)) _))
  refine (lknown_any _).mono ?_
  rintro e_ w1 ⟨rfl, hb⟩
  have hst : Below w.heap.size w w1 := btrans hst0 hb
  have hbw : Below w.heap.size w w1 := hst
  replace HI1 := Lib.hid (HI1.out.below hst)
  clear hst hst0 hb 
  go_wp2_with fail
  have hst0 : Below w1.heap.size w1 w1 := by (repeat' (first | exact Below.refl _ _ | exact Below.refl _ _ | refine balloc ?_ _ | refine Below.drew ?_ | refine below_drewN ?_ _ | refine bset ?_ (by first | omega | (simp <;> omega)) _))
  refine (HBY.out _ (HI1.out.below hst0)).mono ?_
  rintro e_ w2 ⟨bA, nb, cb, rfl, hlb, hnb, hb⟩
  have hst : Below w1.heap.size w1 w2 := btrans hst0 hb
  replace hbw : Below w.heap.size w w2 := btrans hbw hst
  replace HI1 := Lib.hid (HI1.out.below hst)
  clear hst hst0 hb 
  obtain ⟨lb, hB⟩ := hlb
  have HhB := Lib.hid hB
  clear hB
  go_wp2_with (at_builtin; refine Held.of ?_)
  unfold Held
  have hst0 : Below w2.heap.size w2 w2 := by (repeat' (first | exact Below.refl _ _ | exact Below.refl _ _ | refine balloc ?_ _ | refine Below.drew ?_ | refine below_drewN ?_ _ | refine bset ?_ (by first | omega | (simp <;> omega)) _))
  have hLn := LB.len ((HhB.out.below hst0) : LB _ _ nb _ _)
  refine wpList_copy (.tmp 13) (.tmp 14) _ _ _ _ rfl rfl (by first | rfl | (rw [size_alloc]; rfl) | (rw [size_alloc, size_alloc]; rfl)) rfl ((HhB.out.below hst0)).1 (by omega) ?_
  intro vcb w3 hO hb
  have hst : Below w2.heap.size w2 w3 := btrans hst0 hb
  replace hbw : Below w.heap.size w w3 := btrans hbw hst
  replace HI1 := Lib.hid (HI1.out.below hst)
  replace HhB := Lib.hid (HhB.out.below hst)
  clear hst hst0 hb 
  obtain ⟨Acb, ccb, rfl, hcb⟩ := hO.lbn hLn
  clear hO hLn
  have Hhcb := Lib.hid hcb
  clear hcb
  rcases take_ways nb lb with ⟨er, he, hte⟩ | ⟨X, Y, pix, h12, hte⟩
  · have HTN := Lib.hid (fun A c W' hb => ltake_none A nb c lb W' hb er hte)
    have HTR := Lib.hid (fun A c W' hb => rtake_none A nb c lb W' hb er hte)
    have he0 : (er == er) = true := by simp
    clear he hte
    go_wp2_with fail
    have hst0 : Below w3.heap.size w3 w3 := by (repeat' (first | exact Below.refl _ _ | exact Below.refl _ _ | refine balloc ?_ _ | refine Below.drew ?_ | refine below_drewN ?_ _ | refine bset ?_ (by first | omega | (simp <;> omega)) _))
    refine (HTN.out _ _ _ (Hhcb.out.below hst0)).mono ?_
    rintro e_ w4 ⟨rfl, hb⟩
    have hst : Below w3.heap.size w3 w4 := btrans hst0 hb
    replace hbw : Below w.heap.size w w4 := btrans hbw hst
    replace HI1 := Lib.hid (HI1.out.below hst)
    replace HhB := Lib.hid (HhB.out.below hst)
    replace Hhcb := Lib.hid (Hhcb.out.below hst)
    clear hst hst0 hb 
    go_wp2_with fail
    have hst0 : Below w4.heap.size w4 (w4.alloc (.cells #[.int .i64 0, .int .i64 0, .slice none 0 0] 24)) := by (repeat' (first | exact Below.refl _ _ | exact Below.refl _ _ | refine balloc ?_ _ | refine Below.drew ?_ | refine below_drewN ?_ _ | refine bset ?_ (by first | omega | (simp <;> omega)) _))
    refine (HTR.out _ _ _ ((HhB.out.below hst0)).1).mono ?_
    rintro e_ w5 ⟨rfl, hb⟩
    have hst : Below w4.heap.size w4 w5 := btrans hst0 hb
    have Kv := (Blk.new w4 24 #[.int .i64 0, .int .i64 0, .slice none 0 0])
    replace Kv := Kv.below hb Kv.lt
    replace hbw : Below w.heap.size w w5 := btrans hbw hst
    replace HI1 := Lib.hid (HI1.out.below hst)
    replace HhB := Lib.hid (HhB.out.below hst)
    replace Hhcb := Lib.hid (Hhcb.out.below hst)
    clear hst hst0 hb 
    have lKv := Kv.lt
    have cKv0 := Kv.cell 0
    have cKv1 := Kv.cell 1
    have cKv2 := Kv.cell 2
    simp only [List.getElem?_toArray, List.getElem?_cons_succ, List.getElem?_cons_zero] at cKv0 cKv1 cKv2
    go_wp2_with fail
    have hst0 : Below w5.heap.size w5 (w5.alloc (.cells #[.int .i64 0, .int .i64 0, .slice none 0 0] 24)) := by (repeat' (first | exact Below.refl _ _ | exact Below.refl _ _ | refine balloc ?_ _ | refine Below.drew ?_ | refine below_drewN ?_ _ | refine bset ?_ (by first | omega | (simp <;> omega)) _))
    refine (hpage_any _ _ _ _ _ _ _ _ _ _ _ (nil_lb _) (nil_lb _)).mono ?_
    rintro e_ w6 ⟨rfl, hb⟩
    have hst : Below w5.heap.size w5 w6 := btrans hst0 hb
    replace Kv := (Kv.alloc (.cells #[.int .i64 0, .int .i64 0, .slice none 0 0] 24))
    have Ku := (Blk.new w5 24 #[.int .i64 0, .int .i64 0, .slice none 0 0])
    replace Kv := Kv.below hb Kv.lt
    replace Ku := Ku.below hb Ku.lt
    replace hbw : Below w.heap.size w w6 := btrans hbw hst
    replace HI1 := Lib.hid (HI1.out.below hst)
    replace HhB := Lib.hid (HhB.out.below hst)
    replace Hhcb := Lib.hid (Hhcb.out.below hst)
    clear hst hst0 hb lKv cKv0 cKv1 cKv2
    have lKv := Kv.lt
    have cKv0 := Kv.cell 0
    have cKv1 := Kv.cell 1
    have cKv2 := Kv.cell 2
    have lKu := Ku.lt
    have cKu0 := Ku.cell 0
    have cKu1 := Ku.cell 1
    have cKu2 := Ku.cell 2
    simp only [List.getElem?_toArray, List.getElem?_cons_succ, List.getElem?_cons_zero] at cKv0 cKv1 cKv2 cKu0 cKu1 cKu2
    simp only [decide_true]
    go_wp2_with fail
    go_ret
    exact ⟨by first | rfl | (simp; done), by (repeat' (first | exact hbw | exact Below.refl _ _ | refine balloc ?_ _ | refine Below.drew ?_ | refine below_drewN ?_ _ | refine bset ?_ (by first | omega | (simp <;> omega)) _))⟩
  · obtain ⟨K, hK⟩ : ∃ K, pix.length = K := ⟨_, rfl⟩
    have HTO := Lib.hid (fun A c W' hb => ltake_ok A nb c lb W' h12 hb X Y pix K hte hK)
    have HTR := Lib.hid (fun A c W' hb => rtake_ok A nb c lb W' h12 hb X Y pix K hte hK)
    clear hte hK h12
    go_wp2_with fail
    have hst0 : Below w3.heap.size w3 w3 := by (repeat' (first | exact Below.refl _ _ | exact Below.refl _ _ | refine balloc ?_ _ | refine Below.drew ?_ | refine below_drewN ?_ _ | refine bset ?_ (by first | omega | (simp <;> omega)) _))
    refine (HTO.out _ _ _ (Hhcb.out.below hst0)).mono ?_
    rintro e_ w4 ⟨Dv, fv, rfl, hv, hb⟩
    have hst : Below w3.heap.size w3 w4 := btrans hst0 hb
    replace hbw : Below w.heap.size w w4 := btrans hbw hst
    replace HI1 := Lib.hid (HI1.out.below hst)
    replace HhB := Lib.hid (HhB.out.below hst)
    replace Hhcb := Lib.hid (Hhcb.out.below hst)
    clear hst hst0 hb 
    have Hhv := Lib.hid hv
    clear hv
    go_wp2_with fail
    have hst0 : Below w4.heap.size w4 (w4.alloc (.cells #[.int .i64 (X : Int), .int .i64 (Y : Int), .slice Dv K fv] 24)) := by (repeat' (first | exact Below.refl _ _ | exact Below.refl _ _ | refine balloc ?_ _ | refine Below.drew ?_ | refine below_drewN ?_ _ | refine bset ?_ (by first | omega | (simp <;> omega)) _))
    refine (HTR.out _ _ _ ((HhB.out.below hst0)).1).mono ?_
    rintro e_ w5 ⟨Du, fu, rfl, hu, hb⟩
    have hst : Below w4.heap.size w4 w5 := btrans hst0 hb
    have Kv := (Blk.new w4 24 #[.int .i64 (X : Int), .int .i64 (Y : Int), .slice Dv K fv])
    replace Kv := Kv.below hb Kv.lt
    replace hbw : Below w.heap.size w w5 := btrans hbw hst
    replace HI1 := Lib.hid (HI1.out.below hst)
    replace HhB := Lib.hid (HhB.out.below hst)
    replace Hhcb := Lib.hid (Hhcb.out.below hst)
    replace Hhv := Lib.hid (Hhv.out.below hst)
    clear hst hst0 hb 
    have Hhu := Lib.hid hu
    clear hu
    have lKv := Kv.lt
    have cKv0 := Kv.cell 0
    have cKv1 := Kv.cell 1
    have cKv2 := Kv.cell 2
    simp only [List.getElem?_toArray, List.getElem?_cons_succ, List.getElem?_cons_zero] at cKv0 cKv1 cKv2
    go_wp2_with fail
    have hst0 : Below w5.heap.size w5 (w5.alloc (.cells #[.int .i64 (X : Int), .int .i64 (Y : Int), .slice Du K fu] 24)) := by (repeat' (first | exact Below.refl _ _ | exact Below.refl _ _ | refine balloc ?_ _ | refine Below.drew ?_ | refine below_drewN ?_ _ | refine bset ?_ (by first | omega | (simp <;> omega)) _))
    refine (hpage_any _ _ _ _ _ _ _ _ _ _ _ (Hhv.out.below hst0) (Hhu.out.below hst0)).mono ?_
    rintro e_ w6 ⟨rfl, hb⟩
    have hst : Below w5.heap.size w5 w6 := btrans hst0 hb
    replace Kv := (Kv.alloc (.cells #[.int .i64 (X : Int), .int .i64 (Y : Int), .slice Du K fu] 24))
    have Ku := (Blk.new w5 24 #[.int .i64 (X : Int), .int .i64 (Y : Int), .slice Du K fu])
    replace Kv := Kv.below hb Kv.lt
    replace Ku := Ku.below hb Ku.lt
    replace hbw : Below w.heap.size w w6 := btrans hbw hst
    replace HI1 := Lib.hid (HI1.out.below hst)
    replace HhB := Lib.hid (HhB.out.below hst)
    replace Hhcb := Lib.hid (Hhcb.out.below hst)
    replace Hhv := Lib.hid (Hhv.out.below hst)
    replace Hhu := Lib.hid (Hhu.out.below hst)
    clear hst hst0 hb lKv cKv0 cKv1 cKv2
    have lKv := Kv.lt
    have cKv0 := Kv.cell 0
    have cKv1 := Kv.cell 1
    have cKv2 := Kv.cell 2
    have lKu := Ku.lt
    have cKu0 := Ku.cell 0
    have cKu1 := Ku.cell 1
    have cKu2 := Ku.cell 2
    simp only [List.getElem?_toArray, List.getElem?_cons_succ, List.getElem?_cons_zero] at cKv0 cKv1 cKv2 cKu0 cKu1 cKu2
    simp only [decide_true]
    go_wp2_with fail
    go_ret
    exact ⟨by first | rfl | (simp; done), by (repeat' (first | exact hbw | exact Below.refl _ _ | refine balloc ?_ _ | refine Below.drew ?_ | refine below_drewN ?_ _ | refine bset ?_ (by first | omega | (simp <;> omega)) _))⟩
end Go.Proofs.Ytfmkdccpgkbnoaa.lf
