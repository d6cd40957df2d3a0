/-
  Put's closure: a pixel's three bytes are blended. (PRUNE)
-/
import Derived.Test.YtegpjjkbbdfggaaPage
import Derived.Test.YtegpjjkbbdfggaaUpTail
import Derived.BigQuiet
namespace Go.Proofs.Ytegpjjkbbdfggaa.rg
set_option linter.unusedVariables false
set_option linter.unusedSimpArgs false
open Go.RowKit bs sp ik

/-- what the two boxes and the bytes' block hold while Put goes on -/
def PRel (g n kB pB : Nat) (kv pv : Array Value) (B : Nat → Int) (wr : World) : Prop :=
  ∃ cs, Blk wr g 5 cs ∧ Holds cs n B ∧ Blk wr kB 62 kv ∧ Blk wr pB 46 pv
theorem PRel.below {g n kB pB : Nat} {kv pv : Array Value} {B : Nat → Int} {wr w' : World} (h : PRel g n kB pB kv pv B wr) (hb : Below wr.heap.size wr w') : PRel g n kB pB kv pv B w' := by
  obtain ⟨cs, h1, h2, h3, h4⟩ := h
  exact ⟨cs, h1.below hb h1.lt, h2, h3.below hb h3.lt, h4.below hb h4.lt⟩
theorem PRel.ext {g n kB pB : Nat} {kv pv : Array Value} {B C : Nat → Int} {wr : World} (h : PRel g n kB pB kv pv B wr) (e : ∀ j, j < n → B j = C j) : PRel g n kB pB kv pv C wr := by
  obtain ⟨cs, h1, h2, h3, h4⟩ := h
  exact ⟨cs, h1, h2.ext e, h3, h4⟩
theorem PRel.put {g n kB pB : Nat} {kv pv : Array Value} {B : Nat → Int} {wr : World} (h : PRel g n kB pB kv pv B wr) (k : Nat) (v : Int) (h0 : 0 ≤ v) (h1 : v ≤ 255) (hk : kB ≠ g) (hp : pB ≠ g) : PRel g n kB pB kv pv (fun j => if j = k then v else B j) (wr.setCell ⟨g, k, none⟩ (.int .u8 v)) := by
  obtain ⟨cs, h1', h2, h3, h4⟩ := h
  exact ⟨_, h1'.set_ k _, h2.put k v h0 h1, h3.far hk _, h4.far hp _⟩
theorem Holds.bd {cs : Array Value} {n : Nat} {B : Nat → Int} (h : Holds cs n B) (j : Nat) (hj : j < n) : 0 ≤ B j ∧ B j ≤ 255 := (h.2 j hj).2
/-- an ink's byte -/
def chan (x y z : Int) (c : Nat) : Int := if c = 0 then x else if c = 1 then y else z
theorem chan_bd {x y z : Int} (hx : 0 ≤ x ∧ x ≤ 255) (hy : 0 ≤ y ∧ y ≤ 255) (hz : 0 ≤ z ∧ z ≤ 255) (c : Nat) : 0 ≤ chan x y z c ∧ chan x y z c ≤ 255 := by unfold chan; (repeat' split) <;> assumption
/-- c bytes from m on are blended -/
def stg (x y z a : Int) (m c : Nat) (B : Nat → Int) (j : Nat) : Int := if m ≤ j ∧ j < m + c then blend (B j) (chan x y z (j - m)) a else B j
theorem stg_zero (x y z a : Int) (m : Nat) (B : Nat → Int) (j : Nat) : stg x y z a m 0 B j = B j := by unfold stg; rw [if_neg (by omega)]
theorem stg_at (x y z a : Int) (m c : Nat) (B : Nat → Int) : stg x y z a m c B (m + c) = B (m + c) := by unfold stg; rw [if_neg (by omega)]
theorem stg_succ (x y z a : Int) (m c : Nat) (B : Nat → Int) (j : Nat) : (if j = m + c then blend (B (m + c)) (chan x y z c) a else stg x y z a m c B j) = stg x y z a m (c + 1) B j := by
  unfold stg
  by_cases e : j = m + c
  · subst e
    rw [if_pos rfl, if_pos (by omega), show m + c - m = c by omega]
  · rw [if_neg e]
    by_cases h : m ≤ j ∧ j < m + c
    · rw [if_pos h, if_pos (by omega)]
    · rw [if_neg h, if_neg (by omega)]

theorem ixb0 (x y z : Int) (w : World) : (Instr.index 133 (.agg #[.int .u8 x, .int .u8 y, .int .u8 z]) (.int .i64 0)).run Try.prog w = .ok (.int .u8 x) w := by kernel_rfl
theorem ixb1 (x y z : Int) (w : World) : (Instr.index 133 (.agg #[.int .u8 x, .int .u8 y, .int .u8 z]) (.int .i64 1)).run Try.prog w = .ok (.int .u8 y) w := by kernel_rfl
theorem ixb2 (x y z : Int) (w : World) : (Instr.index 133 (.agg #[.int .u8 x, .int .u8 y, .int .u8 z]) (.int .i64 2)).run Try.prog w = .ok (.int .u8 z) w := by kernel_rfl

set_option maxRecDepth 100000 in
set_option maxHeartbeats 3200000 in
theorem put1_any (g n d kB pB m : Nat) (W H x y z a : Int) (B : Nat → Int) (w : World) (hn : n ≤ 12288) (hnd : n ≤ d) (hm : m + 3 ≤ n) (hx : 0 ≤ x ∧ x ≤ 255) (hy : 0 ≤ y ∧ y ≤ 255) (hz : 0 ≤ z ∧ z ≤ 255) (ha : 0 ≤ a ∧ a ≤ 255) (hk : kB ≠ g) (hp : pB ≠ g)
    (hR : PRel g n kB pB #[.int .u8 x, .int .u8 y, .int .u8 z, .int .u8 a] #[.int .i64 W, .int .i64 H, .slice (some ⟨g, 0, none⟩) n d] B w) :
    Calls Try.prog 100 #[.int .i64 (m : Int), .pointer (some ⟨kB, 0, none⟩), .pointer (some ⟨pB, 0, none⟩)] w fun e w' => e = .returned (.tuple #[]) ∧
      PRel g n kB pB #[.int .u8 x, .int .u8 y, .int .u8 z, .int .u8 a] #[.int .i64 W, .int .i64 H, .slice (some ⟨g, 0, none⟩) n d] (stg x y z a m 3 B) w' ∧ w.grownBy w' (some g) := by
  obtain ⟨cs, h1, h2, h3, h4⟩ := id hR
  have k0 := h3.cell 0
  have k1 := h3.cell 1
  have k2 := h3.cell 2
  simp only [List.getElem?_toArray, List.getElem?_cons_succ, List.getElem?_cons_zero] at k0 k1 k2
  have HR := Lib.hid hR
  have HX := Lib.hid hx
  have HY := Lib.hid hy
  have HZ := Lib.hid hz
  have HA := Lib.hid ha
  clear h1 h2 h3 h4 hR hx hy hz ha
  go_enter Try.func100, Try.ntmps100
  go_wp2_with fail
  go_loopw [13] (fun cv wr => ∃ c : Nat, c ≤ 3 ∧ cv = .int .i64 (c : Int) ∧ PRel g n kB pB #[.int .u8 x, .int .u8 y, .int .u8 z, .int .u8 a] #[.int .i64 W, .int .i64 H, .slice (some ⟨g, 0, none⟩) n d] (stg x y z a m c B) wr ∧ w.grownBy wr (some g)) (fun cv _ => 3 - (intOf cv).toNat)
  case atStart => exact ⟨0, by omega, rfl, HR.out.ext fun j _ => (stg_zero _ _ _ _ _ _ _).symm, World.grownBy.refl _ _⟩
  case round =>
    clear HR k0 k1 k2
    obtain ⟨c, hc, rfl, hR, hG⟩ := hrel
    obtain ⟨cs, h1, h2, h3, h4⟩ := id hR
    by_cases hc3 : c = 3
    · subst hc3
      clear h1 h2 h3 h4
      go_wp2_with fail
      go_end0
      exact ⟨rfl, hR, hG⟩
    · have hsg := stg_at x y z a m c B
      have hbd := h2.bd (m + c) (by omega)
      have p2 := h4.cell 2
      have k3 := h3.cell 3
      have gc : wr.cell? ⟨g, m + c, none⟩ = some (.int .u8 (stg x y z a m c B (m + c))) := by rw [h1.cell]; exact (h2.2 (m + c) (by omega)).1
      simp only [List.getElem?_toArray, List.getElem?_cons_succ, List.getElem?_cons_zero] at p2 k3
      rw [hsg] at gc hbd
      have hgl := h1.lt
      have hkl := h3.lt
      have hpl := h4.lt
      obtain ⟨v, hv⟩ : ∃ v, B (m + c) = v := ⟨_, rfl⟩
      rw [hv] at gc hbd
      have hcb := chan_bd HX.out HY.out HZ.out c
      have hbl := blend_bd v (chan x y z c) a hbd hcb HA.out
      obtain ⟨t, ht⟩ : ∃ t, blend v (chan x y z c) a = t := ⟨_, rfl⟩
      have HBL := Lib.hid (fun W' => ht ▸ blend_any v (chan x y z c) a W' hbd hcb HA.out)
      rw [ht] at hbl
      have hst := fun j => stg_succ x y z a m c B j
      rw [hv, ht] at hst
      have HN := Lib.hid fun (wz : World) (hb : Below wr.heap.size wr wz) => (⟨((hR.below hb).put (m + c) t hbl.1 hbl.2 hk hp).ext fun j _ => hst j, gtrans (gbelow hG hb) (only_setCell (World.grownBy.refl _ _) (.inl rfl) _)⟩ : PRel g n kB pB _ _ (stg x y z a m (c + 1) B) (wz.setCell ⟨g, m + c, none⟩ (.int .u8 t)) ∧ w.grownBy (wz.setCell ⟨g, m + c, none⟩ (.int .u8 t)) (some g))
      have HCL := Lib.hid fun (wz : World) (hb : Below wr.heap.size wr wz) => show wz.cell? ⟨g, m + c, none⟩ = some (.int .u8 v) ∧ wz.frozen? ⟨g, m + c, none⟩ = false from ⟨(hb.cell (p := ⟨g, m + c, none⟩) hgl).trans gc, (h1.below hb hgl).frozen _⟩
      have U0 := fun u : Up wr => (u.cell (p := ⟨pB, 2, none⟩) hpl).trans p2
      have U1 := fun u : Up wr => (u.cell (p := ⟨kB, 3, none⟩) hkl).trans k3
      have U2 := fun u : Up wr => (u.cell (p := ⟨g, m + c, none⟩) hgl).trans gc
      have j0 : (0 : Int) ≤ (m : Int) + (c : Int) := by omega
      have j1 : (m : Int) + (c : Int) < (n : Int) := by omega
      have j2 : ((m : Int) + (c : Int)).toNat = m + c := by omega
      have jw : IntKind.i64.wrap ((m : Int) + (c : Int)) = (m : Int) + (c : Int) := by simp only [IntKind.wrap, IntKind.signed, IntKind.bits]; simp; omega
      clear h1 h2 h3 h4 hR hG hsg hbd gc p2 k3 hv hcb hbl hst ht
      rcases (show c = 0 ∨ c = 1 ∨ c = 2 by omega) with rfl | rfl | rfl
      · have HU := Lib.hid (fun u : Up wr => up_same (u := u) (HBL.out u.val))
        rw [show chan x y z 0 = x from rfl] at HU
        have ix := ixb0 x y z
        have m1 : (m : Int) < (n : Int) := by omega
        have m0 : (0 : Int) ≤ (m : Int) := by omega
        replace U2 : ∀ u : Up wr, u.val.cell? ⟨g, m, none⟩ = some (.int .u8 v) := U2
        clear j0 j1 j2 jw
        go_wp2_with fail
        refine wp_region_up_tail 17 (by kernel_rfl) (by kernel_rfl) ?_
        simp only [List.take_succ_cons, List.take_zero, List.drop_succ_cons, List.drop_zero]
        repeat (go_big_quiet_step (fail))
        go_big_quiet_step (exact HU.out _)
        repeat (go_big_quiet_step (fail))
        refine wpQuiet_nil ?_
        rintro _ ⟨uq, rfl⟩
        obtain ⟨cv9, fv9⟩ := HCL.out uq.val uq.ok
        replace cv9 : uq.val.cell? ⟨g, m, none⟩ = some (.int .u8 v) := cv9
        replace fv9 : uq.val.frozen? ⟨g, m, none⟩ = false := fv9
        have HN2 := Lib.hid (HN.out uq.val uq.ok)
        clear HN HCL HU U0 U1 U2 HBL
        generalize hwx : uq.val = wz at *
        clear hwx uq
        go_wp2_with fail
        go_roundw
        case rel => exact ⟨0 + 1, by omega, by go_num, HN2.out⟩
        case measure => simp [intOf]
      · have HU := Lib.hid (fun u : Up wr => up_same (u := u) (HBL.out u.val))
        rw [show chan x y z 1 = y from rfl] at HU
        have ix := ixb1 x y z
        have e1 : (m : Int) + ((1 : Nat) : Int) = (m : Int) + 1 := by omega
        rw [e1] at j0 j1 j2 jw
        clear e1
        go_wp2_with fail
        refine wp_region_up_tail 17 (by kernel_rfl) (by kernel_rfl) ?_
        simp only [List.take_succ_cons, List.take_zero, List.drop_succ_cons, List.drop_zero]
        repeat (go_big_quiet_step (fail))
        go_big_quiet_step (exact HU.out _)
        repeat (go_big_quiet_step (fail))
        refine wpQuiet_nil ?_
        rintro _ ⟨uq, rfl⟩
        obtain ⟨cv9, fv9⟩ := HCL.out uq.val uq.ok
        have HN2 := Lib.hid (HN.out uq.val uq.ok)
        clear HN HCL HU U0 U1 U2 HBL
        generalize hwx : uq.val = wz at *
        clear hwx uq
        go_wp2_with fail
        go_roundw
        case rel => exact ⟨1 + 1, by omega, by go_num, HN2.out⟩
        case measure => simp [intOf]
      · have HU := Lib.hid (fun u : Up wr => up_same (u := u) (HBL.out u.val))
        rw [show chan x y z 2 = z from rfl] at HU
        have ix := ixb2 x y z
        have e1 : (m : Int) + ((2 : Nat) : Int) = (m : Int) + 2 := by omega
        rw [e1] at j0 j1 j2 jw
        clear e1
        go_wp2_with fail
        refine wp_region_up_tail 17 (by kernel_rfl) (by kernel_rfl) ?_
        simp only [List.take_succ_cons, List.take_zero, List.drop_succ_cons, List.drop_zero]
        repeat (go_big_quiet_step (fail))
        go_big_quiet_step (exact HU.out _)
        repeat (go_big_quiet_step (fail))
        refine wpQuiet_nil ?_
        rintro _ ⟨uq, rfl⟩
        obtain ⟨cv9, fv9⟩ := HCL.out uq.val uq.ok
        have HN2 := Lib.hid (HN.out uq.val uq.ok)
        clear HN HCL HU U0 U1 U2 HBL
        generalize hwx : uq.val = wz at *
        clear hwx uq
        go_wp2_with fail
        go_roundw
        case rel => exact ⟨2 + 1, by omega, by go_num, HN2.out⟩
        case measure => simp [intOf]
end Go.Proofs.Ytegpjjkbbdfggaa.rg
