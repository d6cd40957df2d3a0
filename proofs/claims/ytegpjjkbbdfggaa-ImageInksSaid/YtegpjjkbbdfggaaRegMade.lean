/-
  Regions: made, row by row. (PRUNE)
-/
import Derived.Test.YtegpjjkbbdfggaaRegMay
import Derived.Deep.RegionHeld3
namespace Go.Proofs.Ytegpjjkbbdfggaa.rg
set_option linter.unusedVariables false
set_option linter.unusedSimpArgs false
open Go.RowKit bs sp ik

/-- a row of slices of which the first k hold the runs L -/
def Slices (w : World) (cs : Array Value) (H k : Nat) (L : Nat → List (Int × Int)) : Prop :=
  cs.size = H ∧ (∀ j, j < k → (L j).length ≤ 9223372036854775807 ∧ ∃ Aj cj, cs[j]? = some (.slice Aj (L j).length cj) ∧ Runs w Aj (L j).length cj (L j))
theorem Slices.below {w w' : World} {cs : Array Value} {H k : Nat} {L : Nat → List (Int × Int)} (h : Slices w cs H k L) (hb : Below w.heap.size w w') : Slices w' cs H k L := by
  refine ⟨h.1, fun j hj => ?_⟩
  obtain ⟨hl, Aj, cj, h1, h2⟩ := h.2 j hj
  exact ⟨hl, Aj, cj, h1, h2.below hb⟩
theorem Slices.put {w : World} {cs : Array Value} {H k : Nat} {L : Nat → List (Int × Int)} (h : Slices w cs H k L) (hk : k < H) {A : Option Addr} {c : Nat} (hl : (L k).length ≤ 9223372036854775807) (hr : Runs w A (L k).length c (L k)) :
    Slices w (cs.setIfInBounds k (.slice A (L k).length c)) H (k + 1) L := by
  refine ⟨by rw [Array.size_setIfInBounds]; exact h.1, fun j hj => ?_⟩
  by_cases e : j = k
  · subst e
    exact ⟨hl, A, c, by rw [Array.getElem?_setIfInBounds]; simp [h.1, hk], hr⟩
  · obtain ⟨hl, Aj, cj, h1, h2⟩ := h.2 j (by omega)
    exact ⟨hl, Aj, cj, by rw [Array.getElem?_setIfInBounds, if_neg (fun x => e x.symm)]; exact h1, h2⟩
theorem Slices.keep {w w' : World} {cs : Array Value} {H k : Nat} {L : Nat → List (Int × Int)} (h : Slices w cs H k L) (hc : ∀ (A : Option Addr) (n c : Nat) (l : List (Int × Int)), Runs w A n c l → Runs w' A n c l) : Slices w' cs H k L := by
  refine ⟨h.1, fun j hj => ?_⟩
  obtain ⟨hl, Aj, cj, h1, h2⟩ := h.2 j hj
  exact ⟨hl, Aj, cj, h1, hc _ _ _ _ h2⟩
theorem Runs.setSlice {w : World} {p : Addr} {A0 : Option Addr} {n0 c0 : Nat} (hp : w.cell? p = some (.slice A0 n0 c0)) (u : Value) {A : Option Addr} {n c : Nat} {l : List (Int × Int)} (h : Runs w A n c l) : Runs (w.setCell p u) A n c l := by
  obtain ⟨h1, h2, h3⟩ := h
  refine ⟨h1, h2, fun hn => ?_⟩
  obtain ⟨b, o, e, hlt, hc⟩ := h3 hn
  refine ⟨b, o, e, by simpa using hlt, fun j hj => ?_⟩
  obtain ⟨q1, q2⟩ := hc j hj
  refine ⟨?_, ?_⟩
  · rw [World.cell?_setCell_other (h := fun e => by rw [e, q1] at hp; cases hp)]; exact q1
  · rw [World.cell?_setCell_other (h := fun e => by rw [e, q2] at hp; cases hp)]; exact q2
/-- made's loop behind k rounds -/
def MRel (W0 : World) (W H : Nat) (L : Nat → List (Int × Int)) (k : Nat) (wr : World) : Prop :=
  ∃ cs, Blk wr (W0.heap.size + 1) 107 cs ∧ Slices wr cs H k L ∧ (∀ j, j < H → ∃ A n c, cs[j]? = some (.slice A n c)) ∧ Blk wr (W0.heap.size + 1 + 1) 51 #[.int .i64 (W : Int), .int .i64 (H : Int), .slice (some ⟨W0.heap.size + 1, 0, none⟩) H H] ∧
    Blk wr W0.heap.size 51 #[.int .i64 0, .int .i64 0, .slice none 0 0] ∧ Below W0.heap.size W0 wr
theorem MRel.below {W0 wr w' : World} {W H k : Nat} {L : Nat → List (Int × Int)} (h : MRel W0 W H L k wr) (hb : Below wr.heap.size wr w') : MRel W0 W H L k w' := by
  obtain ⟨cs, h1, h2, h3, h4, h5, h6⟩ := h
  exact ⟨cs, h1.below hb h1.lt, h2.below hb, h3, h4.below hb h4.lt, h5.below hb h5.lt, btrans h6 hb⟩
theorem MRel.put {W0 wr : World} {W H k : Nat} {L : Nat → List (Int × Int)} (h : MRel W0 W H L k wr) (hk : k < H) {A : Option Addr} {n c : Nat} (hn : n = (L k).length) (hl : n ≤ 9223372036854775807) (hr : Runs wr A n c (L k)) :
    MRel W0 W H L (k + 1) (wr.setCell ⟨W0.heap.size + 1, k, none⟩ (.slice A n c)) := by
  subst hn
  obtain ⟨cs, h1, h2, h3, h4, h5, h6⟩ := h
  obtain ⟨A0, n0, c0, h0⟩ := h3 k hk
  have hc : wr.cell? ⟨W0.heap.size + 1, k, none⟩ = some (.slice A0 n0 c0) := by rw [h1.cell]; exact h0
  refine ⟨_, h1.set_ k _, (h2.keep fun A n c l hr => Runs.setSlice hc _ hr).put hk hl (Runs.setSlice hc _ hr), fun j hj => ?_, h4.far (by simp) _, h5.far (by simp) _, bset h6 (by simp) _⟩
  rw [Array.getElem?_setIfInBounds]
  by_cases e : k = j
  · subst e; simp [h2.1, hk]
  · rw [if_neg e]; exact h3 j hj
theorem MRel.start (w : World) (W H : Nat) (L : Nat → List (Int × Int)) : MRel w W H L 0
    (((w.alloc (.cells #[.int .i64 0, .int .i64 0, .slice none 0 0] 51)).alloc (.cells (madeCells #[.slice none 0 0] H) 107)).alloc (.cells #[.int .i64 (W : Int), .int .i64 (H : Int), .slice (some ⟨w.heap.size + 1, 0, none⟩) H H] 51)) := by
  have b0 := Blk.new w 51 #[.int .i64 0, .int .i64 0, .slice none 0 0]
  have b1 := Blk.new (w.alloc (.cells #[.int .i64 0, .int .i64 0, .slice none 0 0] 51)) 107 (madeCells #[.slice none 0 0] H)
  have b2 := Blk.new ((w.alloc (.cells #[.int .i64 0, .int .i64 0, .slice none 0 0] 51)).alloc (.cells (madeCells #[.slice none 0 0] H) 107)) 51 #[.int .i64 (W : Int), .int .i64 (H : Int), .slice (some ⟨w.heap.size + 1, 0, none⟩) H H]
  have s1 : ∀ (u : World) (o : Obj), (u.alloc o).heap.size = u.heap.size + 1 := fun u o => by simp
  simp only [s1] at b1 b2
  refine ⟨_, b1.alloc _, ⟨size_madeCells _ _, fun j hj => absurd hj (by omega)⟩, fun j hj => ⟨none, 0, 0, by simp [madeCells, hj, Nat.mod_one]⟩, b2, (b0.alloc _).alloc _, by (repeat' (first | exact Below.refl _ _ | exact Below.refl _ _ | refine balloc ?_ _ | refine Below.drew ?_ | refine below_drewN ?_ _ | refine bset ?_ (by first | omega | (simp <;> omega)) _))⟩
theorem MRel.rows {W0 wr w' : World} {W H k : Nat} {L : Nat → List (Int × Int)} (h : MRel W0 W H L k wr) (hk : H ≤ k) (hw : ∀ (cs : Array Value), Blk wr (W0.heap.size + 1) 107 cs → Blk w' (W0.heap.size + 1) 107 cs) (hr : ∀ (j : Nat) (A : Option Addr) (n c : Nat), j < H → Runs wr A n c (L j) → Runs w' A n c (L j)) :
    Rows w' (some ⟨W0.heap.size + 1, 0, none⟩) H H L := by
  obtain ⟨cs, h1, h2, h3, h4, h5, h6⟩ := h
  have h1' := hw _ h1
  refine ⟨Nat.le_refl _, fun _ => ⟨_, 0, rfl, h1'.lt, fun j hj => ?_⟩⟩
  obtain ⟨hl, Aj, cj, q1, q2⟩ := h2.2 j (by omega)
  exact ⟨hl, Aj, cj, by rw [Nat.zero_add, h1'.cell]; exact q1, hr _ _ _ _ hj q2⟩

theorem Runs.setInt {w : World} {p : Addr} (hp : ∀ k v, w.cell? p ≠ some (.int k v)) (u : Value) {A : Option Addr} {n c : Nat} {l : List (Int × Int)} (h : Runs w A n c l) : Runs (w.setCell p u) A n c l := by
  obtain ⟨h1, h2, h3⟩ := h
  refine ⟨h1, h2, fun hn => ?_⟩
  obtain ⟨b, o, e, hlt, hc⟩ := h3 hn
  refine ⟨b, o, e, by simpa using hlt, fun j hj => ?_⟩
  obtain ⟨q1, q2⟩ := hc j hj
  refine ⟨?_, ?_⟩
  · rw [World.cell?_setCell_other (h := fun e => hp _ _ (by rw [e, q1]))]; exact q1
  · rw [World.cell?_setCell_other (h := fun e => hp _ _ (by rw [e, q2]))]; exact q2
theorem Runs.setBox {w : World} {r : Nat} {t : TypeId} {A : Option Addr} {n c : Nat} {l : List (Int × Int)} (h : Runs w A n c l) (hl : ∀ (j : Nat) (hj : j < l.length), l[j].1 < l[j].2) {A0 : Option Addr} {n0 c0 : Nat} (K : Blk w r t #[.int .i64 0, .int .i64 0, .slice A0 n0 c0]) (u0 u1 u2 : Value) :
    Runs (((w.setCell ⟨r, 0, none⟩ u0).setCell ⟨r, 1, none⟩ u1).setCell ⟨r, 2, none⟩ u2) A n c l := by
  obtain ⟨h1, h2, h3⟩ := h
  refine ⟨h1, h2, fun hn => ?_⟩
  obtain ⟨b, o, e, hlt, hc⟩ := h3 hn
  have hne : b ≠ r := by
    rintro rfl
    obtain ⟨q1, q2⟩ := hc 0 (by omega)
    have q3 := hl 0 (by omega)
    rw [K.cell] at q1 q2
    simp only [Nat.zero_mul, Nat.add_zero] at q1 q2
    rcases (show o = 0 ∨ o = 1 ∨ 2 ≤ o by omega) with rfl | rfl | h
    · simp at q1 q2
      omega
    · simp at q2
    · rw [Array.getElem?_eq_none (by simp; omega)] at q2
      cases q2
  refine ⟨b, o, e, by simpa using hlt, fun j hj => ?_⟩
  obtain ⟨q1, q2⟩ := hc j hj
  have far : ∀ (v : World) (o1 o2 : Nat) (u : Value), (v.setCell ⟨r, o1, none⟩ u).cell? ⟨b, o2, none⟩ = v.cell? ⟨b, o2, none⟩ := fun v o1 o2 u => World.cell?_setCell_other v _ _ u (fun e => hne (Addr.mk.inj e).1.symm)
  refine ⟨?_, ?_⟩ <;> rw [far, far, far]
  · exact q1
  · exact q2
theorem norm_lt (l : List (Int × Int)) (x : Int) (j : Nat) (hj : j < (norm l x).length) : (norm l x)[j].1 < (norm l x)[j].2 := (may_each (may_rl (inRuns l) _ _ (Int.le_refl _)) j hj).2.1
/-- what a cell holds -/
def got (w : World) (p : Addr) : Value := (w.cell? p).getD undef
theorem got_of {w : World} {p : Addr} {v : Value} (h : w.cell? p = some v) : w.cell? p = some (got w p) := by unfold got; rw [h]; rfl
theorem SB {W0 a : World} {p q : Addr} {v : Value} (h : Below W0.heap.size W0 a ∧ a.cell? p = some v ∧ a.cell? q = some (got a q) ∧ a.frozen? q = false) : Below W0.heap.size W0 a := h.1
theorem keepM {W0 a w' : World} {b b2 o o2 : Nat} {v : Value} (hb : Below a.heap.size a w') (h : Below W0.heap.size W0 a ∧ a.cell? ⟨b, o, none⟩ = some v ∧ a.cell? ⟨b2, o2, none⟩ = some (got a ⟨b2, o2, none⟩) ∧ a.frozen? ⟨b2, o2, none⟩ = false) :
    Below W0.heap.size W0 w' ∧ w'.cell? ⟨b, o, none⟩ = some v ∧ w'.cell? ⟨b2, o2, none⟩ = some (got w' ⟨b2, o2, none⟩) ∧ w'.frozen? ⟨b2, o2, none⟩ = false := by
  obtain ⟨h1, h2, h3, h4⟩ := h
  exact ⟨btrans h1 hb, (hb.cell (p := ⟨b, o, none⟩) (block_lt_of_cell h2)).trans h2, got_of ((hb.cell (p := ⟨b2, o2, none⟩) (block_lt_of_cell h3)).trans h3), ((bcell hb).2 _ _ (block_lt_of_cell h3)).trans h4⟩
theorem keepS {W0 a : World} {b b2 o o2 : Nat} {v : Value} (u : Value) (hlo : W0.heap.size ≤ b2) (hne : b ≠ b2) (h : Below W0.heap.size W0 a ∧ a.cell? ⟨b, o, none⟩ = some v ∧ a.cell? ⟨b2, o2, none⟩ = some (got a ⟨b2, o2, none⟩) ∧ a.frozen? ⟨b2, o2, none⟩ = false) :
    Below W0.heap.size W0 (a.setCell ⟨b2, o2, none⟩ u) ∧ (a.setCell ⟨b2, o2, none⟩ u).cell? ⟨b, o, none⟩ = some v ∧ (a.setCell ⟨b2, o2, none⟩ u).cell? ⟨b2, o2, none⟩ = some (got (a.setCell ⟨b2, o2, none⟩ u) ⟨b2, o2, none⟩) ∧ (a.setCell ⟨b2, o2, none⟩ u).frozen? ⟨b2, o2, none⟩ = false := by
  obtain ⟨h1, h2, h3, h4⟩ := h
  refine ⟨bset h1 hlo _, ?_, got_of (World.cell?_setCell_same _ _ _ h3), ?_⟩
  · rw [World.cell?_setCell_other _ _ _ _ (fun e => hne (Addr.mk.inj e).1.symm)]; exact h2
  · simpa using h4
set_option maxRecDepth 100000 in
set_option maxHeartbeats 1600000 in
theorem made_any (W H : Nat) (f : FuncId) (cap : Array Value) (L : Nat → List (Int × Int)) (w : World) (hW : 1 ≤ W ∧ W ≤ 64) (hH : 1 ≤ H ∧ H ≤ 64) (hcf : ∀ (args : Array Value) (W : World), (callFunc f args).run Try.prog W = .ok (.enter f args) W)
    (hrow : ∀ (j : Nat) (W' : World), j < H → Below w.heap.size w W' → Calls Try.prog f (#[.int .i64 (j : Int)] ++ cap) W' fun e w' => ∃ A n c, e = .returned (.slice A n c) ∧ n ≤ 9223372036854775807 ∧ Runs w' A n c (L j) ∧ Below W'.heap.size W' w') :
    Calls Try.prog 109 #[.int .i64 (W : Int), .int .i64 (H : Int), .func (.func f) #[] cap] w fun e w' => ∃ g, w.heap.size < g ∧ e = .returned (.tuple #[.agg #[.int .i64 (W : Int), .int .i64 (H : Int), .slice (some ⟨g, 0, none⟩) H H], .int .i64 0]) ∧ Rows w' (some ⟨g, 0, none⟩) H H (fun j => norm (L j) W) ∧ Below w.heap.size w w' := by
  have HS1 := Lib.hid (rside_yes W hW)
  have HS2 := Lib.hid (rside_yes H hH)
  have HROW := Lib.hid hrow
  obtain ⟨i0, hi, hz0, hz1, hz2⟩ := info_parts (show (Try.prog.info? 107).map (fun i => (i.zero, i.size, i.bytes)) = some (some (.slice none 0 0), 1, 24) by kernel_rfl)
  have hmk := fun W => run_make_rowN (P := Try.prog) 49 107 i0 (.slice none 0 0) Try.underlying49 hi hz0 .i64 .i64 H H (Nat.le_refl _) (by rw [hz2]; omega) (by omega) W
  simp only [hz1, Nat.mul_one] at hmk
  have HST := Lib.hid (MRel.start w W H (fun j => norm (L j) W))
  have hHb : (0 : Int) ≤ (H : Int) ∧ (H : Int) ≤ 64 := by omega
  obtain ⟨hHb0, hHb1⟩ := hHb
  clear hrow hW
  go_enter Try.func109, Try.ntmps109
  go_wp2_with (go_at_call 111; first | (refine (HS1.out _).mono ?_; rintro e w' ⟨rfl, rfl⟩) | (refine (HS2.out _).mono ?_; rintro e w' ⟨rfl, rfl⟩))
  clear hmk hi hz0 hz1 hz2
  go_loopw [9, 27] (fun jv kv wr => ∃ k : Nat, k ≤ H ∧ kv = .int .i64 (k : Int) ∧ MRel w W H (fun j => norm (L j) W) k wr) (fun _ kv _ => H - (intOf kv).toNat)
  case atStart => exact ⟨0, by omega, rfl, HST.out⟩
  case round =>
    clear HST
    obtain ⟨k, hk, rfl, hM⟩ := hrel
    by_cases hlt : k < H
    · have d1 : decide ((k : Int) < (H : Int)) = true := by simp; omega
      have d2 : (0 : Int) ≤ (k : Int) ∧ (k : Int) < (H : Int) := by omega
      obtain ⟨d3, d4⟩ := d2
      have hM2 := hM
      obtain ⟨cs, q1, q2, q3, q4, q5, q6⟩ := hM2
      have c1 := q4.cell 2
      obtain ⟨v0, c2⟩ : ∃ v, wr.cell? ⟨w.heap.size + 1, k, none⟩ = some v := by
        obtain ⟨A, n, c, h0⟩ := q3 k hlt
        exact ⟨_, by rw [q1.cell]; exact h0⟩
      have c3 := q1.frozen k
      simp only [List.getElem?_toArray, List.getElem?_cons_succ, List.getElem?_cons_zero] at c1
      have hbw := q6
      have HBW := Lib.hid hbw
      clear q1 q2 q3 q4 q5 q6
      go_wp2_with fail
      have HS0 : (fun wX : World => Below w.heap.size w wX ∧ wX.cell? ⟨w.heap.size + 1 + 1, 2, none⟩ = some (.slice (some ⟨w.heap.size + 1, 0, none⟩) H H) ∧ wX.cell? ⟨w.heap.size + 1, k, none⟩ = some (got wX ⟨w.heap.size + 1, k, none⟩) ∧ wX.frozen? ⟨w.heap.size + 1, k, none⟩ = false) wr.drew := ⟨Below.drew hbw, c1, got_of c2, c3⟩
      clear c1 c2 c3
      go_region_held3 (fun wX : World => Below w.heap.size w wX ∧ wX.cell? ⟨w.heap.size + 1 + 1, 2, none⟩ = some (.slice (some ⟨w.heap.size + 1, 0, none⟩) H H) ∧ wX.cell? ⟨w.heap.size + 1, k, none⟩ = some (got wX ⟨w.heap.size + 1, k, none⟩) ∧ wX.frozen? ⟨w.heap.size + 1, k, none⟩ = false) (first | exact HS0 | exact keepM (by assumption) (by assumption) | exact keepS _ (Nat.le_succ _) (by omega) (by assumption)) (first
        | (go_simp; refine (HROW.out _ _ hlt (SB (by assumption))).mono ?_; rintro e_ wa ⟨A1, n1, c1, rfl, hn1, hr1, hb1⟩)
        | (go_at_call 126; refine (norm_any A1 n1 c1 _ _ _ hr1 hn1).mono ?_; rintro e_ wb ⟨A2, c2, rfl, hr2, hb2⟩))
      have hM2 := (MRel.below (MRel.below (MRel.below hM (Below.drew (Below.refl _ _))) hb1) hb2).put hlt rfl (by have := (rl_len (inRuns (L k)) (max 0 (min (W : Int) 64)).toNat).1; show (norm (L k) W).length ≤ _; unfold norm; omega) hr2
      clear HS0 hM hr1 hr2 hb1 hb2 HBW
      go_wp2_with fail
      go_roundw
      case rel => exact ⟨k + 1, by omega, by go_num, hM2⟩
      case measure => simp [intOf]; omega
    · obtain rfl : k = H := by omega
      have d1 : decide ((k : Int) < (k : Int)) = false := by simp
      have hM2 := hM
      obtain ⟨cs, q1, q2, q3, q4, q5, q6⟩ := hM2
      have e0 := q4.cell 0
      have e1 := q4.cell 1
      have e2 := q4.cell 2
      have g0 := q5.cell 0
      have g1 := q5.cell 1
      have g2 := q5.cell 2
      have f0 := q5.frozen 0
      have f1 := q5.frozen 1
      have f2 := q5.frozen 2
      simp only [List.getElem?_toArray, List.getElem?_cons_succ, List.getElem?_cons_zero] at e0 e1 e2 g0 g1 g2
      have HM := Lib.hid hM
      have HK := Lib.hid q5
      have HBW := Lib.hid q6
      clear hM q1 q2 q3 q4 q5 q6
      go_wp2_with fail
      have K := ((HK.out.set_ 0 (.int .i64 (W : Int))).set_ 1 (.int .i64 (k : Int))).set_ 2 (.slice (some ⟨w.heap.size + 1, 0, none⟩) k k)
      refine ret_struct2 (g := w.heap.size) (t := 51) (cs := #[.int .i64 (W : Int), .int .i64 (k : Int), .slice (some ⟨w.heap.size + 1, 0, none⟩) k k]) rfl rfl ?_ Try.underlying51 rfl rfl rfl ?_
      · exact K
      · refine ⟨_, Nat.lt_succ_self _, rfl, HM.out.rows (Nat.le_refl _) (fun cs h => ((h.far (by simp) _).far (by simp) _).far (by simp) _) (fun j A n c hj h => Runs.setBox h (norm_lt _ _) HK.out _ _ _), by (repeat' (first | refine bset ?_ (by first | omega | (simp <;> omega)) _ | refine balloc ?_ _ | refine Below.drew ?_ | refine below_drewN ?_ _ | exact HBW.out | exact Below.refl _ _))⟩
end Go.Proofs.Ytegpjjkbbdfggaa.rg
