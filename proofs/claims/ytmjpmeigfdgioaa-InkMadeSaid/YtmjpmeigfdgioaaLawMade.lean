/-
  Regions by numbers: tympanlaw32.Made. (PRUNE)
-/
import Derived.Test.YtmjpmeigfdgioaaLawPage
import Derived.Test.YtmjpmeigfdgioaaRegOps
import Derived.Test.YtmjpmeigfdgioaaRefRuns
namespace Go.Proofs.Ytmjpmeigfdgioaa.rg
set_option linter.unusedVariables false
set_option linter.unusedSimpArgs false
open Go.RowKit bs sp ik op

theorem one_newR (w : World) (x : Value) (t : TypeId) : ∀ (j : Nat) (u : Value), [x][j]? = some u → (w.alloc (.cells #[x] t)).cell? ((⟨w.heap.size, 0, none⟩ : Addr).add j) = some u := by
  intro j u hu
  have hadd : (⟨w.heap.size, 0, none⟩ : Addr).add j = ⟨w.heap.size, j, none⟩ := by unfold Addr.add; split <;> simp_all
  rw [hadd, (Blk.new w t #[x]).cell]
  simpa using hu
/-- Made's rows behind k rounds -/
def MdRows (wr : World) (W k : Nat) (ov : Value) (R : Nat → Nat → Bool) (xs : List Value) : Prop :=
  ∀ j, j < k → ∃ Aj cj, xs[j]? = some (.slice Aj (rowsOf W R j).length cj) ∧ Runs wr Aj (rowsOf W R j).length cj (rowsOf W R j) ∧ (0 < (rowsOf W R j).length → ∀ q, (Value.slice Aj (rowsOf W R j).length cj).ownBlock = some q → ov.ownBlock ≠ some q)
def MdRel (w : World) (W k : Nat) (ov : Value) (wr : World) : Prop :=
  ∃ (R : Nat → Nat → Bool) (xs : List Value), wr.ownsRow (w.heap.size + 1) 65 1 ov k xs ∧ MdRows wr W k ov R xs ∧ Blk wr w.heap.size 35 #[.int .i64 0, .int .i64 0, .slice none 0 0] ∧ Below w.heap.size w wr
theorem own_below {w w' : World} {base size n : Nat} {e : TypeId} {v : Value} {xs : List Value} (h : w.ownsRow base e size v n xs) (hb : Below w.heap.size w w') : w'.ownsRow base e size v n xs := by
  obtain ⟨h1, h2⟩ := h
  refine ⟨h1, ?_⟩
  rcases h2 with h2 | ⟨g, cap, cur, a1, a2, a3, a4⟩
  · exact .inl h2
  · exact .inr ⟨g, cap, cur, a1, a2, (show Blk w' g e cur from Blk.below a3 hb (Blk.lt a3)), a4⟩
theorem MdRel.below {w wr w' : World} {W k : Nat} {ov : Value} (h : MdRel w W k ov wr) (hb : Below wr.heap.size wr w') : MdRel w W k ov w' := by
  obtain ⟨R, xs, h1, h2, h3, h4⟩ := h
  refine ⟨R, xs, own_below h1 hb, fun j hj => ?_, h3.below hb h3.lt, btrans h4 hb⟩
  obtain ⟨Aj, cj, a1, a2, a3⟩ := h2 j hj
  exact ⟨Aj, cj, a1, a2.below hb, a3⟩
theorem Runs.grown {w w' : World} {A : Option Addr} {n c : Nat} {l : List (Int × Int)} {row : Option Nat} (h : Runs w A n c l) (hg : w.grownBy w' row) (hne : 0 < n → ∀ q, (Value.slice A n c).ownBlock = some q → row ≠ some q) : Runs w' A n c l := by
  obtain ⟨h1, h2, h3⟩ := h
  refine ⟨h1, h2, fun hn => ?_⟩
  obtain ⟨b, o, e, hlt, hc⟩ := h3 hn
  subst e
  have hb : w'.heap[b]? = w.heap[b]? := hg.block b hlt (fun e => hne hn b rfl e.symm)
  refine ⟨b, o, rfl, Nat.lt_of_lt_of_le hlt hg.size, fun j hj => ?_⟩
  obtain ⟨q1, q2⟩ := hc j hj
  exact ⟨(World.cell?_of_block (a := ⟨b, _, none⟩) hb).trans q1, (World.cell?_of_block (a := ⟨b, _, none⟩) hb).trans q2⟩
theorem Runs.lt {w : World} {A : Option Addr} {n c : Nat} {l : List (Int × Int)} (h : Runs w A n c l) (hn : 0 < n) (q : Nat) (hq : (Value.slice A n c).ownBlock = some q) : q < w.heap.size := by
  obtain ⟨b, o, e, hlt, hc⟩ := h.2.2 hn
  subst e
  simp [Value.ownBlock] at hq
  omega
theorem md_put {w wr w1 : World} {W k : Nat} {ov v1 : Value} {S : Nat → Bool} {A : Option Addr} {c : Nat} {o : Obj} {R : Nat → Nat → Bool} {xs : List Value} (h1 : wr.ownsRow (w.heap.size + 1) 65 1 ov k xs) (h2 : MdRows wr W k ov R xs)
    (h3 : Blk wr w.heap.size 35 #[.int .i64 0, .int .i64 0, .slice none 0 0]) (h4 : Below w.heap.size w wr) (hr : Runs wr A (rl S W).length c (rl S W)) (hf : 0 < (rl S W).length → ∀ q, (Value.slice A (rl S W).length c).ownBlock = some q → ov.ownBlock ≠ some q)
    (hown : w1.ownsRow (w.heap.size + 1) 65 1 v1 (k + 1) (xs ++ [.slice A (rl S W).length c])) (hg : (wr.alloc o).grownBy w1 ov.ownBlock) (hv : v1.ownBlock = ov.ownBlock ∨ v1.ownBlock = some (wr.alloc o).heap.size) : MdRel w W (k + 1) v1 w1 := by
  have hxl : xs.length = k := by simpa using h1.1
  have ap : ∀ {A : Option Addr} {n c : Nat} {l : List (Int × Int)}, Runs wr A n c l → (0 < n → ∀ q, (Value.slice A n c).ownBlock = some q → ov.ownBlock ≠ some q) → 0 < n → ∀ q, (Value.slice A n c).ownBlock = some q → v1.ownBlock ≠ some q := by
    intro A n c l hr hf hn q hq
    rcases hv with hv | hv
    · rw [hv]; exact hf hn q hq
    · have h5 := Runs.lt hr hn q hq
      rw [hv]
      simp
      omega
  have ga : ∀ {A : Option Addr} {n c : Nat} {l : List (Int × Int)}, Runs wr A n c l → (0 < n → ∀ q, (Value.slice A n c).ownBlock = some q → ov.ownBlock ≠ some q) → Runs w1 A n c l := fun hr hf => Runs.grown (hr.below (balloc (Below.refl _ _) o)) hg hf
  have hlo : ∀ q, ov.ownBlock = some q → w.heap.size + 1 ≤ q := fun q hq => (h1.lt q hq).1
  refine ⟨fun j => if j = k then S else R j, _, hown, fun j hj => ?_, (h3.alloc o).grown hg (fun e => by have := hlo _ e.symm; omega), Below.grown (balloc h4 o) hg (by have := h4.size; simp; omega) (fun q hq => by have := hlo q hq; omega)⟩
  by_cases e : j = k
  · subst e
    have er : rowsOf W (fun i => if i = j then S else R i) j = rl S W := by unfold rowsOf; simp
    rw [er]
    exact ⟨A, c, by rw [List.getElem?_append_right (by omega), hxl, Nat.sub_self]; rfl, ga hr hf, ap hr hf⟩
  · have er : rowsOf W (fun i => if i = k then S else R i) j = rowsOf W R j := by unfold rowsOf; simp [e]
    rw [er]
    obtain ⟨Aj, cj, a1, a2, a3⟩ := h2 j (by omega)
    exact ⟨Aj, cj, by rw [List.getElem?_append_left (by omega)]; exact a1, ga a2 a3, ap a2 a3⟩
theorem MdRel.rows {w wr : World} {W k : Nat} {ov : Value} (h : MdRel w W k ov wr) (hk : 0 < k) (hW : W ≤ 64) :
    ∃ g cap R, ov = .slice (some ⟨g, 0, none⟩) k cap ∧ Rows wr (some ⟨g, 0, none⟩) k cap (rowsOf W R) ∧ w.heap.size + 1 ≤ g := by
  obtain ⟨R, xs, h1, h2, h3, h4⟩ := h
  obtain ⟨g, cap, cs, hv, hg, hB, hcap, hs, ht⟩ := own_out hk h1
  refine ⟨g, cap, R, hv, ⟨hcap, fun _ => ⟨g, 0, rfl, hB.lt, fun j hj => ?_⟩⟩, hg⟩
  obtain ⟨Aj, cj, a1, a2, a3⟩ := h2 j hj
  refine ⟨by have := rowsOf_len W R j hW; omega, Aj, cj, ?_, a2⟩
  rw [Nat.zero_add, hB.cell]
  rw [← ht, List.getElem?_take, if_pos hj] at a1
  simpa using a1

theorem rows_box {w : World} {r : Nat} {t : TypeId} {g H c : Nat} {W : Nat} {R : Nat → Nat → Bool} (h : Rows w (some ⟨g, 0, none⟩) H c (rowsOf W R)) (hne : g ≠ r) (K : Blk w r t #[.int .i64 0, .int .i64 0, .slice none 0 0]) (u0 u1 u2 : Value) :
    Rows (((w.setCell ⟨r, 0, none⟩ u0).setCell ⟨r, 1, none⟩ u1).setCell ⟨r, 2, none⟩ u2) (some ⟨g, 0, none⟩) H c (rowsOf W R) := by
  obtain ⟨h1, h2⟩ := h
  refine ⟨h1, fun hn => ?_⟩
  obtain ⟨b, o, e, hlt, hc⟩ := h2 hn
  cases e
  refine ⟨g, 0, rfl, by simpa using hlt, fun j hj => ?_⟩
  obtain ⟨hl, Aj, cj, q1, q2⟩ := hc j hj
  have far : ∀ (v : World) (o1 o2 : Nat) (u : Value), (v.setCell ⟨r, o1, none⟩ u).cell? ⟨g, o2, none⟩ = v.cell? ⟨g, o2, none⟩ := fun v o1 o2 u => World.cell?_setCell_other v _ _ u (fun e => hne (Addr.mk.inj e).1.symm)
  exact ⟨hl, Aj, cj, by rw [far, far, far]; exact q1, Runs.setBox q2 (fun s hs => (may_each (rowsOf_may W R j) s hs).2.1) K _ _ _⟩

set_option maxRecDepth 100000 in
set_option maxHeartbeats 3200000 in
theorem lmade_any (A : Option Addr) (n c : Nat) (ns : Nat → Int) (W H : Nat) (w : World) (hr : Ints w A n c ns) (hn : n ≤ 9223372036854775807) (hW : 1 ≤ W ∧ W ≤ 64) (hH : 1 ≤ H ∧ H ≤ 64) :
    Calls Try.prog 12 #[.slice A n c, .int .i64 (W : Int), .int .i64 (H : Int)] w fun e w' => ∃ D d R, e = .returned (.agg #[.int .i64 (W : Int), .int .i64 (H : Int), .slice D H d]) ∧ Rows w' D H d (rowsOf W R) ∧ Below w.heap.size w w' := by
  obtain ⟨i0, hi, hz0, hz1, hz2⟩ := info_parts (show (Try.prog.info? 65).map (fun i => (i.zero, i.size, i.bytes)) = some (some (.slice none 0 0), 1, 24) by kernel_rfl)
  have HR := Lib.hid hr
  have Kz := Blk.new w 35 #[.int .i64 0, .int .i64 0, .slice none 0 0]
  have HST := Lib.hid (show MdRel w W 0 (.slice none 0 0) (w.alloc (.cells #[.int .i64 0, .int .i64 0, .slice none 0 0] 35)) from ⟨fun _ _ => false, [], ⟨rfl, .inl ⟨rfl, rfl⟩⟩, fun j hj => absurd hj (by omega), Kz, balloc (Below.refl _ _) _⟩)
  obtain ⟨w0, w1⟩ := hW
  obtain ⟨h0, h1⟩ := hH
  clear hr Kz
  go_enter Try.func12, Try.ntmps12
  go_wp2_with fail
  go_loopw [7, 8] (fun ov kv wr => ∃ k : Nat, k ≤ H ∧ kv = .int .i64 (k : Int) ∧ MdRel w W k ov wr) (fun _ kv _ => H - (intOf kv).toNat)
  case atStart => exact ⟨0, by omega, rfl, HST.out⟩
  case round =>
    clear HST
    obtain ⟨k, hk, rfl, hM⟩ := hrel
    obtain ⟨wo, rfl⟩ : ∃ wo, wo = wr := ⟨_, rfl⟩
    by_cases hlt : k < H
    · have d1 : decide ((k : Int) < (H : Int)) = true := by simp; omega
      have HM := Lib.hid hM
      have hbz : Below w.heap.size w wo := by obtain ⟨_, _, _, _, _, h⟩ := hM; exact h
      clear hM
      go_wp2_with fail
      have hS0 : Blk (wo.alloc (.cells (Array.replicate 64 (.bool false)) 64)) wo.heap.size 64 (rowC fun _ => false) := by rw [← rowC_zero]; exact Blk.new _ _ _
      have HS0 := Lib.hid hS0
      clear hS0
      go_loopw [10] (fun iv wi => ∃ (i : Nat) (S : Nat → Bool), i ≤ W ∧ iv = .int .i64 (i : Int) ∧ Blk wi wo.heap.size 64 (rowC S) ∧ Below wo.heap.size wo wi) (fun iv _ => W - (intOf iv).toNat)
      case atStart => exact ⟨0, _, by omega, rfl, HS0.out, balloc (Below.refl _ _) _⟩
      case round =>
        clear HS0
        obtain ⟨i, S, hi9, rfl, hB, hbo⟩ := hrel
        by_cases hgo : i < W ∧ 0 < n
        · obtain ⟨hil, hn0⟩ := hgo
          have d2 : decide ((i : Int) < (W : Int)) = true := by simp; omega
          have d3 : decide ((0 : Int) < (n : Int)) = true := by simp; omega
          obtain ⟨hnc, hcell⟩ := HR.out
          obtain ⟨b, o, rfl, hbl, hcell⟩ := hcell hn0
          have hmodn : ((i : Int) + 3 * (k : Int)).tmod (n : Int) = (((i + 3 * k) % n : Nat) : Int) := by rw [Int.tmod_eq_emod_of_nonneg (by omega)]; push_cast; rfl
          have hdivn : (i : Int).tdiv (n : Int) = ((i / n : Nat) : Int) := by rw [Int.tdiv_eq_ediv_of_nonneg (by omega)]; push_cast; rfl
          have hrlt := Nat.mod_lt (i + 3 * k) hn0
          have hqle : i / n ≤ i := Nat.div_le_self i n
          generalize (i + 3 * k) % n = r at *
          generalize i / n = q1 at *
          obtain ⟨p, hp⟩ : ∃ p, i * k = p := ⟨_, rfl⟩
          have hp1 : (i : Int) * (k : Int) = (p : Int) := by rw [← hp]; push_cast; rfl
          have hp2 : p ≤ 4096 := by rw [← hp]; exact Nat.mul_le_mul (show i ≤ 64 by omega) (show k ≤ 64 by omega)
          clear hp
          have htm : ((p : Int) + (q1 : Int) + (k : Int)).tmod 17 = (((p + q1 + k) % 17 : Nat) : Int) := by rw [Int.tmod_eq_emod_of_nonneg (by omega)]; push_cast; rfl
          have htl : (p + q1 + k) % 17 < 17 := Nat.mod_lt _ (by omega)
          generalize (p + q1 + k) % 17 = t at *
          have hc := hcell r hrlt
          obtain ⟨x, hx⟩ : ∃ x, ns r = x := ⟨_, rfl⟩
          rw [hx] at hc
          have HPL := Lib.hid (fun W => place_any x 1048576 W (by decide) (by decide))
          obtain ⟨z, hz⟩ : ∃ z, x % 1048576 = z := ⟨_, rfl⟩
          have hz1 : 0 ≤ z ∧ z < 1048576 := by omega
          rw [hz] at HPL
          have hmz : ((n : Int) == 0) = false := by simp; omega
          have hcr := ((btrans hbz hbo).cell (p := ⟨b, o + r, none⟩) hbl).trans hc
          have hbc : wr.cell? ⟨wo.heap.size, i, none⟩ = some (.bool (S i)) := by rw [hB.cell, rowC_get S i (by omega)]
          have hbf := hB.frozen i
          have HB := Lib.hid hB
          obtain ⟨hz10, hz11⟩ := hz1
          clear hB hc hcell hx hz
          go_wp2_with (go_at_call 25; refine (HPL.out _).mono ?_; rintro e_ w_ ⟨rfl, rfl⟩)
          have hb2 := HB.out.set_ i (.bool (bits BinOp.and IntKind.i64 (z / 2 ^ t) 1 == 1))
          rw [rowC_set S i (by omega)] at hb2
          exact ⟨⟨i + 1, _, by omega, by go_num, hb2, bset hbo (Nat.le_refl _) _⟩, by simp [intOf]; omega⟩
        · have HRU := Lib.hid (fun W' => rruns_own S (W : Int) W')
          rw [show (max 0 (min (W : Int) 64)).toNat = W by omega] at HRU
          have HBO := Lib.hid hbo
          have HB := Lib.hid hB
          clear hbo
          have hfin : ∀ w2, Below wo.heap.size wo w2 → MdRel w W k u7 w2 := fun w2 hb => HM.out.below hb
          have HFIN := Lib.hid hfin
          have hOV : ∀ q, u7.ownBlock = some q → q < wo.heap.size := fun q hq => by
            obtain ⟨R, xs, o1, _⟩ := HM.out
            exact (o1.lt q hq).2
          clear hfin
          have d : (decide ((i : Int) < (W : Int)) = false) ∨ (decide ((i : Int) < (W : Int)) = true ∧ decide ((0 : Int) < (n : Int)) = false) := by
            by_cases h : i < W
            · right; simp; omega
            · left; simp; omega
          have HOV := Lib.hid hOV
          clear hOV hB
          rcases d with d2 | ⟨d2, d3⟩
          all_goals
            go_wp2_with (first
              | (refine wpList_load_row rfl 64 (.tmp 9) rfl _ rfl _ _ _ _ HB.out Try.underlying64 rfl (by rw [rowC_size]; kernel_rfl) ?_))
            all_goals
              refine (HRU.out _).mono ?_
              rintro e_ w2 ⟨A2, c2, rfl, hr2, hf2, hb2⟩
              have hbo := btrans HBO.out hb2
              obtain ⟨R, xs, o1, o2, o3, o4⟩ := HFIN.out w2 hbo
              have hxo := World.ownsRow.alloc o1 (.cells #[.slice A2 (rl S W).length c2] 65)
              have hsz2 : w.heap.size + 1 ≤ w2.heap.size := o3.lt
              have hsz3 := HBO.out.size
              have hfr : 0 < (rl S W).length → ∀ q, (Value.slice A2 (rl S W).length c2).ownBlock = some q → u7.ownBlock ≠ some q := fun _ q hq e => by
                have h1 := hf2 q hq
                have h2 := HOV.out q e
                omega
              have HPUT := Lib.hid (fun v1 w1 => md_put (v1 := v1) (w1 := w1) (o := .cells #[.slice A2 (rl S W).length c2] 65) o1 o2 o3 o4 hr2 hfr)
              have HXO := Lib.hid hxo
              clear HM HFIN HBO HB HRU hr2 hf2 hb2 hbo o1 o2 o3 o4 hxo hfr HOV
              generalize (rl S W).length = ln at *
              go_wp2_with (at_builtin; refine wpList_append_own_at _ rfl (.tmp 56) (.tmp 60) 33 rfl (w.heap.size + 1) 65 i0 (.slice none 0 0) 1 24 Try.underlying33 hi hz0 hz1 hz2 rfl (by omega) u7 k xs rfl HXO.out ⟨w2.heap.size, 0, none⟩ 1 1 [.slice A2 ln c2] rfl rfl (one_newR _ _ _) (by simp [Value.oneCell']) (by simp [maxLen]; omega) (by omega) (by first | (simp; done) | (simp; omega)) ?_; intro v1 w1 hown1 hg1 _ hv1)
              exact ⟨⟨k + 1, by omega, by go_num, HPUT.out v1 w1 hown1 hg1 hv1⟩, by simp [intOf]; omega⟩
    · obtain rfl : k = H := by omega
      have d1 : decide ((k : Int) < (k : Int)) = false := by simp
      obtain ⟨g, cap, R, rfl, hrw, hg⟩ := hM.rows (by omega) w1
      obtain ⟨_, _, _, _, q4, q5⟩ := hM
      have z0 := q4.cell 0
      have z1 := q4.cell 1
      have z2 := q4.cell 2
      have f0 := q4.frozen 0
      have f1 := q4.frozen 1
      have f2 := q4.frozen 2
      simp only [List.getElem?_toArray, List.getElem?_cons_succ, List.getElem?_cons_zero] at z0 z1 z2
      have Q4 := Lib.hid q4
      have HBW := Lib.hid q5
      have HRW := Lib.hid hrw
      clear q4 q5 hrw
      go_wp2_with fail
      have K := ((Q4.out.set_ 0 (.int .i64 (W : Int))).set_ 1 (.int .i64 (k : Int))).set_ 2 (.slice (some ⟨g, 0, none⟩) k cap)
      refine ret_struct1 (g := w.heap.size) (t := 35) (cs := #[.int .i64 (W : Int), .int .i64 (k : Int), .slice (some ⟨g, 0, none⟩) k cap]) rfl rfl ?_ Try.underlying35 rfl rfl rfl ?_
      · exact K
      · exact ⟨_, _, R, rfl, rows_box HRW.out (by omega) Q4.out _ _ _, by (repeat' (first | refine bset ?_ (by first | omega | (simp <;> omega)) _ | refine balloc ?_ _ | refine Below.drew ?_ | refine below_drewN ?_ _ | exact HBW.out | exact Below.refl _ _))⟩
end Go.Proofs.Ytmjpmeigfdgioaa.rg
