/-
  Layer 30: the law SpanOrder.
-/
import Derived.Test.YtaimijgjpjhppaaFewE
namespace Go.Proofs.Ytaimijgjpjhppaa.sp
set_option linter.unusedVariables false
set_option linter.unusedSimpArgs false
open Go.RowKit bs

theorem step_append_own {P : Program} {ops : Array Oper} {o : Oper} {a : Act} {w : World} {K : Act → World → Prop} {Q : Exit → Act → World → Prop} {E : Prop}
    (hg : o.guard = none) (s x : Operand) (t : TypeId) (hop : o.op = Op.call { callee := Callee.builtin Builtin.append, args := #[s, x], argTypes := #[t, t] })
    (base : Nat) (e : TypeId) (i : TypeInfo) (z : Value) (size bytes : Nat) (h1 : P.underlying t = some (.slice e)) (h2 : P.info? e = some i) (h3 : i.zero = some z) (h4 : i.size = size) (h5 : i.bytes = bytes) (h6 : z.cells.size = size) (h7 : 0 < size)
    (v : Value) (n : Nat) (olds : List Value) (hs : a.eval s = v) (hown : w.ownsRow base e size v n olds)
    (ad : Addr) (m c : Nat) (news : List Value) (hx : a.eval x = .slice (some ad) m c) (hn : news.length = m * size) (hc : ∀ j u, news[j]? = some u → w.cell? (ad.add j) = some u) (h1c : ∀ u ∈ news, u.oneCell' = true)
    (b1 : n + m ≤ maxLen) (b2 : (n + m) * bytes ≤ 140737488355328) (hb : base ≤ w.heap.size)
    (hK : ∀ v' w', w'.ownsRow base e size v' (n + m) (olds ++ news) → w.grownBy w' v.ownBlock → K (a.put o.dst v') w') :
    if Region.wanted o (yielded ops a.tmps) = true then Oper.wp P o a w K Q else E := by
  have hw : Region.wanted o (yielded ops a.tmps) = true := by simp [Region.wanted, hg]
  rw [if_pos hw]
  obtain ⟨v', w', hrun, r1, r2, _⟩ := run_append_own (P := P) w base t o.type e i z size bytes h1 h2 h3 h4 h5 h6 h7 v n olds hown ad m c news hn hc h1c b1 b2 hb
  unfold Oper.wp
  simp [execOp, hop, resolve, invoke, builtin, hs, hx, hrun, Result.andThen]
  exact hK v' w' r1 r2

theorem flat_nil : flat [] = [] := rfl
theorem flat_drop (l : List (Int × Int)) (k : Nat) (hk : k ≤ l.length) : flat (l.drop k) = (flat l).drop (k * 2) := by
  have h := flat_append (l.take k) (l.drop k)
  rw [List.take_append_drop] at h
  have e : k * 2 = (flat (l.take k)).length := by rw [flat_len]; simp; omega
  rw [h, e, List.drop_left]
theorem flat_take (l : List (Int × Int)) (k : Nat) (hk : k ≤ l.length) : flat (l.take k) = (flat l).take (k * 2) := by
  have h := flat_append (l.take k) (l.drop k)
  rw [List.take_append_drop] at h
  have e : k * 2 = (flat (l.take k)).length := by rw [flat_len]; simp; omega
  rw [h, e, List.take_left]
theorem Runs.cells_ {w : World} {b o n c : Nat} {l : List (Int × Int)} (h : Runs w (some ⟨b, o, none⟩) n c l) (hn : 0 < n) (j : Nat) (u : Value) (hu : (flat l)[j]? = some u) : w.cell? ⟨b, o + j, none⟩ = some u := by
  obtain ⟨h1, h2, h3⟩ := h
  obtain ⟨b', o', e, hlt, hc⟩ := h3 hn
  cases e
  have hj : j < l.length * 2 := by rw [← flat_len]; exact (List.getElem?_eq_some_iff.1 hu).1
  obtain ⟨q, hq | hq⟩ : ∃ q, j = q * 2 ∨ j = q * 2 + 1 := ⟨j / 2, by omega⟩
  · subst hq
    rw [(flat_get l q (by omega)).1] at hu; cases hu
    exact (hc q (by omega)).1
  · subst hq
    rw [(flat_get l q (by omega)).2] at hu; cases hu
    exact (hc q (by omega)).2
theorem add_plain_ (b o j : Nat) : (⟨b, o, none⟩ : Addr).add j = ⟨b, o + j, none⟩ := Go.WideShapes.add_plain _ _ _
theorem part_cells {w3 : World} {b o f : Nat} {l : List (Int × Int)} (h : Runs w3 (some ⟨b, o, none⟩) l.length f l) (hn : 0 < l.length) (hb : b < w3.heap.size) (k : Nat) (hk : k ≤ l.length) :
    (∃ ad : Addr, (if f = k then some (⟨b, o, none⟩ : Addr) else some ⟨b, o + k * 2, none⟩) = some ad ∧ ∀ w', Below w3.heap.size w3 w' → ∀ j u, (flat (l.drop k))[j]? = some u → w'.cell? (ad.add j) = some u) ∧
    ∀ w', Below w3.heap.size w3 w' → ∀ j u, (flat (l.take k))[j]? = some u → w'.cell? ((⟨b, o, none⟩ : Addr).add j) = some u := by
  have hc := h.cells_ hn
  refine ⟨?_, fun w' hw j u hu => ?_⟩
  · by_cases hf : f = k
    · refine ⟨_, if_pos hf, fun w' hw j u hu => ?_⟩
      have h2 := h.2.1
      rw [List.drop_of_length_le (by omega), flat_nil] at hu
      simp at hu
    · refine ⟨_, if_neg hf, fun w' hw j u hu => ?_⟩
      rw [add_plain_]
      rw [flat_drop l k hk, List.getElem?_drop] at hu
      have := hc _ _ hu
      rw [Nat.add_assoc]
      exact (hw.cell (p := ⟨b, o + (k * 2 + j), none⟩) hb).trans this
  · rw [add_plain_]
    rw [flat_take l k hk, List.getElem?_take] at hu
    split at hu
    · exact (hw.cell (p := ⟨b, o + j, none⟩) hb).trans (hc _ _ hu)
    · cases hu
theorem cut_in (l : List (Int × Int)) (k : Nat) (j : Nat) : inRuns (l.drop k ++ l.take k) j = inRuns l j := by
  rw [inRuns_append, Bool.or_comm, ← inRuns_append, List.take_append_drop]
theorem flat_one (l : List (Int × Int)) : ∀ u ∈ flat l, u.oneCell' = true := by
  intro u hu
  simp only [flat, List.mem_flatMap] at hu
  obtain ⟨r, _, hu⟩ := hu
  simp at hu
  rcases hu with rfl | rfl <;> rfl

theorem parts_runs {w : World} {base k : Nat} {v : Value} {l : List (Int × Int)} (hk : k ≤ l.length) (h : w.ownsRow base 26 2 v (0 + (l.length - k) + k) ([] ++ flat (l.drop k) ++ flat (l.take k))) :
    ∃ A c, v = .slice A (l.drop k ++ l.take k).length c ∧ Runs w A (l.drop k ++ l.take k).length c (l.drop k ++ l.take k) := by
  have e : 0 + (l.length - k) + k = (l.drop k ++ l.take k).length := by simp; omega
  rw [e, List.nil_append, ← flat_append] at h
  exact OwnRuns.runs (base := base) h
/-- the single places so far -/
def OrRel (W : World) (L : List (Int × Int)) (v : Value) (wr : World) : Prop := OwnRuns wr W.heap.size v L ∧ Below W.heap.size W wr
theorem OrRel.put {W wr w1 : World} {L : List (Int × Int)} {v v1 : Value} {j : Int} (h : OrRel W L v wr)
    (hown : w1.ownsRow W.heap.size 26 2 v1 (L.length + 1) (flat L ++ [.int .i64 j, .int .i64 (j + 1)])) {o : Obj} (hg : (wr.alloc o).grownBy w1 v.ownBlock) : OrRel W (L ++ [(j, j + 1)]) v1 w1 := by
  obtain ⟨h1, h3⟩ := h
  have hne : ∀ k, v.ownBlock = some k → W.heap.size ≤ k := fun k hk => (h1.lt k hk).1
  refine ⟨?_, (h3.alloc h3.size o).grown hg (by have := h3.size; simp; omega) (fun k hk => by have := hne k hk; omega)⟩
  unfold OwnRuns
  simpa [flat] using hown

set_option maxRecDepth 100000 in
set_option maxHeartbeats 6400000 in
theorem order_law (A : Option Addr) (n c : Nat) (ns : Nat → Int) (by_ : Int) (w : World) (hr : Ints w A n c ns) (hn : n ≤ 9223372036854775807) (hy : -9223372036854775808 ≤ by_ ∧ by_ ≤ 9223372036854775807) :
    Calls Try.prog 6 #[.slice A n c, .int .i64 by_] w fun e w' => e = .returned (.bool true) ∧ Below w.heap.size w w' := by
  obtain ⟨i0, hi0, hz0, hz1, hz2⟩ := info_parts (show (Try.prog.info? 26).map (fun i => (i.zero, i.size, i.bytes)) = some (some (.agg #[.int .i64 0, .int .i64 0]), 2, 16) by kernel_rfl)
  go_enter Try.func6, Try.ntmps6
  go_wp2_with (go_at_call 9; refine (known_any _).mono ?_; rintro e w1 ⟨rfl, hb1⟩)
  have H := hb1
  replace hr := hr.below hb1
  clear hb1
  refine (few_anyE A n c ns _ hr hn).mono ?_
  rintro e w2 ⟨l, P2, f2, rfl, hl, hlen, hin, hb2, hnil⟩
  replace H := btrans H hb2
  clear hb2 hr
  go_wp2_with fail
  refine (norm_any _ _ _ l 64 _ hl (by omega)).mono ?_
  rintro e w3 ⟨P3, f3, rfl, ha, hb3⟩
  replace H := btrans H hb3
  replace hl := hl.below hb3
  clear hb3
  go_wp2_with fail
  refine (place_in by_ ((l.length : Int) + 1) _ (by omega) (by omega)).mono ?_
  rintro e w' ⟨k, rfl, k0, k1, rfl⟩
  obtain ⟨k, rfl⟩ := Int.eq_ofNat_of_zero_le k0
  have hkl : k ≤ l.length := by omega
  have hcap := hl.2.1
  have hnl : (norm l 64).length ≤ 64 := (rl_len _ _).1
  have hmem := Lib.hid (norm_mem l)
  obtain ⟨X, hX, hX1⟩ : ∃ X : Nat, (sings (norm l 64)).length = X ∧ X ≤ 64 := ⟨_, rfl, by rw [← (cnt_sings l).2]; exact cnt_le _ _⟩
  have C1 := Lib.hid ((cnt_sings l).1.trans hX)
  have C2 := Lib.hid ((cnt_sings l).2.trans hX)
  have HX := Lib.hid hX
  clear hX
  have N1 := Lib.hid (norm_norm l)
  have N2 := Lib.hid (show norm (l.drop k ++ l.take k) 64 = norm l 64 from rl_ext 64 fun i _ => cut_in l k i)
  have N3 := Lib.hid (norm_sings l)
  have M1 := Lib.hid (show mayB (norm l 64) 64 = true from mayB_of (by omega) (by omega) (may_rl _ 64 64 (by omega)))
  by_cases hne : 0 < l.length
  · clear hnil
    have hl' := hl
    obtain ⟨b, o, rfl, hbz, -⟩ := hl'.2.2 hne
    clear hl'
    obtain ⟨⟨ad, had, hp1⟩, hp2⟩ := part_cells hl hne hbz k hkl
    have ln1 : (flat (l.drop k)).length = (l.length - k) * 2 := by rw [flat_len]; simp
    have ln2 : (flat (l.take k)).length = k * 2 := by rw [flat_len]; simp; omega
    have HP1 := Lib.hid hp1
    have HP2 := Lib.hid hp2
    have LN1 := Lib.hid ln1
    have LN2 := Lib.hid ln2
    clear hp1 hp2 ln1 ln2
    have hkf : k ≤ f2 := by omega
    have hkf2 : (k : Int) ≤ (f2 : Int) := by omega
    have hkf3 : ¬ (f2 : Int) < (k : Int) := by omega
    have hkf4 : ¬ f2 < k := by omega
    go_wp2_with fail
    go_region_law (first
      | (refine step_append_own rfl (.tmp 23) (.tmp 26) 22 rfl w3.heap.size 26 i0 _ 2 16 Try.underlying22 hi0 hz0 hz1 hz2 rfl (by omega) (.slice (some ⟨w3.heap.size, 0, none⟩) 0 0) 0 [] rfl (World.ownsRow_lit (base := w3.heap.size) w3 #[] 0 (Nat.le_refl _) (by unfold maxLen; omega) rfl) ad (l.length - k) (f2 - k) (flat (l.drop k)) (by first | rfl | simp [Act.eval, Act.put, had]) LN1.out (HP1.out _ (by (repeat' (first | exact Below.refl _ _ | exact Below.refl _ _ | refine balloc ?_ _ | refine Below.drew ?_ | refine below_drewN ?_ _ | refine bset ?_ (by first | omega | (simp <;> omega)) _)))) (flat_one _) (by unfold maxLen; omega) (by omega) (by simp) ?_; intro v1 w4 hown1 hg1; have hb4 : Below w3.heap.size w3 w4 := Below.grown (by (repeat' (first | exact Below.refl _ _ | exact Below.refl _ _ | refine balloc ?_ _ | refine Below.drew ?_ | refine below_drewN ?_ _ | refine bset ?_ (by first | omega | (simp <;> omega)) _))) hg1 (by simp) (fun q hq => by simp [Value.ownBlock] at hq; omega))
      | (refine step_append_own rfl (.tmp 27) (.tmp 30) 22 rfl w3.heap.size 26 i0 _ 2 16 Try.underlying22 hi0 hz0 hz1 hz2 rfl (by omega) v1 (0 + (l.length - k)) ([] ++ flat (l.drop k)) rfl hown1 ⟨b, o, none⟩ k f2 (flat (l.take k)) rfl LN2.out (HP2.out _ hb4) (flat_one _) (by unfold maxLen; omega) (by omega) hb4.size ?_; intro v2 w5 hown2 hg2; have hb5 : Below w3.heap.size w3 w5 := Below.grown hb4 hg2 hb4.size (fun q hq => (hown1.lt q hq).1)))
    obtain ⟨Pb, fb, rfl, hB⟩ := parts_runs hkl hown2
    clear hown1 hown2 hg1 hg2 hb4 HP1 HP2 LN1 LN2 had
    replace hl := hl.below hb5
    replace ha := ha.below hb5
    replace H := btrans H hb5
    clear hb5
    have hKl : (l.drop k ++ l.take k).length ≤ 10 := by simp; omega
    generalize l.drop k ++ l.take k = K at hB N2 hKl ⊢
    go_wp2_with fail
    go_loopw [9, 10] (fun cv iv wr => ∃ i : Nat, i ≤ (norm l 64).length ∧ iv = .int .i64 i ∧ OrRel w5 (sings ((norm l 64).take i)) cv wr) (fun _ iv _ => (norm l 64).length - (intOf iv).toNat)
    case atStart => exact ⟨0, by omega, rfl, ⟨by simp [sings, flat], .inl ⟨rfl, rfl⟩⟩, Below.refl _ _⟩
    case round =>
      obtain ⟨i, hi, rfl, hR⟩ := hrel
      by_cases hlt : i < (norm l 64).length
      · obtain ⟨b3, o3, hP3, hb3, hcell⟩ := ha.2.2 (by omega)
        subst hP3
        obtain ⟨c1, c2⟩ := hcell i hlt
        obtain ⟨m0, m1, m2⟩ := hmem.out _ (List.getElem_mem hlt)
        have ht : sings ((norm l 64).take (i + 1)) = sings ((norm l 64).take i) ++ sing (norm l 64)[i].1 (norm l 64)[i].2 := by
          rw [List.take_succ_eq_append_getElem hlt, sings_append]; simp [sings]
        have hs1 : (sings ((norm l 64).take i)).length ≤ 64 * i := by
          have := sings_len (l := (norm l 64).take i) (fun r hr => by have := hmem.out r (List.mem_of_mem_take hr); omega)
          rw [List.length_take] at this; omega
        clear hcell
        generalize (norm l 64)[i].1 = x at *
        generalize (norm l 64)[i].2 = y at *
        have HT := Lib.hid ht
        have C3 := Lib.hid c2
        have c1' := (hR.2.cell (p := ⟨b3, o3 + i * 2, none⟩) hb3).trans c1
        have c2' := (hR.2.cell (p := ⟨b3, o3 + i * 2 + 1, none⟩) hb3).trans c2
        clear ht c1 c2
        have d1 : decide ((i : Int) < ((norm l 64).length : Int)) = true := by simp; omega
        go_wp2_with fail
        clear c1' c2'
        go_loopw [9, 11] (fun cv jv wr => ∃ j : Int, x ≤ j ∧ j ≤ y ∧ jv = .int .i64 j ∧ OrRel w5 (sings ((norm l 64).take i) ++ sing x j) cv wr) (fun _ jv _ => (y - intOf jv).toNat)
        case atStart => exact ⟨x, by omega, by omega, rfl, by rw [sing_none, List.append_nil]; exact hR⟩
        case round =>
          obtain ⟨j, hj0, hj1, rfl, hQ⟩ := hrel
          have hcy := (hQ.2.cell (p := ⟨b3, o3 + i * 2 + 1, none⟩) hb3).trans C3.out
          have hlen2 : (sings ((norm l 64).take i) ++ sing x j).length ≤ 64 * 65 := by rw [List.length_append, sing_len]; omega
          have hsz := hQ.2.size
          by_cases hjy : j < y
          · have hO : ∀ o, (wr.alloc o).ownsRow w5.heap.size 26 2 u9 (sings ((norm l 64).take i) ++ sing x j).length (flat (sings ((norm l 64).take i) ++ sing x j)) := fun o => World.ownsRow.alloc hQ.1 o
            have HS := Lib.hid (sing_more hj0)
            go_wp2_with (at_builtin; refine wpList_append_own _ rfl (.tmp 52) (.tmp 57) _ rfl w5.heap.size 26 i0 _ 2 16 Try.underlying22 hi0 hz0 hz1 hz2 rfl (by omega) u9 _ _ rfl (hO _) ⟨wr.heap.size, 0, none⟩ 1 1 [.int .i64 j, .int .i64 (j + 1)] rfl rfl (two_new _ _ _ _) (by simp [Value.oneCell']) (by unfold maxLen; omega) (by omega) (by simp; omega) ?_; intro v1 w6 hown1 hg1 _)
            go_roundw
            case rel => exact ⟨j + 1, by omega, by omega, by go_num, by rw [HS.out, ← List.append_assoc]; exact hQ.put hown1 hg1⟩
            case measure => simp [intOf]; omega
          · obtain rfl : j = y := by omega
            go_wp2_with fail
            go_roundw
            case rel => exact ⟨i + 1, by omega, by go_num, by rw [HT.out]; exact hQ⟩
            case measure => simp [intOf]; omega
      · obtain rfl : i = (norm l 64).length := by omega
        rw [List.take_length] at hR
        obtain ⟨hown, hbw⟩ := hR
        obtain ⟨Pc, fc, rfl, hC⟩ := hown.runs
        replace hl := hl.below hbw
        replace ha := ha.below hbw
        replace hB := hB.below hbw
        replace H := btrans H hbw
        clear hbw hown
        have hcl : (sings (norm l 64)).length ≤ 64 := by rw [HX.out]; exact hX1
        have t1 : ((X : Int) == ((sings (norm l 64)).length : Int)) = true := by rw [HX.out]; simp
        have d1 : decide (((norm l 64).length : Int) < ((norm l 64).length : Int)) = false := by simp
        go_wp2_with fail
        refine (may_is true _ _ _ _ 64 _ ha (norm_short _ _) M1.out).mono ?_
        rintro e w7 ⟨rfl, hb7⟩
        replace hl := hl.below hb7
        replace ha := ha.below hb7
        replace hB := hB.below hb7
        replace hC := hC.below hb7
        replace H := btrans H hb7
        clear hb7
        go_wp2_with fail
        refine (norm_any _ _ _ _ 64 _ ha (norm_short _ _)).mono ?_
        rintro e w8 ⟨P8, f8, rfl, h8, hb8⟩
        replace hl := hl.below hb8
        replace ha := ha.below hb8
        replace hB := hB.below hb8
        replace hC := hC.below hb8
        replace H := btrans H hb8
        clear hb8
        go_wp2_with fail
        refine (same_yes _ _ _ _ _ _ _ _ _ h8 ha (norm_short _ _) (norm_short _ _) N1.out).mono ?_
        rintro e w9 ⟨rfl, hb9⟩
        replace hl := hl.below hb9
        replace ha := ha.below hb9
        replace hB := hB.below hb9
        replace hC := hC.below hb9
        replace H := btrans H hb9
        clear hb9 h8
        go_wp2_with fail
        refine (norm_any _ _ _ K 64 _ hB (by omega)).mono ?_
        rintro e w10 ⟨P10, f10, rfl, h10, hb10⟩
        replace hl := hl.below hb10
        replace ha := ha.below hb10
        replace hC := hC.below hb10
        replace H := btrans H hb10
        clear hb10
        go_wp2_with fail
        refine (same_yes _ _ _ _ _ _ _ _ _ h10 ha (norm_short _ _) (norm_short _ _) N2.out).mono ?_
        rintro e w11 ⟨rfl, hb11⟩
        replace hl := hl.below hb11
        replace ha := ha.below hb11
        replace hC := hC.below hb11
        replace H := btrans H hb11
        clear hb11 h10
        go_wp2_with fail
        refine (norm_any _ _ _ _ 64 _ hC (by omega)).mono ?_
        rintro e w12 ⟨P12, f12, rfl, h12, hb12⟩
        replace hl := hl.below hb12
        replace ha := ha.below hb12
        replace hC := hC.below hb12
        replace H := btrans H hb12
        clear hb12
        go_wp2_with fail
        refine (same_yes _ _ _ _ _ _ _ _ _ h12 ha (norm_short _ _) (norm_short _ _) N3.out).mono ?_
        rintro e w13 ⟨rfl, hb13⟩
        replace hl := hl.below hb13
        replace hC := hC.below hb13
        replace H := btrans H hb13
        clear hb13 h12
        go_wp2_with fail
        refine (count_is X _ _ _ _ _ hC (by omega) C1.out).mono ?_
        rintro e w14 ⟨rfl, hb14⟩
        replace hl := hl.below hb14
        replace H := btrans H hb14
        clear hb14
        go_wp2_with fail
        refine (count_is X _ _ _ _ _ hl (by omega) C2.out).mono ?_
        rintro e w15 ⟨rfl, hb15⟩
        replace H := btrans H hb15
        clear hb15
        go_wp2_with fail
        go_ret
        exact ⟨rfl, H⟩
  · have h0 : l.length = 0 := by omega
    obtain ⟨rfl, rfl⟩ := hnil h0
    obtain rfl : k = 0 := by omega
    have hln : l = [] := List.eq_nil_of_length_eq_zero h0
    have e0 : norm l 64 = [] := by rw [hln]; exact rl_none 64
    have ha0 : (norm l 64).length = 0 := by rw [e0]; rfl
    have c0 : cnt (inRuns []) 64 = 0 := by rw [← hln, C2.out, ← HX.out, e0]; rfl
    have E0 := Lib.hid (show norm [] 64 = [] from rl_none 64)
    have M0 := Lib.hid (show mayB [] 64 = true by rw [← e0]; exact M1.out)
    have C0 := Lib.hid c0
    rw [ha0, h0]
    clear hmem C1 C2 HX N1 N2 N3 M1 hnl hl ha e0 ha0 c0 hln hne hcap k0 k1 hkl hnil hin h0 hlen
    go_wp2_with fail
    go_region
    go_wp2_with fail
    go_loopw [9, 10] (fun cv iv wr => cv = .slice none 0 0 ∧ iv = .int .i64 0 ∧ Below w3.heap.size w3 wr) (fun _ iv _ => 0)
    case atStart => exact ⟨rfl, rfl, by (repeat' (first | exact Below.refl _ _ | exact Below.refl _ _ | refine balloc ?_ _ | refine Below.drew ?_ | refine below_drewN ?_ _ | refine bset ?_ (by first | omega | (simp <;> omega)) _))⟩
    case round =>
      obtain ⟨rfl, rfl, hbw⟩ := hrel
      replace H := btrans H hbw
      go_wp2_with fail
      refine (may_is true _ _ _ _ 64 _ Runs.nil_ (by omega) M0.out).mono ?_
      rintro e w7 ⟨rfl, hb7⟩
      replace H := btrans H hb7
      go_wp2_with fail
      refine (norm_any _ _ _ _ 64 _ Runs.nil_ (by omega)).mono ?_
      rintro e w8 ⟨P8, f8, rfl, h8, hb8⟩
      replace H := btrans H hb8
      go_wp2_with fail
      refine (same_yes _ _ _ _ _ _ _ _ _ h8 Runs.nil_ (norm_short _ _) (by omega) E0.out).mono ?_
      rintro e w9 ⟨rfl, hb9⟩
      replace H := btrans H hb9
      go_wp2_with fail
      refine (norm_any _ _ _ _ 64 _ Runs.nil_ (by omega)).mono ?_
      rintro e w10 ⟨P10, f10, rfl, h10, hb10⟩
      replace H := btrans H hb10
      go_wp2_with fail
      refine (same_yes _ _ _ _ _ _ _ _ _ h10 Runs.nil_ (norm_short _ _) (by omega) E0.out).mono ?_
      rintro e w11 ⟨rfl, hb11⟩
      replace H := btrans H hb11
      go_wp2_with fail
      refine (norm_any _ _ _ _ 64 _ Runs.nil_ (by omega)).mono ?_
      rintro e w12 ⟨P12, f12, rfl, h12, hb12⟩
      replace H := btrans H hb12
      go_wp2_with fail
      refine (same_yes _ _ _ _ _ _ _ _ _ h12 Runs.nil_ (norm_short _ _) (by omega) E0.out).mono ?_
      rintro e w13 ⟨rfl, hb13⟩
      replace H := btrans H hb13
      go_wp2_with fail
      refine (count_is 0 _ _ _ _ _ Runs.nil_ (by omega) C0.out).mono ?_
      rintro e w14 ⟨rfl, hb14⟩
      replace H := btrans H hb14
      go_wp2_with fail
      refine (count_is 0 _ _ _ _ _ Runs.nil_ (by omega) C0.out).mono ?_
      rintro e w15 ⟨rfl, hb15⟩
      replace H := btrans H hb15
      go_wp2_with fail
      go_ret
      exact ⟨rfl, H⟩
end Go.Proofs.Ytaimijgjpjhppaa.sp
