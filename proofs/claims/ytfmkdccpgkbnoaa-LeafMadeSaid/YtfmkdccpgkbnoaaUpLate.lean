/-
  As base/XUpAlloc, where the operations of the head that may come late (behind the first of the last ones) need only yield a value that no world bears on: said of them at the end of the head's walk.
-/
import Derived.Test.YtfmkdccpgkbnoaaUpAlloc
namespace Go.Proofs.Ytfmkdccpgkbnoaa.bs
set_option linter.unusedVariables false
set_option linter.unusedSimpArgs false
open Go.RowKit

section
variable {P : Program} {ops : Array Oper} {N : Nat} {late : List Nat} {C : World → Prop} {Q : Exit → Act → World → Prop}

/-- the late ones yield whatever the world is -/
def LateOk (P : Program) (ops : Array Oper) (late : List Nat) (F : Act) : Prop :=
  ∀ i ∈ late, ∀ o, ops[i]? = some o → ∃ v, ∀ w, (execOp F.eval o).run P w = .ok (.value v) w

/-- N waits for j, at once or through one other -/
def waits2 (ops : Array Oper) (N j : Nat) : Bool :=
  Region.waitsFor .any ops N j || (List.range N).any fun t => Region.waitsFor .any ops N t && Region.waitsFor .any ops t j

def lateB2 (ops : Array Oper) (N : Nat) (late : List Nat) : Bool :=
  Region.noSelect ops && decide (N < ops.size) && late.all fun i => decide (i ≠ N) && match ops[i]? with
    | some oi => oi.guard.isNone && oi.after.all (fun e => !Region.binds .any e || waits2 ops N e.on) &&
      late.all (fun j => match ops[j]? with
        | some oj => match oj.dst with
          | some d => !(oi.looksAt ops).contains d
          | none => true
        | none => true) &&
      (List.range ops.size).all fun j => j == i || waits2 ops N j || match ops[j]? with
        | some oj => oj.after.any (fun e => Region.binds .any e && e.on == i) || oi.apart ops oj
        | none => true
    | none => false

theorem lateB2_spec (hB : lateB2 ops N late = true) : N < ops.size ∧ (∀ (j : Nat) (o : Oper) cs b, ops[j]? = some o → o.op ≠ .select cs b) ∧ ∀ l ∈ late, ∃ ol, l ≠ N ∧ ops[l]? = some ol ∧ ol.guard = none ∧ (∀ e ∈ ol.after, Region.binds .any e = true → waits2 ops N e.on = true) ∧
      (∀ j ∈ late, ∀ oj d, ops[j]? = some oj → oj.dst = some d → d ∉ ol.looksAt ops) ∧
      ∀ j oj, ops[j]? = some oj → j ≠ l → waits2 ops N j = true ∨ (∃ e ∈ oj.after, Region.binds .any e = true ∧ e.on = l) ∨ ol.apart ops oj = true := by
  simp only [lateB2, Bool.and_eq_true, decide_eq_true_eq] at hB
  obtain ⟨⟨hsel, hN⟩, hall⟩ := hB
  refine ⟨hN, Region.noSelect_spec hsel, fun l hl => ?_⟩
  have h1 := List.all_eq_true.1 hall l hl
  simp only [Bool.and_eq_true, decide_eq_true_eq] at h1
  obtain ⟨hne, h2⟩ := h1
  cases ho : ops[l]? with
  | none => rw [ho] at h2; cases h2
  | some ol =>
    rw [ho] at h2
    simp only [Bool.and_eq_true] at h2
    obtain ⟨⟨⟨h3, h4⟩, h4'⟩, h5⟩ := h2
    refine ⟨ol, hne, rfl, by simpa using h3, fun e he hb => ?_, fun j hj oj d hoj hd => ?_, fun j oj hj hjl => ?_⟩
    · have := Array.all_eq_true_iff_forall_mem.1 h4 e he
      simpa [hb] using this
    · have := List.all_eq_true.1 h4' j hj
      rw [hoj] at this
      simp only [hd] at this
      simpa using this
    · have h6 := List.all_eq_true.1 h5 j (List.mem_range.2 (Array.getElem?_eq_some_iff.1 hj).1)
      simp only [hj, Bool.or_eq_true, beq_iff_eq, hjl, false_or] at h6
      rcases h6 with h6 | h6 | h6
      · exact .inl h6
      · obtain ⟨e, he, hb⟩ := Array.any_eq_true'.1 h6
        simp only [Bool.and_eq_true, beq_iff_eq] at hb
        exact .inr (.inl ⟨e, he, hb⟩)
      · exact .inr (.inr h6)

/-- what N waits for has come where N is ready -/
theorem waited {listed : Array Bool} {j : Nat} (hN : N ∈ Region.ready .any ops listed) (hw : Region.waitsFor .any ops N j = true) : listed.getD j false = true := by
  obtain ⟨oN, hoN, e', he', hb', hon⟩ := Region.waitsFor_spec hw
  obtain ⟨_, oN', hoN', hN2⟩ := mem_ready.1 hN
  have : oN = oN' := Option.some.inj (hoN.symm.trans hoN')
  subst this
  rw [← hon]
  exact hN2 e' he' hb'

theorem waited2 {listed : Array Bool} {j : Nat} (hN : N ∈ Region.ready .any ops listed) (closed : ∀ t ot, t < N → ops[t]? = some ot → listed.getD t false = true → ∀ e ∈ ot.after, Region.binds .any e = true → listed.getD e.on false = true)
    (hw : waits2 ops N j = true) : listed.getD j false = true := by
  unfold waits2 at hw
  rcases (Bool.or_eq_true _ _).mp hw with h | h
  · exact waited hN h
  · obtain ⟨t, ht, h2⟩ := List.any_eq_true.1 h
    simp only [Bool.and_eq_true] at h2
    obtain ⟨ot, hot, e, he, hb, hon⟩ := Region.waitsFor_spec h2.2
    rw [← hon]
    exact closed t ot (List.mem_range.1 ht) hot (waited hN h2.1) e he hb

/-- all the late ones have come: the two walks are one -/
theorem any_late_done (k : Nat) : ∀ (listed : Array Bool) (a : Act) (w : World), (∀ l ∈ late, listed.getD l false = true) → wpAny P .any (withLate ops N late) Q k listed a w → wpAny P .any ops Q k listed a w := by
  have same : ∀ (listed : Array Bool), (∀ l ∈ late, listed.getD l false = true) → Region.ready .any (withLate ops N late) listed = [] → Region.ready .any ops listed = [] := by
    intro listed hl h
    cases hr : Region.ready .any ops listed with
    | nil => rfl
    | cons x xs =>
      have : x ∈ Region.ready .any (withLate ops N late) listed := late_ready.2 ⟨by rw [hr]; simp, fun _ => hl⟩
      rw [h] at this
      cases this
  have same' : ∀ (listed : Array Bool), Region.ready .any ops listed = [] → Region.ready .any (withLate ops N late) listed = [] := by
    intro listed h
    cases hr : Region.ready .any (withLate ops N late) listed with
    | nil => rfl
    | cons x xs =>
      have := (late_ready.1 (show x ∈ Region.ready .any (withLate ops N late) listed by rw [hr]; simp)).1
      rw [h] at this
      cases this
  induction k with
  | zero => exact fun listed a w hl H => ⟨same listed hl H.1, H.2⟩
  | succ k ih =>
    intro listed a w hl H
    refine ⟨fun h => H.1 (same' _ h), fun i hi => ?_⟩
    have h1 := H.2 i (late_ready.2 ⟨hi, fun _ => hl⟩)
    rw [late_wpOp] at h1
    exact wpOp_mono (fun a' w' h2 => ih _ _ _ (fun l hll => getD_set_true (hl l hll)) h2) h1

/-- the frame at the head's end, read back: the slots that the late ones do not write are as they are now -/
theorem final_frame {n m : Nat} {w0 : World} {L : Array Bool → Act → Prop} (k : Nat) : ∀ (listed : Array Bool) (a : Act), HeadInv .any (withLate ops N late) n listed →
    anyHeadA P .any (withLate ops N late) C n m L k listed a → (∀ i, i < n → listed.getD i true = false → i ∈ late) →
    (∀ l ∈ late, l ≠ N) → ∃ l F, L l F ∧ ∀ d, (∀ j ∈ late, ∀ oj, ops[j]? = some oj → oj.dst ≠ some d) → F.tmps.getD d undef = a.tmps.getD d undef := by
  induction k with
  | zero => exact fun listed a _ h _ _ => ⟨listed, a, h, fun _ _ => rfl⟩
  | succ k ih =>
    intro listed a inv h hl hne
    obtain ⟨⟨i, hi, hin⟩, hall⟩ := h
    obtain ⟨hun, oi, hoi, _⟩ := mem_ready.1 hi
    have hil := hl i hin hun
    have hq : qOp P (withLate ops N late) C i (anyHeadA P .any (withLate ops N late) C n m L k (listed.setIfInBounds i true)) a := by
      rcases hall i hi with h | h
      · omega
      · exact h.2
    obtain ⟨v, _, hK⟩ := yieldsIn_of_qOp hoi hq
    rw [late_ne (hne i hil)] at hoi
    obtain ⟨l, F, hL, hF⟩ := ih (listed.setIfInBounds i true) _ (inv.set hi hin) hK (fun j hj hun' => hl j hj (by
      by_cases hij : i = j
      · rw [← hij]; exact hun
      · rwa [getD_set_ne true hij] at hun')) hne
    refine ⟨l, F, hL, fun d hd => ?_⟩
    rw [hF d hd]
    have hdi := hd i hil oi hoi
    unfold Act.put
    cases ho : oi.dst with
    | none => rfl
    | some d' =>
      have : d' ≠ d := fun e => hdi (by rw [ho, e])
      simp [Array.getElem?_setIfInBounds_ne this]
end

section
variable {P : Program} {ops : Array Oper} {late : List Nat} {n m g : Nat} {w0 : World} {objs : Nat → Obj} {Lq : Act → Prop} {Q' : Exit → Act → World → Prop}

theorem puts_exec {blk : Nat → Nat} {done : Nat → Bool} {oi : Oper} (hsi : ∀ cs b, oi.op ≠ .select cs b) (m : Nat) (hap : ∀ j, j < m → ∀ o, ops[n + j]? = some o → o.apart ops oi = true) (a : Act) :
    execOp (putsC ops n blk done m a).eval oi = execOp a.eval oi := by
  induction m with
  | zero => rfl
  | succ m ih =>
    simp only [putsC]
    split
    · cases ho : ops[n + m]? with
      | none => exact ih (fun j hj => hap j (by omega))
      | some o =>
        obtain ⟨p1, _, _⟩ := Oper.apart_spec (hap m (by omega) o ho)
        exact (execOp_put oi hsi _ _ _ p1).trans (ih (fun j hj => hap j (by omega)))
    · exact ih (fun j hj => hap j (by omega))

/-- N may come: what is left of the head are late ones: they are taken first -/
theorem finish_late (hB : lateB2 ops (n + m) late = true) (hf : freeA .any (withLate ops (n + m) late) n m = true)
    (hlt : ∀ l ∈ late, l < n)
    (hL : ∀ listed0 a0 blk w', endB .any (withLate ops (n + m) late) n m g listed0 = true → Lq a0 → (∃ u : Up w0, w' = u.val) → BlkAt w0 w' n m objs blk (fun _ => true) → wpAny P .any ops Q' g (markAll n m listed0) (putsC (withLate ops (n + m) late) n blk (fun _ => true) m a0) w')
    (hLate : ∀ a0, Lq a0 → LateOk P ops late a0)
    (hQ : ∀ d v c a w, Q' (.panic c) (Act.put a d v) w → Q' (.panic c) a w)
    (k : Nat) : ∀ (listed0 listed : Array Bool) (a0 : Act) (blk : Nat → Nat) (w' : World), HeadInv .any (withLate ops (n + m) late) n listed0 → listed.size = ops.size →
      (∀ j, ¬ (n ≤ j ∧ j < n + m) → listed[j]? = listed0[j]?) → (∀ j, j < m → listed.getD (n + j) false = true) → (n + m) ∈ Region.ready .any ops listed → (∀ i, i < n → listed0.getD i true = false → i ∈ late) →
      (∃ u : Up w0, w' = u.val) → BlkAt w0 w' n m objs blk (fun _ => true) →
      (∀ u0 : Up w0, anyHeadA P .any (withLate ops (n + m) late) (fun w' => ∃ u : Up u0.val, w' = u.val) n m (fun listed' a' => endB .any (withLate ops (n + m) late) n m g listed' = true ∧ Lq a') k listed0 a0) →
      wpAny P .any ops Q' (k + g) listed (putsC (withLate ops (n + m) late) n blk (fun _ => true) m a0) w' := by
  obtain ⟨hN, hsel, spec⟩ := lateB2_spec hB
  have apartA : ∀ j, j < m → ∀ o, (withLate ops (n + m) late)[n + j]? = some o → ∀ i oi, i < n → (withLate ops (n + m) late)[i]? = some oi → o.apart (withLate ops (n + m) late) oi = true := by
    intro j hj o ho i oi hi hoi
    have h1 := List.all_eq_true.1 hf j (List.mem_range.2 hj)
    simp only [Bool.and_eq_true, ho] at h1
    have := List.all_eq_true.1 h1.2.1.2 i (List.mem_range.2 hi)
    simpa [hoi] using this
  induction k with
  | zero =>
    intro listed0 listed a0 blk w' inv hsz hR hd hNr hlu hw hBk H
    obtain ⟨hE, hq⟩ := H (Up.of (Below.refl _ _))
    have hlm : listed = markAll n m listed0 := by
      apply Array.ext_getElem?
      intro j
      rw [markAll_get m (by rw [inv.size, late_size]; omega)]
      by_cases h : n ≤ j ∧ j < n + m
      · rw [if_pos h]
        have h1 := hd (j - n) (by omega)
        rw [show n + (j - n) = j by omega] at h1
        have hlt : j < listed.size := by rw [hsz]; omega
        simpa [hlt] using h1
      · rw [if_neg h]; exact hR j h
    rw [Nat.zero_add]
    subst hlm
    exact hL listed0 a0 blk w' hE hq hw hBk
  | succ k ih =>
    intro listed0 listed a0 blk w' inv hsz hR hd hNr hlu hw hBk H
    obtain ⟨i, hi, hin⟩ := (H (Up.of (Below.refl _ _))).1
    obtain ⟨hun, oi', hoi', _⟩ := mem_ready.1 hi
    have hil := hlu i hin hun
    obtain ⟨oi, hiN, hoi, hg, hdep, hlook, hap⟩ := spec i hil
    have hoe : oi' = oi := by rw [late_ne hiN] at hoi'; exact Option.some.inj (hoi'.symm.trans hoi)
    subst hoe
    have hget : ∀ j d, ¬ (n ≤ j ∧ j < n + m) → listed.getD j d = listed0.getD j d := fun j d h => by
      simp only [Array.getD_eq_getD_getElem?]
      rw [hR j h]
    have closed : ∀ t ot, t < n + m → ops[t]? = some ot → listed.getD t false = true → ∀ e ∈ ot.after, Region.binds .any e = true → listed.getD e.on false = true := by
      intro t ot ht hot hl e he hb
      rcases Nat.lt_or_ge t n with htn | htn
      · rw [hget t false (by omega)] at hl
        have h1 := inv.closed t ot (by rw [late_ne (by omega)]; exact hot) hl e he hb
        by_cases h : n ≤ e.on ∧ e.on < n + m
        · have := hd (e.on - n) (by omega)
          rwa [show n + (e.on - n) = e.on by omega] at this
        · rw [hget _ _ h]; exact h1
      · have h1 := List.all_eq_true.1 hf (t - n) (List.mem_range.2 (by omega))
        rw [show n + (t - n) = t by omega, late_ne (by omega), hot] at h1
        simp only [Bool.and_eq_true] at h1
        have h2 := Array.all_eq_true_iff_forall_mem.1 h1.2.1.1.1 e he
        rw [hb] at h2
        cases h2
    have hir : i ∈ Region.ready .any ops listed := mem_ready.2 ⟨by rw [hget i true (by omega)]; exact hun, oi', hoi, fun e he hb => waited2 hNr closed (hdep e he hb)⟩
    have HQ : ∀ u0 : Up w0, ∃ v, YieldsIn P (withLate ops (n + m) late) (fun w' => ∃ u : Up u0.val, w' = u.val) oi' v a0 ∧ anyHeadA P .any (withLate ops (n + m) late) (fun w' => ∃ u : Up u0.val, w' = u.val) n m (fun listed' a' => endB .any (withLate ops (n + m) late) n m g listed' = true ∧ Lq a') k (listed0.setIfInBounds i true) (a0.put oi'.dst v) := by
      intro u0
      rcases (H u0).2 i hi with h | h
      · omega
      · exact yieldsIn_of_qOp hoi' h.2
    obtain ⟨v, hy, _⟩ := HQ (Up.of (Below.refl _ _))
    have same : ∀ u0 : Up w0, anyHeadA P .any (withLate ops (n + m) late) (fun w' => ∃ u : Up u0.val, w' = u.val) n m (fun listed' a' => endB .any (withLate ops (n + m) late) n m g listed' = true ∧ Lq a') k (listed0.setIfInBounds i true) (a0.put oi'.dst v) := by
      intro u0
      obtain ⟨v', hy', h'⟩ := HQ u0
      have : v = v' := yields_same hy hy' ⟨u0.val, ⟨Up.of (w' := u0.val) u0.ok, rfl⟩, ⟨Up.of (w' := u0.val) (Below.refl _ _), rfl⟩⟩
      subst this
      exact h'
    have hlu' : ∀ j, j < n → (listed0.setIfInBounds i true).getD j true = false → j ∈ late := fun j hj hun' => hlu j hj (by
      by_cases hij : i = j
      · rw [← hij]; exact hun
      · rwa [getD_set_ne true hij] at hun')
    -- the value, whatever the world
    obtain ⟨_, F, ⟨_, hqF⟩, hF⟩ := final_frame (w0 := w0) k _ _ (inv.set hi hin) (same (Up.of (Below.refl _ _))) hlu' (fun l hl => by obtain ⟨_, h, _⟩ := spec l hl; exact h)
    obtain ⟨v', hv'⟩ := hLate F hqF i hil oi' hoi
    have hsi : ∀ cs b, oi'.op ≠ .select cs b := fun cs b => hsel i oi' cs b hoi
    have eF : execOp F.eval oi' = execOp a0.eval oi' := execOp_congr oi' hsi fun x hx => by
      cases x with
      | tmp d =>
        have hd' : d ∈ oi'.looksAt ops := List.mem_append_left _ (List.mem_filterMap.2 ⟨.tmp d, by simpa using hx, rfl⟩)
        have h1 := hF d (fun j hj oj hoj h => hlook j hj oj d hoj h hd')
        have h2 : (a0.put oi'.dst v).tmps.getD d undef = a0.tmps.getD d undef := by
          unfold Act.put
          cases ho : oi'.dst with
          | none => rfl
          | some d' =>
            have : d' ≠ d := fun e => hlook i hil oi' d' hoi ho (by rw [e]; exact hd')
            simp [Array.getElem?_setIfInBounds_ne this]
        exact h1.trans h2
      | const _ => rfl
      | global _ => rfl
      | func _ => rfl
    have eP : execOp (putsC (withLate ops (n + m) late) n blk (fun _ => true) m a0).eval oi' = execOp a0.eval oi' := puts_exec hsi m (fun j hj o ho => apartA j hj o ho i oi' hin hoi') a0
    have hwant : Region.wanted oi' (yielded ops (putsC (withLate ops (n + m) late) n blk (fun _ => true) m a0).tmps) = true := by unfold Region.wanted; rw [hg]
    have hvv : v = v' := by
      rcases hy with ⟨_, hy⟩ | ⟨hy, _⟩
      · have h1 := hy w0 ⟨Up.of (w' := w0) (Below.refl _ _), rfl⟩
        unfold Oper.quietAt at h1
        rw [← eF, hv' w0] at h1
        exact h1.2.symm
      · unfold Region.wanted at hy
        rw [hg] at hy
        cases hy
    subst hvv
    have hY : Yields P ops oi' v (putsC (withLate ops (n + m) late) n blk (fun _ => true) m a0) := .inl ⟨hwant, fun w => by rw [eP, ← eF]; exact hv' w⟩
    rw [Nat.add_right_comm]
    refine wpAny_first hoi hsel (fun c a w => hQ _ _ c a w) (k + g) listed _ w' (fun j oj hj hji hjun hno => ?_) hir hY ?_
    · rcases hap j oj hj hji with h2 | ⟨e, he, hb, hon⟩ | h2
      · have h3 := waited2 hNr closed h2
        rw [getD_both hjun] at h3
        cases h3
      · exact absurd hon (hno e he hb)
      · exact h2
    · have hp : (putsC (withLate ops (n + m) late) n blk (fun _ => true) m a0).put oi'.dst v = putsC (withLate ops (n + m) late) n blk (fun _ => true) m (a0.put oi'.dst v) :=
        (puts_yields hsi m (fun j hj o ho => apartA j hj o ho i oi' hin hoi') hy).2
      rw [hp]
      refine ih (listed0.setIfInBounds i true) (listed.setIfInBounds i true) _ blk w' (inv.set hi hin) (by simpa using hsz) (fun j hj => ?_) (fun j hj => ?_) (ready_mono hNr (Ne.symm hiN)) hlu' hw hBk same
      · by_cases hij : i = j
        · subst hij
          rw [Array.getElem?_setIfInBounds_self_of_lt (by rw [hsz]; omega), Array.getElem?_setIfInBounds_self_of_lt (by rw [inv.size, late_size]; omega)]
        · rw [Array.getElem?_setIfInBounds_ne hij, Array.getElem?_setIfInBounds_ne hij]; exact hR j hj
      · rw [getD_set_ne false (by omega)]; exact hd j hj
theorem any_of_alloc2 (hB : lateB2 ops (n + m) late = true) (hlt : ∀ l ∈ late, l < n) (hLate : ∀ a0, Lq a0 → LateOk P ops late a0) (hQ : ∀ d v c a w, Q' (.panic c) (Act.put a d v) w → Q' (.panic c) a w) (hsel : ∀ (j : Nat) (o : Oper) cs b, (withLate ops (n + m) late)[j]? = some o → o.op ≠ .select cs b)
    (hs : sinkA .any (withLate ops (n + m) late) n m = true) (hc : chainA .any (withLate ops (n + m) late) n m = true) (hf : freeA .any (withLate ops (n + m) late) n m = true) (hn : n + m < (withLate ops (n + m) late).size) (hal : allocOk P objs (withLate ops (n + m) late) n m)
    (hL : ∀ listed0 a0 blk w', endB .any (withLate ops (n + m) late) n m g listed0 = true → Lq a0 → (∃ u : Up w0, w' = u.val) → BlkAt w0 w' n m objs blk (fun _ => true) → wpAny P .any ops Q' g (markAll n m listed0) (putsC (withLate ops (n + m) late) n blk (fun _ => true) m a0) w') (t : Nat) :
    ∀ (k : Nat) (listed0 listed : Array Bool) (a0 : Act) (blk : Nat → Nat) (w' : World), k + cntC n (fun j => listed.getD j false) m = t → HeadInv .any (withLate ops (n + m) late) n listed0 →
      listed.size = (withLate ops (n + m) late).size → (∀ j, ¬ (n ≤ j ∧ j < n + m) → listed[j]? = listed0[j]?) → (∃ u : Up w0, w' = u.val) → BlkAt w0 w' n m objs blk (fun j => listed.getD j false) →
      (∀ u0 : Up w0, anyHeadA P .any (withLate ops (n + m) late) (fun w' => ∃ u : Up u0.val, w' = u.val) n m (fun listed' a' => endB .any (withLate ops (n + m) late) n m g listed' = true ∧ Lq a') k listed0 a0) →
      wpAny P .any ops Q' (t + g) listed (putsC (withLate ops (n + m) late) n blk (fun j => listed.getD j false) m a0) w' := by
  have free : ∀ j, j < m → (∀ i, i < n → Region.waitsFor .any (withLate ops (n + m) late) i (n + j) = false) ∧ Region.waitsFor .any (withLate ops (n + m) late) (n + m) (n + j) = true ∧ ∃ o, (withLate ops (n + m) late)[n + j]? = some o ∧ (∀ e ∈ o.after, Region.binds .any e = false) ∧ o.guard = none ∧
      (∀ i oi, i < n → (withLate ops (n + m) late)[i]? = some oi → o.apart (withLate ops (n + m) late) oi = true) ∧ ∀ i oi, i < m → i ≠ j → (withLate ops (n + m) late)[n + i]? = some oi → o.apart (withLate ops (n + m) late) oi = true := by
    intro j hj
    have h1 := List.all_eq_true.1 hf j (List.mem_range.2 hj)
    simp only [Bool.and_eq_true] at h1
    obtain ⟨⟨h2, h3⟩, h4⟩ := h1
    refine ⟨fun i hi => by simpa using List.all_eq_true.1 h2 i (List.mem_range.2 hi), h3, ?_⟩
    cases ho : (withLate ops (n + m) late)[n + j]? with
    | none => rw [ho] at h4; cases h4
    | some o =>
      rw [ho] at h4
      simp only [Bool.and_eq_true] at h4
      obtain ⟨⟨⟨h5, h6⟩, h7⟩, h8⟩ := h4
      refine ⟨o, rfl, fun e he => by simpa using Array.all_eq_true_iff_forall_mem.1 h5 e he, by simpa using h6, fun i oi hi hoi => ?_, fun i oi hi hij hoi => ?_⟩
      · have := List.all_eq_true.1 h7 i (List.mem_range.2 hi)
        simpa [hoi] using this
      · have := List.all_eq_true.1 h8 i (List.mem_range.2 hi)
        simpa [hoi, hij] using this
  induction t with
  | zero =>
    intro k listed0 listed a0 blk w' hk inv hsz hR hw hB2 H
    have hk0 : k = 0 := by omega
    have hc0 : cntC n (fun j => listed.getD j false) m = 0 := by omega
    subst hk0
    obtain ⟨hE, hq⟩ := H (Up.of (Below.refl _ _))
    have hd := cntC_zero m hc0
    have hlm : listed = markAll n m listed0 := by
      apply Array.ext_getElem?
      intro j
      rw [markAll_get m (by rw [inv.size]; omega)]
      by_cases h : n ≤ j ∧ j < n + m
      · rw [if_pos h]
        have h1 := hd (j - n) (by omega)
        rw [show n + (j - n) = j by omega] at h1
        have hlt : j < listed.size := by rw [hsz]; omega
        simpa [hlt] using h1
      · rw [if_neg h]; exact hR j h
    rw [Nat.zero_add, putsC_congr (blk := blk) (done := fun _ => true) m a0 (fun j hj => ⟨hd j hj, rfl⟩)]
    subst hlm
    exact hL listed0 a0 blk w' hE hq hw ⟨fun j hj _ => hB2.1 j hj (hd j hj), fun j j' hj hj' _ _ => hB2.2 j j' hj hj' (hd j hj) (hd j' hj')⟩
  | succ t ih =>
    intro k listed0 listed a0 blk w' hk inv hsz hR hw hB2 H
    have hget : ∀ j d, ¬ (n ≤ j ∧ j < n + m) → listed.getD j d = listed0.getD j d := fun j d h => by
      simp only [Array.getD_eq_getD_getElem?]
      rw [hR j h]
    have inv' : InvA .any (withLate ops (n + m) late) n m listed := ⟨hsz, fun j oj hj hoj hl e he hb => by
        rw [hget j false (by omega)] at hl
        have h1 := inv.closed j oj hoj hl e he hb
        by_cases h : n ≤ e.on ∧ e.on < n + m
        · have := (free (e.on - n) (by omega)).1 j hj
          rw [show n + (e.on - n) = e.on by omega] at this
          unfold Region.waitsFor at this
          simp only [hoj] at this
          have h2 : (oj.after.any fun e' => Region.binds .any e' && e'.on == e.on) = true := Array.any_eq_true'.2 ⟨e, he, by simp [hb]⟩
          rw [h2] at this
          cases this
        · rw [hget _ _ h]; exact h1, fun t ht ht' => by rw [hget t true (by omega)]; exact inv.tail t (by omega) ht'⟩
    have up : ∀ i, i < n → i ∈ Region.ready .any (withLate ops (n + m) late) listed0 → i ∈ Region.ready .any (withLate ops (n + m) late) listed := by
      intro i hi hr
      obtain ⟨hun, oi, hoi, hall⟩ := mem_ready.1 hr
      refine mem_ready.2 ⟨by rw [hget i true (by omega)]; exact hun, oi, hoi, fun e he hb => ?_⟩
      by_cases h : n ≤ e.on ∧ e.on < n + m
      · have := (free (e.on - n) (by omega)).1 i hi
        rw [show n + (e.on - n) = e.on by omega] at this
        unfold Region.waitsFor at this
        simp only [hoi] at this
        have h2 : (oi.after.any fun e' => Region.binds .any e' && e'.on == e.on) = true := Array.any_eq_true'.2 ⟨e, he, by simp [hb]⟩
        rw [h2] at this
        cases this
      · rw [hget _ _ h]; exact hall e he hb
    have down : ∀ i, i < n → i ∈ Region.ready .any (withLate ops (n + m) late) listed → i ∈ Region.ready .any (withLate ops (n + m) late) listed0 := by
      intro i hi hr
      obtain ⟨hun, oi, hoi, hall⟩ := mem_ready.1 hr
      refine mem_ready.2 ⟨by rw [← hget i true (by omega)]; exact hun, oi, hoi, fun e he hb => ?_⟩
      by_cases h : n ≤ e.on ∧ e.on < n + m
      · have := (free (e.on - n) (by omega)).1 i hi
        rw [show n + (e.on - n) = e.on by omega] at this
        unfold Region.waitsFor at this
        simp only [hoi] at this
        have h2 : (oi.after.any fun e' => Region.binds .any e' && e'.on == e.on) = true := Array.any_eq_true'.2 ⟨e, he, by simp [hb]⟩
        rw [h2] at this
        cases this
      · rw [← hget _ _ h]; exact hall e he hb
    have undone : k = 0 → ∃ j, j < m ∧ listed.getD (n + j) false = false := fun hk0 => cntC_pos (done := fun j => listed.getD j false) m (by omega)
    have hready : Region.ready .any (withLate ops (n + m) late) listed ≠ [] := by
      cases k with
      | zero =>
        obtain ⟨j, hj, hd⟩ := undone rfl
        obtain ⟨_, _, o, ho, hb, _⟩ := free j hj
        have : n + j ∈ Region.ready .any (withLate ops (n + m) late) listed := mem_ready.2 ⟨getD_in (by rw [hsz]; omega) hd, o, ho, fun e he hb' => by rw [hb e he] at hb'; cases hb'⟩
        intro h; rw [h] at this; cases this
      | succ k =>
        obtain ⟨i, hi, hin⟩ := (H (Up.of (Below.refl _ _))).1
        have := up i hin hi
        intro h; rw [h] at this; cases this
    by_cases hA : (n + m) ∈ Region.ready .any ops listed ∧ ∃ l ∈ late, listed.getD l true = false
    · obtain ⟨hNr, _⟩ := hA
      have hd : ∀ j, j < m → listed.getD (n + j) false = true := fun j hj => by
        obtain ⟨o', ho', e, he, hb, hon⟩ := Region.waitsFor_spec (free j hj).2.1
        obtain ⟨oN, hoN⟩ : ∃ oN, ops[n + m]? = some oN := by
          obtain ⟨_, o, ho, _⟩ := mem_ready.1 hNr
          exact ⟨o, ho⟩
        rw [late_at hoN] at ho'
        cases ho'
        rcases Array.mem_append.1 he with he | he
        · refine waited hNr ?_
          unfold Region.waitsFor
          simp only [hoN]
          exact Array.any_eq_true'.2 ⟨e, he, by simp [hb, hon]⟩
        · obtain ⟨l, hl1, rfl⟩ : ∃ l ∈ late, (⟨l, .data⟩ : Edge) = e := by simpa using he
          have := hlt l hl1
          simp only at hon
          omega
      have hc0 : cntC n (fun j => listed.getD j false) m = 0 := by
        rcases Nat.eq_zero_or_pos (cntC n (fun j => listed.getD j false) m) with h | h
        · exact h
        · obtain ⟨j, hj, hd'⟩ := cntC_pos (n := n) (done := fun j => listed.getD j false) m (by omega)
          have := (hd j hj).symm.trans hd'
          cases this
      have hkt : k = t + 1 := by omega
      obtain ⟨hN2, _, spec⟩ := lateB2_spec hB
      have closed : ∀ t ot, t < n + m → ops[t]? = some ot → listed.getD t false = true → ∀ e ∈ ot.after, Region.binds .any e = true → listed.getD e.on false = true := by
        intro t ot ht hot hl e he hb
        rcases Nat.lt_or_ge t n with htn | htn
        · exact inv'.closed t ot htn (by rw [late_ne (by omega)]; exact hot) hl e he hb
        · obtain ⟨_, _, o, ho, hb', _⟩ := free (t - n) (by omega)
          rw [show n + (t - n) = t by omega, late_ne (by omega)] at ho
          have : o = ot := Option.some.inj (ho.symm.trans hot)
          subst this
          rw [hb' e he] at hb
          cases hb
      have hlu : ∀ (d i : Nat), n - i = d → i < n → listed.getD i true = false → i ∈ late := by
        intro d
        induction d using Nat.strongRecOn with
        | _ d ihd =>
          intro i hid hin hun
          have h1 := List.all_eq_true.1 hs i (List.mem_range.2 hin)
          obtain ⟨j, hj, hj2⟩ := List.any_eq_true.1 h1
          simp only [Bool.and_eq_true, Bool.or_eq_true, decide_eq_true_eq] at hj2
          obtain ⟨⟨hij, hjn⟩, hw⟩ := hj2
          obtain ⟨oj, hoj, e, he, hb, hon⟩ := Region.waitsFor_spec hw
          by_cases hjN : j = n + m
          · subst hjN
            obtain ⟨_, oN, hoN, _⟩ := mem_ready.1 hNr
            rw [late_at hoN] at hoj
            cases hoj
            rcases Array.mem_append.1 he with he | he
            · have h2 : listed.getD i false = true := by
                refine waited hNr ?_
                unfold Region.waitsFor
                simp only [hoN]
                exact Array.any_eq_true'.2 ⟨e, he, by simp [hb, hon]⟩
              rw [getD_both hun] at h2
              cases h2
            · obtain ⟨l, hl1, rfl⟩ : ∃ l ∈ late, (⟨l, .data⟩ : Edge) = e := by simpa using he
              simp only at hon
              rw [← hon]; exact hl1
          · have hjlt : j < n := by omega
            cases hl : listed.getD j false with
            | true =>
              have h2 := inv'.closed j oj hjlt hoj hl e he hb
              rw [hon, getD_both hun] at h2
              cases h2
            | false =>
              have hjs : j < listed.size := by rw [hsz]; omega
              have hjl := ihd (n - j) (by omega) j rfl hjlt (getD_in hjs hl)
              obtain ⟨ol, hne, ho, _, hdep, _⟩ := spec j hjl
              rw [late_ne hne] at hoj
              have : oj = ol := Option.some.inj (hoj.symm.trans ho)
              subst this
              have h2 := waited2 hNr closed (hdep e he hb)
              rw [hon, getD_both hun] at h2
              cases h2
      have T := finish_late (P := P) (g := g) (w0 := w0) (objs := objs) (Lq := Lq) (Q' := Q') hB hf hlt hL hLate hQ k listed0 listed a0 blk w' inv (by rw [hsz, late_size]) hR hd hNr (fun i hi hun => hlu _ i rfl hi (by rw [hget i true (by omega)]; exact hun)) hw
        ⟨fun j hj _ => hB2.1 j hj (hd j hj), fun j j' hj hj' _ _ => hB2.2 j j' hj hj' (hd j hj) (hd j' hj')⟩ H
      rw [putsC_congr (blk := blk) (done := fun _ => true) m a0 (fun j hj => ⟨hd j hj, rfl⟩), ← hkt]
      exact T
    rw [Nat.add_right_comm]
    have hready2 : Region.ready .any ops listed ≠ [] := by
      intro h0
      cases hr : Region.ready .any (withLate ops (n + m) late) listed with
      | nil => exact hready hr
      | cons x xs =>
        have := (late_ready.1 (show x ∈ Region.ready .any (withLate ops (n + m) late) listed by rw [hr]; simp)).1
        rw [h0] at this
        cases this
    refine ⟨fun h => absurd h hready2, fun i hi0 => ?_⟩
    have hi : i ∈ Region.ready .any (withLate ops (n + m) late) listed := late_ready.2 ⟨hi0, fun hiN l hl => by
      cases hg : listed.getD l false with
      | true => rfl
      | false => exact absurd ⟨hiN ▸ hi0, l, hl, getD_in (by rw [hsz, late_size]; have := hlt l hl; rw [late_size] at hn; omega) hg⟩ hA⟩
    rw [← late_wpOp (N := n + m) (late := late)]
    rcases Nat.lt_or_ge i n with hin | hin
    · -- a head operation
      cases k with
      | zero =>
        have h1 := (H (Up.of (Below.refl _ _))).1
        simp only [endB, Bool.and_eq_true] at h1
        have := List.all_eq_true.1 h1.1 i (down i hin hi)
        simp at this
        omega
      | succ k =>
        obtain ⟨_, oi, hoi, _⟩ := mem_ready.1 hi
        have hri := down i hin hi
        have HQ : ∀ u0 : Up w0, ∃ v, YieldsIn P (withLate ops (n + m) late) (fun w' => ∃ u : Up u0.val, w' = u.val) oi v a0 ∧ anyHeadA P .any (withLate ops (n + m) late) (fun w' => ∃ u : Up u0.val, w' = u.val) n m (fun listed' a' => endB .any (withLate ops (n + m) late) n m g listed' = true ∧ Lq a') k (listed0.setIfInBounds i true) (a0.put oi.dst v) := by
          intro u0
          rcases (H u0).2 i hri with h | h
          · omega
          · exact yieldsIn_of_qOp hoi h.2
        obtain ⟨v, hy, _⟩ := HQ (Up.of (Below.refl _ _))
        have same : ∀ u0 : Up w0, YieldsIn P (withLate ops (n + m) late) (fun w' => ∃ u : Up u0.val, w' = u.val) oi v a0 ∧ anyHeadA P .any (withLate ops (n + m) late) (fun w' => ∃ u : Up u0.val, w' = u.val) n m (fun listed' a' => endB .any (withLate ops (n + m) late) n m g listed' = true ∧ Lq a') k (listed0.setIfInBounds i true) (a0.put oi.dst v) := by
          intro u0
          obtain ⟨v', hy', h'⟩ := HQ u0
          have : v = v' := yields_same hy hy' ⟨u0.val, ⟨Up.of (w' := u0.val) u0.ok, rfl⟩, ⟨Up.of (w' := u0.val) (Below.refl _ _), rfl⟩⟩
          subst this
          exact ⟨hy', h'⟩
        obtain ⟨u, rfl⟩ := hw
        have hap : ∀ j, j < m → ∀ o, (withLate ops (n + m) late)[n + j]? = some o → o.apart (withLate ops (n + m) late) oi = true := fun j hj o ho => by
          obtain ⟨_, _, o', ho', _, _, h3, _⟩ := free j hj
          have : o = o' := Option.some.inj (ho.symm.trans ho')
          subst this
          exact h3 i oi hin hoi
        obtain ⟨hy2, hp⟩ := puts_yields (n := n) (blk := blk) (done := fun j => listed.getD j false) (fun cs b => hsel i oi cs b hoi) m hap (same u).1
        have hq : qOp P (withLate ops (n + m) late) (fun w' => ∃ u' : Up u.val, w' = u'.val) i (fun a' => a' = putsC (withLate ops (n + m) late) n blk (fun j => listed.getD j false) m (a0.put oi.dst v)) (putsC (withLate ops (n + m) late) n blk (fun j => listed.getD j false) m a0) := hy2.qOp hoi hp
        refine wpOp_of_qOp (C := fun w' => ∃ u' : Up u.val, w' = u'.val) ⟨Up.of (w' := u.val) (Below.refl _ _), rfl⟩ (fun a' w'' hw' ha' => ?_) hq
        subst ha'
        obtain ⟨u', rfl⟩ := hw'
        have hset : ∀ j, n ≤ j → (listed.setIfInBounds i true).getD j false = listed.getD j false := fun j hj => getD_set_ne false (by omega)
        have := ih k (listed0.setIfInBounds i true) (listed.setIfInBounds i true) (a0.put oi.dst v) blk u'.val (by
            rw [cntC_congr (done := fun j => listed.getD j false) m (fun j hj => hset (n + j) (by omega))]; omega) (inv.set hri hin) (by simpa using hsz) (fun j hj => by
            by_cases hij : i = j
            · subst hij
              rw [Array.getElem?_setIfInBounds_self_of_lt (by rw [hsz]; omega), Array.getElem?_setIfInBounds_self_of_lt (by rw [inv.size]; omega)]
            · rw [Array.getElem?_setIfInBounds_ne hij, Array.getElem?_setIfInBounds_ne hij]; exact hR j hj)
            ⟨Up.of (w' := u'.val) (btrans u.ok u'.ok), rfl⟩ (by
              have := hB2.keep u'.ok
              exact ⟨fun j hj hd => this.1 j hj ((hset (n + j) (by omega)).symm.trans hd), fun j j' hj hj' hd hd' => this.2 j j' hj hj' ((hset (n + j) (by omega)).symm.trans hd) ((hset (n + j') (by omega)).symm.trans hd')⟩) (fun u0 => (same u0).2)
        rwa [putsC_congr (blk := blk) (done := fun j => listed.getD j false) m _ (fun j hj => ⟨hset (n + j) (by omega), rfl⟩)] at this
    · rcases Nat.lt_or_ge i (n + m) with him | him
      · -- an alloc
        obtain ⟨j, rfl⟩ : ∃ j, i = n + j := ⟨i - n, by omega⟩
        have hj : j < m := by omega
        obtain ⟨_, _, o, ho, _, hg, _, _⟩ := free j hj
        have hdf : listed.getD (n + j) false = false := getD_both (mem_ready.1 hi).1
        have hlt : n + j < listed.size := by rw [hsz]; omega
        have hdt : (listed.setIfInBounds (n + j) true).getD (n + j) false = true := by simp [hlt]
        have hset : ∀ i, i ≠ j → (listed.setIfInBounds (n + j) true).getD (n + i) false = listed.getD (n + i) false := fun i hij => getD_set_ne false (by omega)
        unfold wpOp
        simp only [ho]
        rw [if_pos (by unfold Region.wanted; rw [hg])]
        left
        unfold Oper.wp
        rw [hal j hj o ho]
        simp only [Oper.upon]
        obtain ⟨u, rfl⟩ := hw
        have hb1 : Below u.val.heap.size u.val (u.val.alloc (objs j)) := balloc (Below.refl _ _) _
        have hsize : (u.val.alloc (objs j)).heap.size = u.val.heap.size + 1 := by show (u.val.heap.push _).size = _; simp
        have := ih k listed0 (listed.setIfInBounds (n + j) true) a0 (fun i => if i = n + j then u.val.heap.size else blk i) (u.val.alloc (objs j)) (by
            have := cntC_add (n := n) (i := j) (done := fun j => listed.getD j false) (done' := fun i => (listed.setIfInBounds (n + j) true).getD i false) m hdf hdt hset hj
            omega) inv (by simpa using hsz) (fun i' hi' => by
            rw [Array.getElem?_setIfInBounds_ne (by omega)]; exact hR i' hi') ⟨Up.of (w' := u.val.alloc (objs j)) (btrans u.ok hb1), rfl⟩ (by
              have hk := hB2.keep hb1
              refine ⟨fun i HX hd => ?_, fun i i' HX HX' hd hd' hne => ?_⟩
              · by_cases hij : i = j
                · subst hij
                  simp only [if_true]
                  refine ⟨u.ok.size, by omega, ?_⟩
                  show (u.val.heap.push _)[u.val.heap.size]? = _
                  simp
                · simp only [show (n + i = n + j) = False by simp [hij], if_false]
                  exact hk.1 i HX ((hset i hij).symm.trans hd)
              · by_cases hij : i = j
                · subst hij
                  have hij' : i' ≠ i := fun h => hne h.symm
                  simp only [if_true, show (n + i' = n + i) = False by simp [hij'], if_false]
                  have := (hB2.1 i' HX' ((hset i' hij').symm.trans hd')).2.1
                  omega
                · by_cases hij' : i' = j
                  · subst hij'
                    simp only [if_true, show (n + i = n + i') = False by simp [hij], if_false]
                    have := (hB2.1 i HX ((hset i hij).symm.trans hd)).2.1
                    omega
                  · simp only [show (n + i = n + j) = False by simp [hij], show (n + i' = n + j) = False by simp [hij'], if_false]
                    exact hB2.2 i i' HX HX' ((hset i hij).symm.trans hd) ((hset i' hij').symm.trans hd') hne) H
        rw [putsC_add (M := m) (i := j) (B := u.val.heap.size) (blk := blk) (done := fun j => listed.getD j false) (fun x x' hx hx' hxx y y' hy hy' => by
            obtain ⟨_, _, z, hz, _, _, _, h4⟩ := free x hx
            have : y = z := Option.some.inj (hy.symm.trans hz)
            subst this
            exact h4 x' y' hx' (Ne.symm hxx) hy') a0 hdf hdt (by simp) (fun i hij => ⟨hset i hij, by simp [hij]⟩) hj (Nat.le_refl _)] at this
        simpa [ho] using this
      · -- none of the last ones is ready
        exfalso
        cases k with
        | succ k =>
          obtain ⟨i0, hi0, hi0n⟩ := (H (Up.of (Below.refl _ _))).1
          exact tail_waitsA hs hc hn inv' _ i0 rfl hi0n (mem_ready.1 (up i0 hi0n hi0)).1 i him hi
        | zero =>
          obtain ⟨j, hj, hd⟩ := undone rfl
          obtain ⟨_, oi, hoi, hall⟩ := mem_ready.1 hi
          have hilt : i < (withLate ops (n + m) late).size := (Array.getElem?_eq_some_iff.1 hoi).1
          by_cases hiN : i = n + m
          · subst hiN
            obtain ⟨o', ho', e, he, hb, hon⟩ := Region.waitsFor_spec (free j hj).2.1
            have : o' = oi := Option.some.inj (ho'.symm.trans hoi)
            subst this
            have h2 := hall e he hb
            rw [hon, hd] at h2
            cases h2
          · have h1 := List.all_eq_true.1 hc i (List.mem_range.2 hilt)
            simp only [Bool.or_eq_true, decide_eq_true_eq] at h1
            rcases h1 with h1 | h1
            · omega
            · obtain ⟨o', ho', e, he, hb, hon⟩ := Region.waitsFor_spec h1
              have : o' = oi := Option.some.inj (ho'.symm.trans hoi)
              subst this
              have h2 := hall e he hb
              rw [hon, getD_both (inv'.tail (i - 1) (by omega) (by omega))] at h2
              cases h2
end

def lexAllocB2 (ops : Array Oper) (n m : Nat) (late : List Nat) : Bool :=
  let ops' := withLate ops (n + m) late
  lateB2 ops (n + m) late && late.all (fun l => decide (l < n)) && (Region.noSelect ops' && sinkA .any ops' n m && chainA .any ops' n m && freeA .any ops' n m && lexHeadA .any ops' n m (ops.size - (n + m)) n 0 (Array.replicate ops.size false))

theorem wp_region_allocL {P : Program} {id : Nat} {Q : Exit → Act → World → Prop} {a : Act} {w : World} {l : List Oper} (n m : Nat) (late : List Nat) (objs : Nat → Obj) (hm : P.follows .mixedOrders = true) (hB : lexAllocB2 l.toArray n m late = true)
    (hQ : ∀ d v c a w, Q (.panic c) (Act.put a d v) w → Q (.panic c) a w) (hal : allocOk P objs l.toArray n m)
    (h : ∀ u0 : Up w, wpQuiet P l.toArray (fun w' => ∃ u : Up u0.val, w' = u.val) (fun a' => LateOk P l.toArray late a' ∧ ∀ w', (∃ u : Up w, w' = u.val) → ∀ blk, BlkAt w w' n m objs blk (fun _ => true) → wpList P l.toArray Q (l.drop (n + m)) (putsC l.toArray n blk (fun _ => true) m a') w') (l.take n) a) : (Code.region id l.toArray true).wp P Q a w := by
  simp only [lexAllocB2, Bool.and_eq_true] at hB
  obtain ⟨⟨hlate, hlt⟩, ⟨⟨⟨hsel, hs⟩, hc⟩, hf⟩, hlex⟩ := hB
  have hlt' : ∀ x ∈ late, x < n := fun x hx => by simpa using List.all_eq_true.1 hlt x hx
  have hn : n + m < l.toArray.size := (lateB2_spec hlate).1
  have hn' : n + m < l.length := by simpa using hn
  have htl : (l.take n).length = n := by simp; omega
  have hdl : (l.drop (n + m)).length = l.toArray.size - (n + m) := by simp
  have inv0 : HeadInv .any (withLate l.toArray (n + m) late) n (Array.replicate l.toArray.size false) :=
    ⟨by simp [late_size], fun j oj _ hl => (by rw [getD_replicate_false] at hl; cases hl), fun t _ ht => getD_in (by simpa [late_size] using ht) (getD_replicate_false _ _)⟩
  refine wp_region_any hm ?_
  have T := any_of_alloc2 (P := P) (ops := l.toArray) (late := late) (n := n) (m := m) (g := l.toArray.size - (n + m)) (w0 := w) (objs := objs) (Q' := Q)
    (Lq := fun a' => LateOk P l.toArray late a' ∧ ∀ w', (∃ u : Up w, w' = u.val) → ∀ blk, BlkAt w w' n m objs blk (fun _ => true) → wpList P l.toArray Q (l.drop (n + m)) (putsC l.toArray n blk (fun _ => true) m a') w')
    hlate hlt' (fun _ h => h.1) hQ (Region.noSelect_spec hsel) hs hc hf (by rw [late_size]; exact hn) (fun j hj o ho => by
      rw [late_ne (by omega)] at ho
      exact hal j hj o ho)
    (fun listed0 a0 blk w' hE hq hw hb => by
      have h1 := hq.2 w' hw blk hb
      have e : putsC (withLate l.toArray (n + m) late) n blk (fun _ => true) m a0 = putsC l.toArray n blk (fun _ => true) m a0 := by
        have : ∀ k, k ≤ m → putsC (withLate l.toArray (n + m) late) n blk (fun _ => true) k a0 = putsC l.toArray n blk (fun _ => true) k a0 := by
          intro k
          induction k with
          | zero => exact fun _ => rfl
          | succ k ih =>
            intro hk
            simp only [putsC]
            rw [ih (by omega), late_ne (by omega)]
        exact this m (Nat.le_refl _)
      rw [e]
      simp only [endB, Bool.and_eq_true] at hE
      have hE2 : Region.seqB .any (withLate l.toArray (n + m) late) (l.drop (n + m)).length (n + m) (markAll n m listed0) = true := by rw [hdl]; exact hE.2
      have h2 := any_of_seq_late (P := P) (md := .any) (Q' := Q) (l.drop (n + m)) (n + m) (markAll n m listed0) _ w' (fun j => by simp [List.getElem?_drop]) hE2 h1
      rw [hdl] at h2
      refine any_late_done _ _ _ _ ?_ h2
      have h3 : (n + m) ∈ Region.ready .any (withLate l.toArray (n + m) late) (markAll n m listed0) := by
        rw [show (l.drop (n + m)).length = ((l.drop (n + m)).length - 1) + 1 by rw [hdl]; omega] at hE2
        simp only [Region.seqB, Bool.and_eq_true, decide_eq_true_eq] at hE2
        rw [hE2.1]; simp
      exact (late_ready.1 h3).2 rfl)
    (n + m) n _ (Array.replicate l.toArray.size false) a (fun _ => 0) w.drew (by
      rw [cntC_none m (fun j _ => getD_replicate_false _ _)]) inv0 (by simp [late_size]) (fun j _ => rfl) ⟨Up.of (w' := w.drew) (Below.drew (Below.refl _ _)), rfl⟩ ⟨fun j _ hd => absurd ((getD_replicate_false _ _).symm.trans hd) Bool.false_ne_true, fun j _ _ _ hd => absurd ((getD_replicate_false _ _).symm.trans hd) Bool.false_ne_true⟩ (fun u0 => by
        have := head_lexA (P := P) (C := fun w' => ∃ u : Up u0.val, w' = u.val) (g := l.toArray.size - (n + m)) hsel hs hc (by rw [late_size]; exact hn) (l.take n) 0 (Array.replicate l.toArray.size false) a (fun j hj => by
            have hj' : j < n := by rw [htl] at hj; exact hj
            rw [late_ne (by omega)]
            simp [hj']) (by simpa using htl) inv0 (by rw [htl]; exact hlex) (quiet_late _ _ (h u0))
        rwa [htl] at this)
  rw [putsC_none m a (fun j _ => getD_replicate_false _ _), show n + m + (l.toArray.size - (n + m)) = l.toArray.size by omega] at T
  exact T

/-- no alloc: some of the head may come late -/
theorem wp_region_lateL {P : Program} {id : Nat} {Q : Exit → Act → World → Prop} {a : Act} {w : World} {l : List Oper} (n : Nat) (late : List Nat) (hm : P.follows .mixedOrders = true) (hB : lexAllocB2 l.toArray n 0 late = true)
    (hQ : ∀ d v c a w, Q (.panic c) (Act.put a d v) w → Q (.panic c) a w)
    (h : ∀ u0 : Up w, wpQuiet P l.toArray (fun w' => ∃ u : Up u0.val, w' = u.val) (fun a' => LateOk P l.toArray late a' ∧ ∀ w', (∃ u : Up w, w' = u.val) → wpList P l.toArray Q (l.drop n) a' w') (l.take n) a) : (Code.region id l.toArray true).wp P Q a w :=
  wp_region_allocL n 0 late (fun _ => .cells #[] 0) hm hB hQ (fun j hj => by omega) (fun u0 => quiet_end (fun a' h1 => ⟨h1.1, fun w' hw' blk _ => h1.2 w' hw'⟩) _ _ (h u0))

theorem lateOk_nil {P : Program} {ops : Array Oper} {F : Act} : LateOk P ops [] F := fun i hi => by cases hi
theorem lateOk_cons {P : Program} {ops : Array Oper} {F : Act} {i : Nat} {late : List Nat} (o : Oper) (ho : ops[i]? = some o) (v : Value) (h : ∀ w, (execOp F.eval o).run P w = .ok (.value v) w) (hl : LateOk P ops late F) : LateOk P ops (i :: late) F := by
  intro j hj o' ho'
  rcases List.mem_cons.1 hj with rfl | hj
  · rw [ho] at ho'
    cases ho'
    exact ⟨v, h⟩
  · exact hl j hj o' ho'
end Go.Proofs.Ytfmkdccpgkbnoaa.bs
