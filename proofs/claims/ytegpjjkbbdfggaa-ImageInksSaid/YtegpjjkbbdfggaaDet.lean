/-
  A call hands back one value: two contracts of one call at one world tell the same value. And an edge may be added to a drawing region, from the first of its last operations to a move or an extract ahead of it.
-/
import Derived.Test.YtegpjjkbbdfggaaUpTail
namespace Go.Proofs.Ytegpjjkbbdfggaa.bs
set_option linter.unusedVariables false
set_option linter.unusedSimpArgs false
open Go.RowKit

/-- a caller that stops as soon as the value has come -/
def stopper : Frame := { fn := 0, tmps := #[], todo := [.extern "" #[], .code (.cond (.const undef) .skip .skip)], defers := [], mode := .run, kind := .normal }

theorem stopper_ends (P : Program) (v : Value) (w : World) : ∃ o, step P (lone (stopper.finish v) [] w) = .ended o w :=
  ⟨_, step_lone_ended (by simp [stepG, stepG.exec, stopper, Frame.finish, Frame.eval, undef]; rfl)⟩

theorem runN_ended {P : Program} {m s : Machine} {o : Outcome} {w : World} (hs : step P s = .ended o w) : ∀ n, runN P n m = .next s → ∀ k, runN P (n + 1 + k) m = .ended o w := by
  intro n
  induction n generalizing m with
  | zero =>
    intro h k
    simp only [runN, Stepped.next.injEq] at h
    subst h
    rw [show 0 + 1 + k = k + 1 by omega]
    simp only [runN, hs]
  | succ n ih =>
    intro h k
    rw [show n + 1 + 1 + k = (n + 1 + k) + 1 by omega]
    simp only [runN] at h ⊢
    cases h1 : step P m with
    | next m1 =>
      rw [h1] at h
      exact ih h k
    | ended o' w' => rw [h1] at h; cases h

theorem steps_same {P : Program} {m s1 s2 : Machine} {o1 o2 : Outcome} {w1 w2 : World} (h1 : Steps P m s1) (h2 : Steps P m s2) (e1 : step P s1 = .ended o1 w1) (e2 : step P s2 = .ended o2 w2) : s1 = s2 := by
  obtain ⟨n1, h1⟩ := h1
  obtain ⟨n2, h2⟩ := h2
  rcases Nat.lt_trichotomy n1 n2 with h | h | h
  · have := runN_ended e1 n1 h1 (n2 - n1 - 1)
    rw [show n1 + 1 + (n2 - n1 - 1) = n2 by omega, h2] at this
    cases this
  · subst h
    rw [h1] at h2
    exact Stepped.next.inj h2
  · have := runN_ended e2 n2 h2 (n1 - n2 - 1)
    rw [show n2 + 1 + (n1 - n2 - 1) = n1 by omega, h1] at this
    cases this

theorem calls_same {P : Program} {f : FuncId} {args : Array Value} {w : World} {v1 v2 : Value} {A B : World → Prop} (h1 : Calls P f args w fun e w' => e = .returned v1 ∧ A w')
    (h2 : Calls P f args w fun e w' => e = .returned v2 ∧ B w') : v1 = v2 := by
  obtain ⟨_, w1, f1, ⟨rfl, _⟩, s1, _, l1⟩ := h1 [stopper]
  obtain ⟨_, w2, f2, ⟨rfl, _⟩, s2, _, l2⟩ := h2 [stopper]
  have t1 := Steps.trans s1 (Steps.one (step_leave_returned l1))
  have t2 := Steps.trans s2 (Steps.one (step_leave_returned l2))
  obtain ⟨o1, e1⟩ := stopper_ends P v1 w1
  obtain ⟨o2, e2⟩ := stopper_ends P v2 w2
  have := steps_same t1 t2 e1 e2
  exact (by simpa [lone, stopper, Frame.finish] using this : w1 = w2 ∧ v1 = v2).2

section
variable {P : Program} {ops : Array Oper} {md : Region.Mode} {C C1 C2 : World → Prop}

theorem quietAt_same {o : Oper} {a : Act} {w : World} {v1 v2 : Value} (h1 : o.quietAt P a C1 w v1) (h2 : o.quietAt P a C2 w v2) : v1 = v2 := by
  unfold Oper.quietAt at h1 h2
  generalize (execOp a.eval o).run P w = r at *
  cases r with
  | ok n w' =>
    cases n <;> simp only [Oper.quietUpon] at h1 h2
    case value u => rw [← h1.2, ← h2.2]
    case skip => rw [h1.2, h2.2]
    case enter f args => exact calls_same h1.2 h2.2
  | halt x w' => simp only [Oper.quietUpon] at h1

theorem yields_same {o : Oper} {a : Act} {v1 v2 : Value} (h1 : YieldsIn P ops C1 o v1 a) (h2 : YieldsIn P ops C2 o v2 a) (hw : ∃ w, C1 w ∧ C2 w) : v1 = v2 := by
  obtain ⟨w, c1, c2⟩ := hw
  rcases h1 with ⟨a1, b1⟩ | ⟨a1, b1⟩ <;> rcases h2 with ⟨a2, b2⟩ | ⟨a2, b2⟩
  · exact quietAt_same (b1 w c1) (b2 w c2)
  · rw [a1] at a2; cases a2
  · rw [a1] at a2; cases a2
  · rw [b1, b2]
end
/-! ### An edge more: from operation N to moves and extracts that may come late -/

def isLate (o : Oper) : Bool := match o.op with
  | .move _ => true
  | .assign _ => true
  | .extract _ _ => true
  | _ => false
def withLate (ops : Array Oper) (N : Nat) (late : List Nat) : Array Oper :=
  match ops[N]? with
  | some o => ops.setIfInBounds N { o with after := o.after ++ (late.map fun i => (⟨i, .data⟩ : Edge)).toArray }
  | none => ops
def lateB (ops : Array Oper) (N : Nat) (late : List Nat) : Bool :=
  Region.noSelect ops && decide (N < ops.size) && late.all fun i => decide (i ≠ N) && match ops[i]? with
    | some oi => isLate oi && oi.after.all (fun e => !Region.binds .any e || Region.waitsFor .any ops N e.on) &&
      (List.range ops.size).all fun j => j == i || Region.waitsFor .any ops N j || match ops[j]? with
        | some oj => oj.after.any (fun e => Region.binds .any e && e.on == i) || oi.apart ops oj
        | none => true
    | none => false

section
variable {P : Program} {ops : Array Oper} {Q : Exit → Act → World → Prop} {N : Nat} {late : List Nat}

theorem late_ne {i : Nat} (h : i ≠ N) : (withLate ops N late)[i]? = ops[i]? := by
  unfold withLate
  split
  · exact Array.getElem?_setIfInBounds_ne (Ne.symm h)
  · rfl
theorem late_at {o : Oper} (h : ops[N]? = some o) : (withLate ops N late)[N]? = some { o with after := o.after ++ (late.map fun i => (⟨i, .data⟩ : Edge)).toArray } := by
  unfold withLate
  simp only [h]
  rw [Array.getElem?_setIfInBounds_self_of_lt (Array.getElem?_eq_some_iff.1 h).1]
theorem late_size : (withLate ops N late).size = ops.size := by
  unfold withLate
  split <;> simp
theorem late_yielded : yielded (withLate ops N late) = yielded ops := by
  funext tmps j
  unfold yielded
  by_cases h : j = N
  · subst h
    cases ho : ops[j]? with
    | some o => rw [late_at ho]; rfl
    | none => unfold withLate; simp only [ho]
  · rw [late_ne h]
theorem late_wpOp {i : Nat} {K : Act → World → Prop} {a : Act} {w : World} : wpOp P (withLate ops N late) Q i K a w = wpOp P ops Q i K a w := by
  unfold wpOp
  rw [late_yielded]
  by_cases h : i = N
  · subst h
    cases ho : ops[i]? with
    | some o => rw [late_at ho]; rfl
    | none => unfold withLate; simp only [ho]
  · rw [late_ne h]
theorem late_ready {i : Nat} {listed : Array Bool} : i ∈ Region.ready .any (withLate ops N late) listed ↔ i ∈ Region.ready .any ops listed ∧ (i = N → ∀ l ∈ late, listed.getD l false = true) := by
  rw [mem_ready, mem_ready]
  by_cases h : i = N
  · subst h
    cases ho : ops[i]? with
    | some o =>
      rw [late_at ho]
      constructor
      · rintro ⟨h0, o', ho', hall⟩
        cases ho'
        refine ⟨⟨h0, o, rfl, fun e he hb => hall e (by simp [he]) hb⟩, fun _ l hl => ?_⟩
        exact hall ⟨l, .data⟩ (by simp [hl]) rfl
      · rintro ⟨⟨h0, o', ho', hall⟩, hl⟩
        cases ho'
        refine ⟨h0, _, rfl, fun e he hb => ?_⟩
        rcases Array.mem_append.1 he with he | he
        · exact hall e he hb
        · obtain ⟨l, hl1, rfl⟩ : ∃ l ∈ late, (⟨l, .data⟩ : Edge) = e := by simpa using he
          exact hl rfl l hl1
    | none => unfold withLate; simp [ho]
  · rw [late_ne h]
    simp [h]

theorem late_yields {i : Nat} {o : Oper} {K : Act → World → Prop} {a : Act} {w : World} (ho : ops[i]? = some o) (hl : isLate o = true) (h : wpOp P ops Q i K a w) : ∃ v, Yields P ops o v a ∧ K (a.put o.dst v) w := by
  have key : ∀ v, (∀ w, (execOp a.eval o).run P w = .ok (.value v) w) → (execOp a.eval o).runT P w #[] = (.ok (.value v) w, #[]) → Region.wanted o (yielded ops a.tmps) = true → ∃ v, Yields P ops o v a ∧ K (a.put o.dst v) w := by
    intro v h1 h2 hw
    unfold wpOp at h
    simp only [ho, hw, if_true] at h
    rcases h with h | h
    · unfold Oper.wp at h
      rw [h1] at h
      exact ⟨v, .inl ⟨hw, h1⟩, h⟩
    · unfold Oper.asks at h
      rw [h2] at h
      simp at h
  by_cases hw : Region.wanted o (yielded ops a.tmps) = true
  · obtain ⟨dst, op, type, pos, after, guard⟩ := o
    cases op <;> simp only [isLate] at hl <;> try contradiction
    case move x => exact key (a.eval x) (fun w => rfl) rfl hw
    case assign x => exact key (a.eval x) (fun w => rfl) rfl hw
    case extract t ix =>
      have bad : (∃ why, execOp a.eval ⟨dst, .extract t ix, type, pos, after, guard⟩ = Sem.halt (.stuck why)) → False := by
        rintro ⟨why, hb⟩
        unfold wpOp at h
        simp only [ho, hw, if_true] at h
        rcases h with h | h
        · unfold Oper.wp at h
          rw [hb] at h
          exact h
        · unfold Oper.asks at h
          rw [hb] at h
          simp [Sem.runT] at h
      cases ht : a.eval t
      case tuple vs =>
        cases hv : vs[ix]? with
        | some v => exact key v (fun w => by simp [execOp, Instr.extract, ht, hv]) (by simp only [execOp, Instr.extract, ht, hv]; rfl) hw
        | none => exact absurd ⟨_, by simp only [execOp, Instr.extract, ht, hv]; rfl⟩ bad
      all_goals exact absurd ⟨_, by simp only [execOp, Instr.extract, ht]; rfl⟩ bad
  · unfold wpOp at h
    simp only [ho, hw] at h
    exact ⟨undef, .inr ⟨by simpa using hw, rfl⟩, h⟩

theorem any_late (hQ : ∀ d v c a w, Q (.panic c) (Act.put a d v) w → Q (.panic c) a w) (hB : lateB ops N late = true) (k : Nat) :
    ∀ (listed : Array Bool) (a : Act) (w : World), listed.size = ops.size → wpAny P .any (withLate ops N late) Q k listed a w → wpAny P .any ops Q k listed a w := by
  simp only [lateB, Bool.and_eq_true, decide_eq_true_eq] at hB
  obtain ⟨⟨hsel, hN⟩, hall⟩ := hB
  have fact : ∀ l ∈ late, ∃ ol, l ≠ N ∧ ops[l]? = some ol ∧ isLate ol = true ∧ (∀ e ∈ ol.after, Region.binds .any e = true → Region.waitsFor .any ops N e.on = true) ∧
      ∀ j oj, ops[j]? = some oj → j ≠ l → Region.waitsFor .any ops N j = true ∨ (∃ e ∈ oj.after, Region.binds .any e = true ∧ e.on = l) ∨ ol.apart ops oj = true := by
    intro l hl
    have h1 := List.all_eq_true.1 hall l hl
    simp only [Bool.and_eq_true, decide_eq_true_eq] at h1
    obtain ⟨hne, h2⟩ := h1
    cases ho : ops[l]? with
    | none => rw [ho] at h2; cases h2
    | some ol =>
      rw [ho] at h2
      simp only [Bool.and_eq_true] at h2
      obtain ⟨⟨h3, h4⟩, h5⟩ := h2
      refine ⟨ol, hne, rfl, h3, fun e he hb => ?_, fun j oj hj hjl => ?_⟩
      · have := Array.all_eq_true_iff_forall_mem.1 h4 e he
        simpa [hb] using this
      · have h6 := List.all_eq_true.1 h5 j (List.mem_range.2 (Array.getElem?_eq_some_iff.1 hj).1)
        simp only [hj, Bool.or_eq_true, beq_iff_eq, hjl, false_or] at h6
        rcases h6 with h6 | h6 | h6
        · exact .inl h6
        · obtain ⟨e, he, hb⟩ := Array.any_eq_true'.1 h6
          simp only [Bool.and_eq_true, beq_iff_eq] at hb
          exact .inr (.inl ⟨e, he, hb⟩)
        · exact .inr (.inr h6)
  have lready : ∀ (listed : Array Bool) l, N ∈ Region.ready .any ops listed → l ∈ late → listed.getD l true = false → l ∈ Region.ready .any (withLate ops N late) listed := by
    intro listed l hNr hl hun
    obtain ⟨ol, hne, ho, _, hw, _⟩ := fact l hl
    refine late_ready.2 ⟨mem_ready.2 ⟨hun, ol, ho, fun e he hb => ?_⟩, fun h => absurd h hne⟩
    obtain ⟨oN, hoN, e', he', hb', hon⟩ := Region.waitsFor_spec (hw e he hb)
    obtain ⟨_, oN', hoN', hN2⟩ := mem_ready.1 hNr
    have : oN = oN' := Option.some.inj (hoN.symm.trans hoN')
    subst this
    rw [← hon]
    exact hN2 e' he' hb'
  have split : ∀ (listed : Array Bool), listed.size = ops.size → (∃ l ∈ late, N ∈ Region.ready .any ops listed ∧ listed.getD l true = false) ∨ ∀ i, i ∈ Region.ready .any ops listed → i ∈ Region.ready .any (withLate ops N late) listed := by
    intro listed hs
    by_cases h : ∃ l ∈ late, N ∈ Region.ready .any ops listed ∧ listed.getD l true = false
    · exact .inl h
    · refine .inr fun i hi => late_ready.2 ⟨hi, fun hiN l hl => ?_⟩
      subst hiN
      cases hg : listed.getD l false with
      | true => rfl
      | false =>
        obtain ⟨ol, _, ho, _⟩ := fact l hl
        exact absurd ⟨l, hl, hi, getD_in (by rw [hs]; exact (Array.getElem?_eq_some_iff.1 ho).1) hg⟩ h
  induction k with
  | zero =>
    intro listed a w hs H
    refine ⟨?_, H.2⟩
    rcases split listed hs with ⟨l, hl, hNr, hun⟩ | h
    · have := lready listed l hNr hl hun
      rw [H.1] at this
      cases this
    · cases hr : Region.ready .any ops listed with
      | nil => rfl
      | cons x xs =>
        have := h x (by rw [hr]; simp)
        rw [H.1] at this
        cases this
  | succ k ih =>
    intro listed a w hs H
    rcases split listed hs with ⟨l, hl, hNr, hun⟩ | h
    · have h1 := H.2 l (lready listed l hNr hl hun)
      rw [late_wpOp] at h1
      obtain ⟨ol, hne, ho, hlt, _, hap⟩ := fact l hl
      obtain ⟨v, hy, hK⟩ := late_yields ho hlt h1
      refine wpAny_first ho (Region.noSelect_spec hsel) (fun c a w => hQ _ _ c a w) k listed a w (fun j oj hj hjl hjun hno => ?_) (late_ready.1 (lready listed l hNr hl hun)).1 hy (ih _ _ _ (by simpa using hs) hK)
      rcases hap j oj hj hjl with h2 | ⟨e, he, hb, hon⟩ | h2
      · obtain ⟨oN, hoN, e', he', hb', hon⟩ := Region.waitsFor_spec h2
        obtain ⟨_, oN', hoN', hN2⟩ := mem_ready.1 hNr
        have : oN = oN' := Option.some.inj (hoN.symm.trans hoN')
        subst this
        have h3 := hN2 e' he' hb'
        rw [hon, getD_both hjun] at h3
        cases h3
      · exact absurd hon (hno e he hb)
      · exact h2
    · refine ⟨fun h0 => H.1 ?_, fun i hi => ?_⟩
      · cases hr : Region.ready .any (withLate ops N late) listed with
        | nil => rfl
        | cons x xs =>
          have := (late_ready.1 (show x ∈ Region.ready .any (withLate ops N late) listed by rw [hr]; simp)).1
          rw [h0] at this
          cases this
      · have h1 := H.2 i (h i hi)
        rw [late_wpOp] at h1
        exact wpOp_mono (fun a' w' h2 => ih _ _ _ (by simpa using hs) h2) h1
end
end Go.Proofs.Ytegpjjkbbdfggaa.bs
