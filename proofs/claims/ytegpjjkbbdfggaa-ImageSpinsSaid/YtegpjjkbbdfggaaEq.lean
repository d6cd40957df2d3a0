/-
  Layer 24 in the seat of the images: matrices compared (the text of mat/XEq).
-/
import Derived.Test.YtegpjjkbbdfggaaMay
namespace Go.Proofs.Ytegpjjkbbdfggaa.mt
set_option linter.unusedVariables false
set_option linter.unusedSimpArgs false
open Go.RowKit bs

set_option maxRecDepth 100000 in
theorem mat_und : Try.prog.underlying 25 = some (.struct (Try.prog.fieldsOf 25)) := by kernel_rfl
set_option maxRecDepth 100000 in
theorem mat_held : Try.prog.stoodInHeld 25 = false := by kernel_rfl
set_option maxRecDepth 100000 in
theorem mat_guard : Try.prog.eqGuardType Try.prog.depth 25 = false := by kernel_rfl
/-- are two matrices the same -/
def eqB (A B C D E F a b c d e f : Int) : Bool := A == a && (B == b && (C == c && (D == d && (E == e && F == f))))
set_option maxRecDepth 100000 in
theorem eq_mat (A B C D E F a b c d e f : Int) (w : World) : (binOp .eql 25 (.agg #[.int .i64 A, .int .i64 B, .int .i64 C, .int .i64 D, .int .i64 E, .int .i64 F]) (.agg #[.int .i64 a, .int .i64 b, .int .i64 c, .int .i64 d, .int .i64 e, .int .i64 f])).run Try.prog w = .ok (.bool (eqB A B C D E F a b c d e f)) w := by
  rw [run_eql_struct, run_equalIn_agg w 9999 _ _ _ mat_und mat_held]
  have hf : (Try.prog.fieldsOf 25).toList.map (fun f => (f.name, f.type, f.offset)) = [("A", 3, 0), ("B", 3, 1), ("C", 3, 2), ("D", 3, 3), ("E", 3, 4), ("F", 3, 5)] := by kernel_rfl
  generalize (Try.prog.fieldsOf 25).toList = fs at *
  have hp : Try.prog.plainKey 3 = true := by kernel_rfl
  have key : ∀ (fs : List Field) (l : List (Nat × Int × Int)), fs.map (fun f => (f.type, f.offset)) = l.map (fun x => (3, x.1)) → (∀ f ∈ fs, f.name ≠ "_") → ∀ xs ys : Array Value, (∀ x ∈ l, xs[x.1]? = some (.int .i64 x.2.1) ∧ ys[x.1]? = some (.int .i64 x.2.2)) →
      (Op.eqFields 9999 xs ys fs).run Try.prog w = .ok (l.all fun x => x.2.1 == x.2.2) w := by
    intro fs
    induction fs with
    | nil =>
      intro l h _ xs ys _
      cases l with
      | nil => simp [Op.eqFields]
      | cons x l => simp at h
    | cons f fs ih =>
      intro l h hn xs ys hx
      cases l with
      | nil => simp at h
      | cons x l =>
        simp only [List.map_cons, List.cons.injEq, Prod.mk.injEq] at h
        obtain ⟨⟨h1, h2⟩, h3⟩ := h
        obtain ⟨x1, x2⟩ := hx x (by simp)
        have n1 := hn f (by simp)
        simp only [Op.eqFields, ne_eq, n1, not_false_eq_true, if_true, Sem.run_bind]
        rw [h1, h2, run_part_plain w hp x1]
        simp only [Result.andThen_ok]
        rw [run_part_plain w hp x2]
        simp only [Result.andThen_ok]
        rw [run_equalIn_int w 9998 _ .i64 .i64 _ _ Try.underlying3]
        simp only [Result.andThen_ok]
        cases he : (x.2.1 == x.2.2) with
        | false => simp [he]
        | true =>
          simp only [Bool.not_true, Bool.false_eq_true, if_false, List.all_cons, he, Bool.true_and]
          exact ih l h3 (fun g hg => hn g (by simp [hg])) xs ys (fun y hy => hx y (by simp [hy]))
  have := key fs [(0, A, a), (1, B, b), (2, C, c), (3, D, d), (4, E, e), (5, F, f)] (by
      have h2 := congrArg (List.map (fun x : String × Nat × Nat => (x.2.1, x.2.2))) hf
      simp only [List.map_map, Function.comp_def] at h2
      exact h2) (by
      intro g hg hne
      have h2 := congrArg (List.map (fun x : String × Nat × Nat => x.1)) hf
      simp only [List.map_map, Function.comp_def] at h2
      have h3 : g.name ∈ fs.map (fun f => f.name) := List.mem_map.2 ⟨g, hg, rfl⟩
      rw [h2, hne] at h3
      revert h3
      decide) #[.int .i64 A, .int .i64 B, .int .i64 C, .int .i64 D, .int .i64 E, .int .i64 F] #[.int .i64 a, .int .i64 b, .int .i64 c, .int .i64 d, .int .i64 e, .int .i64 f] (by simp)
  rw [this]
  simp [eqB]
set_option maxRecDepth 100000 in
theorem guard_mat (x y : Operand) (xs ys : Array Value) (w : World) : (eqGuard .eql 25 x y (.agg xs) (.agg ys)).run Try.prog w = .ok () w := run_eqGuard_agg w .eql _ x y xs ys mat_guard
set_option maxRecDepth 100000 in
theorem guard_mat_ne (x y : Operand) (xs ys : Array Value) (w : World) : (eqGuard .neq 25 x y (.agg xs) (.agg ys)).run Try.prog w = .ok () w := run_eqGuard_agg w .neq _ x y xs ys mat_guard
set_option maxRecDepth 100000 in
theorem ne_mat (A B C D E F a b c d e f : Int) (w : World) : (binOp .neq 25 (.agg #[.int .i64 A, .int .i64 B, .int .i64 C, .int .i64 D, .int .i64 E, .int .i64 F]) (.agg #[.int .i64 a, .int .i64 b, .int .i64 c, .int .i64 d, .int .i64 e, .int .i64 f])).run Try.prog w = .ok (.bool (!(eqB A B C D E F a b c d e f))) w := by
  have h := eq_mat A B C D E F a b c d e f w
  rw [run_eql_struct] at h
  rw [run_neq_struct]
  cases hr : (Op.equalIn 10000 25 (.agg #[.int .i64 A, .int .i64 B, .int .i64 C, .int .i64 D, .int .i64 E, .int .i64 F]) (.agg #[.int .i64 a, .int .i64 b, .int .i64 c, .int .i64 d, .int .i64 e, .int .i64 f])).run Try.prog w with
  | ok r w2 =>
    rw [hr] at h
    simp only [Result.andThen_ok, Result.ok.injEq, Value.bool.injEq] at h ⊢
    obtain ⟨rfl, rfl⟩ := h
    exact ⟨rfl, rfl⟩
  | halt x w2 => rw [hr] at h; simp [Result.andThen] at h
end Go.Proofs.Ytegpjjkbbdfggaa.mt
