/-
  tympanlaw37.ImagePaints returns true for every input, and each argument reads afterwards as it read before.
  Conditions: none.
-/
import Derived.Test.YtegpjjkbbdfggaaRows
import Derived.ShutString
import Derived.Test.YtegpjjkbbdfggaaImagePaintsM3
namespace Go.Proofs.Ytegpjjkbbdfggaa.imagePaints
open Go.ChangeShapes Go.WideShapes Go.ChangeAt Go.RowKit
open Go.ChangeMaps (open_string)
set_option linter.unusedVariables false
set_option linter.unusedSimpArgs false

theorem own : ownKnob Try.prog.godebug = none := by kernel_rfl
theorem laidOut : laidOutB Try.prog = true := by kernel_rfl
theorem readable : ∀ t ∈ Try.f7.params.toList, Try.prog.readableRec t = true ∧ t < Try.prog.types.size := by
  rw [Try.params7]
  intro t ht
  have h : ∀ t ∈ [23, 25, 46, 51, 3, 3], (Try.prog.readableRec t && decide (t < Try.prog.types.size)) = true := List.all_eq_true.1 (by kernel_rfl)
  have h1 := h t (by simpa using ht)
  simpa using h1

set_option maxRecDepth 100000 in
theorem contract (H : Type) (enc : TypeId × Value → H) (W : World) (base : Nat) (args : Array Value) (ds gs : List (DataW H)) (before : List MemPlace)
    (hval : ∀ (j : Nat) t v, Try.f7.params[j]? = some t → args[j]? = some v → Value.okWide Try.prog W .any base t v)
    (hW : DataW.Whole enc Try.prog Try.f7.params.toList Rows.imagePaintsSpec.vars false W args.toList ds gs before) :
    Calls Try.prog 7 args W fun e W' => ∃ v, e = .returned v ∧ Rows.imagePaintsSpec.post enc Try.prog Try.f7 false true false false W args v W' := by
  have hW' := hW
  obtain ⟨p, q, hA0, hV, rfl, hfz, hnd⟩ := hW
  have hA : DataW.TrodAll enc Try.prog W 0 (fun _ => true) true Try.f7.params.toList args.toList ds p := hA0
  rw [Try.params7] at hA hval
  obtain ⟨v0, vs0, d0, ds0, p0, q0, hargs, rfl, rfl, h0, r0⟩ := trodAll_cons hA
  obtain ⟨v1, vs1, d1, ds1, p1, q1, rfl, rfl, rfl, h1, r1⟩ := trodAll_cons r0
  obtain ⟨v2, vs2, d2, ds2, p2, q2, rfl, rfl, rfl, h2, r2⟩ := trodAll_cons r1
  obtain ⟨v3, vs3, d3, ds3, p3, q3, rfl, rfl, rfl, h3, r3⟩ := trodAll_cons r2
  obtain ⟨v4, vs4, d4, ds4, p4, q4, rfl, rfl, rfl, h4, r4⟩ := trodAll_cons r3
  obtain ⟨v5, vs5, d5, ds5, p5, q5, rfl, rfl, rfl, h5, r5⟩ := trodAll_cons r4
  obtain ⟨rfl, rfl, rfl⟩ := trodAll_nil r5
  obtain rfl : args = #[v0, v1, v2, v3, v4, v5] := by cases args; simp_all
  obtain ⟨rfl, rfl⟩ := trodVars_none hV
  obtain ⟨iA0, iB0, iC0, iS0, rfl, jA0, jB0, jC0, jS0⟩ := op.open_image (hval 0 23 v0 rfl rfl) h0
  obtain ⟨mA1, mB1, mC1, mD1, mE1, mF1, rfl, kA1, kB1, kC1, kD1, kE1, kF1⟩ := op.open_mat (hval 1 25 v1 rfl rfl) h1
  obtain ⟨W2, H2, A2, n2, c2, bs2, rfl, hW2, hH2, hr2, hn2⟩ := op.open_page (hval 2 46 v2 rfl rfl) h2
  obtain ⟨W3, H3, A3, n3, c3, L3, rfl, hW3, hH3, hr3, hn3⟩ := op.open_region (hval 3 51 v3 rfl rfl) h3
  obtain ⟨a4, rfl, rfl, rfl, w4⟩ := open_int Try.underlying3 (hval 4 3 v4 rfl rfl) h4
  obtain ⟨a5, rfl, rfl, rfl, w5⟩ := open_int Try.underlying3 (hval 5 3 v5 rfl rfl) h5
  refine (im.ipaints_law iA0 iB0 iC0 iS0 mA1 mB1 mC1 mD1 mE1 mF1 W2 H2 A2 n2 c2 bs2 W3 H3 A3 n3 c3 L3 a4 a5 W jA0 jB0 jC0 jS0 kA1 kB1 kC1 kD1 kE1 kF1 hW2 hH2 hr2 hn2 hW3 hH3 hr3 hn3 (bs.bd_i64 w4) (bs.bd_i64 w5)).mono fun e W' ⟨he, hb⟩ => ?_
  subst he
  exact ⟨_, rfl, bs.law_post laidOut readable rfl Try.underlying4 rfl rfl hW' hb⟩

set_option maxRecDepth 100000 in
theorem lifted (os : Os) (started : os.Started) (H : Type) (enc : TypeId × Value → H) :
    ReturnsInHanded {} Try.checked os 7 .any (Rows.imagePaintsSpec.pre6 enc Try.prog Try.f7 Rows.imagePaintsRow.domain false) (Rows.imagePaintsSpec.post enc Try.prog Try.f7 false true false false) := by
  refine returnsInHanded_of_change (C := Try.checked) own started (by kernel_rfl) Try.func7
    (ChangeSpec.witness6 (enc := enc) (C := Try.checked) false ⟨#[], #[.agg #[.int .i64 0, .int .i64 0, .int .i64 0, .string ByteArray.empty], .agg #[.int .i64 0, .int .i64 0, .int .i64 0, .int .i64 0, .int .i64 0, .int .i64 0], .agg #[.int .i64 0, .int .i64 0, .slice none 0 0], .agg #[.int .i64 0, .int .i64 0, .slice none 0 0], .int .i64 0, .int .i64 0], []⟩ 8 (by kernel_rfl) (by kernel_rfl) (by kernel_rfl) (by kernel_rfl)) ?_
  intro W base args ds gs before hval hW _ _
  exact contract H enc W base args ds gs before hval hW

theorem over : Rows.imagePaintsRow.holds Try.pinned (OpenSpec.ofChange Rows.imagePaintsSpec) :=
  OpenClaim.holds_of_wide 7 Try.f7 rfl rfl rfl rfl rfl rfl rfl ⟨rfl, rfl, rfl, rfl, rfl⟩ rfl rfl rfl rfl rfl (by kernel_rfl) Try.func7 (by kernel_rfl)
    (of_decide_eq_true (by kernel_rfl)) (by unfold Func.isWrapper; first | (rw [if_pos (by decide +kernel)]; kernel_rfl) | (rw [if_neg (by decide +kernel)]; exact ⟨rfl, rfl⟩))
    (fun os started H enc _ => lifted os started H enc)

theorem proved : Rows.ImagePaintsSaid :=
  over
end Go.Proofs.Ytegpjjkbbdfggaa.imagePaints
