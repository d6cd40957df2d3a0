/-
  Layer 7: the document's example (known), the forms by a number (form).
-/
import Derived.Test.YtdonjnngohmknaaQEightyS
namespace Go.Proofs.Ytdonjnngohmknaa.qt
set_option linter.unusedVariables false
set_option linter.unusedSimpArgs false
open Go.RowKit bs lf ch

theorem take_as (s : ByteArray) (l : List UInt8) (n x : Int) (hs : s.size ≤ 20000) (h : takeL s.data.toList = (l, n, x)) (W : World) : Calls Try.prog 10 #[.string s] W fun e w' => e = .returned (.tuple #[.string ⟨l.toArray⟩, .int .i64 n, .int .i64 x]) ∧ Below W.heap.size W w' := by
  have := take_any s W hs
  rw [h] at this
  exact this
theorem paren_as (s : ByteArray) (l : List UInt8) (hs : s.size ≤ 4001) (h : parenL s.data.toList = l) (W : World) : Calls Try.prog 12 #[.string s] W fun e w' => e = .returned (.string ⟨l.toArray⟩) ∧ Below W.heap.size W w' := by
  have := paren_str s W hs
  rw [h] at this
  exact this
theorem hex_as (s : ByteArray) (l : List UInt8) (hs : s.size ≤ 4001) (h : hexL s.data.toList = l) (W : World) : Calls Try.prog 14 #[.string s] W fun e w' => e = .returned (.string ⟨l.toArray⟩) ∧ Below W.heap.size W w' := by
  have := hex_str s W hs
  rw [h] at this
  exact this
theorem eighty_as (s : ByteArray) (l : List UInt8) (hs : s.size ≤ 4001) (h : eightyL s.data.toList = l) (W : World) : Calls Try.prog 16 #[.string s] W fun e w' => e = .returned (.string ⟨l.toArray⟩) ∧ Below W.heap.size W w' := by
  have := eighty_str s W hs
  rw [h] at this
  exact this

set_option maxRecDepth 100000 in
set_option maxHeartbeats 1600000 in
theorem known_any (w : World) : Calls Try.prog 9 #[] w fun e w' => e = .returned (.bool true) ∧ Below w.heap.size w w' := by
  have H1 := Lib.hid (take_as { data := #[40, 97, 40, 98, 41, 99, 41, 100] } [97, 40, 98, 41, 99] 7 0 (by decide) (by kernel_rfl))
  have H2 := Lib.hid (hex_as { data := #[65] } [60, 52, 49, 62] (by decide) (by kernel_rfl))
  have H3 := Lib.hid (eighty_as { data := #[97, 98, 99, 100] } [60, 126, 64, 58, 69, 95, 87, 126, 62] (by decide) (by kernel_rfl))
  have H4 := Lib.hid (paren_as { data := #[97, 40, 10] } [40, 97, 92, 40, 92, 110, 41] (by decide) (by kernel_rfl))
  go_enter Try.func9, Try.ntmps9
  go_wp2_with fail
  refine (H1.out _).mono ?_
  rintro e_ w1 ⟨rfl, hb1⟩
  have HB1 := Lib.hid hb1
  clear hb1
  go_wp2_with fail
  refine (H2.out _).mono ?_
  rintro e_ w2 ⟨rfl, hb2⟩
  have HB2 := Lib.hid (btrans HB1.out hb2)
  clear hb2
  go_wp2_with fail
  refine (H3.out _).mono ?_
  rintro e_ w3 ⟨rfl, hb3⟩
  have HB3 := Lib.hid (btrans HB2.out hb3)
  clear hb3
  go_wp2_with fail
  refine (H4.out _).mono ?_
  rintro e_ w4 ⟨rfl, hb4⟩
  have HB4 := Lib.hid (btrans HB3.out hb4)
  clear hb4
  go_wp2_with fail
  go_ret
  exact ⟨by first | rfl | simp, HB4.out⟩

/-- the form by a number -/
def formL (l : List UInt8) (h : Int) : List UInt8 := if h % 3 = 0 then parenL l else if h % 3 = 1 then hexL l else eightyL l
set_option maxRecDepth 100000 in
set_option maxHeartbeats 1600000 in
theorem form_any (s : ByteArray) (h : Int) (w : World) (hs : s.size ≤ 4001) (h0 : 0 ≤ h ∧ h ≤ 255) : Calls Try.prog 18 #[.string s, .int .u8 h] w (StrPost (formL s.data.toList h) w) := by
  obtain ⟨h1, h2⟩ := h0
  obtain ⟨q, hq⟩ : ∃ q, h % 3 = q := ⟨_, rfl⟩
  have hq0 : q = 0 ∨ q = 1 ∨ q = 2 := by omega
  have H1 := Lib.hid (paren_str s w hs)
  have H2 := Lib.hid (hex_str s w hs)
  have H3 := Lib.hid (eighty_str s w hs)
  rcases hq0 with rfl | rfl | rfl
  · have HF := Lib.hid (show formL s.data.toList h = parenL s.data.toList by rw [formL, if_pos hq])
    rw [HF.out]
    go_enter Try.func18, Try.ntmps18
    go_wp2_with fail
    refine H1.out.mono ?_
    rintro e_ w1 ⟨rfl, hb1⟩
    have HB1 := Lib.hid hb1
    clear hb1
    go_wp2_with fail
    go_ret
    exact ⟨rfl, HB1.out⟩
  · have HF := Lib.hid (show formL s.data.toList h = hexL s.data.toList by rw [formL, if_neg (by omega), if_pos hq])
    rw [HF.out]
    go_enter Try.func18, Try.ntmps18
    go_wp2_with fail
    refine H2.out.mono ?_
    rintro e_ w1 ⟨rfl, hb1⟩
    have HB1 := Lib.hid hb1
    clear hb1
    go_wp2_with fail
    go_ret
    exact ⟨rfl, HB1.out⟩
  · have HF := Lib.hid (show formL s.data.toList h = eightyL s.data.toList by rw [formL, if_neg (by omega), if_neg (by omega)])
    rw [HF.out]
    go_enter Try.func18, Try.ntmps18
    go_wp2_with fail
    refine H3.out.mono ?_
    rintro e_ w1 ⟨rfl, hb1⟩
    have HB1 := Lib.hid hb1
    clear hb1
    go_wp2_with fail
    go_ret
    exact ⟨rfl, HB1.out⟩
end Go.Proofs.Ytdonjnngohmknaa.qt
