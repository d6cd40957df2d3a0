/-
  QuoteTells: Paren, Hex and Eighty of any bytes, and Take of any string, return what the reference returns.
-/
import Derived.Test.YtdonjnngohmknaaQRef5
namespace Go.Proofs.Ytdonjnngohmknaa.qt
set_option linter.unusedVariables false
set_option linter.unusedSimpArgs false
open Go.RowKit bs lf ch

theorem StrPost.as {f : FuncId} {args : Array Value} {l : List UInt8} {P : ByteArray} (hP : (⟨l.toArray⟩ : ByteArray) = P) (h : ∀ W, Calls Try.prog f args W (StrPost l W)) (W : World) : Calls Try.prog f args W fun e w' => e = .returned (.string P) ∧ Below W.heap.size W w' := by
  subst hP
  exact h W
theorem TakePost.as {f : FuncId} {args : Array Value} {R : Res} {P : ByteArray} {n x : Int} (hP : (⟨R.1.toArray⟩ : ByteArray) = P) (hn : R.2.1 = n) (hx : R.2.2 = x) (h : ∀ W, Calls Try.prog f args W (TakePost R W)) (W : World) : Calls Try.prog f args W fun e w' => e = .returned (.tuple #[.string P, .int .i64 n, .int .i64 x]) ∧ Below W.heap.size W w' := by
  subst hP hn hx
  exact h W

set_option maxRecDepth 100000 in
set_option maxHeartbeats 3200000 in
theorem tells_law (b s : ByteArray) (w : World) (hb : b.size ≤ maxLen) (hs : s.size ≤ maxLen) :
    Calls Try.prog 3 #[.string b, .string s] w fun e w' => e = .returned (.bool true) ∧ Below w.heap.size w w' := by
  have HK := Lib.hid known_any
  unfold maxLen at hb hs
  by_cases h5 : 300 < b.size
  · have d5 : decide ((300 : Int) < (b.size : Int)) = true := by simp; omega
    go_enter Try.func3, Try.ntmps3
    go_wp2_with fail
    refine (HK.out _).mono ?_
    rintro e_ w1 ⟨rfl, hb1⟩
    have HB1 := Lib.hid hb1
    clear hb1
    go_wp2_with fail
    go_ret
    exact ⟨rfl, HB1.out⟩
  have d5 : decide ((300 : Int) < (b.size : Int)) = false := by simp; omega
  by_cases h1 : 600 < s.size
  · have d1 : decide ((600 : Int) < (s.size : Int)) = true := by simp; omega
    go_enter Try.func3, Try.ntmps3
    go_wp2_with fail
    refine (HK.out _).mono ?_
    rintro e_ w1 ⟨rfl, hb1⟩
    have HB1 := Lib.hid hb1
    clear hb1
    go_wp2_with fail
    go_ret
    exact ⟨rfl, HB1.out⟩
  have d1 : decide ((600 : Int) < (s.size : Int)) = false := by simp; omega
  obtain ⟨R, hR⟩ : ∃ R, takeL s.data.toList = R := ⟨_, rfl⟩
  have t1 := fun W => take_any s W (by omega)
  have t2 := fun W => rtake_any s W (by omega)
  rw [hR] at t1 t2
  obtain ⟨P, hP⟩ : ∃ P : ByteArray, (⟨R.1.toArray⟩ : ByteArray) = P := ⟨_, rfl⟩
  obtain ⟨n, hn⟩ : ∃ n, R.2.1 = n := ⟨_, rfl⟩
  obtain ⟨x, hx⟩ : ∃ x, R.2.2 = x := ⟨_, rfl⟩
  have HT1 := Lib.hid (TakePost.as hP hn hx t1)
  have HT2 := Lib.hid (TakePost.as hP hn hx t2)
  obtain ⟨P1, hP1⟩ : ∃ P : ByteArray, (⟨(parenL b.data.toList).toArray⟩ : ByteArray) = P := ⟨_, rfl⟩
  obtain ⟨P2, hP2⟩ : ∃ P : ByteArray, (⟨(hexL b.data.toList).toArray⟩ : ByteArray) = P := ⟨_, rfl⟩
  obtain ⟨P3, hP3⟩ : ∃ P : ByteArray, (⟨(eightyL b.data.toList).toArray⟩ : ByteArray) = P := ⟨_, rfl⟩
  have HA1 := Lib.hid (StrPost.as hP1 (fun W => paren_str b W (by omega)))
  have HA2 := Lib.hid (StrPost.as hP1 (fun W => rparen_str b W (by omega)))
  have HA3 := Lib.hid (StrPost.as hP2 (fun W => hex_str b W (by omega)))
  have HA4 := Lib.hid (StrPost.as hP2 (fun W => rhex_str b W (by omega)))
  have HA5 := Lib.hid (StrPost.as hP3 (fun W => eighty_str b W (by omega)))
  have HA6 := Lib.hid (StrPost.as hP3 (fun W => reighty_str b W (by omega)))
  clear hR t1 t2 hP hn hx hP1 hP2 hP3
  go_enter Try.func3, Try.ntmps3
  go_wp2_with fail
  refine (HK.out _).mono ?_
  rintro e_ w1 ⟨rfl, hb1⟩
  have HB1 := Lib.hid hb1
  clear hb1
  go_wp2_with fail
  refine (HT1.out _).mono ?_
  rintro e_ w2 ⟨rfl, hb1⟩
  replace HB1 := Lib.hid (btrans HB1.out hb1)
  clear hb1
  go_wp2_with fail
  refine (HT2.out _).mono ?_
  rintro e_ w3 ⟨rfl, hb1⟩
  replace HB1 := Lib.hid (btrans HB1.out hb1)
  clear hb1
  go_wp2_with fail
  refine (HA1.out _).mono ?_
  rintro e_ w4 ⟨rfl, hb1⟩
  replace HB1 := Lib.hid (btrans HB1.out hb1)
  clear hb1
  go_wp2_with fail
  refine (HA2.out _).mono ?_
  rintro e_ w5 ⟨rfl, hb1⟩
  replace HB1 := Lib.hid (btrans HB1.out hb1)
  clear hb1
  go_wp2_with fail
  refine (HA3.out _).mono ?_
  rintro e_ w6 ⟨rfl, hb1⟩
  replace HB1 := Lib.hid (btrans HB1.out hb1)
  clear hb1
  go_wp2_with fail
  refine (HA4.out _).mono ?_
  rintro e_ w7 ⟨rfl, hb1⟩
  replace HB1 := Lib.hid (btrans HB1.out hb1)
  clear hb1
  go_wp2_with fail
  refine (HA5.out _).mono ?_
  rintro e_ w8 ⟨rfl, hb1⟩
  replace HB1 := Lib.hid (btrans HB1.out hb1)
  clear hb1
  go_wp2_with fail
  refine (HA6.out _).mono ?_
  rintro e_ w9 ⟨rfl, hb1⟩
  replace HB1 := Lib.hid (btrans HB1.out hb1)
  clear hb1
  go_wp2_with fail
  go_ret
  exact ⟨by first | rfl | simp, HB1.out⟩
end Go.Proofs.Ytdonjnngohmknaa.qt
