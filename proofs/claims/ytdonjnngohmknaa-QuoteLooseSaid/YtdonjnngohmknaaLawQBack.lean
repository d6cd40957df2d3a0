/-
  QuoteBack: what is written in any form, with anything behind, is read again as that; cut off it ends too early.
-/
import Derived.Test.YtdonjnngohmknaaQKnown
import Derived.Test.YtdonjnngohmknaaQBack2
namespace Go.Proofs.Ytdonjnngohmknaa.qt
set_option linter.unusedVariables false
set_option linter.unusedSimpArgs false
open Go.RowKit bs lf ch

theorem str_eta (b : ByteArray) : (⟨b.data.toList.toArray⟩ : ByteArray) = b := by cases b; simp
theorem form_back (l more : List UInt8) (how : Int) (h : l.length ≤ 4000) : takeL (formL l how ++ more) = (l, ((formL l how).length : Int), 0) := by
  unfold formL
  split
  · exact back_paren l more h
  split
  · exact back_hex l more h
  · exact back_eighty l more h
theorem form_cut (l : List UInt8) (how : Int) (k : Nat) (h : l.length ≤ 4000) (h0 : 1 ≤ k) (hk : k < (formL l how).length) : takeL ((formL l how).take k) = bad 4 := by
  unfold formL at hk ⊢
  split
  · next e => rw [if_pos e] at hk; exact cut_paren l k h h0 hk
  next e =>
  rw [if_neg e] at hk
  split
  · next e => rw [if_pos e] at hk; exact cut_hex l k h h0 hk
  · next e => rw [if_neg e] at hk; exact cut_eighty l k h h0 hk
theorem form_many (l : List UInt8) (how : Int) (h : 4000 < l.length) : takeL (formL l how) = bad 5 := by
  unfold formL
  split
  · exact many_paren l h
  split
  · exact many_hex l h
  · exact many_eighty l h
theorem groups_len (m : Nat) : ∀ (l : List UInt8), l.length ≤ m → ∀ f, (groups f l).length ≤ 2 * l.length := by
  induction m with
  | zero =>
    intro l hl f
    have e : l = [] := List.eq_nil_of_length_eq_zero (by omega)
    subst e
    rw [groups_nil]; simp
  | succ m ih =>
    intro l hl f
    cases f with
    | zero => simp [groups]
    | succ f =>
      rcases list_cases l with rfl | ⟨h1, h3⟩ | ⟨w, x, y, z, l, rfl⟩
      · rw [groups_nil]; simp
      · rw [groups_part f l h1 h3, eone_part_len l h3]; omega
      · simp only [List.length_cons] at hl
        rw [groups_four, List.length_append]
        have h1 := ih l (by omega) f
        have h2 : (eone [w, x, y, z]).length ≤ 5 := eone_len _
        simp only [List.length_cons]
        omega
theorem form_len (l : List UInt8) (how : Int) : 2 ≤ (formL l how).length ∧ (formL l how).length ≤ 4 * l.length + 4 := by
  unfold formL
  split
  · rw [parenL_len]
    have := fm_len pone 4 pone_len l
    omega
  split
  · rw [hexL_len]; omega
  · rw [eightyL_len]
    have := groups_len l.length l (Nat.le_refl _) l.length
    omega
theorem form_str (b : ByteArray) (how : Int) (w : World) (hs : b.size ≤ 4001) (h0 : 0 ≤ how ∧ how ≤ 255) : Calls Try.prog 18 #[.string b, .int .u8 how] w fun e w' => ∃ S : ByteArray, e = .returned (.string S) ∧ S.data.toList = formL b.data.toList how ∧ S.size = (formL b.data.toList how).length ∧ Below w.heap.size w w' :=
  (form_any b how w hs h0).mono fun e w' h => ⟨_, h.1, by simp, by simp [ByteArray.size], h.2⟩

set_option maxRecDepth 100000 in
set_option maxHeartbeats 3200000 in
theorem back_law (b more : ByteArray) (how cut : Int) (w : World) (hb : b.size ≤ maxLen) (hm : more.size ≤ maxLen) (hh : 0 ≤ how ∧ how ≤ 255) (hc : 0 ≤ cut ∧ cut ≤ 65535) :
    Calls Try.prog 4 #[.string b, .string more, .int .u8 how, .int .u16 cut] w fun e w' => e = .returned (.bool true) ∧ Below w.heap.size w w' := by
  have HK := Lib.hid known_any
  unfold maxLen at hb hm
  by_cases h5 : 500 < b.size
  · have d5 : decide ((500 : Int) < (b.size : Int)) = true := by simp; omega
    go_enter Try.func4, Try.ntmps4
    go_wp2_with fail
    refine (HK.out _).mono ?_
    rintro e_ w1 ⟨rfl, hb1⟩
    have HB1 := Lib.hid hb1
    clear hb1
    go_wp2_with fail
    go_ret
    exact ⟨rfl, HB1.out⟩
  have d5 : decide ((500 : Int) < (b.size : Int)) = false := by simp; omega
  by_cases h1 : 100 < more.size
  · have d1 : decide ((100 : Int) < (more.size : Int)) = true := by simp; omega
    go_enter Try.func4, Try.ntmps4
    go_wp2_with fail
    refine (HK.out _).mono ?_
    rintro e_ w1 ⟨rfl, hb1⟩
    have HB1 := Lib.hid hb1
    clear hb1
    go_wp2_with fail
    go_ret
    exact ⟨rfl, HB1.out⟩
  have d1 : decide ((100 : Int) < (more.size : Int)) = false := by simp; omega
  have HF := Lib.hid (fun W => form_str b how W (by omega) hh)
  have hbl : b.data.toList.length = b.size := by simp
  have HBL := Lib.hid hbl
  obtain ⟨hc0, hc1⟩ := hc
  clear hbl hh
  go_enter Try.func4, Try.ntmps4
  go_wp2_with fail
  refine (HK.out _).mono ?_
  rintro e_ w1 ⟨rfl, hb1⟩
  have HB1 := Lib.hid hb1
  clear hb1
  go_wp2_with fail
  refine (HF.out _).mono ?_
  rintro e_ w2 ⟨S, rfl, hS, hSl, hb2⟩
  have HB2 := Lib.hid (btrans HB1.out hb2)
  have hfl := form_len b.data.toList how
  rw [HBL.out, ← hSl] at hfl
  obtain ⟨s2, s3⟩ := hfl
  have HT1 := Lib.hid (take_as (S ++ more) b.data.toList (S.size : Int) 0 (by rw [ByteArray.size_append]; omega) (by
    rw [show (S ++ more).data.toList = S.data.toList ++ more.data.toList by simp, hS, form_back _ _ _ (by rw [HBL.out]; omega), hSl]))
  rw [str_eta] at HT1
  obtain ⟨k, hk, hkS⟩ : ∃ k : Nat, cut % (S.size : Int) = (k : Int) ∧ k < S.size := by
    have a := Int.emod_nonneg cut (show (S.size : Int) ≠ 0 by omega)
    have b := Int.emod_lt_of_pos cut (show (0 : Int) < (S.size : Int) by omega)
    exact ⟨(cut % (S.size : Int)).toNat, by omega, by omega⟩
  have he : (S.extract 0 k).data.toList = S.data.toList.take k := by simp
  have hez : (S.extract 0 k).size ≤ 20000 := by rw [ByteArray.size_extract]; omega
  have HT2 := Lib.hid (fun x h => take_as (S.extract 0 k) [] 0 x hez (by rw [he]; exact h))
  have HC := Lib.hid (fun h0 => form_cut b.data.toList how k (by rw [HBL.out]; omega) h0 (by rw [← hSl]; exact hkS))
  rw [← hS] at HC
  have hk0 : (0 : Int) ≤ (k : Int) := by omega
  have hk1 : (k : Int) ≤ (S.size : Int) := by omega
  have hsn : ¬ (S.size : Int) = 0 := by omega
  clear hS hSl he hez hb2
  go_wp2_with fail
  refine (HT1.out _).mono ?_
  rintro e_ w3 ⟨rfl, hb3⟩
  have HB3 := Lib.hid (btrans HB2.out hb3)
  clear hb3
  go_wp2_with fail
  by_cases hkz : k = 0
  · have hq : (cut % (S.size : Int) == 0) = true := by rw [hk]; simp; omega
    have h3 : takeL (S.data.toList.take k) = bad 3 := by rw [hkz]; rfl
    refine (HT2.out 3 h3 _).mono ?_
    rintro e_ w4 ⟨rfl, hb4⟩
    have HB4 := Lib.hid (btrans HB3.out hb4)
    clear hb4 h3 hkz
    go_wp2_with fail
    go_ret
    exact ⟨by first | rfl | simp, HB4.out⟩
  · have hq : (cut % (S.size : Int) == 0) = false := by rw [hk]; simp; omega
    refine (HT2.out 4 (HC.out (by omega)) _).mono ?_
    rintro e_ w4 ⟨rfl, hb4⟩
    have HB4 := Lib.hid (btrans HB3.out hb4)
    clear hb4 hkz
    go_wp2_with fail
    go_ret
    exact ⟨by first | rfl | simp, HB4.out⟩
end Go.Proofs.Ytdonjnngohmknaa.qt
