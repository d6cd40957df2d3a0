/-
  Layer 7: the contract of quote's escape.
-/
import Derived.Test.YtdonjnngohmknaaQPut
namespace Go.Proofs.Ytdonjnngohmknaa.qt
set_option linter.unusedVariables false
set_option linter.unusedSimpArgs false
open Go.RowKit bs lf ch

theorem oct_step (f : Nat) (c : UInt8) (r : List UInt8) (v k : Nat) (h : 48 ≤ (c.toNat : Int) ∧ (c.toNat : Int) ≤ 55) : oct (f + 1) (c :: r) v k = oct f r (8 * v + (c.toNat - 48)) (k + 1) := by
  rw [oct, if_pos]
  rw [UInt8.le_iff_toNat_le, UInt8.le_iff_toNat_le]
  exact ⟨by have := h.1; show 48 ≤ c.toNat; omega, by have := h.2; show c.toNat ≤ 55; omega⟩
theorem oct_stop (f : Nat) (c : UInt8) (r : List UInt8) (v k : Nat) (h : ¬ (48 ≤ (c.toNat : Int) ∧ (c.toNat : Int) ≤ 55)) : oct f (c :: r) v k = (v, k) := by
  cases f with
  | zero => rfl
  | succ f =>
    rw [oct, if_neg]
    rw [UInt8.le_iff_toNat_le, UInt8.le_iff_toNat_le]
    intro hh
    have h1 := hh.1
    have h2 := hh.2
    have e : (48 : UInt8).toNat = 48 := rfl
    have e2 : (55 : UInt8).toNat = 55 := rfl
    exact h (by omega)
theorem oct_nil (f v k : Nat) : oct f [] v k = (v, k) := by cases f <;> rfl
theorem dropS (s : ByteArray) (k : Nat) (h : k < s.size) : s.data.toList.drop k = s[k] :: s.data.toList.drop (k + 1) := by
  rw [List.drop_eq_getElem_cons (by simpa using h)]; rfl
theorem dropE (s : ByteArray) (k : Nat) (h : s.size ≤ k) : s.data.toList.drop k = [] := List.drop_eq_nil_of_le (by simpa using h)
theorem nat_of_ofNat (v : Nat) : ((UInt8.ofNat v).toNat : Int) = ((v % 256 : Nat) : Int) := by rw [UInt8.toNat_ofNat']

/-- the letters that have a byte -/
theorem esc_letter (c : UInt8) (r : List UInt8) (b : UInt8) (hb : b = 8 ∨ b = 9 ∨ b = 10 ∨ b = 12 ∨ b = 13) (h : c = short b) : esc (c :: r) = (some b, 1) := by
  subst h
  rcases hb with rfl | rfl | rfl | rfl | rfl <;> rfl
theorem esc_rest (c : UInt8) (r : List UInt8) (h : ∀ b : UInt8, b = 8 ∨ b = 9 ∨ b = 10 ∨ b = 12 ∨ b = 13 → c ≠ short b) : esc (c :: r) =
    if c = 13 ∧ r.head? = some 10 then (none, 2)
    else if c = 10 ∨ c = 13 then (none, 1)
    else if 48 ≤ c ∧ c ≤ 55 then (some (UInt8.ofNat (oct 3 (c :: r) 0 0).1), (oct 3 (c :: r) 0 0).2)
    else (some c, 1) := by
  have h1 : c ≠ 98 := h 8 (by simp)
  have h2 : c ≠ 116 := h 9 (by simp)
  have h3 : c ≠ 110 := h 10 (by simp)
  have h4 : c ≠ 102 := h 12 (by simp)
  have h5 : c ≠ 114 := h 13 (by simp)
  rw [esc, if_neg h1, if_neg h2, if_neg h3, if_neg h4, if_neg h5]

/-- the value that escape gives back -/
def escV (x : Option UInt8 × Nat) (i : Nat) : Value := .tuple #[.int .u8 ((x.1.getD 0).toNat : Int), .int .i64 ((i + x.2 : Nat) : Int), .bool x.1.isSome]
def EscR (w : World) (x : Option UInt8 × Nat) (i : Nat) (e : Ending) (w' : World) : Prop := e = .returned (escV x i) ∧ Below w.heap.size w w'
theorem EscR.mk {w : World} {x : Option UInt8 × Nat} {i : Nat} {w' : World} (y : Option UInt8 × Nat) {p q : Int} {r : Bool} (h : x = y) (h1 : p = ((y.1.getD 0).toNat : Int)) (h2 : q = ((i + y.2 : Nat) : Int)) (h3 : r = y.1.isSome) (hb : Below w.heap.size w w') :
    EscR w x i (.returned (.tuple #[.int .u8 p, .int .i64 q, .bool r])) w' := by
  subst h h1 h2 h3
  exact ⟨rfl, hb⟩

set_option maxRecDepth 100000 in
set_option maxHeartbeats 3200000 in
theorem escape_any (s : ByteArray) (i : Nat) (w : World) (hs : s.size ≤ 20000) (hi : i < s.size) :
    Calls Try.prog 32 #[.string s, .int .i64 (i : Int)] w (EscR w (esc (s.data.toList.drop i)) i) := by
  obtain ⟨r, hr⟩ : ∃ r, s.data.toList.drop (i + 1) = r := ⟨_, rfl⟩
  have hd := dropS s i hi
  rw [hr] at hd
  have HD := Lib.hid hd
  have HR := Lib.hid hr
  have hrl : r.length = s.size - (i + 1) := by rw [← hr]; simp
  have HRL := Lib.hid hrl
  clear hd hr hrl
  obtain ⟨c, hc⟩ : ∃ c, s[i] = c := ⟨_, rfl⟩
  have HCC := Lib.hid hc
  rw [hc] at HD
  rw [HD.out]
  obtain ⟨X, hX⟩ : ∃ X, esc (c :: r) = X := ⟨_, rfl⟩
  rw [hX]
  have HX := Lib.hid hX
  clear hX
  have hc255 : (c.toNat : Int) ≤ 255 := by have := c.toNat_lt; omega
  have K := Blk.new w 5 #[.int .u8 8, .int .u8 9, .int .u8 10, .int .u8 12, .int .u8 13]
  have c0 := K.cell 0
  have c1 := K.cell 1
  have c2 := K.cell 2
  have c3 := K.cell 3
  have c4 := K.cell 4
  simp only [List.getElem?_toArray, List.getElem?_cons_succ, List.getElem?_cons_zero] at c0 c1 c2 c3 c4
  have hbw : Below w.heap.size w (w.alloc (.cells #[.int .u8 8, .int .u8 9, .int .u8 10, .int .u8 12, .int .u8 13] 5)) := by (repeat' (first | exact Below.refl _ _ | exact Below.refl _ _ | refine balloc ?_ _ | refine Below.drew ?_ | refine below_drewN ?_ _ | refine bset ?_ (by first | omega | (simp <;> omega)) _))
  have HBW := Lib.hid hbw
  clear K hbw
  have hn8 : ∀ (W : World), Calls Try.prog 28 #[.int .u8 8] W fun e w' => e = .returned (.tuple #[.int .u8 98, .bool true]) ∧ W = w' := fun W => name_any 8 W
  have HN8 := Lib.hid hn8
  have hn9 : ∀ (W : World), Calls Try.prog 28 #[.int .u8 9] W fun e w' => e = .returned (.tuple #[.int .u8 116, .bool true]) ∧ W = w' := fun W => name_any 9 W
  have HN9 := Lib.hid hn9
  have hn10 : ∀ (W : World), Calls Try.prog 28 #[.int .u8 10] W fun e w' => e = .returned (.tuple #[.int .u8 110, .bool true]) ∧ W = w' := fun W => name_any 10 W
  have HN10 := Lib.hid hn10
  have hn12 : ∀ (W : World), Calls Try.prog 28 #[.int .u8 12] W fun e w' => e = .returned (.tuple #[.int .u8 102, .bool true]) ∧ W = w' := fun W => name_any 12 W
  have HN12 := Lib.hid hn12
  have hn13 : ∀ (W : World), Calls Try.prog 28 #[.int .u8 13] W fun e w' => e = .returned (.tuple #[.int .u8 114, .bool true]) ∧ W = w' := fun W => name_any 13 W
  have HN13 := Lib.hid hn13
  clear hn8 hn9 hn10 hn12 hn13
  go_enter Try.func32, Try.ntmps32
  go_wp2_with fail
  go_loopw [19] (fun jv wr => ∃ j : Nat, j ≤ 5 ∧ jv = .int .i64 (j : Int) ∧ wr = w.alloc (.cells #[.int .u8 8, .int .u8 9, .int .u8 10, .int .u8 12, .int .u8 13] 5) ∧ Hid (∀ b : UInt8, (0 < j → b = 8 → c ≠ short b) ∧ (1 < j → b = 9 → c ≠ short b) ∧ (2 < j → b = 10 → c ≠ short b) ∧ (3 < j → b = 12 → c ≠ short b) ∧ (4 < j → b = 13 → c ≠ short b))) (fun jv _ => 5 - (intOf jv).toNat)
  case atStart => exact ⟨0, Nat.zero_le _, rfl, rfl, fun b => ⟨by omega, by omega, by omega, by omega, by omega⟩⟩
  case round =>
    obtain ⟨j, hj, rfl, rfl, hno⟩ := hrel
    rcases (show j = 0 ∨ j = 1 ∨ j = 2 ∨ j = 3 ∨ j = 4 ∨ j = 5 by omega) with rfl | rfl | rfl | rfl | rfl | rfl
    · by_cases h : c = 98
      · have hv : (c.toNat : Int) = 98 := by rw [h]; rfl
        have HV := Lib.hid h
        clear h hc255
        go_wp2_with (go_at_call 28; refine (HN8.out _).mono ?_; rintro e_ w_ ⟨rfl, rfl⟩)
        go_ret3
        exact EscR.mk (some 8, 1) (by rw [← HX.out, HV.out]; rfl) rfl (by go_num) rfl HBW.out
      · have hv : ((98 : Int) == (c.toNat : Int)) = false := by
          rw [beq_eq_false_iff_ne]
          exact fun e => h ((u8e c 98).2 e.symm)
        have HV := Lib.hid h
        clear h
        go_wp2_with (go_at_call 28; refine (HN8.out _).mono ?_; rintro e_ w_ ⟨rfl, rfl⟩)
        go_roundw
        case rel =>
          refine ⟨1, by omega, by first | trivial | go_num, by first | trivial | rfl, fun b => ?_⟩
          have h := hno.out b
          refine ⟨fun _ e => by subst e; exact HV.out, by omega, by omega, by omega, by omega⟩
        case measure => simp [intOf]
    · by_cases h : c = 116
      · have hv : (c.toNat : Int) = 116 := by rw [h]; rfl
        have HV := Lib.hid h
        clear h hc255
        go_wp2_with (go_at_call 28; refine (HN9.out _).mono ?_; rintro e_ w_ ⟨rfl, rfl⟩)
        go_ret3
        exact EscR.mk (some 9, 1) (by rw [← HX.out, HV.out]; rfl) rfl (by go_num) rfl HBW.out
      · have hv : ((116 : Int) == (c.toNat : Int)) = false := by
          rw [beq_eq_false_iff_ne]
          exact fun e => h ((u8e c 116).2 e.symm)
        have HV := Lib.hid h
        clear h
        go_wp2_with (go_at_call 28; refine (HN9.out _).mono ?_; rintro e_ w_ ⟨rfl, rfl⟩)
        go_roundw
        case rel =>
          refine ⟨2, by omega, by first | trivial | go_num, by first | trivial | rfl, fun b => ?_⟩
          have h := hno.out b
          refine ⟨fun _ => h.1 (by omega), fun _ e => by subst e; exact HV.out, by omega, by omega, by omega⟩
        case measure => simp [intOf]
    · by_cases h : c = 110
      · have hv : (c.toNat : Int) = 110 := by rw [h]; rfl
        have HV := Lib.hid h
        clear h hc255
        go_wp2_with (go_at_call 28; refine (HN10.out _).mono ?_; rintro e_ w_ ⟨rfl, rfl⟩)
        go_ret3
        exact EscR.mk (some 10, 1) (by rw [← HX.out, HV.out]; rfl) rfl (by go_num) rfl HBW.out
      · have hv : ((110 : Int) == (c.toNat : Int)) = false := by
          rw [beq_eq_false_iff_ne]
          exact fun e => h ((u8e c 110).2 e.symm)
        have HV := Lib.hid h
        clear h
        go_wp2_with (go_at_call 28; refine (HN10.out _).mono ?_; rintro e_ w_ ⟨rfl, rfl⟩)
        go_roundw
        case rel =>
          refine ⟨3, by omega, by first | trivial | go_num, by first | trivial | rfl, fun b => ?_⟩
          have h := hno.out b
          refine ⟨fun _ => h.1 (by omega), fun _ => h.2.1 (by omega), fun _ e => by subst e; exact HV.out, by omega, by omega⟩
        case measure => simp [intOf]
    · by_cases h : c = 102
      · have hv : (c.toNat : Int) = 102 := by rw [h]; rfl
        have HV := Lib.hid h
        clear h hc255
        go_wp2_with (go_at_call 28; refine (HN12.out _).mono ?_; rintro e_ w_ ⟨rfl, rfl⟩)
        go_ret3
        exact EscR.mk (some 12, 1) (by rw [← HX.out, HV.out]; rfl) rfl (by go_num) rfl HBW.out
      · have hv : ((102 : Int) == (c.toNat : Int)) = false := by
          rw [beq_eq_false_iff_ne]
          exact fun e => h ((u8e c 102).2 e.symm)
        have HV := Lib.hid h
        clear h
        go_wp2_with (go_at_call 28; refine (HN12.out _).mono ?_; rintro e_ w_ ⟨rfl, rfl⟩)
        go_roundw
        case rel =>
          refine ⟨4, by omega, by first | trivial | go_num, by first | trivial | rfl, fun b => ?_⟩
          have h := hno.out b
          refine ⟨fun _ => h.1 (by omega), fun _ => h.2.1 (by omega), fun _ => h.2.2.1 (by omega), fun _ e => by subst e; exact HV.out, by omega⟩
        case measure => simp [intOf]
    · by_cases h : c = 114
      · have hv : (c.toNat : Int) = 114 := by rw [h]; rfl
        have HV := Lib.hid h
        clear h hc255
        go_wp2_with (go_at_call 28; refine (HN13.out _).mono ?_; rintro e_ w_ ⟨rfl, rfl⟩)
        go_ret3
        exact EscR.mk (some 13, 1) (by rw [← HX.out, HV.out]; rfl) rfl (by go_num) rfl HBW.out
      · have hv : ((114 : Int) == (c.toNat : Int)) = false := by
          rw [beq_eq_false_iff_ne]
          exact fun e => h ((u8e c 114).2 e.symm)
        have HV := Lib.hid h
        clear h
        go_wp2_with (go_at_call 28; refine (HN13.out _).mono ?_; rintro e_ w_ ⟨rfl, rfl⟩)
        go_roundw
        case rel =>
          refine ⟨5, by omega, by first | trivial | go_num, by first | trivial | rfl, fun b => ?_⟩
          have h := hno.out b
          refine ⟨fun _ => h.1 (by omega), fun _ => h.2.1 (by omega), fun _ => h.2.2.1 (by omega), fun _ => h.2.2.2.1 (by omega), fun _ e => by subst e; exact HV.out⟩
        case measure => simp [intOf]
    · have HNO := Lib.hid (fun (b : UInt8) (hb : b = 8 ∨ b = 9 ∨ b = 10 ∨ b = 12 ∨ b = 13) => show c ≠ short b by
        have h := hno.out b
        rcases hb with e | e | e | e | e
        · exact h.1 (by omega) e
        · exact h.2.1 (by omega) e
        · exact h.2.2.1 (by omega) e
        · exact h.2.2.2.1 (by omega) e
        · exact h.2.2.2.2 (by omega) e)
      have hrest := esc_rest c r HNO.out
      rw [HX.out] at hrest
      have HRE := Lib.hid hrest
      clear hno c0 c1 c2 c3 c4 hrest
      by_cases c13 : c = 13
      · have hv : (c.toNat : Int) = 13 := by rw [c13]; rfl
        have HV := Lib.hid c13
        clear c13 hc255
        by_cases hk1 : i + 1 < s.size
        · have hd1 := dropS s (i + 1) hk1
          rw [HR.out] at hd1
          have HD1 := Lib.hid hd1
          clear hd1
          by_cases hn : s[i + 1] = 10
          · have hv1 : (s[i + 1].toNat : Int) = 10 := by rw [hn]; rfl
            have HN := Lib.hid hn
            clear hn
            go_wp2_with fail
            go_ret3
            exact EscR.mk (none, 2) (by rw [HRE.out, if_pos ⟨HV.out, by rw [HD1.out, HN.out]; rfl⟩]) rfl (by go_num) rfl HBW.out
          · have hv1 : ((s[i + 1].toNat : Int) == 10) = false := by
              rw [beq_eq_false_iff_ne]
              exact fun e => hn ((u8e _ 10).2 e)
            have HN := Lib.hid hn
            clear hn
            go_wp2_with fail
            go_ret3
            exact EscR.mk (none, 1) (by rw [HRE.out, if_neg (by rw [HD1.out]; simp [HN.out]), if_pos (Or.inr HV.out)]) rfl (by go_num) rfl HBW.out
        · have HN := Lib.hid (show r = [] by rw [← HR.out]; exact dropE s _ (by omega))
          go_wp2_with fail
          go_ret3
          exact EscR.mk (none, 1) (by rw [HRE.out, if_neg (by rw [HN.out]; simp), if_pos (Or.inr HV.out)]) rfl (by go_num) rfl HBW.out
      · have v13 : ((c.toNat : Int) == 13) = false := by
          rw [beq_eq_false_iff_ne]
          exact fun e => c13 ((u8e _ 13).2 e)
        have H13 := Lib.hid c13
        clear c13
        by_cases c10 : c = 10
        · have hv : (c.toNat : Int) = 10 := by rw [c10]; rfl
          have HV := Lib.hid c10
          clear c10 hc255 v13
          go_wp2_with fail
          go_ret3
          exact EscR.mk (none, 1) (by rw [HRE.out, if_neg (fun h => H13.out h.1), if_pos (Or.inl HV.out)]) rfl (by go_num) rfl HBW.out
        · have v10 : ((c.toNat : Int) == 10) = false := by
            rw [beq_eq_false_iff_ne]
            exact fun e => c10 ((u8e _ 10).2 e)
          have hre2 := HRE.out
          rw [if_neg (fun h => H13.out h.1), if_neg (fun h => h.elim c10 H13.out)] at hre2
          have HRF := Lib.hid hre2
          clear HRE hre2 c10
          by_cases ho : 48 ≤ (c.toNat : Int) ∧ (c.toNat : Int) ≤ 55
          · obtain ⟨ho1, ho2⟩ := ho
            have ho3 : 48 ≤ c ∧ c ≤ 55 := by
              rw [UInt8.le_iff_toNat_le, UInt8.le_iff_toNat_le]
              have e : (48 : UInt8).toNat = 48 := rfl
              have e2 : (55 : UInt8).toNat = 55 := rfl
              omega
            have hre2 := HRF.out
            rw [if_pos ho3] at hre2
            have HRG := Lib.hid hre2
            have HO3 := Lib.hid ho3
            clear HRF hre2 ho3
            obtain ⟨Y, hY⟩ : ∃ Y, oct 3 (c :: r) 0 0 = Y := ⟨_, rfl⟩
            have HY := Lib.hid hY
            rw [hY] at HRG
            clear hY
            have HDS := Lib.hid (dropS s)
            go_wp2_with fail
            go_loop [1, 12] (fun iv xv => ∃ j x : Nat, j ≤ 3 ∧ i + j ≤ s.size ∧ iv = .int .i64 ((i + j : Nat) : Int) ∧ xv = .int .i64 (x : Int) ∧ (x : Int) ≤ 7 * (1 + 8 + 64 + 512) ∧ x < 8 ^ j ∧ Hid (oct (3 - j) (s.data.toList.drop (i + j)) x j = Y)) (fun iv _ => i + 3 - (intOf iv).toNat)
            case atStart => exact ⟨0, 0, by omega, by omega, rfl, rfl, by omega, by omega, Lib.hid (by rw [Nat.add_zero, HD.out]; exact HY.out)⟩
            case round =>
              obtain ⟨j, x, hj, hij, rfl, rfl, hx, hx8, hoc⟩ := hrel
              obtain ⟨Y1, Y2⟩ := Y
              by_cases hA : i + j < s.size
              · have hd2 := HDS.out (i + j) hA
                have HD2 := Lib.hid hd2
                clear hd2
                have hc2 : (s[i + j].toNat : Int) ≤ 255 := by have := s[i + j].toNat_lt; omega
                have dA : decide ((i : Int) + (j : Int) < (s.size : Int)) = true := by simp; omega
                by_cases hj3 : j < 3
                · have dB : decide ((i : Int) + (j : Int) < (i : Int) + 3) = true := by simp; omega
                  by_cases ho : 48 ≤ (s[i + j].toNat : Int) ∧ (s[i + j].toNat : Int) ≤ 55
                  · have HO := Lib.hid ho
                    obtain ⟨o1, o2⟩ := ho
                    have hx9 : x ≤ 63 := by
                      rcases (show j = 0 ∨ j = 1 ∨ j = 2 by omega) with e | e | e <;> (rw [e] at hx8; simp at hx8; omega)
                    have HP := Lib.hid (show 8 ^ (j + 1) = 8 * 8 ^ j by rw [Nat.pow_succ]; omega)
                    have hst := oct_step (2 - j) s[i + j] (s.data.toList.drop (i + j + 1)) x j HO.out
                    have ho2 := hoc.out
                    rw [HD2.out, show 3 - j = 2 - j + 1 by omega, hst] at ho2
                    have HQ := Lib.hid ho2
                    clear hst ho2
                    have HX8 := Lib.hid hx8
                    clear hx8
                    go_wp2_with fail
                    go_round
                    case rel => exact ⟨j + 1, 8 * x + (s[i + j].toNat - 48), by omega, by omega, by go_num, by go_num, by omega, by have := HX8.out; have := HP.out; omega, Lib.hid (by rw [show 3 - (j + 1) = 2 - j by omega, show i + (j + 1) = i + j + 1 by omega]; exact HQ.out)⟩
                    case measure => simp [intOf]; omega
                  · have ho2 := hoc.out
                    rw [HD2.out, oct_stop _ _ _ _ _ ho] at ho2
                    have HQ := Lib.hid ho2
                    clear ho2 hx8
                    rcases (show (s[i + j].toNat : Int) < 48 ∨ 55 < (s[i + j].toNat : Int) by omega) with hh | hh
                    · clear ho
                      go_wp2_with fail
                      go_ret3
                      exact EscR.mk (some (UInt8.ofNat x), j) (by have h9 := HQ.out; cases h9; exact HRG.out) (by show _ = ((UInt8.ofNat x).toNat : Int); rw [nat_of_ofNat]; omega) (by go_num) rfl HBW.out
                    · clear ho
                      go_wp2_with fail
                      go_ret3
                      exact EscR.mk (some (UInt8.ofNat x), j) (by have h9 := HQ.out; cases h9; exact HRG.out) (by show _ = ((UInt8.ofNat x).toNat : Int); rw [nat_of_ofNat]; omega) (by go_num) rfl HBW.out
                · obtain rfl : j = 3 := by omega
                  have dB : decide ((i : Int) + 3 < (i : Int) + 3) = false := by simp
                  have HQ := Lib.hid (show (x, 3) = (Y1, Y2) from hoc.out)
                  clear hx8
                  go_wp2_with fail
                  go_ret3
                  exact EscR.mk (some (UInt8.ofNat x), 3) (by have h9 := HQ.out; cases h9; exact HRG.out) (by show _ = ((UInt8.ofNat x).toNat : Int); rw [nat_of_ofNat]; omega) (by go_num) rfl HBW.out
              · have ho2 := hoc.out
                rw [dropE s (i + j) (by omega), oct_nil] at ho2
                have HQ := Lib.hid ho2
                clear ho2 hx8
                have dA : decide ((i : Int) + (j : Int) < (s.size : Int)) = false := by simp; omega
                go_wp2_with fail
                go_ret3
                exact EscR.mk (some (UInt8.ofNat x), j) (by have h9 := HQ.out; cases h9; exact HRG.out) (by show _ = ((UInt8.ofNat x).toNat : Int); rw [nat_of_ofNat]; omega) (by go_num) rfl HBW.out
          · have HO := Lib.hid ho
            have hre2 := HRF.out
            rw [if_neg (by
              rw [UInt8.le_iff_toNat_le, UInt8.le_iff_toNat_le]
              have e : (48 : UInt8).toNat = 48 := rfl
              have e2 : (55 : UInt8).toNat = 55 := rfl
              omega)] at hre2
            have HRG := Lib.hid hre2
            clear HRF hre2
            rcases (show (c.toNat : Int) < 48 ∨ 55 < (c.toNat : Int) by omega) with hh | hh
            · clear ho
              have hh1 : decide ((c.toNat : Int) < 48) = true := by simpa using hh
              go_wp2_with fail
              go_ret3
              exact EscR.mk (some c, 1) HRG.out rfl (by go_num) rfl HBW.out
            · clear ho
              have hh1 : decide ((c.toNat : Int) < 48) = false := by simp; omega
              have hh2 : decide (55 < (c.toNat : Int)) = true := by simpa using hh
              go_wp2_with fail
              go_ret3
              exact EscR.mk (some c, 1) HRG.out rfl (by go_num) rfl HBW.out
end Go.Proofs.Ytdonjnngohmknaa.qt
