/-
  Layer 7, the reference: put, escape, paren.
-/
import Derived.Test.YtdonjnngohmknaaQRef1
namespace Go.Proofs.Ytdonjnngohmknaa.qt
set_option linter.unusedVariables false
set_option linter.unusedSimpArgs false
open Go.RowKit bs lf ch

def HeldQ (p : Prop) : Prop := p
theorem HeldQ.of {p : Prop} (h : HeldQ p) : p := h
/-- what the reference has taken so far, in block T -/
def RK (w : World) (T : Nat) (b : List UInt8) (e : Int) : Prop := ∃ A c, Blk w T 46 #[.slice A b.length c, .int .i64 e] ∧ OwnB w (T + 1) (.slice A b.length c) b
theorem RK.lt {w : World} {T : Nat} {b : List UInt8} {e : Int} (h : RK w T b e) : T < w.heap.size := by obtain ⟨_, _, h, _⟩ := h; exact h.lt
theorem RK.below {w w' : World} {T : Nat} {b : List UInt8} {e : Int} (h : RK w T b e) (hb : Below w.heap.size w w') : RK w' T b e := by
  obtain ⟨A, c, h1, h2⟩ := h
  exact ⟨A, c, h1.below hb h1.lt, h2.below hb⟩
theorem RK.cell1 {w : World} {T : Nat} {b : List UInt8} {e : Int} (h : RK w T b e) : w.cell? ⟨T, 1, none⟩ = some (.int .i64 e) := by obtain ⟨A, c, h1, _⟩ := h; rw [h1.cell]; rfl
theorem RK.free1 {w : World} {T : Nat} {b : List UInt8} {e : Int} (h : RK w T b e) : w.frozen? ⟨T, 1, none⟩ = false := by obtain ⟨A, c, h1, _⟩ := h; exact h1.frozen 1
theorem RK.seterr {w : World} {T : Nat} {b : List UInt8} {e : Int} (h : RK w T b e) (x : Int) : RK (w.setCell ⟨T, 1, none⟩ (.int .i64 x)) T b x := by
  obtain ⟨A, c, h1, h2⟩ := h
  exact ⟨A, c, h1.set_ 1 _, own_setFar h2 (by simp) _⟩
theorem RK.new (w : World) : RK (w.alloc (.cells #[.slice none 0 0, .int .i64 0] 46)) w.heap.size [] 0 := ⟨none, 0, Blk.new w _ _, OwnB.none_ _ _⟩
theorem RK.cell0 {w : World} {T : Nat} {b : List UInt8} {e : Int} (h : RK w T b e) : ∃ A c, w.cell? ⟨T, 0, none⟩ = some (.slice A b.length c) ∧ LB w A b.length c b := by
  obtain ⟨A, c, h1, h2⟩ := h
  obtain ⟨A2, c2, e, hl⟩ := h2.lb
  injection e with e1 e2 e3
  subst e1 e3
  exact ⟨A, c, by rw [h1.cell]; rfl, hl⟩

def PutPost (T : Nat) (b : List UInt8) (w : World) (e : Ending) (w' : World) : Prop := e = .returned (.tuple #[]) ∧ RK w' T b 0 ∧ Below T w w'
set_option maxRecDepth 100000 in
set_option maxHeartbeats 1600000 in
theorem rput_any (T : Nat) (b : List UInt8) (x : Int) (c : UInt8) (w : World) (h : RK w T b 0) (hb : b.length < 4000) (hx : x = (c.toNat : Int)) :
    Calls Try.prog 39 #[.pointer (some ⟨T, 0, none⟩), .int .u8 x] w (PutPost T (b ++ [c]) w) := by
  have hT := h.lt
  obtain ⟨B, d, hbk, ho⟩ := h
  have k0 := hbk.cell 0
  simp only [List.getElem?_toArray, List.getElem?_cons_succ, List.getElem?_cons_zero] at k0
  have HB := Lib.hid hbk
  have HO := Lib.hid ho
  have HX := Lib.hid hx
  clear hbk ho hx
  obtain ⟨i0, hi, hz0, hz1, hz2⟩ := info_parts (show (Try.prog.info? 5).map (fun i => (i.zero, i.size, i.bytes)) = some (some (.int .u8 0), 1, 1) by kernel_rfl)
  have d1 : decide ((4000 : Int) ≤ (b.length : Int)) = false := by simp; omega
  go_enter Try.func39, Try.ntmps39
  go_wp2_with (at_builtin; refine HeldQ.of ?_)
  unfold HeldQ
  refine wpList_append_any _ rfl (.tmp 24) (.tmp 26) 31 rfl (T + 1) 5 i0 (.int .u8 0) 1 1 Try.underlying31 hi hz0 hz1 hz2 rfl (by omega) _ b.length (vals b) rfl (HO.out.below (balloc (Below.refl _ _) _)) _ (some ⟨w.heap.size, 0, none⟩) 1 1 (vals [c]) rfl (lf.Bytes.reads (LB.new w _ 1 [c] (by rw [HX.out]; rfl) rfl).1) (vals_one _) (by simp [maxLen]; omega) (by omega) (by simp; omega) ?_
  intro v' w1 hown' hg _
  have ho1 : OwnB w1 (T + 1) v' (b ++ [c]) := OwnB.push hown' rfl
  have hbl : Below (T + 1) w w1 := ((Below.refl (T + 1) w).alloc hT _).grown hg (by simp; omega) (fun q e => (HO.out.ge q e).1)
  have hB1 := HB.out.below hbl (Nat.lt_succ_self _)
  have q0 := hB1.cell 0
  have q1 := hB1.frozen 0
  simp only [List.getElem?_toArray, List.getElem?_cons_succ, List.getElem?_cons_zero] at q0
  obtain ⟨A2, c2, rfl, hl2⟩ := ho1.lb
  have HB1 := Lib.hid hB1
  have HO1 := Lib.hid ho1
  have HBL := Lib.hid hbl
  clear hB1 ho1 hbl hl2 k0 hown' hg
  go_wp2_with fail
  go_end0
  exact ⟨rfl, ⟨A2, c2, by rw [List.length_append]; exact HB1.out.set_ 0 _, by rw [List.length_append]; exact own_setFar (by have := HO1.out; rwa [List.length_append] at this) (by simp) _⟩, (HBL.out.mono (Nat.le_succ T)).setCell (p := ⟨T, 0, none⟩) (Nat.le_refl T) _⟩

/-- what escape leaves -/
def REsc (T : Nat) (b : List UInt8) (x : Option UInt8 × Nat) (w : World) (e : Ending) (w' : World) : Prop := e = .returned (.int .i64 (x.2 : Int)) ∧ RK w' T (b ++ x.1.toList) 0 ∧ Below T w w'
theorem REsc.mk {T : Nat} {b : List UInt8} {x : Option UInt8 × Nat} {w w' : World} {n : Int} (y : Option UInt8 × Nat) (h : x = y) (hn : n = (y.2 : Int)) (hr : RK w' T (b ++ y.1.toList) 0) (hb : Below T w w') : REsc T b x w (.returned (.int .i64 n)) w' := by
  subst h hn
  exact ⟨rfl, hr, hb⟩

set_option maxRecDepth 100000 in
set_option maxHeartbeats 3200000 in
theorem rescape_any (s : ByteArray) (i T : Nat) (b : List UInt8) (w : World) (hs : s.size ≤ 20000) (hi : i < s.size) (hk : RK w T b 0) (hb : b.length < 4000) :
    Calls Try.prog 38 #[.pointer (some ⟨T, 0, none⟩), .string s, .int .i64 (i : Int)] w (REsc T b (esc (s.data.toList.drop i)) w) := by
  obtain ⟨r, hr⟩ : ∃ r, s.data.toList.drop (i + 1) = r := ⟨_, rfl⟩
  have hd := dropS s i hi
  rw [hr] at hd
  have HD := Lib.hid hd
  have HR := Lib.hid hr
  have HT := Lib.hid hk
  clear hd hr hk
  have hc255 : (s[i].toNat : Int) ≤ 255 := by have := s[i].toNat_lt; omega
  obtain ⟨c, hc⟩ : ∃ c, s[i] = c := ⟨_, rfl⟩
  rw [hc] at HD hc255
  rw [HD.out]
  obtain ⟨X, hX⟩ : ∃ X, esc (c :: r) = X := ⟨_, rfl⟩
  rw [hX]
  have HX := Lib.hid hX
  clear hX
  have dge : decide ((s.size : Int) ≤ (i : Int)) = false := by simp; omega
  have HPUT := Lib.hid (fun (x : Int) (c : UInt8) W h hx => rput_any T b x c W h hb hx)
  have hn8 : ∀ (W : World), Calls Try.prog 43 #[.int .u8 8] W fun e w' => e = .returned (.int .u8 98) ∧ W = w' := fun W => rshort_any 8 W
  have HN8 := Lib.hid hn8
  have hn9 : ∀ (W : World), Calls Try.prog 43 #[.int .u8 9] W fun e w' => e = .returned (.int .u8 116) ∧ W = w' := fun W => rshort_any 9 W
  have HN9 := Lib.hid hn9
  have hn10 : ∀ (W : World), Calls Try.prog 43 #[.int .u8 10] W fun e w' => e = .returned (.int .u8 110) ∧ W = w' := fun W => rshort_any 10 W
  have HN10 := Lib.hid hn10
  have hn12 : ∀ (W : World), Calls Try.prog 43 #[.int .u8 12] W fun e w' => e = .returned (.int .u8 102) ∧ W = w' := fun W => rshort_any 12 W
  have HN12 := Lib.hid hn12
  have hn13 : ∀ (W : World), Calls Try.prog 43 #[.int .u8 13] W fun e w' => e = .returned (.int .u8 114) ∧ W = w' := fun W => rshort_any 13 W
  have HN13 := Lib.hid hn13
  clear hn8 hn9 hn10 hn12 hn13
  have ix0 : ∀ W, (Instr.index 52 (.agg #[.int .u8 8, .int .u8 9, .int .u8 10, .int .u8 12, .int .u8 13]) (.int .i64 0)).run Try.prog W = .ok (.int .u8 8) W := fun _ => by kernel_rfl
  have ix1 : ∀ W, (Instr.index 52 (.agg #[.int .u8 8, .int .u8 9, .int .u8 10, .int .u8 12, .int .u8 13]) (.int .i64 1)).run Try.prog W = .ok (.int .u8 9) W := fun _ => by kernel_rfl
  have ix2 : ∀ W, (Instr.index 52 (.agg #[.int .u8 8, .int .u8 9, .int .u8 10, .int .u8 12, .int .u8 13]) (.int .i64 2)).run Try.prog W = .ok (.int .u8 10) W := fun _ => by kernel_rfl
  have ix3 : ∀ W, (Instr.index 52 (.agg #[.int .u8 8, .int .u8 9, .int .u8 10, .int .u8 12, .int .u8 13]) (.int .i64 3)).run Try.prog W = .ok (.int .u8 12) W := fun _ => by kernel_rfl
  have ix4 : ∀ W, (Instr.index 52 (.agg #[.int .u8 8, .int .u8 9, .int .u8 10, .int .u8 12, .int .u8 13]) (.int .i64 4)).run Try.prog W = .ok (.int .u8 13) W := fun _ => by kernel_rfl
  by_cases l98 : c = 98
  · have hv : (c.toNat : Int) = 98 := by rw [l98]; rfl
    have HV := Lib.hid l98
    have HE1 := Lib.hid (fun W => reight_no 98 W (by omega))
    clear l98 hc255
    go_enter Try.func38, Try.ntmps38
    go_wp2_with (go_at_call 44; refine (HE1.out _).mono ?_; rintro e_ w_ ⟨rfl, rfl⟩)
    refine wp_loop_rounds 6 ?_
    rw [rounds_succ]
    go_wp2_with (go_at_call 43; refine (HN8.out _).mono ?_; rintro e_ w_ ⟨rfl, rfl⟩)
    refine (HPUT.out 8 8 _ HT.out rfl).mono ?_
    rintro e_ w1 ⟨rfl, hr1, hb1⟩
    have HR1 := Lib.hid hr1
    have HB1 := Lib.hid hb1
    clear hr1 hb1
    go_wp2_with fail
    go_ret
    exact REsc.mk (some 8, 1) (by rw [← HX.out, HV.out]; rfl) rfl HR1.out HB1.out
  by_cases l116 : c = 116
  · have hv : (c.toNat : Int) = 116 := by rw [l116]; rfl
    have HV := Lib.hid l116
    have HE1 := Lib.hid (fun W => reight_no 116 W (by omega))
    clear l116 hc255 l98
    go_enter Try.func38, Try.ntmps38
    go_wp2_with (go_at_call 44; refine (HE1.out _).mono ?_; rintro e_ w_ ⟨rfl, rfl⟩)
    refine wp_loop_rounds 6 ?_
    rw [rounds_succ]
    go_wp2_with (go_at_call 43; refine (HN8.out _).mono ?_; rintro e_ w_ ⟨rfl, rfl⟩)
    rw [rounds_succ]
    go_wp2_with (go_at_call 43; refine (HN9.out _).mono ?_; rintro e_ w_ ⟨rfl, rfl⟩)
    refine (HPUT.out 9 9 _ HT.out rfl).mono ?_
    rintro e_ w1 ⟨rfl, hr1, hb1⟩
    have HR1 := Lib.hid hr1
    have HB1 := Lib.hid hb1
    clear hr1 hb1
    go_wp2_with fail
    go_ret
    exact REsc.mk (some 9, 1) (by rw [← HX.out, HV.out]; rfl) rfl HR1.out HB1.out
  by_cases l110 : c = 110
  · have hv : (c.toNat : Int) = 110 := by rw [l110]; rfl
    have HV := Lib.hid l110
    have HE1 := Lib.hid (fun W => reight_no 110 W (by omega))
    clear l110 hc255 l98 l116
    go_enter Try.func38, Try.ntmps38
    go_wp2_with (go_at_call 44; refine (HE1.out _).mono ?_; rintro e_ w_ ⟨rfl, rfl⟩)
    refine wp_loop_rounds 6 ?_
    rw [rounds_succ]
    go_wp2_with (go_at_call 43; refine (HN8.out _).mono ?_; rintro e_ w_ ⟨rfl, rfl⟩)
    rw [rounds_succ]
    go_wp2_with (go_at_call 43; refine (HN9.out _).mono ?_; rintro e_ w_ ⟨rfl, rfl⟩)
    rw [rounds_succ]
    go_wp2_with (go_at_call 43; refine (HN10.out _).mono ?_; rintro e_ w_ ⟨rfl, rfl⟩)
    refine (HPUT.out 10 10 _ HT.out rfl).mono ?_
    rintro e_ w1 ⟨rfl, hr1, hb1⟩
    have HR1 := Lib.hid hr1
    have HB1 := Lib.hid hb1
    clear hr1 hb1
    go_wp2_with fail
    go_ret
    exact REsc.mk (some 10, 1) (by rw [← HX.out, HV.out]; rfl) rfl HR1.out HB1.out
  by_cases l102 : c = 102
  · have hv : (c.toNat : Int) = 102 := by rw [l102]; rfl
    have HV := Lib.hid l102
    have HE1 := Lib.hid (fun W => reight_no 102 W (by omega))
    clear l102 hc255 l98 l116 l110
    go_enter Try.func38, Try.ntmps38
    go_wp2_with (go_at_call 44; refine (HE1.out _).mono ?_; rintro e_ w_ ⟨rfl, rfl⟩)
    refine wp_loop_rounds 6 ?_
    rw [rounds_succ]
    go_wp2_with (go_at_call 43; refine (HN8.out _).mono ?_; rintro e_ w_ ⟨rfl, rfl⟩)
    rw [rounds_succ]
    go_wp2_with (go_at_call 43; refine (HN9.out _).mono ?_; rintro e_ w_ ⟨rfl, rfl⟩)
    rw [rounds_succ]
    go_wp2_with (go_at_call 43; refine (HN10.out _).mono ?_; rintro e_ w_ ⟨rfl, rfl⟩)
    rw [rounds_succ]
    go_wp2_with (go_at_call 43; refine (HN12.out _).mono ?_; rintro e_ w_ ⟨rfl, rfl⟩)
    refine (HPUT.out 12 12 _ HT.out rfl).mono ?_
    rintro e_ w1 ⟨rfl, hr1, hb1⟩
    have HR1 := Lib.hid hr1
    have HB1 := Lib.hid hb1
    clear hr1 hb1
    go_wp2_with fail
    go_ret
    exact REsc.mk (some 12, 1) (by rw [← HX.out, HV.out]; rfl) rfl HR1.out HB1.out
  by_cases l114 : c = 114
  · have hv : (c.toNat : Int) = 114 := by rw [l114]; rfl
    have HV := Lib.hid l114
    have HE1 := Lib.hid (fun W => reight_no 114 W (by omega))
    clear l114 hc255 l98 l116 l110 l102
    go_enter Try.func38, Try.ntmps38
    go_wp2_with (go_at_call 44; refine (HE1.out _).mono ?_; rintro e_ w_ ⟨rfl, rfl⟩)
    refine wp_loop_rounds 6 ?_
    rw [rounds_succ]
    go_wp2_with (go_at_call 43; refine (HN8.out _).mono ?_; rintro e_ w_ ⟨rfl, rfl⟩)
    rw [rounds_succ]
    go_wp2_with (go_at_call 43; refine (HN9.out _).mono ?_; rintro e_ w_ ⟨rfl, rfl⟩)
    rw [rounds_succ]
    go_wp2_with (go_at_call 43; refine (HN10.out _).mono ?_; rintro e_ w_ ⟨rfl, rfl⟩)
    rw [rounds_succ]
    go_wp2_with (go_at_call 43; refine (HN12.out _).mono ?_; rintro e_ w_ ⟨rfl, rfl⟩)
    rw [rounds_succ]
    go_wp2_with (go_at_call 43; refine (HN13.out _).mono ?_; rintro e_ w_ ⟨rfl, rfl⟩)
    refine (HPUT.out 13 13 _ HT.out rfl).mono ?_
    rintro e_ w1 ⟨rfl, hr1, hb1⟩
    have HR1 := Lib.hid hr1
    have HB1 := Lib.hid hb1
    clear hr1 hb1
    go_wp2_with fail
    go_ret
    exact REsc.mk (some 13, 1) (by rw [← HX.out, HV.out]; rfl) rfl HR1.out HB1.out
  have hno : ∀ b : UInt8, b = 8 ∨ b = 9 ∨ b = 10 ∨ b = 12 ∨ b = 13 → c ≠ short b := by
    intro b hb
    rcases hb with rfl | rfl | rfl | rfl | rfl
    · exact l98
    · exact l116
    · exact l110
    · exact l102
    · exact l114
  have hrest := esc_rest c r hno
  rw [HX.out] at hrest
  have HRE := Lib.hid hrest
  have m98 : ((98 : Int) == (c.toNat : Int)) = false := by rw [beq_eq_false_iff_ne]; exact fun e => l98 ((u8e c 98).2 e.symm)
  have m116 : ((116 : Int) == (c.toNat : Int)) = false := by rw [beq_eq_false_iff_ne]; exact fun e => l116 ((u8e c 116).2 e.symm)
  have m110 : ((110 : Int) == (c.toNat : Int)) = false := by rw [beq_eq_false_iff_ne]; exact fun e => l110 ((u8e c 110).2 e.symm)
  have m102 : ((102 : Int) == (c.toNat : Int)) = false := by rw [beq_eq_false_iff_ne]; exact fun e => l102 ((u8e c 102).2 e.symm)
  have m114 : ((114 : Int) == (c.toNat : Int)) = false := by rw [beq_eq_false_iff_ne]; exact fun e => l114 ((u8e c 114).2 e.symm)
  clear l98 l116 l110 l102 l114 hrest hno
  by_cases c13 : c = 13
  · have hv : (c.toNat : Int) = 13 := by rw [c13]; rfl
    have HV := Lib.hid c13
    clear c13 hc255 m98 m116 m110 m102 m114
    by_cases hk1 : i + 1 < s.size
    · have hd1 := dropS s (i + 1) hk1
      rw [HR.out] at hd1
      have HD1 := Lib.hid hd1
      clear hd1
      by_cases hn : s[i + 1] = 10
      · have hv1 : (s[i + 1].toNat : Int) = 10 := by rw [hn]; rfl
        have HN := Lib.hid hn
        clear hn
        go_enter Try.func38, Try.ntmps38
        go_wp2_with fail
        go_ret
        exact REsc.mk (none, 2) (by rw [HRE.out, if_pos ⟨HV.out, by rw [HD1.out, HN.out]; rfl⟩]) rfl (by rw [Option.toList_none, List.append_nil]; exact HT.out) (Below.refl _ _)
      · have hv1 : ((s[i + 1].toNat : Int) == 10) = false := by
          rw [beq_eq_false_iff_ne]
          exact fun e => hn ((u8e _ 10).2 e)
        have HN := Lib.hid hn
        clear hn
        go_enter Try.func38, Try.ntmps38
        go_wp2_with fail
        go_ret
        exact REsc.mk (none, 1) (by rw [HRE.out, if_neg (by rw [HD1.out]; simp [HN.out]), if_pos (Or.inr HV.out)]) rfl (by rw [Option.toList_none, List.append_nil]; exact HT.out) (Below.refl _ _)
    · have HN := Lib.hid (show r = [] by rw [← HR.out]; exact dropE s _ (by omega))
      go_enter Try.func38, Try.ntmps38
      go_wp2_with fail
      go_ret
      exact REsc.mk (none, 1) (by rw [HRE.out, if_neg (by rw [HN.out]; simp), if_pos (Or.inr HV.out)]) rfl (by rw [Option.toList_none, List.append_nil]; exact HT.out) (Below.refl _ _)
  · have v13 : ((c.toNat : Int) == 13) = false := by
      rw [beq_eq_false_iff_ne]
      exact fun e => c13 ((u8e _ 13).2 e)
    have H13 := Lib.hid c13
    clear c13
    by_cases c10 : c = 10
    · have hv : (c.toNat : Int) = 10 := by rw [c10]; rfl
      have HV := Lib.hid c10
      clear c10 hc255 v13 m98 m116 m110 m102 m114
      go_enter Try.func38, Try.ntmps38
      go_wp2_with fail
      go_ret
      exact REsc.mk (none, 1) (by rw [HRE.out, if_neg (fun h => H13.out h.1), if_pos (Or.inl HV.out)]) rfl (by rw [Option.toList_none, List.append_nil]; exact HT.out) (Below.refl _ _)
    · have v10 : ((c.toNat : Int) == 10) = false := by
        rw [beq_eq_false_iff_ne]
        exact fun e => c10 ((u8e _ 10).2 e)
      have hre2 := HRE.out
      rw [if_neg (fun h => H13.out h.1), if_neg (fun h => h.elim c10 H13.out)] at hre2
      have HRF := Lib.hid hre2
      clear HRE hre2 c10
      by_cases ho : 48 ≤ (c.toNat : Int) ∧ (c.toNat : Int) ≤ 55
      · obtain ⟨ho1, ho2⟩ := ho
        have ho3 : 48 ≤ c ∧ c ≤ 55 := ⟨(u8le 48 c).2 ho1, (u8le c 55).2 ho2⟩
        have hre2 := HRF.out
        rw [if_pos ho3] at hre2
        have HRG := Lib.hid hre2
        clear HRF hre2 ho3
        obtain ⟨Y, hY⟩ : ∃ Y, oct 3 (c :: r) 0 0 = Y := ⟨_, rfl⟩
        have HY := Lib.hid hY
        rw [hY] at HRG
        clear hY
        have HDS := Lib.hid (dropS s)
        have HE1 := Lib.hid (fun W => reight_yes (c.toNat : Int) W ho1 ho2)
        go_enter Try.func38, Try.ntmps38
        go_wp2_with (go_at_call 44; refine (HE1.out _).mono ?_; rintro e_ w_ ⟨rfl, rfl⟩)
        go_loop [8, 9] (fun xv jv => ∃ j x : Nat, j ≤ 3 ∧ i + j ≤ s.size ∧ jv = .int .i64 (j : Int) ∧ xv = .int .i64 (x : Int) ∧ (x : Int) ≤ 7 * (1 + 8 + 64 + 512) ∧ x < 8 ^ j ∧ Hid (oct (3 - j) (s.data.toList.drop (i + j)) x j = Y)) (fun _ jv => 3 - (intOf jv).toNat)
        case atStart => exact ⟨0, 0, by omega, by omega, rfl, rfl, by omega, by omega, Lib.hid (by rw [Nat.add_zero, HD.out]; exact HY.out)⟩
        case round =>
          obtain ⟨j, x, hj, hij, rfl, rfl, hx, hx8, hoc⟩ := hrel
          obtain ⟨Y1, Y2⟩ := Y
          by_cases hj3 : j < 3
          · have dB : decide ((j : Int) < 3) = true := by simp; omega
            by_cases hA : i + j < s.size
            · have hd2 := HDS.out (i + j) hA
              have HD2 := Lib.hid hd2
              clear hd2
              have hc2 : (s[i + j].toNat : Int) ≤ 255 := by have := s[i + j].toNat_lt; omega
              have dA : decide ((i : Int) + (j : Int) < (s.size : Int)) = true := by simp; omega
              by_cases ho : 48 ≤ (s[i + j].toNat : Int) ∧ (s[i + j].toNat : Int) ≤ 55
              · have HO := Lib.hid ho
                obtain ⟨o1, o2⟩ := ho
                have hx9 : x ≤ 63 := by
                  rcases (show j = 0 ∨ j = 1 ∨ j = 2 by omega) with e | e | e <;> (rw [e] at hx8; simp at hx8; omega)
                have HP := Lib.hid (show 8 ^ (j + 1) = 8 * 8 ^ j by rw [Nat.pow_succ]; omega)
                have hst := oct_step (2 - j) s[i + j] (s.data.toList.drop (i + j + 1)) x j HO.out
                have ho2' := hoc.out
                rw [HD2.out, show 3 - j = 2 - j + 1 by omega, hst] at ho2'
                have HQ := Lib.hid ho2'
                clear hst ho2'
                have HX8 := Lib.hid hx8
                clear hx8
                have HE2 := Lib.hid (fun W => reight_yes (s[i + j].toNat : Int) W o1 o2)
                go_wp2_with (go_at_call 44; refine (HE2.out _).mono ?_; rintro e_ w_ ⟨rfl, rfl⟩)
                go_round
                case rel => exact ⟨j + 1, 8 * x + (s[i + j].toNat - 48), by omega, by omega, by go_num, by go_num, by omega, by have := HX8.out; have := HP.out; omega, Lib.hid (by rw [show 3 - (j + 1) = 2 - j by omega, show i + (j + 1) = i + j + 1 by omega]; exact HQ.out)⟩
                case measure => simp [intOf]; omega
              · have ho2' := hoc.out
                rw [HD2.out, oct_stop _ _ _ _ _ ho] at ho2'
                have HQ := Lib.hid ho2'
                have HE2 := Lib.hid (fun W => reight_no (s[i + j].toNat : Int) W (by omega))
                clear ho2' hx8 ho
                go_wp2_with (go_at_call 44; refine (HE2.out _).mono ?_; rintro e_ w_ ⟨rfl, rfl⟩)
                refine (HPUT.out _ (UInt8.ofNat x) _ HT.out (by rw [nat_of_ofNat]; omega)).mono ?_
                rintro e_ w1 ⟨rfl, hr1, hb1⟩
                have HR1 := Lib.hid hr1
                have HB1 := Lib.hid hb1
                clear hr1 hb1
                go_wp2_with fail
                go_ret
                exact REsc.mk (some (UInt8.ofNat x), j) (by have h9 := HQ.out; cases h9; exact HRG.out) rfl HR1.out HB1.out
            · have ho2' := hoc.out
              rw [dropE s (i + j) (by omega), oct_nil] at ho2'
              have HQ := Lib.hid ho2'
              clear ho2' hx8
              have dA : decide ((i : Int) + (j : Int) < (s.size : Int)) = false := by simp; omega
              go_wp2_with fail
              refine (HPUT.out _ (UInt8.ofNat x) _ HT.out (by rw [nat_of_ofNat]; omega)).mono ?_
              rintro e_ w1 ⟨rfl, hr1, hb1⟩
              have HR1 := Lib.hid hr1
              have HB1 := Lib.hid hb1
              clear hr1 hb1
              go_wp2_with fail
              go_ret
              exact REsc.mk (some (UInt8.ofNat x), j) (by have h9 := HQ.out; cases h9; exact HRG.out) rfl HR1.out HB1.out
          · obtain rfl : j = 3 := by omega
            have HQ := Lib.hid (show (x, 3) = (Y1, Y2) from hoc.out)
            clear hx8
            go_wp2_with fail
            refine (HPUT.out _ (UInt8.ofNat x) _ HT.out (by rw [nat_of_ofNat]; omega)).mono ?_
            rintro e_ w1 ⟨rfl, hr1, hb1⟩
            have HR1 := Lib.hid hr1
            have HB1 := Lib.hid hb1
            clear hr1 hb1
            go_wp2_with fail
            go_ret
            exact REsc.mk (some (UInt8.ofNat x), 3) (by have h9 := HQ.out; cases h9; exact HRG.out) rfl HR1.out HB1.out
      · have HO := Lib.hid ho
        have hre2 := HRF.out
        rw [if_neg (by
          rintro ⟨h1, h2⟩
          exact ho ⟨(u8le 48 c).1 h1, (u8le c 55).1 h2⟩)] at hre2
        have HRG := Lib.hid hre2
        clear HRF hre2
        have HE1 := Lib.hid (fun W => reight_no (c.toNat : Int) W (by omega))
        clear ho
        go_enter Try.func38, Try.ntmps38
        go_wp2_with (go_at_call 44; refine (HE1.out _).mono ?_; rintro e_ w_ ⟨rfl, rfl⟩)
        refine wp_loop_rounds 6 ?_
        rw [rounds_succ]
        go_wp2_with (go_at_call 43; refine (HN8.out _).mono ?_; rintro e_ w_ ⟨rfl, rfl⟩)
        rw [rounds_succ]
        go_wp2_with (go_at_call 43; refine (HN9.out _).mono ?_; rintro e_ w_ ⟨rfl, rfl⟩)
        rw [rounds_succ]
        go_wp2_with (go_at_call 43; refine (HN10.out _).mono ?_; rintro e_ w_ ⟨rfl, rfl⟩)
        rw [rounds_succ]
        go_wp2_with (go_at_call 43; refine (HN12.out _).mono ?_; rintro e_ w_ ⟨rfl, rfl⟩)
        rw [rounds_succ]
        go_wp2_with (go_at_call 43; refine (HN13.out _).mono ?_; rintro e_ w_ ⟨rfl, rfl⟩)
        rw [rounds_succ]
        go_wp2_with fail
        refine (HPUT.out _ c _ HT.out rfl).mono ?_
        rintro e_ w1 ⟨rfl, hr1, hb1⟩
        have HR1 := Lib.hid hr1
        have HB1 := Lib.hid hb1
        clear hr1 hb1
        go_wp2_with fail
        go_ret
        exact REsc.mk (some c, 1) HRG.out rfl HR1.out HB1.out
end Go.Proofs.Ytdonjnngohmknaa.qt
