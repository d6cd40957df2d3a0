/-
  Layer 7: the contract of quote's Take.
-/
import Derived.Test.YtdonjnngohmknaaQEighty
import Derived.BigQuiet
namespace Go.Proofs.Ytdonjnngohmknaa.qt
set_option linter.unusedVariables false
set_option linter.unusedSimpArgs false
open Go.RowKit bs lf ch

/-- what Take gives back, as a value -/
def resV (R : Res) : Value := .tuple #[.string ⟨R.1.toArray⟩, .int .i64 R.2.1, .int .i64 R.2.2]
def TakePost (R : Res) (w : World) (e : Ending) (w' : World) : Prop := e = .returned (resV R) ∧ Below w.heap.size w w'
theorem TakePost.mk {R : Res} {w w' : World} {s : ByteArray} {n e : Int} (b : List UInt8) (hs : s = ⟨b.toArray⟩) (h : R = (b, n, e)) (hb : Below w.heap.size w w') : TakePost R w (.returned (.tuple #[.string s, .int .i64 n, .int .i64 e])) w' := by
  subst h hs
  exact ⟨rfl, hb⟩
theorem TK.new (w : World) : TK (w.alloc (.cells #[.slice none 0 0, .int .i64 0] 42)) w.heap.size [] 0 := ⟨none, 0, Blk.new w _ _, OwnB.none_ _ _⟩
theorem TK.cell0 {w : World} {T : Nat} {b : List UInt8} {e : Int} (h : TK w T b e) : ∃ A c, w.cell? ⟨T, 0, none⟩ = some (.slice A b.length c) ∧ LB w A b.length c b := by
  obtain ⟨A, c, h1, h2⟩ := h
  obtain ⟨A2, c2, e, hl⟩ := h2.lb
  injection e with e1 e2 e3
  subst e1 e3
  exact ⟨A, c, by rw [h1.cell]; rfl, hl⟩

set_option maxRecDepth 100000 in
set_option maxHeartbeats 3200000 in
theorem take_any (s : ByteArray) (w : World) (hs : s.size ≤ 20000) :
    Calls Try.prog 10 #[.string s] w (TakePost (takeL s.data.toList) w) := by
  have hT := TK.new w
  have hb0 : Below w.heap.size w (w.alloc (.cells #[.slice none 0 0, .int .i64 0] 42)) := balloc (Below.refl _ _) _
  have HT := Lib.hid hT
  have HB := Lib.hid hb0
  clear hT hb0
  obtain ⟨R, hR⟩ : ∃ R, takeL s.data.toList = R := ⟨_, rfl⟩
  rw [hR]
  have HR := Lib.hid hR
  clear hR
  by_cases h0 : s.size = 0
  · have hl : s = { data := #[] } := by
      obtain ⟨d⟩ := s
      have : d = #[] := by
        apply Array.eq_empty_of_size_eq_zero
        exact h0
      rw [this]
    subst hl
    clear h0 hs
    go_enter Try.func10, Try.ntmps10
    go_wp2_with fail
    go_ret3
    exact TakePost.mk [] rfl (by rw [← HR.out]; rfl) HB.out
  · have hlt : 0 < s.size := by omega
    have hd := dropS s 0 hlt
    simp only [List.drop_zero, Nat.zero_add] at hd
    have HD := Lib.hid hd
    have ne1 : ¬ s.toList = [] := by
      rw [ByteArray.toList_eq, hd]; simp
    have ne2 : (!s.toList.isEmpty) = true := by
      rw [ByteArray.toList_eq, hd]; rfl
    have hlen : s.data.toList.length = s.size := by simp
    have HLN := Lib.hid hlen
    clear hd h0 hlen
    by_cases h40 : s[0] = 40
    · have hv : (s[0].toNat : Int) = 40 := by rw [h40]; rfl
      have HTL := Lib.hid (show takeL s.data.toList = parenR s.size (s.data.toList.drop 1) 1 [] 1 by
        rw [takeL, if_pos (by rw [HD.out, h40]; rfl), HLN.out])
      clear h40
      go_enter Try.func10, Try.ntmps10
      go_wp2_with fail
      refine (paren_any s w.heap.size _ hs hlt HT.out).mono ?_
      rintro e_ w1 ⟨hb1, b, n, er, rfl, ht1, ⟨rfl, hR1⟩ | ⟨hne1, hR1⟩⟩
      · obtain ⟨A, c, q0, hlb⟩ := ht1.cell0
        have q1 := ht1.cell1
        have hcv := hlb.str
        have HR1 := Lib.hid hR1
        have HB1 := Lib.hid (HB.out.trans hb1)
        clear hR1 hb1 ht1 hlb
        go_wp2_with fail
        go_ret3
        exact TakePost.mk b rfl (by rw [← HR.out, HTL.out, HR1.out]) HB1.out
      · have q1 := ht1.cell1
        have hq : (er != 0) = true := by simpa using hne1
        have HR1 := Lib.hid hR1
        have HB1 := Lib.hid (HB.out.trans hb1)
        clear hR1 hb1 ht1 hne1
        go_wp2_with fail
        go_quiet (fail)
        go_wp2_with fail
        go_ret3
        exact TakePost.mk [] rfl (by rw [← HR.out, HTL.out, HR1.out]; rfl) (by first | exact below_drewN HB1.out _ | exact Below.drew HB1.out | exact HB1.out)
    · have v40 : ((s[0].toNat : Int) == 40) = false := by rw [beq_eq_false_iff_ne]; exact fun e => h40 ((u8e _ 40).2 e)
      have HN40 := Lib.hid (show ¬ s.data.toList.head? = some 40 by rw [HD.out]; simpa using h40)
      clear h40
      by_cases h60 : s[0] = 60
      · have hv : (s[0].toNat : Int) = 60 := by rw [h60]; rfl
        have H60 := Lib.hid (show s.data.toList.head? = some 60 by rw [HD.out, h60]; rfl)
        clear h60 v40
        by_cases hl1 : 1 < s.size
        · have hd1 := dropS s 1 hl1
          have HD1 := Lib.hid hd1
          have dl : decide ((1 : Int) < (s.size : Int)) = true := by simp; omega
          clear hd1
          by_cases h126 : s[1] = 126
          · have hv1 : (s[1].toNat : Int) = 126 := by rw [h126]; rfl
            have HTL := Lib.hid (show takeL s.data.toList = eightyR (s.data.toList.drop 2) [] [] 2 by
              rw [takeL, if_neg HN40.out, if_pos ⟨H60.out, by rw [HD1.out, h126]; rfl⟩])
            clear h126
            go_enter Try.func10, Try.ntmps10
            go_wp2_with fail
            refine (eighty_any s w.heap.size _ hs (by omega) HT.out).mono ?_
            rintro e_ w1 ⟨hb1, b, n, er, rfl, ht1, ⟨rfl, hR1⟩ | ⟨hne1, hR1⟩⟩
            · obtain ⟨A, c, q0, hlb⟩ := ht1.cell0
              have q1 := ht1.cell1
              have hcv := hlb.str
              have HR1 := Lib.hid hR1
              have HB1 := Lib.hid (HB.out.trans hb1)
              clear hR1 hb1 ht1 hlb
              go_wp2_with fail
              go_ret3
              exact TakePost.mk b rfl (by rw [← HR.out, HTL.out, HR1.out]) HB1.out
            · have q1 := ht1.cell1
              have hq : (er != 0) = true := by simpa using hne1
              have HR1 := Lib.hid hR1
              have HB1 := Lib.hid (HB.out.trans hb1)
              clear hR1 hb1 ht1 hne1
              go_wp2_with fail
              go_quiet (fail)
              go_wp2_with fail
              go_ret3
              exact TakePost.mk [] rfl (by rw [← HR.out, HTL.out, HR1.out]; rfl) (by first | exact below_drewN HB1.out _ | exact Below.drew HB1.out | exact HB1.out)
          · have v126 : ((s[1].toNat : Int) == 126) = false := by rw [beq_eq_false_iff_ne]; exact fun e => h126 ((u8e _ 126).2 e)
            have HTL := Lib.hid (show takeL s.data.toList = hexR (s.data.toList.drop 1) (-1) [] 1 by
              rw [takeL, if_neg HN40.out, if_neg (by rw [HD1.out]; rintro ⟨_, h⟩; exact h126 (by simpa using h)), if_pos H60.out])
            clear h126
            go_enter Try.func10, Try.ntmps10
            go_wp2_with fail
            refine (hex_any s w.heap.size _ hs hlt HT.out).mono ?_
            rintro e_ w1 ⟨hb1, b, n, er, rfl, ht1, ⟨rfl, hR1⟩ | ⟨hne1, hR1⟩⟩
            · obtain ⟨A, c, q0, hlb⟩ := ht1.cell0
              have q1 := ht1.cell1
              have hcv := hlb.str
              have HR1 := Lib.hid hR1
              have HB1 := Lib.hid (HB.out.trans hb1)
              clear hR1 hb1 ht1 hlb
              go_wp2_with fail
              go_ret3
              exact TakePost.mk b rfl (by rw [← HR.out, HTL.out, HR1.out]) HB1.out
            · have q1 := ht1.cell1
              have hq : (er != 0) = true := by simpa using hne1
              have HR1 := Lib.hid hR1
              have HB1 := Lib.hid (HB.out.trans hb1)
              clear hR1 hb1 ht1 hne1
              go_wp2_with fail
              go_quiet (fail)
              go_wp2_with fail
              go_ret3
              exact TakePost.mk [] rfl (by rw [← HR.out, HTL.out, HR1.out]; rfl) (by first | exact below_drewN HB1.out _ | exact Below.drew HB1.out | exact HB1.out)
        · have dl : decide ((1 : Int) < (s.size : Int)) = false := by simp; omega
          have HTL := Lib.hid (show takeL s.data.toList = hexR (s.data.toList.drop 1) (-1) [] 1 by
            rw [takeL, if_neg HN40.out, if_neg (by rw [dropE s 1 (by omega)]; simp), if_pos H60.out])
          go_enter Try.func10, Try.ntmps10
          go_wp2_with fail
          refine (hex_any s w.heap.size _ hs hlt HT.out).mono ?_
          rintro e_ w1 ⟨hb1, b, n, er, rfl, ht1, ⟨rfl, hR1⟩ | ⟨hne1, hR1⟩⟩
          · obtain ⟨A, c, q0, hlb⟩ := ht1.cell0
            have q1 := ht1.cell1
            have hcv := hlb.str
            have HR1 := Lib.hid hR1
            have HB1 := Lib.hid (HB.out.trans hb1)
            clear hR1 hb1 ht1 hlb
            go_wp2_with fail
            go_ret3
            exact TakePost.mk b rfl (by rw [← HR.out, HTL.out, HR1.out]) HB1.out
          · have q1 := ht1.cell1
            have hq : (er != 0) = true := by simpa using hne1
            have HR1 := Lib.hid hR1
            have HB1 := Lib.hid (HB.out.trans hb1)
            clear hR1 hb1 ht1 hne1
            go_wp2_with fail
            go_quiet (fail)
            go_wp2_with fail
            go_ret3
            exact TakePost.mk [] rfl (by rw [← HR.out, HTL.out, HR1.out]; rfl) (by first | exact below_drewN HB1.out _ | exact Below.drew HB1.out | exact HB1.out)
      · have v60 : ((s[0].toNat : Int) == 60) = false := by rw [beq_eq_false_iff_ne]; exact fun e => h60 ((u8e _ 60).2 e)
        have HTL := Lib.hid (show takeL s.data.toList = bad 3 by
          have e : ¬ s.data.toList.head? = some 60 := by rw [HD.out]; simpa using h60
          rw [takeL, if_neg HN40.out, if_neg (fun h => e h.1), if_neg e])
        clear h60
        by_cases hl1 : 1 < s.size
        · have dl : decide ((1 : Int) < (s.size : Int)) = true := by simp; omega
          go_enter Try.func10, Try.ntmps10
          go_wp2_with fail
          go_ret3
          exact TakePost.mk [] rfl (by rw [← HR.out, HTL.out]; rfl) HB.out
        · have dl : decide ((1 : Int) < (s.size : Int)) = false := by simp; omega
          go_enter Try.func10, Try.ntmps10
          go_wp2_with fail
          go_ret3
          exact TakePost.mk [] rfl (by rw [← HR.out, HTL.out]; rfl) HB.out
end Go.Proofs.Ytdonjnngohmknaa.qt
