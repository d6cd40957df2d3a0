/-
  Layer 39's reference: its reader in memory; must, next, must2.
-/
import Derived.Test.YtfmkdccpgkbnoaaLeafS
namespace Go.Proofs.Ytfmkdccpgkbnoaa.lr
set_option linter.unusedVariables false
set_option linter.unusedSimpArgs false
open Go.RowKit bs
open lf (S tkV tkS wt failS hd tkV_len)

/-- the reader in block g; the bytes lie below N -/
def St (N : Nat) (w : World) (g : Nat) (s : S) : Prop := ∃ A n c, Blk w g 72 #[.slice A n c, .int .i64 s.2] ∧ Bytes w A n c s.1 ∧ n ≤ 20000 ∧ (0 < n → ∀ a : Addr, A = some a → a.block < N)
theorem bytes_ne {w : World} {g b o n c : Nat} {l : List UInt8} {A' : Option Addr} {n' c' : Nat} {e : Int} {t : TypeId} (h : Bytes w (some ⟨b, o, none⟩) n c l) (hn : 0 < n) (hg : Blk w g t #[.slice A' n' c', .int .i64 e]) : b ≠ g := by
  rintro rfl
  obtain ⟨b', o', e1, _, hc⟩ := h.at_ hn
  cases e1
  have h0 := hc 0 hn
  rw [Nat.add_zero, hg.cell] at h0
  rcases o with _ | _ | o
  · simp at h0
  · simp at h0
  · simp at h0
/-- bytes stay, if another block changes that holds a reader -/
theorem Bytes.only {w w' : World} {g n c : Nat} {A : Option Addr} {l : List UInt8} {A' : Option Addr} {n' c' : Nat} {e : Int} {t : TypeId} (h : Bytes w A n c l) (hg : Blk w g t #[.slice A' n' c', .int .i64 e]) (hw : w.grownBy w' (some g)) : Bytes w' A n c l := by
  rcases Nat.eq_zero_or_pos n with rfl | hn
  · obtain ⟨h1, h2, h3⟩ := h
    exact ⟨h1, h2, fun h => absurd h (by omega)⟩
  · have hh := h
    obtain ⟨h1, h2, h3⟩ := h
    obtain ⟨b, o, rfl, hlt, hc⟩ := h3 hn
    have hne := bytes_ne hh hn hg
    refine ⟨h1, h2, fun _ => ⟨b, o, rfl, Nat.lt_of_lt_of_le hlt hw.size, fun j hj => ?_⟩⟩
    exact (World.cell?_of_block (hw.block b hlt (by simpa using hne))).trans (hc j hj)
theorem St.only_bytes {N : Nat} {w w' : World} {g n c : Nat} {A : Option Addr} {l : List UInt8} {s : S} (hs : St N w g s) (h : Bytes w A n c l) (hw : w.grownBy w' (some g)) : Bytes w' A n c l := by
  obtain ⟨A', n', c', hb, _, _⟩ := hs
  exact Bytes.only h hb hw
theorem St.lt {N : Nat} {w : World} {g : Nat} {s : S} (h : St N w g s) : g < w.heap.size := by obtain ⟨_, _, _, hb, _⟩ := h; exact hb.lt
theorem St.below {N : Nat} {w w' : World} {g : Nat} {s : S} (h : St N w g s) (hb : Below w.heap.size w w') : St N w' g s := by
  obtain ⟨A, n, c, h1, h2, h3⟩ := h
  exact ⟨A, n, c, h1.below hb h1.lt, h2.below hb, h3⟩
theorem St.setE {N : Nat} {w : World} {g : Nat} {s : S} {A : Option Addr} {n c : Nat} (e : Int) (h : Blk w g 72 #[.slice A n c, .int .i64 s.2]) (hb : Bytes w A n c s.1) (hn : n ≤ 20000 ∧ (0 < n → ∀ a : Addr, A = some a → a.block < N)) : St N (w.setCell ⟨g, 1, none⟩ (.int .i64 e)) g (s.1, e) ∧ w.grownBy (w.setCell ⟨g, 1, none⟩ (.int .i64 e)) (some g) := by
  have hg : w.grownBy (w.setCell ⟨g, 1, none⟩ (.int .i64 e)) (some g) := only_setCell (only_of_below (Below.refl _ _) _) (.inl rfl) _
  exact ⟨⟨A, n, c, h.set_ 1 _, Bytes.only hb h hg, hn⟩, hg⟩


set_option maxRecDepth 100000 in
theorem must_any {N : Nat} (g : Nat) (p : Bool) (s : S) (w : World) (h : St N w g s) :
    Calls Try.prog 39 #[.pointer (some ⟨g, 0, none⟩), .bool p] w fun en w' => en = .returned (.tuple #[]) ∧ St N w' g (wt p s) ∧ w.grownBy w' (some g) := by
  obtain ⟨A, n, c, hb, hby, hn⟩ := id h
  obtain ⟨l, ec⟩ := s
  have k1 := hb.cell 1
  have f1 := hb.frozen 1
  simp only [List.getElem?_toArray, List.getElem?_cons_succ, List.getElem?_cons_zero] at k1
  have HS := Lib.hid h
  have HB := Lib.hid hb
  have HY := Lib.hid hby
  clear h hb hby
  by_cases he : ec = 0
  · subst he
    cases p
    · go_enter Try.func39, Try.ntmps39
      go_wp2_with fail
      go_end0
      exact ⟨rfl, St.setE 3 HB.out HY.out hn⟩
    · go_enter Try.func39, Try.ntmps39
      go_wp2_with fail
      go_end0
      exact ⟨rfl, HS.out, only_of_below (Below.refl _ _) _⟩
  · have he1 : (ec == 0) = false := by simpa using he
    have HE := Lib.hid (show wt p (l, ec) = (l, ec) by unfold wt failS; split <;> simp [he])
    go_enter Try.func39, Try.ntmps39
    go_wp2_with fail
    go_end0
    exact ⟨rfl, by rw [HE.out]; exact HS.out, only_of_below (Below.refl _ _) _⟩

set_option maxRecDepth 100000 in
theorem next_any {N : Nat} (g k : Nat) (s : S) (w : World) (h : St N w g s) (hk : 1 ≤ k ∧ k ≤ 1000) :
    Calls Try.prog 38 #[.pointer (some ⟨g, 0, none⟩), .int .i64 (k : Int)] w fun en w' => ∃ A c, en = .returned (.slice A k c) ∧ Bytes w' A k c (tkV k s) ∧ St N w' g (tkS k s) ∧ w.grownBy w' (some g) ∧ (s.2 = 0 → k ≤ s.1.length → ∀ a, A = some a → a.block < N) := by
  obtain ⟨A, n, c, hb, hby, hn⟩ := id h
  obtain ⟨l, ec⟩ := s
  have k0 := hb.cell 0
  have k1 := hb.cell 1
  have f0 := hb.frozen 0
  have f1 := hb.frozen 1
  simp only [List.getElem?_toArray, List.getElem?_cons_succ, List.getElem?_cons_zero] at k0 k1
  have HS := Lib.hid h
  have HB := Lib.hid hb
  have HY := Lib.hid hby
  have hlen : l.length = n := hby.1
  obtain ⟨hn, hNb⟩ := hn
  have hnc := hby.2.1
  obtain ⟨hk0, hk1⟩ := hk
  clear h hb hby
  obtain ⟨i0, hi, hz0, hz1, hz2⟩ := info_parts (show (Try.prog.info? 5).map (fun i => (i.zero, i.size, i.bytes)) = some (some (.int .u8 0), 1, 1) by kernel_rfl)
  have hmk := fun W => run_make_rowN (P := Try.prog) 22 5 i0 (.int .u8 0) Try.underlying22 hi hz0 .i64 .i64 k k (Nat.le_refl _) (by rw [hz2]; omega) (by omega) W
  simp only [hz1, Nat.mul_one, show (Value.int .u8 0).cells = #[.int .u8 0] from rfl] at hmk
  by_cases hok : ec = 0 ∧ k ≤ n
  · obtain ⟨rfl, hkn⟩ := hok
    have eV : tkV k (l, 0) = l.take k := if_pos ⟨rfl, by rw [hlen]; exact hkn⟩
    have eS : tkS k (l, 0) = (l.drop k, 0) := if_pos ⟨rfl, by rw [hlen]; exact hkn⟩
    have HE := Lib.hid (And.intro eV eS)
    obtain ⟨b, o, hA, hlt, _⟩ := HY.out.at_ (by omega)
    subst hA
    have hd1 : decide ((n : Int) < (k : Int)) = false := by simp; omega
    clear eV eS
    go_enter Try.func38, Try.ntmps38
    by_cases hck : c = k
    · subst hck
      have hnk : n = c := by omega
      subst hnk
      go_wp2_with fail
      go_ret
      have hw : w.grownBy (w.setCell ⟨g, 0, none⟩ (.slice (some ⟨b, o, none⟩) 0 0)) (some g) := only_setCell (only_of_below (Below.refl _ _) _) (.inl rfl) _
      rw [HE.out.1, HE.out.2]
      refine ⟨_, _, rfl, by rw [List.take_of_length_le (by omega)]; exact Bytes.only HY.out HB.out hw, ⟨_, _, _, HB.out.set_ 0 _, ⟨by simp [hlen], by omega, fun h => absurd h (by omega)⟩, by omega, fun hp a e => by cases e; exact hNb (by omega) ⟨b, o, none⟩ rfl⟩, hw, by intros; rename_i e; cases e; exact hNb (by omega) _ rfl⟩
    · go_wp2_with fail
      go_ret
      have hw : w.grownBy (w.setCell ⟨g, 0, none⟩ (.slice (some ⟨b, o + k, none⟩) (n - k) (c - k))) (some g) := only_setCell (only_of_below (Below.refl _ _) _) (.inl rfl) _
      have hy := Bytes.only HY.out HB.out hw
      have h1 := lf.Bytes.cut hy 0 k (by omega) hkn b o rfl
      have h2 := lf.Bytes.cut hy k n hkn (Nat.le_refl _) b o rfl
      rw [Nat.sub_zero, Nat.sub_zero, List.drop_zero, Nat.add_zero] at h1
      rw [List.take_of_length_le (by simp; omega)] at h2
      rw [HE.out.1, HE.out.2]
      exact ⟨_, _, rfl, h1, ⟨_, _, _, HB.out.set_ 0 _, h2, by omega, fun hp a e => by cases e; exact hNb (by omega) ⟨b, o, none⟩ rfl⟩, hw, by intros; rename_i e; cases e; exact hNb (by omega) _ rfl⟩
  · have eV : tkV k (l, ec) = List.replicate k 0 := if_neg (by rw [hlen]; exact hok)
    have eS : tkS k (l, ec) = failS 4 (l, ec) := if_neg (by rw [hlen]; exact hok)
    have HE := Lib.hid (And.intro eV eS)
    clear eV eS
    by_cases he : ec = 0
    · subst he
      have hkn : n < k := by omega
      have hd1 : decide ((n : Int) < (k : Int)) = true := by simp; omega
      have HS2 := Lib.hid (St.setE 4 HB.out HY.out ⟨hn, hNb⟩)
      go_enter Try.func38, Try.ntmps38
      go_wp2_with fail
      go_ret
      rw [HE.out.1, HE.out.2]
      have hz := lf.Bytes.zeros (w.setCell ⟨g, 1, none⟩ (.int .i64 4)) k
      rw [show (w.setCell ⟨g, 1, none⟩ (.int .i64 4)).heap.size = w.heap.size by simp] at hz
      exact ⟨_, _, rfl, hz, HS2.out.1.below (balloc (Below.refl _ _) _), only_alloc HS2.out.2 _, by intros; exfalso; omega⟩
    · have he1 : (ec == 0) = false := by simpa using he
      have HF := Lib.hid (show failS 4 (l, ec) = (l, ec) by unfold failS; rw [if_neg he])
      go_enter Try.func38, Try.ntmps38
      go_wp2_with fail
      go_ret
      rw [HE.out.1, HE.out.2, HF.out]
      first
        | exact ⟨_, _, rfl, lf.Bytes.zeros _ _, HS.out.below (balloc (Below.refl _ _) _), only_alloc (only_of_below (Below.refl _ _) _) _⟩
        | exact ⟨_, _, rfl, lf.Bytes.zeros _ _, HS.out.below (balloc (Below.refl _ _) _), only_alloc (only_of_below (Below.refl _ _) _) _, fun e1 => absurd e1 he⟩
/-- must2 -/
def must2S (q : Nat) (s : S) : S := wt (decide (hd 1 s = q)) (tkS 1 s)
set_option maxRecDepth 100000 in
theorem must2_any {N : Nat} (g q : Nat) (s : S) (w : World) (h : St N w g s) (hq : q ≤ 255) :
    Calls Try.prog 37 #[.pointer (some ⟨g, 0, none⟩), .int .u8 (q : Int)] w fun en w' => en = .returned (.tuple #[]) ∧ St N w' g (must2S q s) ∧ w.grownBy w' (some g) := by
  have HS := Lib.hid h
  clear h
  obtain ⟨x, hh⟩ : ∃ x, hd 1 s = x := ⟨_, rfl⟩
  have hx : ((tkV 1 s).getD 0 0).toNat = x := hh
  have hx255 : x ≤ 255 := by have := ((tkV 1 s).getD 0 0).toNat_lt; omega
  have hp : ((x : Int) == (q : Int)) = decide (x = q) := by
    by_cases e : x = q
    · subst e; simp
    · rw [decide_eq_false e]; simp; omega
  obtain ⟨pb, hpb⟩ : ∃ pb, decide (x = q) = pb := ⟨_, rfl⟩
  rw [hpb] at hp
  have HH := Lib.hid (show must2S q s = wt pb (tkS 1 s) by unfold must2S; rw [hh, hpb])
  clear hh hpb
  go_enter Try.func37, Try.ntmps37
  go_wp2_with (first | (go_at_call 38; refine (next_any g 1 s _ HS.out (by omega)).mono ?_; rintro e w1 ⟨A1, c1, rfl, hb1, hs1, hg1, _⟩; obtain ⟨b1, o1, rfl, hlt1, hc1⟩ := hb1.at_ (by omega); have c0 := hc1 0 (by omega); simp only [Nat.add_zero] at c0; rw [hx] at c0; have HS1 := Lib.hid hs1; have HG1 := Lib.hid hg1; clear hb1 hs1 hg1 hc1) | (go_at_call 39; refine (must_any g pb _ _ HS1.out).mono ?_; rintro e w2 ⟨rfl, hs2, hg2⟩))
  go_end0
  exact ⟨rfl, by rw [HH.out]; exact hs2, HG1.out.trans hg2⟩
end Go.Proofs.Ytfmkdccpgkbnoaa.lr
