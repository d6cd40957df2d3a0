/-
  Layer 39's reference: runs of a row.
-/
import Derived.Test.YtfmkdccpgkbnoaaLeafQ
import Derived.Test.YtfmkdccpgkbnoaaLeafT
import Derived.Test.YtfmkdccpgkbnoaaUpTail
import Derived.Test.YtfmkdccpgkbnoaaUpLate
import Derived.BigQuiet
import Derived.BigRegion
namespace Go.Proofs.Ytfmkdccpgkbnoaa.lr
set_option linter.unusedVariables false
set_option linter.unusedSimpArgs false
open Go.RowKit bs
open lf

theorem unl_snoc (p : T) (n : Nat) (hn : 1 ≤ n) : ∀ d : List (Nat × T), Unl d → (∀ m q d0, d = d0 ++ [(m, q)] → q ≠ p) → Unl (d ++ [(n, p)]) := by
  intro d
  induction d with
  | nil => intro _ _; exact ⟨hn, (fun _ _ _ e => by cases e), trivial⟩
  | cons x d ih =>
    obtain ⟨k, r⟩ := x
    intro hu hl
    obtain ⟨h1, h2, h3⟩ := hu
    refine ⟨h1, ?_, ih h3 (fun m q d0 e => hl m q ((k, r) :: d0) (by rw [e]; rfl))⟩
    intro m q rs' e
    cases d with
    | nil =>
      have e1 := (List.cons.inj (show [(n, p)] = (m, q) :: rs' from e)).1
      rw [← (Prod.mk.inj e1).2]
      exact hl k r [] rfl
    | cons y ys =>
      have e1 := (List.cons.inj (show y :: (ys ++ [(n, p)]) = (m, q) :: rs' from e)).1
      exact h2 m q ys (by rw [e1])
theorem unl_grow (p : T) (n : Nat) : ∀ d : List (Nat × T), Unl (d ++ [(n, p)]) → Unl (d ++ [(n + 1, p)]) := by
  intro d
  induction d with
  | nil => intro h; exact ⟨by omega, (fun _ _ _ e => by cases e), trivial⟩
  | cons x d ih =>
    obtain ⟨k, r⟩ := x
    intro hu
    obtain ⟨h1, h2, h3⟩ := hu
    refine ⟨h1, ?_, ih h3⟩
    intro m q rs' e
    cases d with
    | nil =>
      have e1 := (List.cons.inj (show [(n + 1, p)] = (m, q) :: rs' from e)).1
      rw [← (Prod.mk.inj e1).2]
      exact h2 n p [] rfl
    | cons y ys =>
      have e1 := (List.cons.inj (show y :: (ys ++ [(n + 1, p)]) = (m, q) :: rs' from e)).1
      exact h2 m q (ys ++ [(n, p)]) (by rw [e1]; rfl)
theorem flat_append (a b : List (Nat × T)) : flat (a ++ b) = flat a ++ flat b := by
  induction a with
  | nil => rfl
  | cons x r ih => obtain ⟨n, p⟩ := x; simp [flat, ih]
theorem rle_grow {ps : List T} {d : List (Nat × T)} {n : Nat} {p : T} (h : rle ps = d ++ [(n, p)]) : rle (ps ++ [p]) = d ++ [(n + 1, p)] := by
  have hu := unl_rle ps
  have hf := flat_rle ps
  rw [h] at hu hf
  have e : ps ++ [p] = flat (d ++ [(n + 1, p)]) := by
    rw [← hf, flat_append, flat_append]
    simp [flat, List.replicate_succ']
  rw [e, rle_flat _ (unl_grow p n d hu)]
theorem rle_new {ps : List T} {p : T} (h : ∀ m q d0, rle ps = d0 ++ [(m, q)] → q ≠ p) : rle (ps ++ [p]) = rle ps ++ [(1, p)] := by
  have hu := unl_rle ps
  have hf := flat_rle ps
  have e : ps ++ [p] = flat (rle ps ++ [(1, p)]) := by
    rw [flat_append, hf]; simp [flat]
  rw [e, rle_flat _ (unl_snoc p 1 (Nat.le_refl _) _ hu h)]
theorem pxs_snoc (l : List UInt8) (a : Nat) : pxs l 0 (a + 1) = pxs l 0 a ++ [px l a] := by
  rw [pxs_split, Nat.zero_add]; rfl
theorem list_last (d : List (Nat × T)) : d = [] ∨ ∃ d0 n q, d = d0 ++ [(n, q)] := by
  rcases List.eq_nil_or_concat d with h | ⟨d0, x, h⟩
  · exact .inl h
  · obtain ⟨n, q⟩ := x
    exact .inr ⟨d0, n, q, by rw [h]; simp⟩
theorem last_pos {ps : List T} {d : List (Nat × T)} {n : Nat} {q : T} (h : rle ps = d ++ [(n, q)]) : 1 ≤ n ∧ n ≤ ps.length := by
  have hu := unl_rle ps
  have hf := flat_rle ps
  rw [h] at hu hf
  have hl := congrArg List.length hf
  rw [flat_append, List.length_append] at hl
  simp only [flat, List.append_nil, List.length_replicate] at hl
  refine ⟨?_, by omega⟩
  clear hf h hl
  induction d with
  | nil => exact hu.1
  | cons x d ih => exact ih hu.2.2
/-- ahead of pixel a -/
def RRAt (w : World) (l : List UInt8) (a : Nat) (ov : Value) (wr : World) : Prop := OwnB wr w.heap.size ov (enc (rle (pxs l 0 a))) ∧ Below w.heap.size w wr
theorem bump (n : Nat) (x y z : UInt8) (b : List UInt8) (h1 : 1 ≤ n) (h2 : n ≤ 64) : (b ++ [UInt8.ofNat (n - 1), x, y, z]).set b.length (UInt8.ofNat n) = b ++ [UInt8.ofNat (n + 1 - 1), x, y, z] := by
  rw [List.set_append_right _ _ (Nat.le_refl _)]
  simp

set_option maxRecDepth 100000 in
set_option maxHeartbeats 800000 in
theorem rruns_any (m n c : Nat) (A : Option Addr) (l : List UInt8) (w : World) (hn : n = 3 * m) (hm : m ≤ 64) (hb : Bytes w A n c l) :
    Calls Try.prog 32 #[.slice A n c] w fun e w' => ∃ v, e = .returned v ∧ OwnB w' w.heap.size v (enc (rle (pxs l 0 m))) ∧ Below w.heap.size w w' := by
  obtain ⟨i0, hi, hz0, hz1, hz2⟩ := info_parts (show (Try.prog.info? 5).map (fun i => (i.zero, i.size, i.bytes)) = some (some (.int .u8 0), 1, 1) by kernel_rfl)
  have HB := Lib.hid hb
  have HN := Lib.hid hn
  have hnc := hb.2.1
  have hn192 : n ≤ 192 := by omega
  clear hb hn
  go_enter Try.func32, Try.ntmps32
  go_wp2_with fail
  go_loopw [3, 4] (fun ov iv wr => ∃ i a : Nat, Hid (i = 3 * a) ∧ a ≤ m ∧ iv = .int .i64 (i : Int) ∧ RRAt w l a ov wr) (fun _ iv _ => 192 - (intOf iv).toNat)
  case atStart => exact ⟨0, 0, Lib.hid (by omega), by omega, rfl, OwnB.none_ w _, Below.refl _ _⟩
  case round =>
    obtain ⟨i, a, hia, ham, rfl, hR⟩ := hrel
    obtain ⟨wo, rfl⟩ : ∃ wo, wo = wr := ⟨_, rfl⟩
    have HR := Lib.hid hR
    clear hR
    by_cases hend : a = m
    · have hin : i = n := by have := hia.out; have := HN.out; omega
      subst hin
      go_wp2_with fail
      go_ret
      subst hend
      exact ⟨_, rfl, HR.out.1, HR.out.2⟩
    · have hin : i + 3 ≤ n := by have := hia.out; have := HN.out; omega
      have hd0 : decide ((i : Int) < (n : Int)) = true := by simp; omega
      obtain ⟨bb, oo, hA, hlt, _⟩ := HB.out.2.2 (by omega)
      subst hA
      obtain ⟨x, hx⟩ : ∃ x, (px l a).1 = x := ⟨_, rfl⟩
      obtain ⟨y, hy⟩ : ∃ x, (px l a).2.1 = x := ⟨_, rfl⟩
      obtain ⟨z, hz⟩ : ∃ x, (px l a).2.2 = x := ⟨_, rfl⟩
      have HXYZ := Lib.hid (show px l a = (x, y, z) from by rw [← hx, ← hy, ← hz])
      have hx0 := u8_lt x
      have hy0 := u8_lt y
      have hz0' := u8_lt z
      have HBO := Lib.hid (HB.out.below HR.out.2)
      have hbo : bb < wo.heap.size := Nat.lt_of_lt_of_le hlt HR.out.2.size
      obtain ⟨ro, hro⟩ : ∃ ro, rle (pxs l 0 a) = ro := ⟨_, rfl⟩
      have hO : OwnB wo w.heap.size _ (enc ro) := hro ▸ HR.out.1
      have hrl : ro.length ≤ 63 := by have h := rle_len (pxs l 0 a); rw [hro, pxs_len] at h; omega
      have HRO := Lib.hid hro
      have HBW := Lib.hid HR.out.2
      have hsz := HR.out.2.size
      obtain ⟨L, hL⟩ : ∃ L, (enc ro).length = L := ⟨_, rfl⟩
      have hLe : L = 4 * ro.length := by rw [← hL, enc_len]
      clear hro hx hy hz HR
      rcases list_last ro with hnil | ⟨d, q, r, hlast⟩
      · subst hnil
        obtain rfl : L = 0 := by rw [hLe]; rfl
        have HNEW := Lib.hid (show rle (pxs l 0 (a + 1)) = ([] : List (Nat × T)) ++ [(1, px l a)] by rw [pxs_snoc, rle_new (by rw [HRO.out]; intro m q d0 e; simp at e), HRO.out])
        obtain ⟨A9, c9, rfl, _⟩ := hO.lb
        have HOW := Lib.hid hO
        have hlen0 : (enc ([] : List (Nat × T))).length = 0 := rfl
        clear hO hL hLe
        simp only [hlen0] at HOW ⊢
        go_wp2_with fail
        (refine wp_region_up (by kernel_rfl) (by kernel_rfl) ?_; (repeat (go_big_quiet_step (fail))); refine wpQuiet_nil ?_; rintro _ ⟨uq, rfl⟩)
        replace HOW := Lib.hid (OwnB.below HOW.out uq.ok)
        replace HBW := Lib.hid (btrans HBW.out uq.ok)
        replace HBO := Lib.hid (Bytes.below HBO.out uq.ok)
        replace hbo := Nat.lt_of_lt_of_le hbo uq.ok.size
        generalize hwx : uq.val = wz at *
        clear hwx uq
        go_wp2_with fail
        obtain ⟨bs0, hbs0⟩ : ∃ b, enc ([] : List (Nat × T)) = b := ⟨_, rfl⟩
        rw [hbs0] at HOW
        have hbl : bs0.length = 0 := by rw [← hbs0]; rfl
        have hbl2 : bs0.length ≤ 300 := by omega
        have HEN := Lib.hid (show enc (rle (pxs l 0 (a + 1))) = bs0 ++ [0, x, y, z] by rw [HNEW.out, enc_append, hbs0, HXYZ.out]; rfl)
        clear hbs0
        have hcl : ∀ j, i + j < n → wz.cell? ⟨bb, oo + (i + j), none⟩ = some (.int .u8 ((l.getD (i + j) 0).toNat : Int)) := fun j hj => by
          obtain ⟨b', o', e, _, hc⟩ := HBO.out.at_ (by omega)
          cases e
          exact hc _ hj
        have hxyz := HXYZ.out
        simp only [px, ← hia.out, Prod.mk.injEq] at hxyz
        have c0 : wz.cell? ⟨bb, oo + i, none⟩ = some (.int .u8 (x.toNat : Int)) := by rw [← hxyz.1]; exact hcl 0 (by omega)
        have c1 : wz.cell? ⟨bb, oo + (i + 1), none⟩ = some (.int .u8 (y.toNat : Int)) := by rw [← hxyz.2.1]; exact hcl 1 (by omega)
        have c2 : wz.cell? ⟨bb, oo + (i + 2), none⟩ = some (.int .u8 (z.toNat : Int)) := by rw [← hxyz.2.2]; exact hcl 2 (by omega)
        have V0 := fun (v : Up wz) (u : Up v.val) => ((u.cell (p := ⟨bb, oo + i, none⟩) (Nat.lt_of_lt_of_le hbo v.ok.size)).trans (v.cell (p := ⟨bb, oo + i, none⟩) hbo)).trans c0
        have V1 := fun (v : Up wz) (u : Up v.val) => ((u.cell (p := ⟨bb, oo + (i + 1), none⟩) (Nat.lt_of_lt_of_le hbo v.ok.size)).trans (v.cell (p := ⟨bb, oo + (i + 1), none⟩) hbo)).trans c1
        have V2 := fun (v : Up wz) (u : Up v.val) => ((u.cell (p := ⟨bb, oo + (i + 2), none⟩) (Nat.lt_of_lt_of_le hbo v.ok.size)).trans (v.cell (p := ⟨bb, oo + (i + 2), none⟩) hbo)).trans c2
        have t1 : ((i : Int) + 1).toNat = i + 1 := by omega
        have t2 : ((i : Int) + 2).toNat = i + 2 := by omega
        have hi2 : i + 2 < n := by omega
        have hi1 : i + 1 < n := by omega
        have hi0 : i < n := by omega
        clear hcl c0 c1 c2 hxyz
        refine wp_region_late 15 [0] (by kernel_rfl) (by kernel_rfl) (fun d _ _ _ _ h => by cases d <;> exact h) ?_
        intro u0
        replace V0 := V0 u0
        replace V1 := V1 u0
        replace V2 := V2 u0
        simp only [List.take_succ_cons, List.take_zero, List.drop_succ_cons, List.drop_zero]
        repeat (go_big_quiet_step (fail))
        refine wpQuiet_nil ?_
        rintro _ ⟨uq, rfl⟩
        replace HOW := Lib.hid (OwnB.below HOW.out uq.ok)
        replace HBW := Lib.hid (btrans HBW.out uq.ok)
        generalize hwx : uq.val = wy at *
        clear hwx uq V0 V1 V2 u0
        have hszy := HBW.out.size
        go_wp2_with (at_builtin; refine Held.of ?_)
        unfold Held
        refine wpList_append_any _ rfl (.tmp 37) (.tmp 52) 22 rfl w.heap.size 5 i0 (.int .u8 0) 1 1 Try.underlying22 hi hz0 hz1 hz2 rfl (by omega) _ bs0.length (vals bs0) rfl ((show OwnB wy w.heap.size _ bs0 from HOW.out).alloc _) _ (some ⟨wy.heap.size, 0, none⟩) 4 4 (vals [0, x, y, z]) rfl (four_reads (q := 0) (by omega) wy x y z) (vals_one _) (by simp [maxLen]; omega) (by omega) (by simp; omega) ?_
        intro v1 w1 hown1 hg1 _
        have HO1 := Lib.hid (OwnB.push (l := bs0) (x := [0, x, y, z]) hown1 rfl)
        have HB1 := Lib.hid (grown_below (HOW.out.alloc _) (HBW.out.alloc (by omega) _) (Nat.le_refl _) hg1)
        clear hown1 hg1
        go_wp2_with fail
        go_roundw
        case rel => exact ⟨i + 3, a + 1, Lib.hid (by have := hia.out; omega), by omega, by go_num, by unfold RRAt; rw [HEN.out]; exact ⟨HO1.out, HB1.out⟩⟩
        case measure => simp [intOf]; omega
      · subst hlast
        have hq := last_pos HRO.out
        rw [pxs_len] at hq
        obtain ⟨r0, r1, r2⟩ := r
        have hen : enc (d ++ [(q, (r0, r1, r2))]) = enc d ++ [UInt8.ofNat (q - 1), r0, r1, r2] := by rw [enc_append]; rfl
        rw [hen] at hO hL
        obtain ⟨D, hD⟩ : ∃ D, (enc d).length = D := ⟨_, rfl⟩
        have hLD : L = D + 4 := by rw [← hL, List.length_append, hD]; rfl
        have hDb : D ≤ 252 := by rw [← hD, enc_len]; simp only [List.length_append, List.length_cons, List.length_nil] at hrl; omega
        obtain ⟨ed, hed⟩ : ∃ ed, enc d = ed := ⟨_, rfl⟩
        rw [hed] at hO hL hD hen
        obtain ⟨g9, c9, rfl, hge9, hlt9, hnc9, hcell9, hset9⟩ := OwnB.slot hO hL (by omega)
        have HOW := Lib.hid hO
        have HOB := Lib.hid (show Bytes wo (some ⟨g9, 0, none⟩) L c9 (ed ++ [UInt8.ofNat (q - 1), r0, r1, r2]) by
          obtain ⟨A8, c8, e8, h8⟩ := OwnB.lbn hO hL
          injection e8 with e1 e2 e3
          subst e1; subst e3
          exact h8.1)
        obtain rfl : L = D + 4 := hLD
        have hk1 : (((D + 4 : Nat) : Int)) - 4 = (D : Int) := by omega
        have hcD := (hcell9 D (by omega)).1
        have hfD := (hcell9 D (by omega)).2
        have hgD : (ed ++ [UInt8.ofNat (q - 1), r0, r1, r2]).getD D 0 = UInt8.ofNat (q - 1) := by rw [← hD]; simp [List.getD]
        rw [hgD, ofNat_toNat (show q - 1 < 256 by omega)] at hcD
        have e1 : ((ed ++ [UInt8.ofNat (q - 1), r0, r1, r2]).drop (D + 1)).take (D + 4 - (D + 1)) = three (r0, r1, r2) := by
          rw [← hD, show ed.length + 4 - (ed.length + 1) = 3 by omega, List.drop_append, List.drop_of_length_le (by omega)]
          simp [three]
        have e2 : (l.drop i).take (i + 3 - i) = three (px l a) := by rw [show i + 3 - i = 3 by omega, hia.out]; exact three_take (by have := HB.out.1; have := hia.out; omega)
        obtain ⟨s1, hs1⟩ : ∃ s : ByteArray, ⟨(three (r0, r1, r2)).toArray⟩ = s := ⟨_, rfl⟩
        obtain ⟨s2, hs2⟩ : ∃ s : ByteArray, ⟨(three (px l a)).toArray⟩ = s := ⟨_, rfl⟩
        have U1 : ∀ u : Up wo, (convert 22 9 (.slice (some ⟨g9, D + 1, none⟩) 3 (c9 - (D + 1)))).run Try.prog u.val = .ok (.string s1) u.val := fun u => by
          have := Bytes.str (Bytes.cut (HOB.out.below u.ok) (D + 1) (D + 4) (by omega) (by omega) g9 0 rfl)
          rw [e1, hs1, show D + 4 - (D + 1) = 3 by omega, Nat.zero_add] at this
          exact this
        have U2 : ∀ u : Up wo, (convert 22 9 (.slice (some ⟨bb, oo + i, none⟩) 3 (c - i))).run Try.prog u.val = .ok (.string s2) u.val := fun u => by
          have := Bytes.str (Bytes.cut (HBO.out.below u.ok) i (i + 3) (by omega) (by omega) bb oo rfl)
          rw [e2, hs2, show i + 3 - i = 3 by omega] at this
          exact this
        have hq2 : (s1.toList == s2.toList) = decide ((r0, r1, r2) = px l a) := by
          rw [← hs1, ← hs2]
          exact str_eq _ _
        have hc1 : ¬ c9 = D + 1 := by omega
        have hc2 : ¬ c = i := by omega
        have hs3 : D + 4 - (D + 1) = 3 := by omega
        have hs4 : i + 3 - i = 3 := by omega
        have HSET := Lib.hid hset9
        have HED := Lib.hid hed
        have HEN0 := Lib.hid hen
        have HD := Lib.hid hD
        obtain ⟨hq0, hq1⟩ := hq
        clear e1 e2 hs1 hs2 hcell9 hset9 hO hL hLe hgD hrl hed hen hD HOB
        by_cases hpx : (r0, r1, r2) = px l a
        · rw [decide_eq_true hpx] at hq2
          have HPX := Lib.hid hpx
          have HGR := Lib.hid (show rle (pxs l 0 (a + 1)) = d ++ [(q + 1, px l a)] by rw [pxs_snoc]; exact rle_grow (by rw [HRO.out, hpx]))
          clear hpx
          go_wp2_with fail
          (refine wp_region_up (by kernel_rfl) (by kernel_rfl) ?_; (repeat (go_big_quiet_step (fail))); refine wpQuiet_nil ?_; rintro _ ⟨uq, rfl⟩)
          replace HOW := Lib.hid (OwnB.below HOW.out uq.ok)
          replace HBW := Lib.hid (btrans HBW.out uq.ok)
          replace hcD := (uq.ok.cell (p := ⟨g9, D, none⟩) hlt9).trans hcD
          have hfz := (uq.ok.block g9 hlt9)
          generalize hwx : uq.val = wz at *
          clear hwx uq U1 U2 hfD
          obtain ⟨g8, c8, cs8, e8, hge8, hbk8, hc8, hm8, hs8, ht8⟩ := OwnB.blk HOW.out (by rw [List.length_append]; exact Nat.succ_pos _)
          rw [List.length_append, HD.out] at e8
          injection e8 with e81 e82 e83
          injection e81 with e84
          injection e84 with e85
          subst e85 e83
          have hfD := hbk8.frozen D
          have HBK := Lib.hid hbk8
          have hadd : (((q - 1 : Nat) : Int)) + 1 = (q : Int) := by omega
          clear hfz hbk8 e82
          go_wp2_with fail
          go_roundw
          case rel => exact ⟨i + 3, a + 1, Lib.hid (by have := hia.out; omega), by omega, by go_num, by
            have h := OwnB.store (j := D) (UInt8.ofNat q) HBK.out hge8 hc8 hm8 hs8 ht8
            rw [ofNat_toNat (show q < 256 by omega)] at h
            rw [List.length_append, HD.out] at h
            unfold RRAt
            rw [HGR.out, enc_append, ← HPX.out, HED.out]
            have hb := bump q r0 r1 r2 ed hq0 (by omega)
            rw [HD.out] at hb
            rw [hb] at h
            exact ⟨h, by (repeat' (first | refine bset ?_ (by first | omega | (simp <;> omega)) _ | refine balloc ?_ _ | refine Below.drew ?_ | refine below_drewN ?_ _ | exact HBW.out | exact Below.refl _ _))⟩⟩
          case measure => simp [intOf]; omega
        · rw [decide_eq_false hpx] at hq2
          have HNEW := Lib.hid (show rle (pxs l 0 (a + 1)) = (d ++ [(q, (r0, r1, r2))]) ++ [(1, px l a)] by
            rw [pxs_snoc, rle_new (by
              rw [HRO.out]
              intro m' q' d0 e
              have e9 := List.append_inj_right' e rfl
              simp only [List.cons.injEq, Prod.mk.injEq, and_true] at e9
              rw [← e9.2]
              exact hpx), HRO.out])
          clear hpx
          go_wp2_with fail
          (refine wp_region_up (by kernel_rfl) (by kernel_rfl) ?_; (repeat (go_big_quiet_step (fail))); refine wpQuiet_nil ?_; rintro _ ⟨uq, rfl⟩)
          replace HOW := Lib.hid (OwnB.below HOW.out uq.ok)
          replace HBW := Lib.hid (btrans HBW.out uq.ok)
          replace HBO := Lib.hid (Bytes.below HBO.out uq.ok)
          replace hbo := Nat.lt_of_lt_of_le hbo uq.ok.size
          generalize hwx : uq.val = wz at *
          clear hwx uq U1 U2 hcD hfD HSET
          go_wp2_with fail
          obtain ⟨bs0, hbs0⟩ : ∃ b, ed ++ [UInt8.ofNat (q - 1), r0, r1, r2] = b := ⟨_, rfl⟩
          rw [hbs0] at HOW
          have hbl : bs0.length = D + 4 := by rw [← hbs0, List.length_append, HD.out]; rfl
          have hbl2 : bs0.length ≤ 300 := by omega
          have HEN := Lib.hid (show enc (rle (pxs l 0 (a + 1))) = bs0 ++ [0, x, y, z] by rw [HNEW.out, enc_append, HEN0.out, hbs0, HXYZ.out]; rfl)
          clear hbs0
          have hcl : ∀ j, i + j < n → wz.cell? ⟨bb, oo + (i + j), none⟩ = some (.int .u8 ((l.getD (i + j) 0).toNat : Int)) := fun j hj => by
            obtain ⟨b', o', e, _, hc⟩ := HBO.out.at_ (by omega)
            cases e
            exact hc _ hj
          have hxyz := HXYZ.out
          simp only [px, ← hia.out, Prod.mk.injEq] at hxyz
          have c0 : wz.cell? ⟨bb, oo + i, none⟩ = some (.int .u8 (x.toNat : Int)) := by rw [← hxyz.1]; exact hcl 0 (by omega)
          have c1 : wz.cell? ⟨bb, oo + (i + 1), none⟩ = some (.int .u8 (y.toNat : Int)) := by rw [← hxyz.2.1]; exact hcl 1 (by omega)
          have c2 : wz.cell? ⟨bb, oo + (i + 2), none⟩ = some (.int .u8 (z.toNat : Int)) := by rw [← hxyz.2.2]; exact hcl 2 (by omega)
          have V0 := fun (v : Up wz) (u : Up v.val) => ((u.cell (p := ⟨bb, oo + i, none⟩) (Nat.lt_of_lt_of_le hbo v.ok.size)).trans (v.cell (p := ⟨bb, oo + i, none⟩) hbo)).trans c0
          have V1 := fun (v : Up wz) (u : Up v.val) => ((u.cell (p := ⟨bb, oo + (i + 1), none⟩) (Nat.lt_of_lt_of_le hbo v.ok.size)).trans (v.cell (p := ⟨bb, oo + (i + 1), none⟩) hbo)).trans c1
          have V2 := fun (v : Up wz) (u : Up v.val) => ((u.cell (p := ⟨bb, oo + (i + 2), none⟩) (Nat.lt_of_lt_of_le hbo v.ok.size)).trans (v.cell (p := ⟨bb, oo + (i + 2), none⟩) hbo)).trans c2
          have t1 : ((i : Int) + 1).toNat = i + 1 := by omega
          have t2 : ((i : Int) + 2).toNat = i + 2 := by omega
          have hi2 : i + 2 < n := by omega
          have hi1 : i + 1 < n := by omega
          have hi0 : i < n := by omega
          clear hcl c0 c1 c2 hxyz
          refine wp_region_late 15 [0] (by kernel_rfl) (by kernel_rfl) (fun d _ _ _ _ h => by cases d <;> exact h) ?_
          intro u0
          replace V0 := V0 u0
          replace V1 := V1 u0
          replace V2 := V2 u0
          simp only [List.take_succ_cons, List.take_zero, List.drop_succ_cons, List.drop_zero]
          repeat (go_big_quiet_step (fail))
          refine wpQuiet_nil ?_
          rintro _ ⟨uq, rfl⟩
          replace HOW := Lib.hid (OwnB.below HOW.out uq.ok)
          replace HBW := Lib.hid (btrans HBW.out uq.ok)
          generalize hwx : uq.val = wy at *
          clear hwx uq V0 V1 V2 u0
          have hszy := HBW.out.size
          go_wp2_with (at_builtin; refine Held.of ?_)
          unfold Held
          refine wpList_append_any _ rfl (.tmp 37) (.tmp 52) 22 rfl w.heap.size 5 i0 (.int .u8 0) 1 1 Try.underlying22 hi hz0 hz1 hz2 rfl (by omega) _ bs0.length (vals bs0) rfl ((show OwnB wy w.heap.size _ bs0 from HOW.out).alloc _) _ (some ⟨wy.heap.size, 0, none⟩) 4 4 (vals [0, x, y, z]) rfl (four_reads (q := 0) (by omega) wy x y z) (vals_one _) (by simp [maxLen]; omega) (by omega) (by simp; omega) ?_
          intro v1 w1 hown1 hg1 _
          have HO1 := Lib.hid (OwnB.push (l := bs0) (x := [0, x, y, z]) hown1 rfl)
          have HB1 := Lib.hid (grown_below (HOW.out.alloc _) (HBW.out.alloc (by omega) _) (Nat.le_refl _) hg1)
          clear hown1 hg1
          go_wp2_with fail
          go_roundw
          case rel => exact ⟨i + 3, a + 1, Lib.hid (by have := hia.out; omega), by omega, by go_num, by unfold RRAt; rw [HEN.out]; exact ⟨HO1.out, HB1.out⟩⟩
          case measure => simp [intOf]; omega
end Go.Proofs.Ytfmkdccpgkbnoaa.lr
