/-
  Layer 7: contracts of quote's small functions: put, name, number, bad, add.
-/
import Derived.Test.YtdonjnngohmknaaQOwn
import Derived.Test.YtdonjnngohmknaaQPlain
namespace Go.Proofs.Ytdonjnngohmknaa.qt
set_option linter.unusedVariables false
set_option linter.unusedSimpArgs false
open Go.RowKit bs lf ch

theorem u8e (c d : UInt8) : c = d ↔ (c.toNat : Int) = (d.toNat : Int) := by
  constructor
  · rintro rfl; rfl
  · intro e
    exact UInt8.toNat_inj.1 (by omega)

theorem put_any (base : Nat) (v : Value) (l : List UInt8) (A : Option Addr) (m c : Nat) (k : List UInt8) (w : World) (hown : OwnB w base v l) (hk : LB w A m c k) (hbase : base ≤ w.heap.size) (hn : l.length + m ≤ 20000) :
    Calls Try.prog 27 #[v, .slice A m c] w fun e w' => ∃ v', e = .returned v' ∧ OwnB w' base v' (l ++ k) ∧ Below base w w' := by
  obtain ⟨i0, hi, hz0, hz1, hz2⟩ := info_parts (show (Try.prog.info? 5).map (fun i => (i.zero, i.size, i.bytes)) = some (some (.int .u8 0), 1, 1) by kernel_rfl)
  have hlen := hk.len
  go_enter Try.func27, Try.ntmps27
  go_wp2_with (at_builtin; refine wpList_append_any _ rfl (.tmp 5) (.tmp 6) 31 rfl base 5 i0 (.int .u8 0) 1 1 Try.underlying31 hi hz0 hz1 hz2 rfl (by omega) v l.length (vals l) rfl hown _ A m c (vals k) rfl (lf.Bytes.reads hk.1) (vals_one _) (by simp [maxLen]; omega) (by omega) hbase ?_; intro v' w' hown' hg _)
  go_ret
  exact ⟨v', rfl, OwnB.push hown' hlen.symm, (Below.refl _ _).grown hg hbase (fun q e => (hown.ge q e).1)⟩

theorem short_nat (c : UInt8) : ((short c).toNat : Int) = if (c.toNat : Int) = 8 then 98 else if (c.toNat : Int) = 9 then 116 else if (c.toNat : Int) = 10 then 110 else if (c.toNat : Int) = 12 then 102 else if (c.toNat : Int) = 13 then 114 else 0 := by
  unfold short
  have e8 : c = 8 ↔ (c.toNat : Int) = 8 := u8e c 8
  have e9 : c = 9 ↔ (c.toNat : Int) = 9 := u8e c 9
  have e10 : c = 10 ↔ (c.toNat : Int) = 10 := u8e c 10
  have e12 : c = 12 ↔ (c.toNat : Int) = 12 := u8e c 12
  have e13 : c = 13 ↔ (c.toNat : Int) = 13 := u8e c 13
  by_cases h8 : c = 8
  · rw [if_pos h8, if_pos (e8.1 h8)]; rfl
  rw [if_neg h8, if_neg (fun e => h8 (e8.2 e))]
  by_cases h9 : c = 9
  · rw [if_pos h9, if_pos (e9.1 h9)]; rfl
  rw [if_neg h9, if_neg (fun e => h9 (e9.2 e))]
  by_cases h10 : c = 10
  · rw [if_pos h10, if_pos (e10.1 h10)]; rfl
  rw [if_neg h10, if_neg (fun e => h10 (e10.2 e))]
  by_cases h12 : c = 12
  · rw [if_pos h12, if_pos (e12.1 h12)]; rfl
  rw [if_neg h12, if_neg (fun e => h12 (e12.2 e))]
  by_cases h13 : c = 13
  · rw [if_pos h13, if_pos (e13.1 h13)]; rfl
  rw [if_neg h13, if_neg (fun e => h13 (e13.2 e))]; rfl
def hasShort (c : UInt8) : Bool := decide (short c ≠ 0)
theorem hasShort_nat (c : UInt8) : hasShort c = decide (((short c).toNat : Int) ≠ 0) := by
  unfold hasShort
  rw [Bool.eq_iff_iff]
  simp only [decide_eq_true_eq]
  have e : short c = 0 ↔ ((short c).toNat : Int) = 0 := u8e (short c) 0
  exact ⟨fun h h2 => h (e.2 h2), fun h h2 => h (e.1 h2)⟩
theorem ret_pair {k : IntKind} {a b : Int} {p q : Bool} (h : a = b) (h2 : p = q) : Ending.returned (.tuple #[.int k a, .bool p]) = .returned (.tuple #[.int k b, .bool q]) := by rw [h, h2]

set_option maxHeartbeats 1000000 in
theorem name_any (c : UInt8) (w : World) :
    Calls Try.prog 28 #[.int .u8 (c.toNat : Int)] w fun e w' => e = .returned (.tuple #[.int .u8 ((short c).toNat : Int), .bool (hasShort c)]) ∧ w = w' := by
  have hs := short_nat c
  have hb := hasShort_nat c
  have HS := Lib.hid hs
  have HB := Lib.hid hb
  clear hs hb
  obtain ⟨n, hn⟩ : ∃ n : Int, (c.toNat : Int) = n := ⟨_, rfl⟩
  rw [hn] at HS
  rw [hn]
  clear hn
  go_enter Try.func28, Try.ntmps28
  go_wp2
  all_goals go_ret2
  all_goals refine ⟨ret_pair ?_ ?_, rfl⟩
  all_goals first | rw [HS.out] | rw [HB.out, HS.out]
  all_goals simp only [beq_iff_eq, beq_eq_false_iff_ne] at *
  all_goals simp_all

/-- the number of digits to 85, as it is reckoned -/
theorem number_snoc (g : List UInt8) (c : UInt8) : number (g ++ [c]) = 85 * number g + (c.toNat - 33) := by simp [number, List.foldl_append]
theorem number_bound (g : List UInt8) (h : g.length ≤ 5) : number g ≤ 223 * (1 + 85 + 7225 + 614125 + 52200625) := by
  match g, h with
  | [], _ => decide
  | [a], _ => have := a.toNat_lt; simp [number]; omega
  | [a, b], _ => have := a.toNat_lt; have := b.toNat_lt; simp [number]; omega
  | [a, b, c], _ => have := a.toNat_lt; have := b.toNat_lt; have := c.toNat_lt; simp [number]; omega
  | [a, b, c, d], _ => have := a.toNat_lt; have := b.toNat_lt; have := c.toNat_lt; have := d.toNat_lt; simp [number]; omega
  | [a, b, c, d, e], _ => have := a.toNat_lt; have := b.toNat_lt; have := c.toNat_lt; have := d.toNat_lt; have := e.toNat_lt; simp [number]; omega
theorem take_snocL {g : List UInt8} {k : Nat} (h : k < g.length) : g.take (k + 1) = g.take k ++ [g.getD k 0] := by
  rw [List.take_succ_eq_append_getElem h]; simp [List.getD, List.getElem?_eq_getElem h]

set_option maxHeartbeats 1000000 in
theorem number_any (A : Option Addr) (n c : Nat) (g : List UInt8) (w : World) (hg : LB w A n c g) (hn : 0 < n) (h5 : n ≤ 5) (hd : ∀ j, j < n → 33 ≤ ((g.getD j 0).toNat : Int)) :
    Calls Try.prog 36 #[.slice A n c] w fun e w' => e = .returned (.tuple #[.int .i64 (number g : Nat), .bool (decide (number g < 4294967296))]) ∧ w = w' := by
  have hlen := hg.len
  obtain ⟨b, o, rfl, hlt, hcell⟩ := hg.1.at_ hn
  have HD := Lib.hid hd
  have HC := Lib.hid hcell
  have hnc := hg.1.2.1
  have HL := Lib.hid hlen
  have hub : ∀ j, ((g.getD j 0).toNat : Int) ≤ 255 := fun j => by have := (g.getD j 0).toNat_lt; omega
  have HU := Lib.hid hub
  clear hg hcell hd hlen hub
  go_enter Try.func36, Try.ntmps36
  go_wp2
  go_loop [4, 9] (fun v i => ∃ k : Nat, k ≤ n ∧ i = .int .i64 (k : Int) ∧ ∃ x : Nat, v = .int .i64 (x : Int) ∧ Hid (x = number (g.take k))) (fun _ i => n - (intOf i).toNat)
  case atStart => exact ⟨0, Nat.zero_le _, rfl, 0, rfl, rfl⟩
  case round =>
    obtain ⟨k, hk, rfl, x, rfl, hx⟩ := hrel
    have hxb : (x : Int) ≤ 12000000000 := by
      have h1 := number_bound (g.take k) (by simp; omega)
      rw [← hx.out] at h1
      omega
    by_cases hlt2 : k < n
    · have hc0 := HC.out k hlt2
      have hl0 := HD.out k hlt2
      have hu0 := HU.out k
      have HT := Lib.hid (number_snoc (g.take k) (g.getD k 0))
      have HS := Lib.hid (take_snocL (g := g) (k := k) (by have := HL.out; omega))
      obtain ⟨d, hd⟩ : ∃ d, (g.getD k 0).toNat = d := ⟨_, rfl⟩
      rw [hd] at hc0 hl0 hu0 HT
      have HDD := Lib.hid hd
      clear hd
      go_wp2
      go_round
      case rel =>
        refine ⟨k + 1, by omega, by go_num, 85 * x + (d - 33), ?_, ?_⟩
        · go_num
        · show 85 * x + (d - 33) = number (g.take (k + 1))
          rw [HS.out, HT.out, hx.out]
      case measure => simp [intOf]; omega
    · obtain rfl : k = n := by omega
      go_wp2
      go_ret2
      have e : x = number g := by rw [hx.out, List.take_of_length_le (by have := HL.out; omega)]
      refine ⟨?_, rfl⟩
      rw [← e]
      simp
      omega

/-- what was taken so far: the bytes b and the error e, in block T -/
def TK (w : World) (T : Nat) (b : List UInt8) (e : Int) : Prop := ∃ A c, Blk w T 42 #[.slice A b.length c, .int .i64 e] ∧ OwnB w (T + 1) (.slice A b.length c) b
theorem TK.lt {w : World} {T : Nat} {b : List UInt8} {e : Int} (h : TK w T b e) : T < w.heap.size := by obtain ⟨_, _, h, _⟩ := h; exact h.lt
theorem TK.below {w w' : World} {T : Nat} {b : List UInt8} {e : Int} (h : TK w T b e) (hb : Below w.heap.size w w') : TK w' T b e := by
  obtain ⟨A, c, h1, h2⟩ := h
  exact ⟨A, c, h1.below hb h1.lt, h2.below hb⟩
theorem own_setFar {w : World} {base : Nat} {v : Value} {l : List UInt8} {p : Addr} (h : OwnB w base v l) (hp : p.block < base) (u : Value) : OwnB (w.setCell p u) base v l :=
  h.grown (g := p.block) (only_setCell (only_of_below (Below.refl _ _) _) (.inl rfl) _) hp
theorem below_setT {w : World} {T : Nat} (p : Addr) (hp : T ≤ p.block) (u : Value) : Below T w (w.setCell p u) := (Below.refl _ _).setCell hp u

set_option maxHeartbeats 1000000 in
theorem bad_any (T : Nat) (b : List UInt8) (e x : Int) (w : World) (h : TK w T b e) :
    Calls Try.prog 31 #[.pointer (some ⟨T, 0, none⟩), .int .i64 x] w fun en w' => en = .returned (.int .i64 0) ∧ TK w' T b x ∧ Below T w w' := by
  obtain ⟨A, c, hb, ho⟩ := h
  have k1 := hb.cell 1
  have f1 := hb.frozen 1
  simp only [List.getElem?_toArray, List.getElem?_cons_succ, List.getElem?_cons_zero] at k1
  have HB := Lib.hid hb
  have HO := Lib.hid ho
  clear hb ho
  go_enter Try.func31, Try.ntmps31
  go_wp2
  go_ret
  exact ⟨rfl, ⟨A, c, HB.out.set_ 1 _, own_setFar HO.out (by simp) _⟩, below_setT ⟨T, 1, none⟩ (Nat.le_refl T) _⟩

set_option maxHeartbeats 1000000 in
theorem add_no (T : Nat) (b : List UInt8) (e : Int) (A : Option Addr) (m c : Nat) (k : List UInt8) (w : World) (h : TK w T b e) (hk : LB w A m c k) (hb0 : b.length ≤ 20000) (hm0 : m ≤ 20000) (hn : 4000 < b.length + m) :
    Calls Try.prog 33 #[.pointer (some ⟨T, 0, none⟩), .slice A m c] w fun en w' => en = .returned (.bool false) ∧ TK w' T b 5 ∧ Below T w w' := by
  obtain ⟨B, d, hb, ho⟩ := h
  have k0 := hb.cell 0
  have k1 := hb.cell 1
  have f1 := hb.frozen 1
  simp only [List.getElem?_toArray, List.getElem?_cons_succ, List.getElem?_cons_zero] at k0 k1
  have HB := Lib.hid hb
  have HO := Lib.hid ho
  have HK := Lib.hid hk
  clear hb ho hk
  have d1 : decide ((4000 : Int) < (b.length : Int) + (m : Int)) = true := by simp; omega
  go_enter Try.func33, Try.ntmps33
  go_wp2
  go_ret
  exact ⟨rfl, ⟨B, d, HB.out.set_ 1 _, own_setFar HO.out (by simp) _⟩, below_setT ⟨T, 1, none⟩ (Nat.le_refl T) _⟩

set_option maxHeartbeats 1000000 in
theorem add_yes (T : Nat) (b : List UInt8) (e : Int) (A : Option Addr) (m c : Nat) (k : List UInt8) (w : World) (h : TK w T b e) (hk : LB w A m c k) (hn : b.length + m ≤ 4000) :
    Calls Try.prog 33 #[.pointer (some ⟨T, 0, none⟩), .slice A m c] w fun en w' => en = .returned (.bool true) ∧ TK w' T (b ++ k) e ∧ Below T w w' := by
  have hT := h.lt
  obtain ⟨B, d, hb, ho⟩ := h
  have k0 := hb.cell 0
  simp only [List.getElem?_toArray, List.getElem?_cons_succ, List.getElem?_cons_zero] at k0
  have HB := Lib.hid hb
  have HO := Lib.hid ho
  have HK := Lib.hid hk
  clear hb ho hk
  have d1 : decide ((4000 : Int) < (b.length : Int) + (m : Int)) = false := by simp; omega
  go_enter Try.func33, Try.ntmps33
  go_wp2_with fail
  refine (put_any (T + 1) _ b A m c k _ HO.out HK.out hT (by omega)).mono ?_
  rintro e_ w1 ⟨v', rfl, ho1, hbl⟩
  have hB1 := HB.out.below hbl (Nat.lt_succ_self _)
  have q0 := hB1.cell 0
  have q1 := hB1.frozen 0
  simp only [List.getElem?_toArray, List.getElem?_cons_succ, List.getElem?_cons_zero] at q0
  obtain ⟨A2, c2, rfl, hl2⟩ := ho1.lb
  have HB1 := Lib.hid hB1
  have HO1 := Lib.hid ho1
  have HBL := Lib.hid hbl
  clear hB1 ho1 hbl hl2 k0
  go_wp2_with fail
  go_ret
  exact ⟨rfl, ⟨A2, c2, by rw [List.length_append]; exact HB1.out.set_ 0 _, by rw [List.length_append]; exact own_setFar (by have := HO1.out; rwa [List.length_append] at this) (by simp) _⟩, (HBL.out.mono (Nat.le_succ T)).setCell (p := ⟨T, 0, none⟩) (Nat.le_refl T) _⟩
end Go.Proofs.Ytdonjnngohmknaa.qt
