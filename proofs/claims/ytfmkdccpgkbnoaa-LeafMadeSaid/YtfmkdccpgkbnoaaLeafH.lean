/-
  Layer 39: the contracts that the laws use: bytes that lie in memory (LB), Put, Take, Same, Bytes.
-/
import Derived.Test.YtfmkdccpgkbnoaaLeafPut
import Derived.Test.YtfmkdccpgkbnoaaLeafTake
import Derived.Test.YtfmkdccpgkbnoaaLeafQ2
import Derived.Test.YtfmkdccpgkbnoaaSameP
namespace Go.Proofs.Ytfmkdccpgkbnoaa.lf
set_option linter.unusedVariables false
set_option linter.unusedSimpArgs false
open Go.RowKit bs rg

def LB (w : World) (A : Option Addr) (n c : Nat) (l : List UInt8) : Prop := Bytes w A n c l ∧ (A = none ∨ ∃ b o, A = some ⟨b, o, none⟩ ∧ b < w.heap.size)
theorem LB.below {w w' : World} {A : Option Addr} {n c : Nat} {l : List UInt8} (h : LB w A n c l) (hb : Below w.heap.size w w') : LB w' A n c l := by
  obtain ⟨h1, h2⟩ := h
  refine ⟨h1.below hb, ?_⟩
  rcases h2 with h2 | ⟨b, o, e, h2⟩
  · exact .inl h2
  · exact .inr ⟨b, o, e, Nat.lt_of_lt_of_le h2 hb.size⟩
theorem LB.len {w : World} {A : Option Addr} {n c : Nat} {l : List UInt8} (h : LB w A n c l) : l.length = n := h.1.1
theorem LB.adr {w : World} {A : Option Addr} {n c : Nat} {l : List UInt8} (h : LB w A n c l) : ∀ a : Addr, A = some a → a.block < w.heap.size := by
  rcases h.2 with h2 | ⟨b, o, e, h2⟩
  · intro a e; rw [h2] at e; cases e
  · intro a e'; rw [e] at e'; cases e'; exact h2
theorem LB.str {w : World} {A : Option Addr} {n c : Nat} {l : List UInt8} (h : LB w A n c l) : (convert 22 9 (.slice A n c)).run Try.prog w = .ok (.string ⟨l.toArray⟩) w := by
  rcases h.2 with rfl | ⟨b, o, rfl, _⟩
  · obtain ⟨h1, _, h3⟩ := h.1
    have hn : n = 0 := by
      rcases Nat.eq_zero_or_pos n with h | h
      · exact h
      · obtain ⟨_, _, e, _⟩ := h3 h; cases e
    subst hn
    have : l = [] := List.eq_nil_of_length_eq_zero h1
    subst this
    rfl
  · exact lf.Bytes.str h.1
theorem OwnB.lb {w : World} {base : Nat} {v : Value} {l : List UInt8} (h : OwnB w base v l) : ∃ A c, v = .slice A l.length c ∧ LB w A l.length c l := by
  obtain ⟨A, c, e, hb, hk⟩ := h.bytes
  refine ⟨A, c, e, hb, ?_⟩
  rcases h.2 with ⟨e0, _⟩ | ⟨g, cap, cur, e1, _⟩
  · have e' := e0.symm.trans e
    injection e' with e1 e2 e3
    exact .inl e1.symm
  · have hk2 := (hk g (by rw [e1]; rfl)).2
    have e' := e1.symm.trans e
    injection e' with e1 e2 e3
    exact .inr ⟨g, 0, e1.symm, hk2⟩
theorem LB.of_pos {w : World} {A : Option Addr} {n c : Nat} {l : List UInt8} (h : Bytes w A n c l) (hn : 0 < n) : LB w A n c l := by
  obtain ⟨b, o, e, hlt, _⟩ := h.2.2 hn
  exact ⟨h, .inr ⟨b, o, e, hlt⟩⟩
/-- a page of the laws as bytes -/
theorem Pg.lb {w : World} {A : Option Addr} {n c : Nat} {B : Nat → Int} (h : Pg w A n c B) : LB w A n c (listB n B) := by
  obtain ⟨h1, b, o, rfl, h3, h4⟩ := h
  exact ⟨⟨listB_len n B, h1, fun _ => ⟨b, o, rfl, h3, fun j hj => by
    have hj' : j < n := by rw [listB_len] at hj; exact hj
    rw [(h4 j hj').1, listB_get n B j hj (h4 j hj').2]⟩⟩, .inr ⟨b, o, rfl, h3⟩⟩
theorem LB.pg {w : World} {A : Option Addr} {n c : Nat} {l : List UInt8} (h : LB w A n c l) (hn : 0 < n) : Pg w A n c (fun j => ((l.getD j 0).toNat : Int)) := by
  obtain ⟨b, o, e, hlt, hc⟩ := h.1.at_ hn
  exact ⟨h.1.2.1, b, o, e, hlt, fun j hj => ⟨hc j hj, by have := (l.getD j 0).toNat_lt; show 0 ≤ ((l.getD j 0).toNat : Int) ∧ ((l.getD j 0).toNat : Int) ≤ 255; omega⟩⟩

theorem three_mul (W H : Nat) : 3 * (W * H) = 3 * W * H := (Nat.mul_assoc 3 W H).symm
theorem putL_len_le {W H : Nat} (hW : 1 ≤ W ∧ W ≤ 64) (hH : 1 ≤ H ∧ H ≤ 64) {l : List UInt8} (hl : l.length = 3 * (W * H)) : (putL W H l).length ≤ 12356 := by
  have h := encs_len W l 0 H (by rw [Nat.zero_add, hl, three_mul]; exact Nat.le_refl _)
  have h2 : H * (1 + 3 * W) ≤ 64 * 193 := Nat.mul_le_mul hH.2 (by omega)
  unfold putL headL
  simp only [List.length_append, List.length_cons, List.length_nil]
  omega
theorem putL_len_ge {W H : Nat} (hW : 1 ≤ W ∧ W ≤ 64) (hH : 1 ≤ H ∧ H ≤ 64) {l : List UInt8} (hl : l.length = 3 * (W * H)) : 8 ≤ (putL W H l).length := by
  have h := encs_ge hW.1 l H 0 (by rw [Nat.zero_add, hl, three_mul]; exact Nat.le_refl _)
  have h2 : 1 * min 6 (1 + 3 * W) ≤ H * min 6 (1 + 3 * W) := Nat.mul_le_mul_right _ hH.1
  unfold putL headL
  simp only [List.length_append, List.length_cons, List.length_nil]
  omega
theorem lput_any (W H n c : Nat) (A : Option Addr) (l : List UInt8) (w : World) (hW : 1 ≤ W ∧ W ≤ 64) (hH : 1 ≤ H ∧ H ≤ 64) (hn : n = 3 * (W * H)) (hb : LB w A n c l) :
    Calls Try.prog 13 #[.agg #[.int .i64 (W : Int), .int .i64 (H : Int), .slice A n c]] w fun e w' => ∃ D m f, e = .returned (.tuple #[.slice D m f, .int .i64 0]) ∧ LB w' D m f (putL W H l) ∧ (8 ≤ m ∧ m ≤ 12356) ∧ Below w.heap.size w w' := by
  refine (lf.put_any W H n c A l w hW hH hn hb.1).mono ?_
  rintro e w' ⟨v, rfl, ho, hbw⟩
  have hl : l.length = 3 * (W * H) := by rw [hb.len, hn]
  have a := putL_len_le hW hH hl
  have b := putL_len_ge hW hH hl
  obtain ⟨D, f, rfl, hlb⟩ := ho.lb
  exact ⟨D, _, f, rfl, hlb, ⟨b, a⟩, hbw⟩
theorem ltake_ok (A : Option Addr) (n c : Nat) (l : List UInt8) (w : World) (hn : n ≤ 12356) (hb : LB w A n c l) (W H : Nat) (pix : List UInt8) (q : Nat) (ht : takeB l = (W, H, pix, ([], 0))) (hq : pix.length = q) :
    Calls Try.prog 15 #[.slice A n c] w fun e w' => ∃ D f, e = .returned (.tuple #[.agg #[.int .i64 (W : Int), .int .i64 (H : Int), .slice D q f], .int .i64 0]) ∧ LB w' D q f pix ∧ Below w.heap.size w w' := by
  subst hq
  refine (take_page A n c l w hn hb.1 hb.adr W H pix _ ht).mono ?_
  rintro e w' (⟨_, v, rfl, ho, hbw⟩ | ⟨h, _⟩)
  · obtain ⟨D, f, rfl, hlb⟩ := ho.lb
    exact ⟨D, f, rfl, hlb, hbw⟩
  · exact absurd rfl h
theorem ltake_bad (A : Option Addr) (n c : Nat) (l : List UInt8) (w : World) (hn : n ≤ 12356) (hb : LB w A n c l) (er : Int) (he : er ≠ 0) (ht : (takeB l).2.2.2.2 = er) :
    Calls Try.prog 15 #[.slice A n c] w fun e w' => e = .returned (.tuple #[.agg #[.int .i64 0, .int .i64 0, .slice none 0 0], .int .i64 er]) ∧ Below w.heap.size w w' := by
  obtain ⟨W, H, pix, sf, h⟩ : ∃ W H pix sf, takeB l = (W, H, pix, sf) := ⟨_, _, _, _, rfl⟩
  rw [h] at ht
  refine (take_page A n c l w hn hb.1 hb.adr W H pix _ h).mono ?_
  rintro e w' (⟨h0, _⟩ | ⟨_, rfl, hbw⟩)
  · exact absurd (ht.symm.trans h0) he
  · exact ⟨by rw [← ht], hbw⟩

set_option maxRecDepth 100000 in
set_option maxHeartbeats 1600000 in
theorem hbytes_any (A D : Option Addr) (n c m d : Nat) (l k : List UInt8) (w : World) (ha : LB w A n c l) (hd : LB w D m d k) :
    Calls Try.prog 17 #[.slice A n c, .slice D m d] w fun e w' => e = .returned (.bool (decide (l = k))) ∧ Below w.heap.size w w' := by
  have S1 := ha.str
  have S2 := hd.str
  obtain ⟨s, hs⟩ : ∃ s : ByteArray, ⟨l.toArray⟩ = s := ⟨_, rfl⟩
  obtain ⟨t, ht⟩ : ∃ s : ByteArray, ⟨k.toArray⟩ = s := ⟨_, rfl⟩
  have E := bytes_eq l k
  rw [hs] at S1 E
  rw [ht] at S2 E
  clear hs ht ha hd
  go_enter Try.func17, Try.ntmps17
  go_wp2_with fail
  go_ret
  exact ⟨by first | rfl | simp, by (repeat' (first | exact Below.refl _ _ | exact Below.refl _ _ | refine balloc ?_ _ | refine Below.drew ?_ | refine below_drewN ?_ _ | refine bset ?_ (by first | omega | (simp <;> omega)) _))⟩

set_option maxRecDepth 100000 in
set_option maxHeartbeats 1600000 in
theorem lsame_eq (W H : Int) (A D : Option Addr) (n c m d : Nat) (l k : List UInt8) (w : World) (ha : LB w A n c l) (hd : LB w D m d k) :
    Calls Try.prog 22 #[.agg #[.int .i64 W, .int .i64 H, .slice A n c], .agg #[.int .i64 W, .int .i64 H, .slice D m d]] w fun e w' => e = .returned (.bool (decide (l = k))) ∧ Below w.heap.size w w' := by
  have S1 := (ha.below (w' := (w.alloc (.cells #[.int .i64 W, .int .i64 H, .slice A n c] 24)).alloc (.cells #[.int .i64 W, .int .i64 H, .slice D m d] 24)) (by (repeat' (first | exact Below.refl _ _ | exact Below.refl _ _ | refine balloc ?_ _ | refine Below.drew ?_ | refine below_drewN ?_ _ | refine bset ?_ (by first | omega | (simp <;> omega)) _)))).str
  have S2 := (hd.below (w' := (w.alloc (.cells #[.int .i64 W, .int .i64 H, .slice A n c] 24)).alloc (.cells #[.int .i64 W, .int .i64 H, .slice D m d] 24)) (by (repeat' (first | exact Below.refl _ _ | exact Below.refl _ _ | refine balloc ?_ _ | refine Below.drew ?_ | refine below_drewN ?_ _ | refine bset ?_ (by first | omega | (simp <;> omega)) _)))).str
  obtain ⟨s, hs⟩ : ∃ s : ByteArray, ⟨l.toArray⟩ = s := ⟨_, rfl⟩
  obtain ⟨t, ht⟩ : ∃ s : ByteArray, ⟨k.toArray⟩ = s := ⟨_, rfl⟩
  have E := bytes_eq l k
  rw [hs] at S1 E
  rw [ht] at S2 E
  clear hs ht ha hd
  go_enter Try.func22, Try.ntmps22
  go_wp2_with fail
  go_ret
  exact ⟨by first | rfl | simp, by (repeat' (first | exact Below.refl _ _ | exact Below.refl _ _ | refine balloc ?_ _ | refine Below.drew ?_ | refine below_drewN ?_ _ | refine bset ?_ (by first | omega | (simp <;> omega)) _))⟩
set_option maxRecDepth 100000 in
set_option maxHeartbeats 1600000 in
theorem lsame_ne (W H V G : Int) (A D : Option Addr) (n c m d : Nat) (w : World) (h : ¬ (W = V ∧ H = G)) :
    Calls Try.prog 22 #[.agg #[.int .i64 W, .int .i64 H, .slice A n c], .agg #[.int .i64 V, .int .i64 G, .slice D m d]] w fun e w' => e = .returned (.bool false) ∧ Below w.heap.size w w' := by
  by_cases h1 : W = V
  · subst h1
    have h2 : ¬ H = G := fun e => h ⟨rfl, e⟩
    have h3 : (H == G) = false := by simpa using h2
    clear h
    go_enter Try.func22, Try.ntmps22
    go_wp2_with fail
    go_ret
    exact ⟨by first | rfl | simp, by (repeat' (first | exact Below.refl _ _ | exact Below.refl _ _ | refine balloc ?_ _ | refine Below.drew ?_ | refine below_drewN ?_ _ | refine bset ?_ (by first | omega | (simp <;> omega)) _))⟩
  · have h3 : (W == V) = false := by simpa using h1
    clear h
    go_enter Try.func22, Try.ntmps22
    go_wp2_with fail
    go_ret
    exact ⟨by first | rfl | simp, by (repeat' (first | exact Below.refl _ _ | exact Below.refl _ _ | refine balloc ?_ _ | refine Below.drew ?_ | refine below_drewN ?_ _ | refine bset ?_ (by first | omega | (simp <;> omega)) _))⟩
end Go.Proofs.Ytfmkdccpgkbnoaa.lf
