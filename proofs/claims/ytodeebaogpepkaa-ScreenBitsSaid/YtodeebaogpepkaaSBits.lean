/-
  screen.Bits of a page given as a function. (PRUNE)
-/
import Derived.Test.YtodeebaogpepkaaSameP
import Derived.Test.YtodeebaogpepkaaBitsYes
namespace Go.Proofs.Ytodeebaogpepkaa.rg
set_option linter.unusedVariables false
set_option linter.unusedSimpArgs false
open Go.RowKit bs sp ik

/-- a page's bits -/
def bitF (W : Nat) (B : Nat → Int) (k : Nat) : Int := if sc.tone (sc.grey (B (3 * k)) (B (3 * k + 1)) (B (3 * k + 2))) ((k : Int) % W) ((k : Int) / W) = true then 1 else 0
theorem bitF_two (W : Nat) (B : Nat → Int) (k : Nat) : bitF W B k = 0 ∨ bitF W B k = 1 := by
  unfold bitF
  split
  · right; rfl
  · left; rfl
theorem Pg.bytes {w : World} {A : Option Addr} {n c : Nat} {B : Nat → Int} (h : Pg w A n c B) : Bytes w A n c (listB n B) := by
  obtain ⟨h1, b, o, e, hlt, hc⟩ := h
  refine ⟨listB_len n B, h1, fun hn => ⟨b, o, e, hlt, fun j hj => ?_⟩⟩
  have hj' : j < n := by rw [listB_len] at hj; exact hj
  rw [(hc j hj').1, listB_get n B j hj (hc j hj').2]
theorem listB_getD (n : Nat) (B : Nat → Int) (j : Nat) (h : j < n) (hb : 0 ≤ B j ∧ B j ≤ 255) : (((listB n B).getD j 0).toNat : Int) = B j := by
  have hl : j < (listB n B).length := by rw [listB_len]; exact h
  rw [List.getD_eq_getElem?_getD, List.getElem?_eq_getElem hl]
  exact listB_get n B j hl hb
theorem sbits_any (W H n c q : Nat) (A : Option Addr) (B : Nat → Int) (w : World) (hW : 1 ≤ W ∧ W ≤ 64) (hH : 1 ≤ H ∧ H ≤ 64) (hn : n = 3 * (W * H)) (hq : W * H = q) (hp : Pg w A n c B) :
    Calls Try.prog 16 #[.agg #[.int .i64 (W : Int), .int .i64 (H : Int), .slice A n c]] w fun e w' => ∃ g, e = .returned (.tuple #[.agg #[.int .i64 (W : Int), .int .i64 (H : Int), .slice (some ⟨g, 0, none⟩) q q], .int .i64 0]) ∧ Pg w' (some ⟨g, 0, none⟩) q q (bitF W B) ∧ Below w.heap.size w w' := by
  have hs := page_size hW hH
  have hm := pmay_yes hW hH
  rw [← hn] at hm
  obtain ⟨_, b, o, ea, hlt, _⟩ := id hp
  refine (sc.bits_yes W H A n c q (listB n B) w (by omega) hW hH hq hm hp.bytes (fun a ha => by rw [ea] at ha; cases ha; exact hlt)).mono ?_
  rintro e w' ⟨g, he, hb, hbw⟩
  refine ⟨g, he, ?_, hbw⟩
  obtain ⟨h1, h2, h3⟩ := hb
  obtain ⟨b', o', e', hlt', hc⟩ := h3 (by omega)
  cases e'
  refine ⟨h2, _, _, rfl, hlt', fun j hj => ?_⟩
  have hl : j < (sc.bitsL W (listB n B) q).length := by rw [sc.bitsL_len]; exact hj
  have h4 := hc j hl
  have e1 := listB_getD n B (3 * j) (by omega) (hp.bd _ (by omega))
  have e2 := listB_getD n B (3 * j + 1) (by omega) (hp.bd _ (by omega))
  have e3 := listB_getD n B (3 * j + 2) (by omega) (hp.bd _ (by omega))
  have e4 : (((sc.bitsL W (listB n B) q)[j]).toNat : Int) = bitF W B j := by
    simp only [sc.bitsL, List.getElem_map, List.getElem_range, sc.bitOf, bitF, e1, e2, e3]
    split <;> rfl
  rw [e4] at h4
  have h5 := bitF_two W B j
  exact ⟨h4, by omega, by omega⟩
end Go.Proofs.Ytodeebaogpepkaa.rg
