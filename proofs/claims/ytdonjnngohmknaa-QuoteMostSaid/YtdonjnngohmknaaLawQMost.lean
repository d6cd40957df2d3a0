/-
  QuoteMost: a string of as many bytes as there may be is accepted in every form, one of more is over the limit.
-/
import Derived.Test.YtdonjnngohmknaaLawQBack
namespace Go.Proofs.Ytdonjnngohmknaa.qt
set_option linter.unusedVariables false
set_option linter.unusedSimpArgs false
open Go.RowKit bs lf ch

theorem rep_cell (c : UInt8) (n : Nat) (l : List UInt8) (hl : List.replicate n c = l) (j : Nat) (h : j < l.length) : (Value.int .u8 (l[j].toNat : Int)) = .int .u8 (c.toNat : Int) := by subst hl; simp
theorem make_bytes (n : Nat) (hn : n ≤ 20000) : ∃ cs : Array Value, cs.size = n ∧ ∀ W : World, (Instr.makeSlice 31 (.int .i64 (n : Int)) (.int .i64 (n : Int))).run Try.prog W = .ok (.slice (some ⟨W.heap.size, 0, none⟩) n n) (W.alloc (.cells cs 5)) := by
  obtain ⟨i0, hi, hz0, hz1, hz2⟩ := info_parts (show (Try.prog.info? 5).map (fun i => (i.zero, i.size, i.bytes)) = some (some (.int .u8 0), 1, 1) by kernel_rfl)
  have hmk := fun W => run_make_rowN (P := Try.prog) 31 5 i0 (.int .u8 0) Try.underlying31 hi hz0 .i64 .i64 n n (Nat.le_refl _) (by rw [hz2]; omega) (by omega) W
  simp only [hz1, Nat.mul_one] at hmk
  exact ⟨_, by simp [madeCells], hmk⟩

set_option maxRecDepth 100000 in
set_option maxHeartbeats 3200000 in
theorem most_false (how : Int) (c : UInt8) (w : World) (hh : 0 ≤ how ∧ how ≤ 255) :
    Calls Try.prog 8 #[.int .u8 how, .bool false, .int .u8 (c.toNat : Int)] w fun e w' => e = .returned (.bool true) ∧ Below w.heap.size w w' := by
  have HK := Lib.hid known_any
  obtain ⟨cs0, hcs0, hmk0⟩ := make_bytes 4000 (by omega)
  have hmk : ∀ W : World, (Instr.makeSlice 31 (.int .i64 4000) (.int .i64 4000)).run Try.prog W = .ok (.slice (some ⟨W.heap.size, 0, none⟩) 4000 4000) (W.alloc (.cells cs0 5)) := hmk0
  clear hmk0
  have HCS := Lib.hid hcs0
  clear hcs0
  go_enter Try.func8, Try.ntmps8
  go_wp2_with fail
  refine (HK.out _).mono ?_
  rintro e_ w1 ⟨rfl, hb1⟩
  have HB1 := Lib.hid hb1
  clear hb1
  go_wp2_with fail
  have HK0 := Lib.hid (Blk.new w1 5 cs0)
  have HB2 := Lib.hid (balloc HB1.out (.cells cs0 5))
  have hsz1 := HB1.out.size
  clear hmk
  go_loopw [23] (fun kv wr => ∃ k : Nat, ∃ cs : Array Value, k ≤ 4000 ∧ kv = .int .i64 (k : Int) ∧ Hid (Blk wr w1.heap.size 5 cs) ∧ Hid (cs.size = 4000) ∧ Hid (∀ j, j < k → cs[j]? = some (.int .u8 (c.toNat : Int))) ∧ Hid (Below w.heap.size w wr)) (fun kv _ => 4000 - (intOf kv).toNat)
  case atStart => exact ⟨0, cs0, Nat.zero_le _, rfl, HK0, HCS, Lib.hid (fun j h => absurd h (by omega)), HB2⟩
  case round =>
    obtain ⟨k, cs, hk, rfl, HBK, HSZ, HC, HB⟩ := hrel
    obtain ⟨wo, rfl⟩ : ∃ wo, wo = wr := ⟨_, rfl⟩
    by_cases hlt : k < 4000
    · have dk : decide ((k : Int) < 4000) = true := by simp; omega
      obtain ⟨u, hu⟩ : ∃ u, wo.cell? ⟨w1.heap.size, k, none⟩ = some u := by
        rw [HBK.out.cell]
        exact ⟨cs[k]'(by rw [HSZ.out]; exact hlt), Array.getElem?_eq_getElem _⟩
      have hf := HBK.out.frozen k
      go_wp2_with fail
      go_roundw
      case rel =>
        refine ⟨k + 1, _, by omega, by go_num, Lib.hid (HBK.out.set_ k (.int .u8 (c.toNat : Int))), Lib.hid (by rw [Array.size_setIfInBounds]; exact HSZ.out), Lib.hid (fun j hj => ?_), Lib.hid (bset HB.out hsz1 _)⟩
        by_cases e : j = k
        · subst e
          rw [Array.getElem?_setIfInBounds_self_of_lt (by rw [HSZ.out]; exact hlt)]
        · rw [Array.getElem?_setIfInBounds_ne (by omega)]
          exact HC.out j (by omega)
      case measure => simp [intOf]; omega
    · obtain rfl : k = 4000 := by omega
      obtain ⟨l, hl⟩ : ∃ l, List.replicate 4000 c = l := ⟨_, rfl⟩
      have hll : l.length = 4000 := by rw [← hl, List.length_replicate]
      have hlb : LB wo (some ⟨w1.heap.size, 0, none⟩) 4000 4000 l := by
        refine ⟨Bytes.of_blk HBK.out hll (Nat.le_refl _) (fun j hj => ?_), .inr ⟨_, _, rfl, HBK.out.lt⟩⟩
        exact (HC.out j (by omega)).trans (congrArg some (rep_cell c 4000 l hl j hj).symm)
      have hcv := hlb.str
      have hcw := fun (w' : World) (hb : Below wo.heap.size wo w') => (hlb.below hb).str
      obtain ⟨B, hB⟩ : ∃ B : ByteArray, (⟨l.toArray⟩ : ByteArray) = B := ⟨_, rfl⟩
      have hBl : B.data.toList = l := by rw [← hB]
      have hBs : B.size = 4000 := by rw [← hB, ← hll]; simp [ByteArray.size]
      rw [hB] at hcv hcw
      have HCW := Lib.hid hcw
      have HF := Lib.hid (fun W => form_str B how W (by omega) hh)
      have HX := Lib.hid (And.intro hll (And.intro hBl hBs))
      clear hl hll hlb hB hBl hBs hcw
      go_wp2_with fail
      refine (HF.out _).mono ?_
      rintro e_ w2 ⟨S, rfl, hS, hSl, hb2⟩
      obtain ⟨hll, hBl, hBs⟩ := HX.out
      have hfl := form_len B.data.toList how
      rw [← hSl, hBl, hll] at hfl
      obtain ⟨s2, s3⟩ := hfl
      have ht := take_as S B.data.toList (S.size : Int) 0 (by omega) (by
        have h9 := form_back l [] how (by rw [hll]; omega)
        rw [List.append_nil] at h9
        rw [hS, hBl, h9, hSl, hBl])
      rw [str_eta] at ht
      have HT := Lib.hid ht
      clear ht
      have HB3 := Lib.hid (btrans HB.out hb2)
      have hb2' := hb2
      have HBW := Lib.hid hb2'
      clear hS hSl hb2 hb2' hll hBl hBs hcv
      go_wp2_with fail
      refine (HT.out _).mono ?_
      rintro e_ w3 ⟨rfl, hb3⟩
      have HB4 := Lib.hid (btrans HB3.out hb3)
      have hcx := HCW.out w3 (btrans HBW.out hb3)
      clear hb3
      go_wp2_with fail
      go_ret
      exact ⟨by first | rfl | simp, HB4.out⟩

set_option maxRecDepth 100000 in
set_option maxHeartbeats 3200000 in
theorem most_true (how : Int) (c : UInt8) (w : World) (hh : 0 ≤ how ∧ how ≤ 255) :
    Calls Try.prog 8 #[.int .u8 how, .bool true, .int .u8 (c.toNat : Int)] w fun e w' => e = .returned (.bool true) ∧ Below w.heap.size w w' := by
  have HK := Lib.hid known_any
  obtain ⟨cs0, hcs0, hmk0⟩ := make_bytes 4001 (by omega)
  have hmk : ∀ W : World, (Instr.makeSlice 31 (.int .i64 4001) (.int .i64 4001)).run Try.prog W = .ok (.slice (some ⟨W.heap.size, 0, none⟩) 4001 4001) (W.alloc (.cells cs0 5)) := hmk0
  clear hmk0
  have HCS := Lib.hid hcs0
  clear hcs0
  go_enter Try.func8, Try.ntmps8
  go_wp2_with fail
  refine (HK.out _).mono ?_
  rintro e_ w1 ⟨rfl, hb1⟩
  have HB1 := Lib.hid hb1
  clear hb1
  go_wp2_with fail
  have HK0 := Lib.hid (Blk.new w1 5 cs0)
  have HB2 := Lib.hid (balloc HB1.out (.cells cs0 5))
  have hsz1 := HB1.out.size
  clear hmk
  go_loopw [23] (fun kv wr => ∃ k : Nat, ∃ cs : Array Value, k ≤ 4001 ∧ kv = .int .i64 (k : Int) ∧ Hid (Blk wr w1.heap.size 5 cs) ∧ Hid (cs.size = 4001) ∧ Hid (∀ j, j < k → cs[j]? = some (.int .u8 (c.toNat : Int))) ∧ Hid (Below w.heap.size w wr)) (fun kv _ => 4001 - (intOf kv).toNat)
  case atStart => exact ⟨0, cs0, Nat.zero_le _, rfl, HK0, HCS, Lib.hid (fun j h => absurd h (by omega)), HB2⟩
  case round =>
    obtain ⟨k, cs, hk, rfl, HBK, HSZ, HC, HB⟩ := hrel
    obtain ⟨wo, rfl⟩ : ∃ wo, wo = wr := ⟨_, rfl⟩
    by_cases hlt : k < 4001
    · have dk : decide ((k : Int) < 4001) = true := by simp; omega
      obtain ⟨u, hu⟩ : ∃ u, wo.cell? ⟨w1.heap.size, k, none⟩ = some u := by
        rw [HBK.out.cell]
        exact ⟨cs[k]'(by rw [HSZ.out]; exact hlt), Array.getElem?_eq_getElem _⟩
      have hf := HBK.out.frozen k
      go_wp2_with fail
      go_roundw
      case rel =>
        refine ⟨k + 1, _, by omega, by go_num, Lib.hid (HBK.out.set_ k (.int .u8 (c.toNat : Int))), Lib.hid (by rw [Array.size_setIfInBounds]; exact HSZ.out), Lib.hid (fun j hj => ?_), Lib.hid (bset HB.out hsz1 _)⟩
        by_cases e : j = k
        · subst e
          rw [Array.getElem?_setIfInBounds_self_of_lt (by rw [HSZ.out]; exact hlt)]
        · rw [Array.getElem?_setIfInBounds_ne (by omega)]
          exact HC.out j (by omega)
      case measure => simp [intOf]; omega
    · obtain rfl : k = 4001 := by omega
      obtain ⟨l, hl⟩ : ∃ l, List.replicate 4001 c = l := ⟨_, rfl⟩
      have hll : l.length = 4001 := by rw [← hl, List.length_replicate]
      have hlb : LB wo (some ⟨w1.heap.size, 0, none⟩) 4001 4001 l := by
        refine ⟨Bytes.of_blk HBK.out hll (Nat.le_refl _) (fun j hj => ?_), .inr ⟨_, _, rfl, HBK.out.lt⟩⟩
        exact (HC.out j (by omega)).trans (congrArg some (rep_cell c 4001 l hl j hj).symm)
      have hcv := hlb.str
      have hcw := fun (w' : World) (hb : Below wo.heap.size wo w') => (hlb.below hb).str
      obtain ⟨B, hB⟩ : ∃ B : ByteArray, (⟨l.toArray⟩ : ByteArray) = B := ⟨_, rfl⟩
      have hBl : B.data.toList = l := by rw [← hB]
      have hBs : B.size = 4001 := by rw [← hB, ← hll]; simp [ByteArray.size]
      rw [hB] at hcv hcw
      have HCW := Lib.hid hcw
      have HF := Lib.hid (fun W => form_str B how W (by omega) hh)
      have HX := Lib.hid (And.intro hll (And.intro hBl hBs))
      clear hl hll hlb hB hBl hBs hcw
      go_wp2_with fail
      refine (HF.out _).mono ?_
      rintro e_ w2 ⟨S, rfl, hS, hSl, hb2⟩
      obtain ⟨hll, hBl, hBs⟩ := HX.out
      have hfl := form_len B.data.toList how
      rw [← hSl, hBl, hll] at hfl
      obtain ⟨s2, s3⟩ := hfl
      have HT := Lib.hid (take_as S [] 0 5 (by omega) (by rw [hS, hBl]; exact form_many _ _ (by rw [hll]; omega)))
      have HB3 := Lib.hid (btrans HB.out hb2)
      have hb2' := hb2
      have HBW := Lib.hid hb2'
      clear hS hSl hb2 hb2' hll hBl hBs hcv
      go_wp2_with fail
      refine (HT.out _).mono ?_
      rintro e_ w3 ⟨rfl, hb3⟩
      have HB4 := Lib.hid (btrans HB3.out hb3)
      have hcx := HCW.out w3 (btrans HBW.out hb3)
      clear hb3
      go_wp2_with fail
      go_ret
      exact ⟨by first | rfl | simp, HB4.out⟩

theorem most_law (how : Int) (more : Bool) (c : Int) (w : World) (hh : 0 ≤ how ∧ how ≤ 255) (hc : 0 ≤ c ∧ c ≤ 255) :
    Calls Try.prog 8 #[.int .u8 how, .bool more, .int .u8 c] w fun e w' => e = .returned (.bool true) ∧ Below w.heap.size w w' := by
  have e := u8_of c hc.1 hc.2
  rw [← e]
  cases more
  · exact most_false how _ w hh
  · exact most_true how _ w hh
end Go.Proofs.Ytdonjnngohmknaa.qt
