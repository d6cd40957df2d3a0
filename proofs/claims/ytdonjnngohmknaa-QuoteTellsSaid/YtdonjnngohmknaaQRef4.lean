/-
  Layer 7, the reference: group, eighty.
-/
import Derived.Test.YtdonjnngohmknaaQRef3
namespace Go.Proofs.Ytdonjnngohmknaa.qt
set_option linter.unusedVariables false
set_option linter.unusedSimpArgs false
open Go.RowKit bs lf ch

/-! ### slices of numbers that a call makes itself -/
def numV (l : List UInt8) : List Value := l.map fun c => .int .i64 ((c.toNat : Int) - 33)
theorem numV_len (l : List UInt8) : (numV l).length = l.length := by simp [numV]
theorem numV_append (a b : List UInt8) : numV (a ++ b) = numV a ++ numV b := by simp [numV]
theorem numV_one (l : List UInt8) : ∀ u ∈ numV l, u.oneCell' = true := by
  intro u hu
  simp only [numV, List.mem_map] at hu
  obtain ⟨x, _, rfl⟩ := hu
  rfl
def OwnG (w : World) (base : Nat) (v : Value) (l : List UInt8) : Prop := w.ownsRow base 3 1 v l.length (numV l)
theorem OwnG.none_ (w : World) (base : Nat) : OwnG w base (.slice none 0 0) [] := World.ownsRow_nil _ _ _ _
theorem OwnG.below {w w' : World} {base : Nat} {v : Value} {l : List UInt8} (h : OwnG w base v l) (hb : Below w.heap.size w w') : OwnG w' base v l := by
  refine ⟨h.1, ?_⟩
  rcases h.2 with h0 | ⟨g, cap, cur, e, h1, hg, h2⟩
  · exact .inl h0
  · exact .inr ⟨g, cap, cur, e, h1, (hb.block g (Array.getElem?_eq_some_iff.1 hg).1).trans hg, h2⟩
theorem OwnG.ge {w : World} {base : Nat} {v : Value} {l : List UInt8} (h : OwnG w base v l) : ∀ k, v.ownBlock = some k → base ≤ k ∧ k < w.heap.size := World.ownsRow.lt h
theorem OwnG.push {w1 : World} {base : Nat} {v1 : Value} {l x : List UInt8} (hown : w1.ownsRow base 3 1 v1 (l.length + x.length) (numV l ++ numV x)) : OwnG w1 base v1 (l ++ x) := by
  unfold OwnG
  rw [numV_append, List.length_append]
  exact hown
/-- its form, and its cells -/
theorem OwnG.form {w : World} {base : Nat} {v : Value} {l : List UInt8} (h : OwnG w base v l) : ∃ A c, v = .slice A l.length c ∧ l.length ≤ c ∧ (l.length = 0 → A = none ∨ True) ∧ (0 < l.length → ∃ b, A = some ⟨b, 0, none⟩ ∧ ∀ j, j < l.length → w.cell? ⟨b, j, none⟩ = some (.int .i64 (((l.getD j 0).toNat : Int) - 33))) := by
  rcases id h.2 with ⟨rfl, h0⟩ | ⟨g, cap, cur, rfl, hb, hg, hc, hm, hs, ht⟩
  · have : l = [] := List.eq_nil_of_length_eq_zero h0
    subst this
    exact ⟨none, 0, rfl, Nat.le_refl _, fun _ => .inl rfl, fun h => absurd h (by simp)⟩
  · refine ⟨_, _, rfl, hc, fun _ => .inr trivial, fun _ => ⟨g, rfl, fun j hj => ?_⟩⟩
    have := World.ownsRow.cells h (g := g) rfl j (.int .i64 (((l.getD j 0).toNat : Int) - 33)) (by simp [numV, List.getElem?_map, List.getElem?_eq_getElem hj, List.getD])
    rw [Go.WideShapes.add_plain, Nat.zero_add] at this
    exact this
theorem num_reads (w : World) (x : Int) (c : UInt8) (hx : x = (c.toNat : Int) - 33) : Reads (w.alloc (.cells #[.int .i64 x] 3)) (w.heap.size + 1) 1 (some ⟨w.heap.size, 0, none⟩) 1 (numV [c]) := by
  refine ⟨rfl, fun _ => ⟨_, rfl, Nat.lt_succ_self _, fun j u hu => ?_⟩⟩
  rw [Go.WideShapes.add_plain, (Blk.new w _ _).cell, Nat.zero_add, hx]
  simpa [numV] using hu

def slLen : Value → Nat
  | .slice _ k _ => k
  | _ => 0
/-- what group leaves: n bytes of the number v -/
def GPost (T : Nat) (b : List UInt8) (v n : Nat) (w : World) (e : Ending) (w' : World) : Prop := e = .returned (.tuple #[]) ∧ Below T w w' ∧ ((v < 4294967296 ∧ RK w' T (b ++ (bytes4 v).take n) 0) ∨ (4294967296 ≤ v ∧ RK w' T b 3))
theorem by0 (v : Nat) (h : v < 4294967296) : (v : Int) / 16777216 = ((UInt8.ofNat (v / 16777216)).toNat : Int) := by rw [nat_of_ofNat]; omega
theorem by1 (v : Nat) : (v : Int) / 65536 % 256 = ((UInt8.ofNat (v / 65536)).toNat : Int) := by rw [nat_of_ofNat]; omega
theorem by2 (v : Nat) : (v : Int) / 256 % 256 = ((UInt8.ofNat (v / 256)).toNat : Int) := by rw [nat_of_ofNat]; omega
theorem by3 (v : Nat) : (v : Int) % 256 = ((UInt8.ofNat v).toNat : Int) := by rw [nat_of_ofNat]; omega

set_option maxRecDepth 100000 in
set_option maxHeartbeats 3200000 in
theorem rgroup_any (T : Nat) (b g : List UInt8) (A : Option Addr) (m c n : Nat) (w0 w : World) (hm : g.length = m) (h1 : 1 ≤ m) (h5 : m ≤ 5) (hn1 : 1 ≤ n) (hn4 : n ≤ 4) (ht : RK w0 T b 0) (hb0 : Below w0.heap.size w0 w) (ho : OwnG w w0.heap.size (.slice A m c) g) (hd : ∀ j, j < g.length → 33 ≤ ((g.getD j 0).toNat : Int)) (hbl : b.length + 4 < 4000) :
    Calls Try.prog 40 #[.pointer (some ⟨T, 0, none⟩), .slice A m c, .int .i64 (n : Int)] w (GPost T b (number (fill g)) n w) := by
  have hT := ht.lt
  have hsz := hb0.size
  have HD := Lib.hid (number_fill_digits hd)
  have HN := Lib.hid hm
  have HT := Lib.hid ht
  have HB := Lib.hid hb0
  have HO := Lib.hid ho
  have HPUT := Lib.hid (fun b x c W h hb hx => rput_any T b x c W h hb hx)
  obtain ⟨i0, hi, hz0, hz1, hz2⟩ := info_parts (show (Try.prog.info? 3).map (fun i => (i.zero, i.size, i.bytes)) = some (some (.int .i64 0), 1, 8) by kernel_rfl)
  clear ho hd ht hb0
  clear hm
  go_enter Try.func40, Try.ntmps40
  go_wp2_with fail
  go_loopw [1] (fun gv wr => ∃ A c, ∃ q : Nat, m + q ≤ 5 ∧ gv = .slice A (m + q) c ∧ Hid (OwnG wr w0.heap.size (.slice A (m + q) c) (g ++ List.replicate q 117)) ∧ Hid (Below w0.heap.size w0 wr) ∧ Hid (Below w0.heap.size w wr)) (fun gv _ => 5 - slLen gv)
  case atStart => exact ⟨A, c, 0, by omega, rfl, Lib.hid (by simpa using HO.out), HB, Lib.hid (Below.refl _ _)⟩
  case round =>
    obtain ⟨A, c, q, hm, rfl, HO, HB, HB2⟩ := hrel
    obtain ⟨wo, rfl⟩ : ∃ wo, wo = wr := ⟨_, rfl⟩
    have hsw := HB.out.size
    have hgl : (g ++ List.replicate q 117).length = m + q := by rw [List.length_append, List.length_replicate, HN.out]
    by_cases hlt : m + q < 5
    · have d2 : decide ((m : Int) + (q : Int) < 5) = true := by simp; omega
      have HGL := Lib.hid hgl
      clear hgl
      go_wp2_with (at_builtin; refine HeldQ.of ?_)
      unfold HeldQ
      refine wpList_append_any _ rfl (.tmp 12) (.tmp 13) 63 rfl w0.heap.size 3 i0 (.int .i64 0) 1 8 Try.underlying63 hi hz0 hz1 hz2 rfl (by omega) (.slice A (m + q) c) (g ++ List.replicate q (117 : UInt8)).length (numV (g ++ List.replicate q (117 : UInt8))) rfl (HO.out.below (balloc (Below.refl _ _) _)) _ (some ⟨wo.heap.size, 0, none⟩) 1 1 (numV [117]) rfl (num_reads _ _ 117 rfl) (numV_one _) (by simp [maxLen, HN.out]; omega) (by simp [HN.out]; omega) (by simp; omega) ?_
      intro v' w1 hown' hg _
      have ho1 : OwnG w1 w0.heap.size v' (g ++ List.replicate q 117 ++ [117]) := OwnG.push hown'
      have hbl1 : Below w0.heap.size wo w1 := ((Below.refl w0.heap.size wo).alloc hsw _).grown hg (by simp; omega) (fun k e => (HO.out.ge k e).1)
      obtain ⟨A2, c2, rfl, hc2, _, _⟩ := ho1.form
      have hlen : (g ++ List.replicate q 117 ++ [117]).length = m + (q + 1) := by rw [List.length_append, HGL.out]; rfl
      have hrep : g ++ List.replicate q 117 ++ [117] = g ++ List.replicate (q + 1) 117 := by rw [List.append_assoc]; congr 1; exact (List.replicate_succ' (n := q) (a := (117 : UInt8))).symm
      rw [hlen, hrep] at ho1
      have HO1 := Lib.hid ho1
      have HB1 := Lib.hid (HB.out.trans hbl1)
      have HB3 := Lib.hid (HB2.out.trans hbl1)
      rw [hlen]
      clear ho1 hbl1 hc2 hlen hrep hown' hg
      go_wp2_with fail
      go_roundw
      case rel => exact ⟨A2, c2, q + 1, by omega, rfl, HO1, HB1, HB3⟩
      case measure => show 5 - (m + (q + 1)) < 5 - (m + q); omega
    · have hm5 : 5 ≤ m + q := by omega
      have d2 : decide ((m : Int) + (q : Int) < 5) = false := by simp; omega
      obtain ⟨A3, c3, hl3, hlc, _, hcell⟩ := HO.out.form
      rw [hgl] at hl3 hlc hcell
      injection hl3 with e1 e2 e3
      subst e1 e3
      obtain ⟨bb, rfl, hcel2⟩ := hcell (by omega)
      clear hcell
      have hm9 : 5 - g.length = q := by rw [HN.out]; omega
      have HF := Lib.hid (show g ++ List.replicate q 117 = fill g by unfold fill; rw [hm9])
      have hgl5 : (fill g).length = 5 := by rw [← HF.out, hgl]; omega
      have hdig := HD.out q
      have hglen : g.length + q = 5 := by rw [HN.out]; omega
      rw [HF.out] at hcel2 hdig
      rw [hglen] at hdig
      have HTW := Lib.hid (HT.out.below HB.out)
      have HBT := Lib.hid (HB2.out.mono (show T ≤ w0.heap.size by omega))
      have hnb := number_bound (fill g) (by rw [hgl5]; omega)
      have HG5 := Lib.hid hgl5
      have HCELL := Lib.hid hcel2
      have HDIG := Lib.hid hdig
      clear e2 hgl hm9 hgl5 hglen hcel2 hdig
      go_wp2_with fail
      go_loop [6, 7] (fun vv kv => ∃ k x : Nat, k ≤ 5 ∧ kv = .int .i64 (k : Int) ∧ vv = .int .i64 (x : Int) ∧ Hid (x = number ((fill g).take k))) (fun _ kv => 5 - (intOf kv).toNat)
      case atStart => exact ⟨0, 0, Nat.zero_le _, rfl, rfl, rfl⟩
      case round =>
        obtain ⟨k, x, hk, rfl, rfl, hx⟩ := hrel
        have hxb : (x : Int) ≤ 12000000000 := by
          have h1 := number_bound ((fill g).take k) (by simp; omega)
          rw [← hx.out] at h1
          omega
        by_cases hlt2 : k < 5
        · have hc0 := HCELL.out k (by omega)
          have hl0 := HDIG.out k (by omega)
          have hu0 : ((((fill g).getD k 0).toNat : Nat) : Int) ≤ 255 := by have := ((fill g).getD k 0).toNat_lt; omega
          have HTT := Lib.hid (number_snoc ((fill g).take k) ((fill g).getD k 0))
          have HS := Lib.hid (take_snocL (g := fill g) (k := k) (by have := HG5.out; omega))
          obtain ⟨d, hd⟩ : ∃ d, ((fill g).getD k 0).toNat = d := ⟨_, rfl⟩
          rw [hd] at hc0 hl0 hu0 HTT
          have hk0 : (0 : Int) ≤ (k : Int) := by omega
          have hk1 : (k : Int) < (m : Int) + (q : Int) := by omega
          clear hd
          go_wp2_with fail
          go_round
          case rel =>
            refine ⟨k + 1, 85 * x + (d - 33), by omega, by go_num, ?_, ?_⟩
            · go_num
            · show 85 * x + (d - 33) = number ((fill g).take (k + 1))
              rw [HS.out, HTT.out, hx.out]
          case measure => simp [intOf]; omega
        · obtain rfl : k = 5 := by omega
          have hxv : x = number (fill g) := by rw [hx.out, List.take_of_length_le (by have := HG5.out; omega)]
          have HXV := Lib.hid hxv
          clear hxv
          by_cases hok : 4294967295 < x
          · have d4 : decide ((4294967295 : Int) < (x : Int)) = true := by simp; omega
            have f1 := HTW.out.free1
            have q1 := HTW.out.cell1
            have HOK := Lib.hid hok
            clear hok
            go_wp2_with fail
            go_end0
            exact ⟨rfl, HBT.out.setCell (p := ⟨T, 1, none⟩) (Nat.le_refl T) _, .inr ⟨by rw [← HXV.out]; have := HOK.out; omega, HTW.out.seterr 3⟩⟩
          · have d4 : decide ((4294967295 : Int) < (x : Int)) = false := by simp; omega
            have hx4 : (x : Int) ≤ 4294967295 := by omega
            have HOK := Lib.hid (show x < 4294967296 by omega)
            clear hok
            rcases (show n = 1 ∨ n = 2 ∨ n = 3 ∨ n = 4 by omega) with rfl | rfl | rfl | rfl
            · go_wp2_with fail
              refine wp_loop_rounds 2 ?_
              rw [rounds_succ]
              go_wp2_with fail
              refine (HPUT.out (b) _ (UInt8.ofNat (x / 16777216)) _ HTW.out (by first | omega | (simp; omega)) (by0 x HOK.out)).mono ?_
              rintro e_ w5 ⟨rfl, hr1, hb1⟩
              have HR5 := Lib.hid hr1
              have HBB5 := Lib.hid (HBT.out.trans hb1)
              clear hr1 hb1
              go_wp2_with fail
              rw [rounds_succ]
              go_wp2_with fail
              go_end0
              exact ⟨rfl, HBB5.out, .inl ⟨by rw [← HXV.out]; exact HOK.out, by rw [← HXV.out]; have h := HR5.out; first | exact h | (simp only [List.append_assoc] at h; exact h)⟩⟩
            · go_wp2_with fail
              refine wp_loop_rounds 3 ?_
              rw [rounds_succ]
              go_wp2_with fail
              refine (HPUT.out (b) _ (UInt8.ofNat (x / 16777216)) _ HTW.out (by first | omega | (simp; omega)) (by0 x HOK.out)).mono ?_
              rintro e_ w5 ⟨rfl, hr1, hb1⟩
              have HR5 := Lib.hid hr1
              have HBB5 := Lib.hid (HBT.out.trans hb1)
              clear hr1 hb1
              go_wp2_with fail
              rw [rounds_succ]
              go_wp2_with fail
              refine (HPUT.out (b ++ [UInt8.ofNat (x / 16777216)]) _ (UInt8.ofNat (x / 65536)) _ HR5.out (by first | omega | (simp; omega)) (by1 x)).mono ?_
              rintro e_ w6 ⟨rfl, hr1, hb1⟩
              have HR6 := Lib.hid hr1
              have HBB6 := Lib.hid (HBB5.out.trans hb1)
              clear hr1 hb1
              go_wp2_with fail
              rw [rounds_succ]
              go_wp2_with fail
              go_end0
              exact ⟨rfl, HBB6.out, .inl ⟨by rw [← HXV.out]; exact HOK.out, by rw [← HXV.out]; have h := HR6.out; first | exact h | (simp only [List.append_assoc] at h; exact h)⟩⟩
            · go_wp2_with fail
              refine wp_loop_rounds 4 ?_
              rw [rounds_succ]
              go_wp2_with fail
              refine (HPUT.out (b) _ (UInt8.ofNat (x / 16777216)) _ HTW.out (by first | omega | (simp; omega)) (by0 x HOK.out)).mono ?_
              rintro e_ w5 ⟨rfl, hr1, hb1⟩
              have HR5 := Lib.hid hr1
              have HBB5 := Lib.hid (HBT.out.trans hb1)
              clear hr1 hb1
              go_wp2_with fail
              rw [rounds_succ]
              go_wp2_with fail
              refine (HPUT.out (b ++ [UInt8.ofNat (x / 16777216)]) _ (UInt8.ofNat (x / 65536)) _ HR5.out (by first | omega | (simp; omega)) (by1 x)).mono ?_
              rintro e_ w6 ⟨rfl, hr1, hb1⟩
              have HR6 := Lib.hid hr1
              have HBB6 := Lib.hid (HBB5.out.trans hb1)
              clear hr1 hb1
              go_wp2_with fail
              rw [rounds_succ]
              go_wp2_with fail
              refine (HPUT.out (b ++ [UInt8.ofNat (x / 16777216)] ++ [UInt8.ofNat (x / 65536)]) _ (UInt8.ofNat (x / 256)) _ HR6.out (by first | omega | (simp; omega)) (by2 x)).mono ?_
              rintro e_ w7 ⟨rfl, hr1, hb1⟩
              have HR7 := Lib.hid hr1
              have HBB7 := Lib.hid (HBB6.out.trans hb1)
              clear hr1 hb1
              go_wp2_with fail
              rw [rounds_succ]
              go_wp2_with fail
              go_end0
              exact ⟨rfl, HBB7.out, .inl ⟨by rw [← HXV.out]; exact HOK.out, by rw [← HXV.out]; have h := HR7.out; first | exact h | (simp only [List.append_assoc] at h; exact h)⟩⟩
            · go_wp2_with fail
              refine wp_loop_rounds 5 ?_
              rw [rounds_succ]
              go_wp2_with fail
              refine (HPUT.out (b) _ (UInt8.ofNat (x / 16777216)) _ HTW.out (by first | omega | (simp; omega)) (by0 x HOK.out)).mono ?_
              rintro e_ w5 ⟨rfl, hr1, hb1⟩
              have HR5 := Lib.hid hr1
              have HBB5 := Lib.hid (HBT.out.trans hb1)
              clear hr1 hb1
              go_wp2_with fail
              rw [rounds_succ]
              go_wp2_with fail
              refine (HPUT.out (b ++ [UInt8.ofNat (x / 16777216)]) _ (UInt8.ofNat (x / 65536)) _ HR5.out (by first | omega | (simp; omega)) (by1 x)).mono ?_
              rintro e_ w6 ⟨rfl, hr1, hb1⟩
              have HR6 := Lib.hid hr1
              have HBB6 := Lib.hid (HBB5.out.trans hb1)
              clear hr1 hb1
              go_wp2_with fail
              rw [rounds_succ]
              go_wp2_with fail
              refine (HPUT.out (b ++ [UInt8.ofNat (x / 16777216)] ++ [UInt8.ofNat (x / 65536)]) _ (UInt8.ofNat (x / 256)) _ HR6.out (by first | omega | (simp; omega)) (by2 x)).mono ?_
              rintro e_ w7 ⟨rfl, hr1, hb1⟩
              have HR7 := Lib.hid hr1
              have HBB7 := Lib.hid (HBB6.out.trans hb1)
              clear hr1 hb1
              go_wp2_with fail
              rw [rounds_succ]
              go_wp2_with fail
              refine (HPUT.out (b ++ [UInt8.ofNat (x / 16777216)] ++ [UInt8.ofNat (x / 65536)] ++ [UInt8.ofNat (x / 256)]) _ (UInt8.ofNat x) _ HR7.out (by first | omega | (simp; omega)) (by3 x)).mono ?_
              rintro e_ w8 ⟨rfl, hr1, hb1⟩
              have HR8 := Lib.hid hr1
              have HBB8 := Lib.hid (HBB7.out.trans hb1)
              clear hr1 hb1
              go_wp2_with fail
              rw [rounds_succ]
              go_wp2_with fail
              go_end0
              exact ⟨rfl, HBB8.out, .inl ⟨by rw [← HXV.out]; exact HOK.out, by rw [← HXV.out]; have h := HR8.out; first | exact h | (simp only [List.append_assoc] at h; exact h)⟩⟩
end Go.Proofs.Ytdonjnngohmknaa.qt
