/-
  Lemmas for ImageTiles: Part, UpChain2, Prod, Parts, MulDiv, Bits, NearI, May, Eq, Mul, MulY, MulA, Pts, Exact, Unit.
-/
import Derived.Laws.BitsLemmas
import Derived.Laws.Bits64
import Derived.BigQuiet
import Derived.Laws.BitsAllLaws
import Derived.WalkKit
import Derived.Test.YtegpjjkbbdfggaaImagePartsM5

/-
  Layer 37's law ImageTiles: part: the columns of an image of eight bits.
-/
namespace Go.Proofs.Ytegpjjkbbdfggaa.im
set_option linter.unusedVariables false
set_option linter.unusedSimpArgs false
open Go.RowKit bs op rg mt

/-- the bytes of k rows -/
def partA (s : ByteArray) (W f t : Nat) : Nat → ByteArray
  | 0 => ⟨#[]⟩
  | k + 1 => partA s W f t k ++ s.extract (W * k + f) (W * k + t)
theorem ba_get (s : ByteArray) (i : Nat) : s[i]? = s.data[i]? := by
  by_cases h : i < s.size
  · rw [ByteArray.getElem?_lt' s i h, Array.getElem?_eq_getElem (by exact h)]
    rfl
  · have h2 : s.data[i]? = none := Array.getElem?_eq_none (by exact Nat.le_of_not_lt h)
    rw [h2]
    exact dif_neg h
theorem partA_size (s : ByteArray) (W f t : Nat) (hft : f ≤ t) (htW : t ≤ W) (k : Nat) : ∀ _ : W * k ≤ s.size, (partA s W f t k).size = k * (t - f) := by
  induction k with
  | zero => intro _; simp [partA]; rfl
  | succ k ih =>
    intro h
    rw [Nat.mul_succ] at h
    have h1 := ih (by omega)
    rw [partA, ByteArray.size_append, h1, ByteArray.size_extract, Nat.succ_mul]
    omega
theorem partA_get (s : ByteArray) (W f t : Nat) (hft : f ≤ t) (htW : t ≤ W) (x : Nat) (hx : x < t - f) (k : Nat) : ∀ _ : W * k ≤ s.size, ∀ y, y < k → (partA s W f t k)[y * (t - f) + x]? = s[W * y + f + x]? := by
  induction k with
  | zero => intro _ y hy; omega
  | succ k ih =>
    intro h y hy
    rw [Nat.mul_succ] at h
    have hsz := partA_size s W f t hft htW k (by omega)
    rw [partA]
    by_cases hyk : y < k
    · have h1 := ih (by omega) y hyk
      have h2 : y * (t - f) + x < (partA s W f t k).size := by
        rw [hsz]
        have := Nat.mul_le_mul_right (t - f) (show y + 1 ≤ k by omega)
        rw [Nat.succ_mul] at this
        omega
      rw [← h1, ba_get, ba_get, ByteArray.data_append, Array.getElem?_append_left (by exact h2)]
    · obtain rfl : y = k := by omega
      rw [ba_get, ba_get, ByteArray.data_append, Array.getElem?_append_right (by show (partA s W f t y).size ≤ _; rw [hsz]; omega), ByteArray.data_extract, Array.getElem?_extract]
      rw [show (partA s W f t y).data.size = y * (t - f) from hsz, if_pos (by show _ < min (W * y + t) s.size - _; omega)]
      congr 1
      omega

/-- the loop's world behind k rows -/
def PtRel (w : World) (W H f t : Nat) (n : Int) (s : ByteArray) (k : Nat) (wr : World) : Prop :=
  Blk wr w.heap.size 23 #[.int .i64 (W : Int), .int .i64 (H : Int), .int .i64 8, .string s] ∧ Blk wr (w.heap.size + 1) 23 #[.int .i64 0, .int .i64 0, .int .i64 0, .string ⟨#[]⟩] ∧ Blk wr (w.heap.size + 1 + 1) 23 #[.int .i64 n, .int .i64 (H : Int), .int .i64 8, .string (partA s W f t k)] ∧ Below w.heap.size w wr
theorem PtRel.step {w : World} {W H f t : Nat} {n : Int} {s : ByteArray} {k : Nat} {wr wq : World} (h : PtRel w W H f t n s k wr) (hb : Below wr.heap.size wr wq) {x : ByteArray} (hx : partA s W f t k ++ s.extract (W * k + f) (W * k + t) = x) : PtRel w W H f t n s (k + 1) (wq.setCell ⟨w.heap.size + 1 + 1, 3, none⟩ (.string x)) := by
  obtain ⟨h1, h2, h3, h4⟩ := h
  subst hx
  exact ⟨(h1.below hb h1.lt).far (by first | (simp; done) | (simp; omega)) _, (h2.below hb h2.lt).far (by simp) _, (h3.below hb h3.lt).set_ 3 _, bset (btrans h4 hb) (by first | (simp; done) | (simp; omega)) _⟩

set_option maxRecDepth 100000 in
set_option maxHeartbeats 1600000 in
theorem part_any (W H f t : Nat) (n : Int) (s : ByteArray) (w : World) (hW : W ≤ 9) (hH : H ≤ 9) (hft : f ≤ t) (htW : t ≤ W) (hs : s.size = H * W) (hn : (t : Int) - (f : Int) = n) :
    Calls Try.prog 32 #[.agg #[.int .i64 (W : Int), .int .i64 (H : Int), .int .i64 8, .string s], .int .i64 (f : Int), .int .i64 (t : Int)] w fun e w' => e = .returned (.agg #[.int .i64 n, .int .i64 (H : Int), .int .i64 8, .string (partA s W f t H)]) ∧ Below w.heap.size w w' := by
  have K1 := ((Blk.new w 23 #[.int .i64 (W : Int), .int .i64 (H : Int), .int .i64 8, .string s]).alloc (.cells #[.int .i64 0, .int .i64 0, .int .i64 0, .string ⟨#[]⟩] 23)).alloc (.cells #[.int .i64 n, .int .i64 (H : Int), .int .i64 8, .string (partA s W f t 0)] 23)
  have K2 := (Blk.new (w.alloc (.cells #[.int .i64 (W : Int), .int .i64 (H : Int), .int .i64 8, .string s] 23)) 23 #[.int .i64 0, .int .i64 0, .int .i64 0, .string ⟨#[]⟩]).alloc (.cells #[.int .i64 n, .int .i64 (H : Int), .int .i64 8, .string (partA s W f t 0)] 23)
  have K3 := Blk.new ((w.alloc (.cells #[.int .i64 (W : Int), .int .i64 (H : Int), .int .i64 8, .string s] 23)).alloc (.cells #[.int .i64 0, .int .i64 0, .int .i64 0, .string ⟨#[]⟩] 23)) 23 #[.int .i64 n, .int .i64 (H : Int), .int .i64 8, .string (partA s W f t 0)]
  have s1 : ∀ (u : World) (o : Obj), (u.alloc o).heap.size = u.heap.size + 1 := fun u o => by simp
  simp only [s1] at K2 K3
  have HR : Hid (PtRel w W H f t n s 0 (((w.alloc (.cells #[.int .i64 (W : Int), .int .i64 (H : Int), .int .i64 8, .string s] 23)).alloc (.cells #[.int .i64 0, .int .i64 0, .int .i64 0, .string ⟨#[]⟩] 23)).alloc (.cells #[.int .i64 n, .int .i64 (H : Int), .int .i64 8, .string (partA s W f t 0)] 23))) := Lib.hid ⟨K1, K2, K3, balloc (balloc (balloc (Below.refl _ _) _) _) _⟩
  clear K1 K2 K3
  have hn1 : -9 ≤ n ∧ n ≤ 9 := by omega
  obtain ⟨hn10, hn11⟩ := hn1
  have HS := Lib.hid hs
  clear s1 hs
  go_enter Try.func32, Try.ntmps32
  go_wp2_with fail
  go_loopw [8] (fun kv wr => ∃ k : Nat, k ≤ H ∧ kv = .int .i64 (k : Int) ∧ PtRel w W H f t n s k wr) (fun kv _ => H - (intOf kv).toNat)
  case atStart => exact ⟨0, by omega, rfl, HR.out⟩
  case round =>
    clear HR
    obtain ⟨k, hk, rfl, hE⟩ := hrel
    have HE := Lib.hid hE
    obtain ⟨K1, K2, K3, hbw⟩ := hE
    have a0 := K1.cell 0
    have a1 := K1.cell 1
    have a3 := K1.cell 3
    have p0 := K3.cell 0
    have p1 := K3.cell 1
    have p2 := K3.cell 2
    have p3 := K3.cell 3
    have q3 := K3.frozen 3
    have l1 := K1.lt
    have l3 := K3.lt
    simp only [List.getElem?_toArray, List.getElem?_cons_succ, List.getElem?_cons_zero] at a0 a1 a3 p0 p1 p2 p3
    by_cases hkl : k < H
    · have d1 : decide ((k : Int) < (H : Int)) = true := by simp; omega
      obtain ⟨m, hm⟩ : ∃ m, W * k = m := ⟨_, rfl⟩
      have hm1 : m + W ≤ s.size := by
        rw [HS.out, ← hm, Nat.mul_comm H W]
        have := Nat.mul_le_mul_left W (show k + 1 ≤ H by omega)
        rw [Nat.mul_succ] at this
        exact this
      have hm2 : m ≤ 81 := by rw [← hm]; exact Nat.mul_le_mul hW (show k ≤ 9 by omega)
      have hmi : (W : Int) * (k : Int) = (m : Int) := by rw [← hm]; push_cast; rfl
      obtain ⟨z, hz⟩ : ∃ z, partA s W f t k = z := ⟨_, rfl⟩
      obtain ⟨y, hy⟩ : ∃ y, s.extract (m + f) (m + t) = y := ⟨_, rfl⟩
      obtain ⟨x, hx⟩ : ∃ x, z ++ y = x := ⟨_, rfl⟩
      have hzs : z.size ≤ 81 := by
        rw [← hz, partA_size s W f t hft htW k (by omega)]
        exact Nat.mul_le_mul (show k ≤ 9 by omega) (show t - f ≤ 9 by omega)
      have hys : y.size ≤ 9 := by rw [← hy, ByteArray.size_extract]; omega
      have hzy : ¬ (9223372036854775807 < (z.size : Int) + (y.size : Int)) := by omega
      rw [hz] at p3
      have HX := Lib.hid (fun wq (hb : Below wr.heap.size wr wq) => PtRel.step (x := x) HE.out hb (by rw [hm, hz, hy]; exact hx))
      have U0 : ∀ u : Up wr, u.val.cell? ⟨w.heap.size, 0, none⟩ = some (.int .i64 (W : Int)) := fun u => (u.cell l1).trans a0
      have U3 : ∀ u : Up wr, u.val.cell? ⟨w.heap.size, 3, none⟩ = some (.string s) := fun u => (u.cell l1).trans a3
      have V3 : ∀ u : Up wr, u.val.cell? ⟨w.heap.size + 1 + 1, 3, none⟩ = some (.string z) := fun u => (u.cell l3).trans p3
      have e1 : ((m : Int) + (f : Int)).toNat = m + f := by omega
      have e2 : ((m : Int) + (t : Int)).toNat = m + t := by omega
      have b1 : 0 ≤ (m : Int) + (f : Int) := by omega
      have b2 : (m : Int) + (f : Int) ≤ (m : Int) + (t : Int) := by omega
      have b3 : (m : Int) + (t : Int) ≤ (s.size : Int) := by omega
      have HK3 := Lib.hid K3
      clear hm HE K1 K2 K3 hbw hz hzs hys
      go_wp2_with fail
      (refine wp_region_up_tail 19 (by kernel_rfl) (by kernel_rfl) ?_; simp only [List.take_succ_cons, List.take_zero, List.drop_succ_cons, List.drop_zero]; (repeat (go_big_quiet_step (fail))); refine wpQuiet_nil ?_; rintro _ ⟨uq, rfl⟩)
      have q3' := (HK3.out.below uq.ok l3).frozen 3
      have v3' := (uq.cell l3).trans p3
      have l3' := Nat.lt_of_lt_of_le l3 uq.ok.size
      have HN := Lib.hid (HX.out uq.val uq.ok)
      generalize hwx : uq.val = wq at *
      clear hwx uq U0 U3 V3 HX HK3
      go_wp2_with fail
      go_roundw
      case rel => exact ⟨k + 1, by omega, by go_num, HN.out⟩
      case measure => simp [intOf]; omega
    · obtain rfl : k = H := by omega
      have d1 : decide ((k : Int) < (k : Int)) = false := by simp
      have HBW := Lib.hid hbw
      have HK2 := Lib.hid K2
      have z0 := K2.cell 0
      have z1 := K2.cell 1
      have z2 := K2.cell 2
      have z3 := K2.cell 3
      have y0 := K2.frozen 0
      have y1 := K2.frozen 1
      have y2 := K2.frozen 2
      have y3 := K2.frozen 3
      have l2 := K2.lt
      simp only [List.getElem?_toArray, List.getElem?_cons_succ, List.getElem?_cons_zero] at z0 z1 z2 z3
      clear hbw K1 K2 K3 HE
      go_wp2_with fail
      have K := (((HK2.out.set_ 0 (.int .i64 n)).set_ 1 (.int .i64 (k : Int))).set_ 2 (.int .i64 8)).set_ 3 (.string (partA s W f t k))
      refine ret_struct1 (g := w.heap.size + 1) (t := 23) (cs := #[.int .i64 n, .int .i64 (k : Int), .int .i64 8, .string (partA s W f t k)]) rfl rfl ?_ Try.underlying23 rfl rfl rfl ?_
      · exact K
      · exact ⟨rfl, by (repeat' (first | refine bset ?_ (by first | omega | (simp <;> omega)) _ | refine balloc ?_ _ | refine Below.drew ?_ | refine below_drewN ?_ _ | exact HBW.out | exact Below.refl _ _))⟩
end Go.Proofs.Ytegpjjkbbdfggaa.im

/-
  As base/XUpChain, with quiet operations behind the chain of calls (moves and extracts of the last call's value), some of which may come behind the first of the forced end ('late').
-/
namespace Go.Proofs.Ytegpjjkbbdfggaa.bs
set_option linter.unusedVariables false
set_option linter.unusedSimpArgs false
open Go.RowKit

section
variable {P : Program} {ops : Array Oper} {md : Region.Mode}

/-- a chain of calls, then quiet operations -/
def chainQ (P : Program) (ops : Array Oper) (Lq : Act → World → Prop) (qs : List Nat) : List Nat → Act → World → Prop
  | [], a, w => ∀ w', Below w.heap.size w w' → ∀ u0 : Up w', wpQuiet P ops (upC u0.val) (fun a' => chainW P ops Lq [] a' w') (qs.filterMap fun i => ops[i]?) a
  | i :: cs, a, w => ∀ w', Below w.heap.size w w' → stepV P ops i (chainQ P ops Lq qs cs) a w'
theorem chainQ.up {Lq : Act → World → Prop} {qs cs : List Nat} {a : Act} {w w' : World} (h : chainQ P ops Lq qs cs a w) (hb : Below w.heap.size w w') : chainQ P ops Lq qs cs a w' := by
  cases cs with
  | nil => exact fun w'' h2 => h w'' (btrans hb h2)
  | cons i cs => exact fun w'' h2 => h w'' (btrans hb h2)
def lexQ (md : Region.Mode) (ops : Array Oper) (n m g : Nat) (qs : List Nat) : List Nat → Array Bool → Bool
  | [], listed => lexW md ops n m g [] qs listed
  | i :: cs, listed => (Region.ready md ops listed).contains i && decide (i < n) && (Region.ready md ops listed).all (fun j => j == i || (decide (n ≤ j) && decide (j < n + m))) && lexQ md ops n m g qs cs (listed.setIfInBounds i true)
def lexP (md : Region.Mode) (ops : Array Oper) (n m g : Nat) (qs cs : List Nat) : List Nat → Array Bool → Bool
  | [], listed => lexQ md ops n m g qs cs listed
  | i :: ps, listed => (Region.ready md ops listed).contains i && decide (i < n) && Region.free md ops listed i && lexP md ops n m g qs cs ps (listed.setIfInBounds i true)
theorem head_chainQ {n m g : Nat} {Lq : Act → World → Prop} (hsel : Region.noSelect ops = true) (hs : sinkA md ops n m = true) (hc : chainA md ops n m = true) (hn : n + m < ops.size) (qs cs : List Nat) :
    ∀ (listed : Array Bool) (a : Act) (w : World), HeadInv md ops n listed → lexQ md ops n m g qs cs listed = true → chainQ P ops Lq qs cs a w →
    anyHeadW P md ops n m (fun listed' a' w' => endB md ops n m g listed' = true ∧ Lq a' w') (cs.length + qs.length) listed a w := by
  induction cs with
  | nil =>
    intro listed a w inv hB h
    have := head_quietW (P := P) (g := g) (Lq := Lq) hsel hs hc hn [] qs listed a w inv hB (fun u0 => h w (Below.refl _ _) u0)
    simpa using this
  | cons i cs ih =>
    intro listed a w inv hB h
    simp only [lexQ, Bool.and_eq_true, decide_eq_true_eq] at hB
    obtain ⟨⟨⟨hr, hin⟩, hall⟩, hB'⟩ := hB
    have hr' : i ∈ Region.ready md ops listed := by simpa using hr
    rw [show (i :: cs).length + qs.length = (cs.length + qs.length) + 1 by simp; omega]
    refine ⟨⟨i, hr', hin⟩, fun w' hb j hj => ?_⟩
    have h1 := List.all_eq_true.1 hall j hj
    simp only [Bool.or_eq_true, Bool.and_eq_true, beq_iff_eq, decide_eq_true_eq] at h1
    rcases h1 with rfl | h1
    · exact .inr ⟨hin, .inr (stepV_mono (h w' hb) fun a' w'' h2 => ih _ a' w'' (inv.set hr' hin) hB' h2)⟩
    · exact .inl h1
theorem head_quietQ {n m g : Nat} {Lq : Act → World → Prop} (hsel : Region.noSelect ops = true) (hs : sinkA md ops n m = true) (hc : chainA md ops n m = true) (hn : n + m < ops.size) (qs cs ps : List Nat) :
    ∀ (listed : Array Bool) (a : Act) (w : World), HeadInv md ops n listed → lexP md ops n m g qs cs ps listed = true →
    (∀ u0 : Up w, wpQuiet P ops (upC u0.val) (fun a' => chainQ P ops Lq qs cs a' w) (ps.filterMap fun i => ops[i]?) a) →
    anyHeadW P md ops n m (fun listed' a' w' => endB md ops n m g listed' = true ∧ Lq a' w') (cs.length + qs.length + ps.length) listed a w := by
  induction ps with
  | nil => exact fun listed a w inv hB h => head_chainQ hsel hs hc hn qs cs listed a w inv hB (h (Up.of (Below.refl _ _)))
  | cons i ps ih =>
    intro listed a w inv hB h
    simp only [lexP, Bool.and_eq_true, decide_eq_true_eq] at hB
    obtain ⟨⟨⟨hr, hin⟩, hf⟩, hB'⟩ := hB
    have hr' : i ∈ Region.ready md ops listed := by simpa using hr
    obtain ⟨_, oi, hoi, _⟩ := mem_ready.1 hr'
    have h2 : ∀ u0 : Up w, ∃ v, YieldsIn P ops (upC u0.val) oi v a ∧ wpQuiet P ops (upC u0.val) (fun a' => chainQ P ops Lq qs cs a' w) (ps.filterMap fun i => ops[i]?) (a.put oi.dst v) := fun u0 => by
      have h3 := h u0
      rw [List.filterMap_cons_some hoi] at h3
      exact yieldsIn_of_qOp (i := i) hoi (by unfold qOp; simp only [hoi]; exact h3)
    obtain ⟨v, hy, _⟩ := h2 (Up.of (Below.refl _ _))
    have same : ∀ u0 : Up w, YieldsIn P ops (upC u0.val) oi v a ∧ wpQuiet P ops (upC u0.val) (fun a' => chainQ P ops Lq qs cs a' w) (ps.filterMap fun i => ops[i]?) (a.put oi.dst v) := fun u0 => by
      obtain ⟨v', hy', h'⟩ := h2 u0
      have : v = v' := yields_same hy hy' ⟨u0.val, ⟨Up.of (w' := u0.val) u0.ok, rfl⟩, ⟨Up.of (w' := u0.val) (Below.refl _ _), rfl⟩⟩
      subst this
      exact ⟨hy', h'⟩
    refine head_firstW hoi (Region.noSelect_spec hsel) hs hc hn hin (fun listed' a' w' hL j hj => ?_) (cs.length + qs.length + ps.length) listed a w inv (Region.free_spec hoi hf) hr' (fun u0 => (same u0).1) (ih _ _ w (inv.set hr' hin) hB' fun u0 => (same u0).2)
    have h1 := hL.1
    simp only [endB, Bool.and_eq_true] at h1
    simpa using List.all_eq_true.1 h1.1 j hj

theorem stepV_late {N : Nat} {late : List Nat} {i : Nat} {K : Act → World → Prop} {a : Act} {w : World} (hi : i ≠ N) (h : stepV P ops i K a w) : stepV P (withLate ops N late) i K a w := by
  obtain ⟨o, h1, h2, f, args, h3, h4⟩ := h
  exact ⟨o, (late_ne hi).trans h1, by rw [late_yielded]; exact h2, f, args, h3, h4⟩
theorem filter_late {N : Nat} {late : List Nat} (l : List Nat) (h : ∀ i ∈ l, i ≠ N) : (l.filterMap fun i => (withLate ops N late)[i]?) = l.filterMap fun i => ops[i]? := by
  induction l with
  | nil => rfl
  | cons i l ih =>
    have h1 : (withLate ops N late)[i]? = ops[i]? := late_ne (h i (by simp))
    simp only [List.filterMap_cons, h1, ih (fun j hj => h j (by simp [hj]))]
theorem chainQ_late {N : Nat} {late : List Nat} {Lq : Act → World → Prop} {qs : List Nat} (hq : ∀ i ∈ qs, i ≠ N) (cs : List Nat) (hc : ∀ i ∈ cs, i ≠ N) : ∀ (a : Act) (w : World), chainQ P ops Lq qs cs a w → chainQ P (withLate ops N late) Lq qs cs a w := by
  induction cs with
  | nil =>
    intro a w h w' hb u0
    have h1 := quiet_late (N := N) (late := late) _ _ (h w' hb u0)
    rw [filter_late qs hq]
    exact quiet_end (fun a' h2 => h2) _ _ h1
  | cons i cs ih =>
    intro a w h w' hb
    exact stepV_late (hc i (by simp)) (stepV_mono (h w' hb) fun a' w'' h2 => ih (fun j hj => hc j (by simp [hj])) a' w'' h2)
theorem chainQ_mono {Lq Lq' : Act → World → Prop} {qs : List Nat} (hq : ∀ a w, Lq a w → Lq' a w) (cs : List Nat) : ∀ (a : Act) (w : World), chainQ P ops Lq qs cs a w → chainQ P ops Lq' qs cs a w := by
  induction cs with
  | nil => exact fun a w h w' hb u0 => quiet_end (fun a' h2 w'' hb2 => hq _ _ (h2 w'' hb2)) _ _ (h w' hb u0)
  | cons i cs ih => exact fun a w h w' hb => stepV_mono (h w' hb) ih
end

/-- the Bool over a region: n operations of the head (ps: quiet; cs: the chain; qs: quiet, behind it), m allocs, the forced end -/
def chainQB (ops : Array Oper) (n m : Nat) (late ps cs qs : List Nat) : Bool :=
  lateB ops (n + m) late && (decide (cs.length + qs.length + ps.length = n) && (ps ++ cs ++ qs).all (fun i => decide (i < n))) &&
  (Region.noSelect (withLate ops (n + m) late) && sinkA .any (withLate ops (n + m) late) n m && chainA .any (withLate ops (n + m) late) n m && freeA .any (withLate ops (n + m) late) n m && lexP .any (withLate ops (n + m) late) n m (ops.size - (n + m)) qs cs ps (Array.replicate ops.size false))

theorem wp_region_chainQ {P : Program} {id : Nat} {Q : Exit → Act → World → Prop} {a : Act} {w : World} {l : List Oper} (n m : Nat) (late ps cs qs : List Nat) (objs : Nat → Obj) (hm : P.follows .mixedOrders = true) (hB : chainQB l.toArray n m late ps cs qs = true)
    (hQ : ∀ d v c a w, Q (.panic c) (Act.put a d v) w → Q (.panic c) a w) (hal : allocOk P objs l.toArray n m)
    (h : ∀ u0 : Up w, wpQuiet P l.toArray (upC u0.val) (fun a' => chainQ P l.toArray (fun a'' w' => ∀ blk, BlkAt w w' n m objs blk (fun _ => true) → wpList P l.toArray Q (l.drop (n + m)) (putsC l.toArray n blk (fun _ => true) m a'') w') qs cs a' w) (ps.filterMap fun i => l.toArray[i]?) a) : (Code.region id l.toArray true).wp P Q a w := by
  simp only [chainQB, Bool.and_eq_true, decide_eq_true_eq] at hB
  obtain ⟨⟨hlate, hlen, hsmall⟩, ⟨⟨⟨hsel, hs⟩, hc⟩, hf⟩, hlex⟩ := hB
  have hsm : ∀ i, (i ∈ ps ∨ i ∈ cs) ∨ i ∈ qs → i ≠ n + m := fun i hi => by
    have := List.all_eq_true.1 hsmall i (by simp only [List.mem_append]; exact hi)
    simp only [decide_eq_true_eq] at this
    omega
  have hn : n + m < l.toArray.size := by
    have := hlate
    simp only [lateB, Bool.and_eq_true, decide_eq_true_eq] at this
    exact this.1.2
  have hn' : n + m < l.length := by simpa using hn
  have hdl : (l.drop (n + m)).length = l.toArray.size - (n + m) := by simp
  have inv0 : HeadInv .any (withLate l.toArray (n + m) late) n (Array.replicate l.toArray.size false) :=
    ⟨by simp [late_size], fun j oj _ hl => (by rw [getD_replicate_false] at hl; cases hl), fun t _ ht => getD_in (by simpa [late_size] using ht) (getD_replicate_false _ _)⟩
  refine wp_region_any hm (any_late hQ hlate _ _ _ _ (by simp) ?_)
  have H := head_quietQ (P := P) (Lq := fun a'' w' => ∀ blk, BlkAt w w' n m objs blk (fun _ => true) → wpList P l.toArray Q (l.drop (n + m)) (putsC l.toArray n blk (fun _ => true) m a'') w') hsel hs hc (by rw [late_size]; exact hn) qs cs ps _ a w inv0 hlex
    (fun u0 => by
      have h1 := quiet_late (N := n + m) (late := late) _ _ (h u0)
      rw [filter_late ps (fun i hi => hsm i (.inl (.inl hi)))]
      exact quiet_end (fun a' h2 => chainQ_late (fun i hi => hsm i (.inr hi)) cs (fun i hi => hsm i (.inl (.inr hi))) a' w h2) _ _ h1)
  have T := any_of_allocW (P := P) (ops := withLate l.toArray (n + m) late) (md := .any) (n := n) (m := m) (g := l.toArray.size - (n + m)) (w0 := w) (objs := objs) (Q' := Q)
    (Lq := fun a'' w' => ∀ blk, BlkAt w w' n m objs blk (fun _ => true) → wpList P l.toArray Q (l.drop (n + m)) (putsC l.toArray n blk (fun _ => true) m a'') w')
    (Region.noSelect_spec hsel) hs hc hf (by rw [late_size]; exact hn) (fun j hj o ho => by
      rw [late_ne (by omega)] at ho
      exact hal j hj o ho)
    (fun listed0 a0 blk w' hE hq hw hb => by
      have h1 := hq blk hb
      have e : putsC (withLate l.toArray (n + m) late) n blk (fun _ => true) m a0 = putsC l.toArray n blk (fun _ => true) m a0 := by
        have : ∀ k, k ≤ m → putsC (withLate l.toArray (n + m) late) n blk (fun _ => true) k a0 = putsC l.toArray n blk (fun _ => true) k a0 := by
          intro k
          induction k with
          | zero => exact fun _ => rfl
          | succ k ih =>
            intro hk
            simp only [putsC]
            rw [ih (by omega), late_ne (by omega)]
        exact this m (Nat.le_refl _)
      rw [e]
      simp only [endB, Bool.and_eq_true] at hE
      have := any_of_seq_late (P := P) (md := .any) (Q' := Q) (l.drop (n + m)) (n + m) (markAll n m listed0) _ w' (fun j => by simp [List.getElem?_drop]) (by rw [hdl]; exact hE.2) h1
      rwa [hdl] at this)
    (cs.length + qs.length + ps.length + m) (cs.length + qs.length + ps.length) _ (Array.replicate l.toArray.size false) a (fun _ => 0) w.drew (by
      rw [cntC_none m (fun j _ => getD_replicate_false _ _)]) inv0 (by simp [late_size]) (fun j _ => rfl) ⟨Up.of (w' := w.drew) (Below.drew (Below.refl _ _)), rfl⟩ ⟨fun j _ hd => absurd ((getD_replicate_false _ _).symm.trans hd) Bool.false_ne_true, fun j _ _ _ hd => absurd ((getD_replicate_false _ _).symm.trans hd) Bool.false_ne_true⟩
    (H.up (Below.drew (Below.refl _ _)))
  rw [putsC_none m a (fun j _ => getD_replicate_false _ _), hlen, show n + m + (l.toArray.size - (n + m)) = l.toArray.size by omega] at T
  exact T

/-- one alloc -/
theorem wp_region_chainQ1 {P : Program} {id : Nat} {Q : Exit → Act → World → Prop} {a : Act} {w : World} {l : List Oper} (n : Nat) (late ps cs qs : List Nat) (b0 : Obj) (o0 : Oper) (hm : P.follows .mixedOrders = true) (hB : chainQB l.toArray n 1 late ps cs qs = true)
    (hQ : ∀ d v c a w, Q (.panic c) (Act.put a d v) w → Q (.panic c) a w)
    (h0 : l.toArray[n]? = some o0) (a0 : ∀ ρ w, (execOp ρ o0).run P w = .ok (.value (.pointer (some ⟨w.heap.size, 0, none⟩))) (w.alloc b0))
    (h : ∀ u0 : Up w, wpQuiet P l.toArray (upC u0.val) (fun a' => chainQ P l.toArray (fun a'' w' => ∀ p0, (w.heap.size ≤ p0 ∧ p0 < w'.heap.size ∧ w'.heap[p0]? = some b0) →
      wpList P l.toArray Q (l.drop (n + 1)) (a''.put o0.dst (.pointer (some ⟨p0, 0, none⟩))) w') qs cs a' w) (ps.filterMap fun i => l.toArray[i]?) a) : (Code.region id l.toArray true).wp P Q a w := by
  refine wp_region_chainQ n 1 late ps cs qs (fun _ => b0) hm hB hQ (fun j hj x hx ρ w => ?_) (fun u0 => quiet_end (fun a' hq => chainQ_mono (fun a'' w' hL blk hb => ?_) cs a' w hq) _ _ (h u0))
  · obtain rfl : j = 0 := by omega
    obtain rfl := Option.some.inj (hx.symm.trans h0); exact a0 ρ w
  · have := hL _ (hb.1 0 (by omega) rfl)
    simpa [putsC, h0] using this
end Go.Proofs.Ytegpjjkbbdfggaa.bs

/-
  Layer 24's arithmetic: the size of a number, the product of two words.
-/
namespace Go.Proofs.Ytegpjjkbbdfggaa.mt
set_option linter.unusedVariables false
set_option linter.unusedSimpArgs false
open Go.RowKit bs

theorem wraps_u64 (n : Int) (h0 : 0 ≤ n) (h1 : n < 2 ^ 64) : IntKind.u64.wrap n = n := by rw [IntKind.wrap_u64]; omega
theorem and32 (x : Int) (h0 : 0 ≤ x) (h1 : x < 18446744073709551616) : bits .and .u64 x 4294967295 = x % 4294967296 := bits_mask .u64 64 (by decide) wraps_u64 32 (by decide) x h0 h1
theorem or32 (x y : Int) (h0 : 0 ≤ x) (hx : x % 4294967296 = 0) (h1 : x < 18446744073709551616) (y0 : 0 ≤ y) (y1 : y < 4294967296) : bits .or .u64 x y = x + y :=
  bits_join .u64 64 (by decide) wraps_u64 32 x y h0 hx h1 y0 y1 (by omega)

/-- the four small products of two words, and what is made of them -/
theorem mul_parts (a b : Int) (ha : 0 ≤ a ∧ a < 18446744073709551616) (hb : 0 ≤ b ∧ b < 18446744073709551616) : ∃ p0 p1 p2 p3 : Int, a % 4294967296 * (b % 4294967296) = p0 ∧ a / 4294967296 * (b % 4294967296) = p1 ∧
    a % 4294967296 * (b / 4294967296) = p2 ∧ a / 4294967296 * (b / 4294967296) = p3 ∧ (0 ≤ p0 ∧ p0 ≤ 18446744065119617025) ∧ (0 ≤ p1 ∧ p1 ≤ 18446744065119617025) ∧ (0 ≤ p2 ∧ p2 ≤ 18446744065119617025) ∧ (0 ≤ p3 ∧ p3 ≤ 18446744065119617025) ∧
    a * b = p3 * 18446744073709551616 + (p1 + p2) * 4294967296 + p0 := by
  have key : ∀ x y : Int, 0 ≤ x → x ≤ 4294967295 → 0 ≤ y → y ≤ 4294967295 → 0 ≤ x * y ∧ x * y ≤ 18446744065119617025 := fun x y x0 x1 y0 y1 =>
    ⟨Int.mul_nonneg x0 y0, by have := Int.mul_le_mul x1 y1 y0 (by omega); omega⟩
  refine ⟨_, _, _, _, rfl, rfl, rfl, rfl, key _ _ (by omega) (by omega) (by omega) (by omega), key _ _ (by omega) (by omega) (by omega) (by omega), key _ _ (by omega) (by omega) (by omega) (by omega), key _ _ (by omega) (by omega) (by omega) (by omega), ?_⟩
  obtain ⟨x, hx⟩ : ∃ x, a / 4294967296 = x := ⟨_, rfl⟩
  obtain ⟨y, hy⟩ : ∃ y, a % 4294967296 = y := ⟨_, rfl⟩
  obtain ⟨z, hz⟩ : ∃ z, b / 4294967296 = z := ⟨_, rfl⟩
  obtain ⟨t, ht⟩ : ∃ t, b % 4294967296 = t := ⟨_, rfl⟩
  have ea : a = x * 4294967296 + y := by omega
  have eb : b = z * 4294967296 + t := by omega
  rw [hx, hy, hz, ht, ea, eb]
  simp only [Int.add_mul, Int.mul_add]
  have e1 : x * 4294967296 * (z * 4294967296) = x * z * 18446744073709551616 := by rw [Int.mul_assoc, Int.mul_left_comm 4294967296 z, ← Int.mul_assoc, ← Int.mul_assoc]; omega
  have e2 : x * 4294967296 * t = x * t * 4294967296 := by rw [Int.mul_assoc, Int.mul_comm 4294967296 t, ← Int.mul_assoc]
  have e3 : y * (z * 4294967296) = y * z * 4294967296 := by rw [← Int.mul_assoc]
  rw [e1, e2, e3]
  omega

/-- how far a number lies from 0 -/
def size (v : Int) : Int := if v < 0 then -v else v
theorem size_bd (v : Int) (h0 : -9223372036854775808 ≤ v) (h1 : v ≤ 9223372036854775807) : 0 ≤ size v ∧ size v ≤ 9223372036854775808 := by unfold size; split <;> omega

theorem size_any (v : Int) (w : World) (h0 : -9223372036854775808 ≤ v) (h1 : v ≤ 9223372036854775807) :
    Calls Try.prog 125 #[.int .i64 v] w fun e w' => e = .returned (.int .u64 (size v)) ∧ w = w' := by
  by_cases h : v < 0
  · have he : size v = -v := by unfold size; rw [if_pos h]
    rw [he]
    clear he
    go_enter Try.func125, Try.ntmps125
    go_wp2_with fail
    go_ret
    exact ⟨ret_int (by omega), rfl⟩
  · have he : size v = v := by unfold size; rw [if_neg h]
    rw [he]
    clear he
    go_enter Try.func125, Try.ntmps125
    go_wp2_with fail
    go_ret
    exact ⟨ret_int (by omega), rfl⟩
set_option maxHeartbeats 1600000 in
theorem product_any (a b : Int) (w : World) (ha : 0 ≤ a ∧ a < 18446744073709551616) (hb : 0 ≤ b ∧ b < 18446744073709551616) :
    Calls Try.prog 124 #[.int .u64 a, .int .u64 b] w fun e w' => e = .returned (.tuple #[.int .u64 (a * b / 18446744073709551616), .int .u64 (a * b % 18446744073709551616)]) ∧ Below w.heap.size w w' := by
  obtain ⟨p0, p1, p2, p3, e0, e1, e2, e3, ⟨b00, b01⟩, ⟨b10, b11⟩, ⟨b20, b21⟩, ⟨b30, b31⟩, hm⟩ := mul_parts a b ha hb
  have HM := Lib.hid hm
  clear hm
  obtain ⟨a0, a1⟩ := ha
  obtain ⟨c0, c1⟩ := hb
  have m0 := and32 a a0 a1
  have m1 := and32 b c0 c1
  have m2 := and32 p0 b00 (by omega)
  have m3 := and32 p1 b10 (by omega)
  have m4 := and32 p2 b20 (by omega)
  obtain ⟨M, hM⟩ : ∃ M, p0 / 4294967296 + p1 % 4294967296 + p2 % 4294967296 = M := ⟨_, rfl⟩
  have M0 : 0 ≤ M := by omega
  have M1 : M ≤ 12884901885 := by omega
  have m5 := or32 (M % 4294967296 * 4294967296) (p0 % 4294967296) (by omega) (by omega) (by omega) (by omega) (by omega)
  go_enter Try.func124, Try.ntmps124
  go_wp2_with fail
  have w1 : IntKind.u64.wrap (p3 + p1 / 4294967296) = p3 + p1 / 4294967296 := wraps_u64 _ (by omega) (by omega)
  have w2 : IntKind.u64.wrap (p3 + p1 / 4294967296 + p2 / 4294967296) = p3 + p1 / 4294967296 + p2 / 4294967296 := wraps_u64 _ (by omega) (by omega)
  have hz : p3 + p1 / 4294967296 + p2 / 4294967296 + M / 4294967296 = a * b / 18446744073709551616 ∧ M % 4294967296 * 4294967296 + p0 % 4294967296 = a * b % 18446744073709551616 := by have := HM.out; omega
  have w3 : IntKind.u64.wrap (p3 + p1 / 4294967296 + p2 / 4294967296 + M / 4294967296) = p3 + p1 / 4294967296 + p2 / 4294967296 + M / 4294967296 := wraps_u64 _ (by omega) (by
    have hx : p3 ≤ 18446744065119617025 := b31
    omega)
  have w4 : IntKind.u64.wrap (M * 4294967296) = M % 4294967296 * 4294967296 := by rw [IntKind.wrap_u64]; omega
  have HZ := Lib.hid hz
  clear hz
  go_quiet (fail)
  go_wp2_with fail
  go_ret2
  exact ⟨by rw [HZ.out.1, HZ.out.2]; rfl, by (repeat' (first | exact Below.refl _ _ | exact Below.refl _ _ | refine balloc ?_ _ | refine Below.drew ?_ | refine below_drewN ?_ _ | refine bset ?_ (by first | omega | (simp <;> omega)) _))⟩
end Go.Proofs.Ytegpjjkbbdfggaa.mt

/-
  Layer 24's arithmetic: division of a product by a word, bit by bit (wide.parts).
-/
namespace Go.Proofs.Ytegpjjkbbdfggaa.mt
set_option linter.unusedVariables false
set_option linter.unusedSimpArgs false
open Go.RowKit bs

/-- one bit more of a quotient -/
theorem div_step (X D t : Nat) (hD : 0 < D) (ht : t < 2) : (D ≤ 2 * (X % D) + t → (2 * X + t) / D = 2 * (X / D) + 1 ∧ (2 * X + t) % D = 2 * (X % D) + t - D) ∧ (2 * (X % D) + t < D → (2 * X + t) / D = 2 * (X / D) ∧ (2 * X + t) % D = 2 * (X % D) + t) := by
  have h1 := Nat.div_add_mod X D
  have h2 := Nat.mod_lt X hD
  generalize X / D = y at *
  generalize X % D = r at *
  have e : 2 * X + t = D * (2 * y) + (2 * r + t) := by
    rw [Nat.mul_left_comm]
    omega
  constructor
  · intro h
    have e2 : 2 * X + t = D * (2 * y + 1) + (2 * r + t - D) := by rw [Nat.mul_add D (2 * y) 1, Nat.mul_one]; omega
    rw [e2, Nat.mul_add_div hD, Nat.mul_add_mod, Nat.div_eq_of_lt (by omega), Nat.mod_eq_of_lt (by omega)]
    exact ⟨by omega, rfl⟩
  · intro h
    rw [e, Nat.mul_add_div hD, Nat.mul_add_mod, Nat.div_eq_of_lt (by omega), Nat.mod_eq_of_lt (by omega)]
    exact ⟨by omega, rfl⟩
theorem half_step (N k : Nat) : N / 2 ^ k = 2 * (N / 2 ^ (k + 1)) + N / 2 ^ k % 2 := by
  rw [Nat.pow_succ, ← Nat.div_div_eq_div_mul]
  omega

theorem results_tmp4 {fn : Func} {t u v x : Tmp} (h : fn.results = #[.tmp t, .tmp u, .tmp v, .tmp x]) (tmps : Array Value) (P : Program) (w : World) :
    (results fn tmps).run P w = .ok (.tuple #[tmps.getD t undef, tmps.getD u undef, tmps.getD v undef, tmps.getD x undef]) w := by
  simp [results, h]
/-- a bit of the lower word is a bit of the whole -/
theorem low_bit (N j : Nat) (hj : j < 64) : N % 18446744073709551616 / 2 ^ j % 2 = N / 2 ^ j % 2 := by
  have hp : 18446744073709551616 = 2 ^ j * (2 * 2 ^ (63 - j)) := by
    have e : (18446744073709551616 : Nat) = 2 ^ 64 := by decide
    rw [e, ← Nat.pow_succ', ← Nat.pow_add]
    congr 1
    omega
  have h1 := Nat.div_add_mod N 18446744073709551616
  generalize N % 18446744073709551616 = lo at *
  have h2 : N / 2 ^ j = 2 * (2 ^ (63 - j) * (N / 18446744073709551616)) + lo / 2 ^ j := by
    have e : N = 2 ^ j * (2 * (2 ^ (63 - j) * (N / 18446744073709551616))) + lo := by
      have : 2 ^ j * (2 * (2 ^ (63 - j) * (N / 18446744073709551616))) = 18446744073709551616 * (N / 18446744073709551616) := by
        rw [← Nat.mul_assoc 2, ← Nat.mul_assoc, ← hp]
      omega
    conv => lhs; rw [e]
    rw [Nat.mul_add_div (Nat.two_pow_pos j)]
  omega
/-- the facts of a step -/
theorem bit_facts (lo t j : Nat) (hj : j < 64) (hl : lo < 18446744073709551616) (ht : lo / 2 ^ j % 2 = t) : bits .and .u64 ((lo : Int) / 2 ^ j) 1 = (t : Int) ∧ t < 2 := by
  have e : (lo : Int) / 2 ^ j = ((lo / 2 ^ j : Nat) : Int) := by push_cast; rfl
  have hb : lo / 2 ^ j ≤ lo := Nat.div_le_self _ _
  rw [e]
  generalize lo / 2 ^ j = X at *
  refine ⟨?_, by omega⟩
  have := bits_mask .u64 64 (by decide) wraps_u64 1 (by decide) (X : Int) (by omega) (by omega)
  rw [show ((2 : Int) ^ 1 - 1) = 1 by decide] at this
  rw [this, ← ht]
  omega
theorem or_bit (R t : Nat) (hR : R < 9223372036854775808) (ht : t < 2) : bits .or .u64 ((R : Int) * 2) (t : Int) = ((2 * R + t : Nat) : Int) := by
  rw [bits_join .u64 64 (by decide) wraps_u64 1 ((R : Int) * 2) (t : Int) (by omega) (by omega) (by omega) (by omega) (by omega) (by omega)]
  push_cast; omega
theorem or_pow (y Q j : Nat) (hj : j < 64) (hQ : y * 2 ^ (j + 1) = Q) (hq : Q < 18446744073709551616) : bits .or .u64 (Q : Int) (IntKind.u64.wrap (2 ^ j)) = ((Q + 2 ^ j : Nat) : Int) ∧ Q + 2 ^ j < 18446744073709551616 := by
  have hp : 18446744073709551616 = 2 ^ (63 - j) * 2 ^ (j + 1) := by
    have e : (18446744073709551616 : Nat) = 2 ^ 64 := by decide
    rw [e, ← Nat.pow_add]
    congr 1
    omega
  have hy : y + 1 ≤ 2 ^ (63 - j) := by
    rw [hp, ← hQ] at hq
    have := Nat.lt_of_mul_lt_mul_right hq
    omega
  have hz := Nat.mul_le_mul_right (2 ^ (j + 1)) hy
  rw [← hp, Nat.add_mul, hQ, Nat.one_mul] at hz
  have hs : 2 ^ (j + 1) = 2 * 2 ^ j := by rw [Nat.pow_succ, Nat.mul_comm]
  have h0 := Nat.two_pow_pos j
  have hc : ((2 : Int) ^ j) = ((2 ^ j : Nat) : Int) := by push_cast; rfl
  have hk : ((2 : Int) ^ (j + 1)) = ((2 ^ (j + 1) : Nat) : Int) := by push_cast; rfl
  have hm := Nat.mul_mod_left y (2 ^ (j + 1))
  rw [hQ] at hm
  generalize 2 ^ (j + 1) = b at *
  generalize 2 ^ j = a at *
  have hw : IntKind.u64.wrap (a : Int) = (a : Int) := wraps_u64 _ (by omega) (by omega)
  refine ⟨?_, by omega⟩
  rw [hc, hw, bits_join .u64 64 (by decide) wraps_u64 (j + 1) (Q : Int) (a : Int) (by omega) ?_ (by omega) (by omega) ?_ (by omega)]
  · push_cast; rfl
  · rw [hk]; omega
  · rw [hk]; omega

set_option maxHeartbeats 1600000 in
theorem parts_yes (a b d : Int) (N D : Nat) (w : World) (ha : -9223372036854775808 ≤ a ∧ a ≤ 9223372036854775807) (hb : -9223372036854775808 ≤ b ∧ b ≤ 9223372036854775807) (hd : -9223372036854775808 ≤ d ∧ d ≤ 9223372036854775807)
    (hN : size a * size b = N) (hD : size d = D) (h : N / 18446744073709551616 < D) :
    Calls Try.prog 105 #[.int .i64 a, .int .i64 b, .int .i64 d] w fun e w' => e = .returned (.tuple #[.int .u64 ((N / D : Nat) : Int), .int .u64 ((N % D : Nat) : Int), .int .u64 (D : Int), .bool true]) ∧ Below w.heap.size w w' := by
  have sa := size_bd a ha.1 ha.2
  have sb := size_bd b hb.1 hb.2
  have sd := size_bd d hd.1 hd.2
  obtain ⟨a0, a1⟩ := ha
  obtain ⟨b0, b1⟩ := hb
  obtain ⟨d0, d1⟩ := hd
  obtain ⟨hi, hhi⟩ : ∃ hi, N / 18446744073709551616 = hi := ⟨_, rfl⟩
  obtain ⟨lo, hlo⟩ : ∃ lo, N % 18446744073709551616 = lo := ⟨_, rfl⟩
  have hl : lo < 18446744073709551616 := by omega
  have hc1 : size a * size b / 18446744073709551616 = (hi : Int) := by rw [hN]; omega
  have hc2 : size a * size b % 18446744073709551616 = (lo : Int) := by rw [hN]; omega
  rw [hhi] at h
  have hD1 : D ≤ 9223372036854775808 := by omega
  have hge : decide ((D : Int) ≤ (hi : Int)) = false := by simp; omega
  have HA := Lib.hid (fun W => size_any a W a0 a1)
  have HB := Lib.hid (fun W => size_any b W b0 b1)
  have HP := Lib.hid (fun W => product_any (size a) (size b) W (by omega) (by omega))
  rw [hc1, hc2] at HP
  have HS := Lib.hid (fun W => size_any d W d0 d1)
  rw [hD] at HS
  have HH := Lib.hid hhi
  have HL := Lib.hid hlo
  have SA := Lib.hid sa
  have SB := Lib.hid sb
  clear hc1 hc2 hN hD hhi hlo sa sb sd
  generalize size a = za at *
  generalize size b = zb at *
  go_enter Try.func105, Try.ntmps105
  go_wp2_with fail
  refine (HA.out _).mono ?_
  rintro e w1 ⟨rfl, rfl⟩
  go_wp2_with fail
  refine (HB.out _).mono ?_
  rintro e w2 ⟨rfl, rfl⟩
  go_wp2_with fail
  refine (HP.out _).mono ?_
  rintro e w3 ⟨rfl, hb1⟩
  have HB1 := Lib.hid hb1
  clear hb1
  go_wp2_with fail
  refine (HS.out _).mono ?_
  rintro e w4 ⟨rfl, rfl⟩
  go_wp2_with fail
  go_loop [6, 7, 11, 12] (fun q r i t => ∃ k : Nat, k ≤ 64 ∧ i = .int .i64 ((k : Int) - 1) ∧ ∃ Q R : Nat, q = .int .u64 (Q : Int) ∧ r = .int .u64 (R : Int) ∧ R < D ∧ Q < 18446744073709551616 ∧ Hid (Q = N / 2 ^ k / D * 2 ^ k ∧ R = N / 2 ^ k % D)) (fun _ _ i _ => (intOf i + 1).toNat)
  case atStart =>
    refine ⟨64, by omega, rfl, 0, hi, rfl, rfl, h, by omega, ?_⟩
    have e : (2 : Nat) ^ 64 = 18446744073709551616 := by decide
    show 0 = N / 2 ^ 64 / D * 2 ^ 64 ∧ hi = N / 2 ^ 64 % D
    rw [e, HH.out, Nat.div_eq_of_lt h, Nat.mod_eq_of_lt h]
    exact ⟨by omega, rfl⟩
  case round =>
    obtain ⟨k, hk, rfl, Q, R, rfl, rfl, hR, hQ, hI⟩ := hrel
    cases k with
    | zero =>
      go_wp2
      refine bodyPost_ret (results_tmp4 rfl _ _ _) rfl ?_
      refine ⟨?_, HB1.out⟩
      obtain ⟨e1, e2⟩ := hI.out
      rw [Nat.pow_zero, Nat.div_one] at e1 e2
      rw [Nat.mul_one] at e1
      have q1 : (Q : Int) = (N : Int) / (D : Int) := by rw [e1]; push_cast; rfl
      have q2 : (R : Int) = (N : Int) % (D : Int) := by rw [e2]; push_cast; rfl
      rw [← q1, ← q2]
      rfl
    | succ j =>
      have htop : (R : Int) / 9223372036854775808 = 0 := by omega
      obtain ⟨t, ht⟩ : ∃ t, lo / 2 ^ j % 2 = t := ⟨_, rfl⟩
      obtain ⟨f1, ht2⟩ := bit_facts lo t j (by omega) hl ht
      have f2 := or_bit R t (by omega) ht2
      obtain ⟨T, hT⟩ : ∃ T, 2 * R + t = T := ⟨_, rfl⟩
      rw [hT] at f2
      obtain ⟨y, hy⟩ : ∃ y, N / 2 ^ (j + 1) / D = y := ⟨_, rfl⟩
      obtain ⟨e1, e2⟩ := hI.out
      rw [hy] at e1
      obtain ⟨f3, f4⟩ := or_pow y Q j (by omega) e1.symm hQ
      obtain ⟨P, hP⟩ : ∃ P, Q + 2 ^ j = P := ⟨_, rfl⟩
      rw [hP] at f3 f4
      have hN := half_step N j
      have hb := low_bit N j (by omega)
      rw [HL.out, ht] at hb
      rw [← hb] at hN
      have hs := div_step (N / 2 ^ (j + 1)) D t (by omega) ht2
      rw [← hN, hy, ← e2, hT] at hs
      have HS1 := Lib.hid hs
      have HT := Lib.hid hT
      have HP1 := Lib.hid hP
      have HE := Lib.hid e1
      clear hs hT hP e1 e2 hN hb hy ht hI
      by_cases hc : D ≤ T
      · have c1 : decide ((D : Int) ≤ (T : Int)) = true := by simp; omega
        have f5 : IntKind.u64.wrap ((T : Int) - (D : Int)) = ((T - D : Nat) : Int) := by rw [wraps_u64 _ (by omega) (by have := HT.out; omega)]; omega
        obtain ⟨U, hU⟩ : ∃ U, T - D = U := ⟨_, rfl⟩
        have hU2 : U < D := by have := HT.out; omega
        rw [hU] at f5
        have HU := Lib.hid hU
        clear hU
        go_wp2
        go_round
        case rel =>
          obtain ⟨q1, q2⟩ := HS1.out.1 hc
          refine ⟨j, by omega, by go_num, P, U, rfl, rfl, hU2, f4, ?_⟩
          show P = N / 2 ^ j / D * 2 ^ j ∧ U = N / 2 ^ j % D
          rw [q1, q2]
          refine ⟨?_, HU.out.symm⟩
          have h1 := HE.out
          have h2 := HP1.out
          rw [Nat.add_mul, Nat.one_mul, Nat.mul_comm 2 y, Nat.mul_assoc, ← Nat.pow_succ', ← h1]
          exact h2.symm
        case measure => simp [intOf]
      · have c1 : decide ((D : Int) ≤ (T : Int)) = false := by simp; omega
        go_wp2
        go_round
        case rel =>
          obtain ⟨q1, q2⟩ := HS1.out.2 (by omega)
          refine ⟨j, by omega, by go_num, Q, T, rfl, rfl, by omega, hQ, ?_⟩
          show Q = N / 2 ^ j / D * 2 ^ j ∧ T = N / 2 ^ j % D
          rw [q1, q2]
          refine ⟨?_, rfl⟩
          have h1 := HE.out
          rw [Nat.mul_comm 2 y, Nat.mul_assoc, ← Nat.pow_succ', ← h1]
        case measure => simp [intOf]

set_option maxHeartbeats 1600000 in
theorem parts_no (a b d : Int) (N D : Nat) (w : World) (ha : -9223372036854775808 ≤ a ∧ a ≤ 9223372036854775807) (hb : -9223372036854775808 ≤ b ∧ b ≤ 9223372036854775807) (hd : -9223372036854775808 ≤ d ∧ d ≤ 9223372036854775807)
    (hN : size a * size b = N) (hD : size d = D) (h : D ≤ N / 18446744073709551616) :
    Calls Try.prog 105 #[.int .i64 a, .int .i64 b, .int .i64 d] w fun e w' => e = .returned (.tuple #[.int .u64 0, .int .u64 0, .int .u64 0, .bool false]) ∧ Below w.heap.size w w' := by
  have sa := size_bd a ha.1 ha.2
  have sb := size_bd b hb.1 hb.2
  have sd := size_bd d hd.1 hd.2
  obtain ⟨a0, a1⟩ := ha
  obtain ⟨b0, b1⟩ := hb
  obtain ⟨d0, d1⟩ := hd
  obtain ⟨hi, hhi⟩ : ∃ hi, N / 18446744073709551616 = hi := ⟨_, rfl⟩
  obtain ⟨lo, hlo⟩ : ∃ lo, N % 18446744073709551616 = lo := ⟨_, rfl⟩
  have hl : lo < 18446744073709551616 := by omega
  have hc1 : size a * size b / 18446744073709551616 = (hi : Int) := by rw [hN]; omega
  have hc2 : size a * size b % 18446744073709551616 = (lo : Int) := by rw [hN]; omega
  rw [hhi] at h
  have hD1 : D ≤ 9223372036854775808 := by omega
  have hge : decide ((D : Int) ≤ (hi : Int)) = true := by simp; omega
  have HA := Lib.hid (fun W => size_any a W a0 a1)
  have HB := Lib.hid (fun W => size_any b W b0 b1)
  have HP := Lib.hid (fun W => product_any (size a) (size b) W (by omega) (by omega))
  rw [hc1, hc2] at HP
  have HS := Lib.hid (fun W => size_any d W d0 d1)
  rw [hD] at HS
  have HH := Lib.hid hhi
  have HL := Lib.hid hlo
  have SA := Lib.hid sa
  have SB := Lib.hid sb
  clear hc1 hc2 hN hD hhi hlo sa sb sd
  generalize size a = za at *
  generalize size b = zb at *
  go_enter Try.func105, Try.ntmps105
  go_wp2_with fail
  refine (HA.out _).mono ?_
  rintro e w1 ⟨rfl, rfl⟩
  go_wp2_with fail
  refine (HB.out _).mono ?_
  rintro e w2 ⟨rfl, rfl⟩
  go_wp2_with fail
  refine (HP.out _).mono ?_
  rintro e w3 ⟨rfl, hb1⟩
  have HB1 := Lib.hid hb1
  clear hb1
  go_wp2_with fail
  refine (HS.out _).mono ?_
  rintro e w4 ⟨rfl, rfl⟩
  go_wp2_with fail
  refine bodyPost_ret (results_tmp4 rfl _ _ _) rfl ?_
  exact ⟨rfl, HB1.out⟩
end Go.Proofs.Ytegpjjkbbdfggaa.mt

/-
  Layer 24's arithmetic: MulDiv, a product divided and rounded half to even.
-/
namespace Go.Proofs.Ytegpjjkbbdfggaa.mt
set_option linter.unusedVariables false
set_option linter.unusedSimpArgs false
open Go.RowKit bs

/-- N / D, rounded, half to even -/
def rdiv (N D : Nat) : Nat := if D < 2 * (N % D) ∨ 2 * (N % D) = D ∧ N / D % 2 = 1 then N / D + 1 else N / D
/-- is the quotient below 0 -/
def neg (a b d : Int) : Bool := (decide (a < 0) != decide (b < 0)) != decide (d < 0)
/-- a size with its sign, if there is such a number -/
def sgn (s : Bool) (m : Int) : Option Int := if s = true then (if m ≤ 9223372036854775808 then some (-m) else none) else (if m < 9223372036854775808 then some m else none)
/-- a b / d, rounded, if it is a number -/
def mulDiv (a b d : Int) : Option Int := if d = 0 then none else sgn (neg a b d) (rdiv (size a * size b).toNat (size d).toNat : Int)

theorem more_any (q : Int) (up : Bool) (w : World) (h0 : 0 ≤ q) (h1 : q < 18446744073709551616) :
    Calls Try.prog 106 #[.int .u64 q, .bool up] w fun e w' => e = .returned (if up = true then (if q = 18446744073709551615 then .tuple #[.int .u64 0, .bool false] else .tuple #[.int .u64 (q + 1), .bool true]) else .tuple #[.int .u64 q, .bool true]) ∧ w = w' := by
  cases up with
  | false =>
    go_enter Try.func106, Try.ntmps106
    go_wp2_with fail
    go_ret2
    exact ⟨rfl, rfl⟩
  | true =>
    by_cases h : q = 18446744073709551615
    · subst h
      go_enter Try.func106, Try.ntmps106
      go_wp2_with fail
      go_ret2
      exact ⟨rfl, rfl⟩
    · rw [if_pos rfl, if_neg h]
      have hw : IntKind.u64.wrap (q + 1) = q + 1 := wraps_u64 _ (by omega) (by omega)
      have hne : (q + 1 == 0) = false := by simp; omega
      have hne2 : ¬ q + 1 = 0 := by omega
      have hne3 : (q + 1 != 0) = true := by simp; omega
      go_enter Try.func106, Try.ntmps106
      go_wp2_with fail
      go_ret2
      exact ⟨rfl, rfl⟩
theorem under_any (a b d : Int) (w : World) : Calls Try.prog 108 #[.int .i64 a, .int .i64 b, .int .i64 d] w fun e w' => e = .returned (.bool (neg a b d)) ∧ w = w' := by
  go_enter Try.func108, Try.ntmps108
  go_wp2_with fail
  go_ret
  exact ⟨rfl, rfl⟩
theorem signed_any (q : Int) (below : Bool) (w : World) (h0 : 0 ≤ q) (h1 : q < 18446744073709551616) :
    Calls Try.prog 107 #[.int .u64 q, .bool below] w fun e w' => e = .returned (.tuple #[.int .i64 ((sgn below q).getD 0), .bool (sgn below q).isSome]) ∧ w = w' := by
  cases below with
  | false =>
    by_cases h : q < 9223372036854775808
    · have he : sgn false q = some q := by unfold sgn; rw [if_neg (by decide), if_pos h]
      rw [he]
      simp only [Option.getD_some, Option.isSome_some]
      clear he
      go_enter Try.func107, Try.ntmps107
      go_wp2_with fail
      go_ret2
      exact ⟨rfl, rfl⟩
    · have he : sgn false q = none := by unfold sgn; rw [if_neg (by decide), if_neg h]
      rw [he]
      simp only [Option.getD_none, Option.isSome_none]
      clear he
      go_enter Try.func107, Try.ntmps107
      go_wp2_with fail
      go_ret2
      exact ⟨rfl, rfl⟩
  | true =>
    by_cases h : q ≤ 9223372036854775808
    · have he : sgn true q = some (-q) := by unfold sgn; rw [if_pos rfl, if_pos h]
      rw [he]
      simp only [Option.getD_some, Option.isSome_some]
      clear he
      have hw : IntKind.i64.wrap (IntKind.u64.wrap (-q)) = -q := by
        rw [IntKind.wrap_i64, IntKind.wrap_u64]
        omega
      go_enter Try.func107, Try.ntmps107
      go_wp2_with fail
      go_ret2
      exact ⟨by first | rfl | (rw [← hw]; rfl), rfl⟩
    · have he : sgn true q = none := by unfold sgn; rw [if_pos rfl, if_neg h]
      rw [he]
      simp only [Option.getD_none, Option.isSome_none]
      clear he
      go_enter Try.func107, Try.ntmps107
      go_wp2_with fail
      go_ret2
      exact ⟨rfl, rfl⟩

theorem mulDiv_none (a b d : Int) (N D : Nat) (hN : size a * size b = N) (hD : size d = D) (h : D ≤ N / 18446744073709551616) : mulDiv a b d = none := by
  unfold mulDiv
  rw [hN, hD]
  by_cases hd : d = 0
  · rw [if_pos hd]
  · rw [if_neg hd]
    have hD0 : 0 < D := by unfold size at hD; split at hD <;> omega
    have hq : 18446744073709551616 ≤ N / D := by
      rw [Nat.le_div_iff_mul_le hD0]
      have := Nat.div_mul_le_self N 18446744073709551616
      have := Nat.mul_le_mul_right 18446744073709551616 h
      omega
    have hr : 18446744073709551616 ≤ rdiv N D := by unfold rdiv; split <;> omega
    simp only [Int.toNat_natCast]
    unfold sgn
    split
    · rw [if_neg (by omega)]
    · rw [if_neg (by omega)]

theorem size_mul (a b : Int) (ha : -9223372036854775808 ≤ a ∧ a ≤ 9223372036854775807) (hb : -9223372036854775808 ≤ b ∧ b ≤ 9223372036854775807) : ∃ N : Nat, size a * size b = N := by
  have h1 := size_bd a ha.1 ha.2
  have h2 := size_bd b hb.1 hb.2
  exact ⟨_, (Int.toNat_of_nonneg (Int.mul_nonneg h1.1 h2.1)).symm⟩

set_option maxHeartbeats 1600000 in
theorem mulDiv_any (a b d : Int) (w : World) (ha : -9223372036854775808 ≤ a ∧ a ≤ 9223372036854775807) (hb : -9223372036854775808 ≤ b ∧ b ≤ 9223372036854775807) (hd : -9223372036854775808 ≤ d ∧ d ≤ 9223372036854775807) :
    Calls Try.prog 69 #[.int .i64 a, .int .i64 b, .int .i64 d] w fun e w' => e = .returned (.tuple #[.int .i64 ((mulDiv a b d).getD 0), .bool (mulDiv a b d).isSome]) ∧ Below w.heap.size w w' := by
  obtain ⟨N, hN⟩ := size_mul a b ha hb
  have sd := size_bd d hd.1 hd.2
  obtain ⟨D, hD⟩ := Int.eq_ofNat_of_zero_le sd.1
  by_cases h : D ≤ N / 18446744073709551616
  · rw [mulDiv_none a b d N D hN hD h]
    have HP := Lib.hid (fun W => parts_no a b d N D W ha hb hd hN hD h)
    simp only [Option.getD_none, Option.isSome_none]
    clear hN hD sd h ha hb hd
    go_enter Try.func69, Try.ntmps69
    go_wp2_with fail
    refine (HP.out _).mono ?_
    rintro e w1 ⟨rfl, hb1⟩
    go_wp2_with fail
    go_ret2
    exact ⟨rfl, hb1⟩
  · have HP := Lib.hid (fun W => parts_yes a b d N D W ha hb hd hN hD (by omega))
    have hd0 : ¬ d = 0 := by rintro rfl; unfold size at hD; rw [if_neg (by omega)] at hD; omega
    have hm : mulDiv a b d = sgn (neg a b d) (rdiv N D : Int) := by unfold mulDiv; rw [if_neg hd0, hN, hD]; rfl
    rw [hm]
    have hDb : D ≤ 9223372036854775808 := by omega
    have hD0 : 0 < D := by omega
    have hnb : N / D < 18446744073709551616 := by
      rw [Nat.div_lt_iff_lt_mul hD0]
      have := Nat.div_add_mod N 18446744073709551616
      have h2 : N / 18446744073709551616 + 1 ≤ D := by omega
      have h3 := Nat.mul_le_mul_left 18446744073709551616 h2
      have := Nat.mod_lt N (show 0 < 18446744073709551616 by decide)
      omega
    have hrb := Nat.mod_lt N hD0
    have hmr : rdiv N D = if D < 2 * (N % D) ∨ 2 * (N % D) = D ∧ N / D % 2 = 1 then N / D + 1 else N / D := rfl
    generalize rdiv N D = m at *
    generalize N / D = n at *
    generalize N % D = r at *
    have HU := Lib.hid (fun W => under_any a b d W)
    generalize neg a b d = ng at *
    clear hN hD sd h ha hb hd hm hd0
    have hand : bits .and .u64 (n : Int) 1 = ((n % 2 : Nat) : Int) := by
      have := bits_mask .u64 64 (by decide) wraps_u64 1 (by decide) (n : Int) (by omega) (by omega)
      rw [show ((2 : Int) ^ 1 - 1) = 1 by decide] at this
      rw [this]; omega
    have hsub : IntKind.u64.wrap ((D : Int) - (r : Int)) = (D : Int) - (r : Int) := wraps_u64 _ (by omega) (by omega)
    have step : ∀ up : Bool, (m = if up = true then n + 1 else n) → (up = true → n = 18446744073709551615 → sgn ng (m : Int) = none) := by
      intro up e hu hn
      rw [if_pos hu] at e
      unfold sgn
      split
      · rw [if_neg (by omega)]
      · rw [if_neg (by omega)]
    have HSt := Lib.hid step
    clear step
    by_cases o1 : D < 2 * r
    · have hm2 : m = n + 1 := by rw [hmr, if_pos (.inl o1)]
      have c1 : decide ((D : Int) - (r : Int) < (r : Int)) = true := by simp; omega
      clear hmr
      by_cases hn : n = 18446744073709551615
      · have hs := HSt.out true (by rw [if_pos rfl]; exact hm2) rfl hn
        rw [hs]
        simp only [Option.getD_none, Option.isSome_none]
        have HMo := Lib.hid (fun W => show Calls Try.prog 106 #[.int .u64 (n : Int), .bool true] W fun e w' => e = .returned (.tuple #[.int .u64 0, .bool false]) ∧ W = w' by have := more_any (n : Int) true W (by omega) (by omega); rw [if_pos rfl, if_pos (by omega)] at this; exact this)
        clear hn hs HSt
        go_enter Try.func69, Try.ntmps69
        go_wp2_with fail
        refine (HP.out _).mono ?_
        rintro e w1 ⟨rfl, hb1⟩
        go_wp2_with fail
        refine (HMo.out _).mono ?_
        rintro e w2 ⟨rfl, rfl⟩
        go_wp2_with fail
        go_ret2
        exact ⟨rfl, hb1⟩
      · have HMo := Lib.hid (fun W => show Calls Try.prog 106 #[.int .u64 (n : Int), .bool true] W fun e w' => e = .returned (.tuple #[.int .u64 (m : Int), .bool true]) ∧ W = w' by have := more_any (n : Int) true W (by omega) (by omega); rw [if_pos rfl, if_neg (by omega)] at this; rw [hm2]; exact this)
        have hmb : m < 18446744073709551616 := by omega
        clear hn HSt hm2
        go_enter Try.func69, Try.ntmps69
        go_wp2_with fail
        refine (HP.out _).mono ?_
        rintro e w1 ⟨rfl, hb1⟩
        go_wp2_with fail
        refine (HMo.out _).mono ?_
        rintro e w2 ⟨rfl, rfl⟩
        go_wp2_with fail
        refine (HU.out _).mono ?_
        rintro e w3 ⟨rfl, rfl⟩
        go_wp2_with fail
        refine (signed_any _ _ _ (by omega) (by omega)).mono ?_
        rintro e w4 ⟨rfl, rfl⟩
        go_wp2_with fail
        go_ret2
        exact ⟨rfl, hb1⟩
    · have c1 : decide ((D : Int) - (r : Int) < (r : Int)) = false := by simp; omega
      by_cases o2 : 2 * r = D
      · have c2 : ((r : Int) == (D : Int) - (r : Int)) = true := by simp; omega
        by_cases o3 : n % 2 = 1
        · have hm2 : m = n + 1 := by rw [hmr, if_pos (.inr ⟨o2, o3⟩)]
          rw [o3] at hand
          clear hmr
          by_cases hn : n = 18446744073709551615
          · have hs := HSt.out true (by rw [if_pos rfl]; exact hm2) rfl hn
            rw [hs]
            simp only [Option.getD_none, Option.isSome_none]
            have HMo := Lib.hid (fun W => show Calls Try.prog 106 #[.int .u64 (n : Int), .bool true] W fun e w' => e = .returned (.tuple #[.int .u64 0, .bool false]) ∧ W = w' by have := more_any (n : Int) true W (by omega) (by omega); rw [if_pos rfl, if_pos (by omega)] at this; exact this)
            clear hn hs HSt
            go_enter Try.func69, Try.ntmps69
            go_wp2_with fail
            refine (HP.out _).mono ?_
            rintro e w1 ⟨rfl, hb1⟩
            go_wp2_with fail
            refine (HMo.out _).mono ?_
            rintro e w2 ⟨rfl, rfl⟩
            go_wp2_with fail
            go_ret2
            exact ⟨rfl, hb1⟩
          · have HMo := Lib.hid (fun W => show Calls Try.prog 106 #[.int .u64 (n : Int), .bool true] W fun e w' => e = .returned (.tuple #[.int .u64 (m : Int), .bool true]) ∧ W = w' by have := more_any (n : Int) true W (by omega) (by omega); rw [if_pos rfl, if_neg (by omega)] at this; rw [hm2]; exact this)
            have hmb : m < 18446744073709551616 := by omega
            clear hn HSt hm2
            go_enter Try.func69, Try.ntmps69
            go_wp2_with fail
            refine (HP.out _).mono ?_
            rintro e w1 ⟨rfl, hb1⟩
            go_wp2_with fail
            refine (HMo.out _).mono ?_
            rintro e w2 ⟨rfl, rfl⟩
            go_wp2_with fail
            refine (HU.out _).mono ?_
            rintro e w3 ⟨rfl, rfl⟩
            go_wp2_with fail
            refine (signed_any _ _ _ (by omega) (by omega)).mono ?_
            rintro e w4 ⟨rfl, rfl⟩
            go_wp2_with fail
            go_ret2
            exact ⟨rfl, hb1⟩
        · have hm2 : m = n := by rw [hmr, if_neg (by omega)]
          have o4 : n % 2 = 0 := by omega
          rw [o4] at hand
          clear hmr
          have HMo := Lib.hid (fun W => show Calls Try.prog 106 #[.int .u64 (n : Int), .bool false] W fun e w' => e = .returned (.tuple #[.int .u64 (m : Int), .bool true]) ∧ W = w' by have := more_any (n : Int) false W (by omega) (by omega); rw [if_neg (by decide)] at this; rw [hm2]; exact this)
          have hmb : m < 18446744073709551616 := by omega
          clear HSt hm2
          go_enter Try.func69, Try.ntmps69
          go_wp2_with fail
          refine (HP.out _).mono ?_
          rintro e w1 ⟨rfl, hb1⟩
          go_wp2_with fail
          refine (HMo.out _).mono ?_
          rintro e w2 ⟨rfl, rfl⟩
          go_wp2_with fail
          refine (HU.out _).mono ?_
          rintro e w3 ⟨rfl, rfl⟩
          go_wp2_with fail
          refine (signed_any _ _ _ (by omega) (by omega)).mono ?_
          rintro e w4 ⟨rfl, rfl⟩
          go_wp2_with fail
          go_ret2
          exact ⟨rfl, hb1⟩
      · have c2 : ((r : Int) == (D : Int) - (r : Int)) = false := by simp; omega
        have hm2 : m = n := by rw [hmr, if_neg (by omega)]
        clear hmr
        have HMo := Lib.hid (fun W => show Calls Try.prog 106 #[.int .u64 (n : Int), .bool false] W fun e w' => e = .returned (.tuple #[.int .u64 (m : Int), .bool true]) ∧ W = w' by have := more_any (n : Int) false W (by omega) (by omega); rw [if_neg (by decide)] at this; rw [hm2]; exact this)
        have hmb : m < 18446744073709551616 := by omega
        clear HSt hm2
        go_enter Try.func69, Try.ntmps69
        go_wp2_with fail
        refine (HP.out _).mono ?_
        rintro e w1 ⟨rfl, hb1⟩
        go_wp2_with fail
        refine (HMo.out _).mono ?_
        rintro e w2 ⟨rfl, rfl⟩
        go_wp2_with fail
        refine (HU.out _).mono ?_
        rintro e w3 ⟨rfl, rfl⟩
        go_wp2_with fail
        refine (signed_any _ _ _ (by omega) (by omega)).mono ?_
        rintro e w4 ⟨rfl, rfl⟩
        go_wp2_with fail
        go_ret2
        exact ⟨rfl, hb1⟩
end Go.Proofs.Ytegpjjkbbdfggaa.mt

/-
  Plain lemmas: the low bits of 64-bit numbers, as div and mod.
-/
namespace Go.Proofs.Ytegpjjkbbdfggaa.nb
set_option linter.unusedVariables false
set_option linter.unusedSimpArgs false

theorem wrap_mod (n : Int) : (IntKind.i64.wrap n) % 18446744073709551616 = n % 18446744073709551616 := by
  rw [IntKind.wrap_i64]; omega

theorem bits_and_one (x : Int) : bits .and .i64 x 1 = x % 2 := by
  show IntKind.i64.wrap ((BitVec.ofInt 64 x &&& BitVec.ofInt 64 1).toNat : Int) = _
  have h1 : (BitVec.ofInt 64 1).toNat = 1 := by decide
  rw [BitVec.toNat_and, h1, Nat.and_one_is_mod, BitVec.toNat_ofInt, IntKind.wrap_i64]
  omega

theorem xor_bit (a b k : Nat) : (a ^^^ b) / 2 ^ k % 2 = (a / 2 ^ k + b / 2 ^ k) % 2 := by
  have h := Nat.testBit_xor a b k
  simp only [Nat.testBit_eq_decide_div_mod_eq] at h
  rcases Nat.mod_two_eq_zero_or_one (a / 2 ^ k) with ha | ha <;> rcases Nat.mod_two_eq_zero_or_one (b / 2 ^ k) with hb | hb <;>
    rcases Nat.mod_two_eq_zero_or_one ((a ^^^ b) / 2 ^ k) with hc | hc <;> simp [ha, hb, hc] at h <;> omega

theorem xor_eq (i j : Int) : ∃ a b : Nat, (a : Int) = i % 18446744073709551616 ∧ (b : Int) = j % 18446744073709551616 ∧
    (bits .xor .i64 i j) % 18446744073709551616 = ((a ^^^ b : Nat) : Int) := by
  refine ⟨(BitVec.ofInt 64 i).toNat, (BitVec.ofInt 64 j).toNat, by rw [BitVec.toNat_ofInt]; omega, by rw [BitVec.toNat_ofInt]; omega, ?_⟩
  show (IntKind.i64.wrap ((BitVec.ofInt 64 i ^^^ BitVec.ofInt 64 j).toNat : Int)) % _ = _
  rw [wrap_mod, BitVec.toNat_xor]
  have : (BitVec.ofInt 64 i).toNat ^^^ (BitVec.ofInt 64 j).toNat < 2 ^ 64 := Nat.xor_lt_two_pow (BitVec.isLt _) (BitVec.isLt _)
  omega

theorem xor_and0 (i j : Int) : bits .and .i64 (bits .xor .i64 i j) 1 = (i + j) % 2 := by
  obtain ⟨a, b, ha, hb, hx⟩ := xor_eq i j
  rw [bits_and_one]
  have := xor_bit a b 0
  simp only [Nat.pow_zero, Nat.div_one] at this
  omega
theorem xor_and1 (i j : Int) : bits .and .i64 (bits .xor .i64 i j / 2) 1 = (i / 2 + j / 2) % 2 := by
  obtain ⟨a, b, ha, hb, hx⟩ := xor_eq i j
  rw [bits_and_one]
  have := xor_bit a b 1
  simp only [Nat.pow_one] at this
  omega
theorem xor_and2 (i j : Int) : bits .and .i64 (bits .xor .i64 i j / 4) 1 = (i / 4 + j / 4) % 2 := by
  obtain ⟨a, b, ha, hb, hx⟩ := xor_eq i j
  rw [bits_and_one]
  have := xor_bit a b 2
  simp only [show (2 : Nat) ^ 2 = 4 from rfl] at this
  omega

end Go.Proofs.Ytegpjjkbbdfggaa.nb

/-
  Of layer 24: near, det, round (for the seat of the images; the text of mat/XFix).
-/
namespace Go.Proofs.Ytegpjjkbbdfggaa.mt
set_option linter.unusedVariables false
set_option linter.unusedSimpArgs false
open Go.RowKit bs
/-- n / p, rounded half to even (h: the half of p) -/
def even (n p h : Int) : Int := if h < n % p ∨ n % p = h ∧ n / p % 2 = 1 then n / p + 1 else n / p
set_option maxRecDepth 100000 in
theorem even_bd (n p h : Int) (hp : 0 < p) : n / p ≤ even n p h ∧ even n p h ≤ n / p + 1 := by unfold even; split <;> omega
set_option maxRecDepth 100000 in
theorem round16 (n : Int) (w : World) (h0 : -4611686018427387904 ≤ n) (h1 : n ≤ 4611686018427387904) : Calls Try.prog 86 #[.int .i64 n, .int .u64 16] w fun e w' => e = .returned (.int .i64 (even n 65536 32768)) ∧ w = w' := by
  have hev : even n 65536 32768 = if 32768 < n % 65536 ∨ n % 65536 = 32768 ∧ n / 65536 % 2 = 1 then n / 65536 + 1 else n / 65536 := rfl
  have hand := nb.bits_and_one (n / 65536)
  obtain ⟨q, hq⟩ : ∃ q, n / 65536 = q := ⟨_, rfl⟩
  obtain ⟨r, hr⟩ : ∃ r, n % 65536 = r := ⟨_, rfl⟩
  have hn : n - q * 65536 = r := by omega
  rw [hq] at hev hand
  rw [hr] at hev
  have q0 : -70368744177664 ≤ q := by omega
  have q1 : q ≤ 70368744177664 := by omega
  generalize even n 65536 32768 = m at *
  have HQ := Lib.hid hr
  clear hr
  by_cases c : 32768 < r
  · rw [if_pos (.inl c)] at hev
    have c1 : decide (32768 < r) = true := by simp; omega
    have HE := Lib.hid hev
    clear hev hand
    rw [HE.out]
    go_enter Try.func86, Try.ntmps86
    go_wp2_with fail
    go_ret
    exact ⟨ret_int (by omega), rfl⟩
  · have c1 : decide (32768 < r) = false := by simp; omega
    by_cases d : r = 32768
    · have c2 : (r == 32768) = true := by simp; omega
      by_cases e : q % 2 = 1
      · rw [if_pos (.inr ⟨d, e⟩)] at hev
        rw [e] at hand
        have HE := Lib.hid hev
        clear hev
        rw [HE.out]
        go_enter Try.func86, Try.ntmps86
        go_wp2_with fail
        go_ret
        exact ⟨ret_int (by omega), rfl⟩
      · rw [if_neg (by omega)] at hev
        rw [show q % 2 = 0 by omega] at hand
        have HE := Lib.hid hev
        clear hev
        rw [HE.out]
        go_enter Try.func86, Try.ntmps86
        go_wp2_with fail
        go_ret
        exact ⟨ret_int (by omega), rfl⟩
    · have c2 : (r == 32768) = false := by simp; omega
      rw [if_neg (by omega)] at hev
      have HE := Lib.hid hev
      clear hev hand
      rw [HE.out]
      go_enter Try.func86, Try.ntmps86
      go_wp2_with fail
      go_ret
      exact ⟨ret_int (by omega), rfl⟩
set_option maxRecDepth 100000 in
theorem round32 (n : Int) (w : World) (h0 : -4611686018427387904 ≤ n) (h1 : n ≤ 4611686018427387904) : Calls Try.prog 86 #[.int .i64 n, .int .u64 32] w fun e w' => e = .returned (.int .i64 (even n 4294967296 2147483648)) ∧ w = w' := by
  have hev : even n 4294967296 2147483648 = if 2147483648 < n % 4294967296 ∨ n % 4294967296 = 2147483648 ∧ n / 4294967296 % 2 = 1 then n / 4294967296 + 1 else n / 4294967296 := rfl
  have hand := nb.bits_and_one (n / 4294967296)
  obtain ⟨q, hq⟩ : ∃ q, n / 4294967296 = q := ⟨_, rfl⟩
  obtain ⟨r, hr⟩ : ∃ r, n % 4294967296 = r := ⟨_, rfl⟩
  have hn : n - q * 4294967296 = r := by omega
  rw [hq] at hev hand
  rw [hr] at hev
  have q0 : -1073741824 ≤ q := by omega
  have q1 : q ≤ 1073741824 := by omega
  generalize even n 4294967296 2147483648 = m at *
  have HQ := Lib.hid hr
  clear hr
  by_cases c : 2147483648 < r
  · rw [if_pos (.inl c)] at hev
    have c1 : decide (2147483648 < r) = true := by simp; omega
    have HE := Lib.hid hev
    clear hev hand
    rw [HE.out]
    go_enter Try.func86, Try.ntmps86
    go_wp2_with fail
    go_ret
    exact ⟨ret_int (by omega), rfl⟩
  · have c1 : decide (2147483648 < r) = false := by simp; omega
    by_cases d : r = 2147483648
    · have c2 : (r == 2147483648) = true := by simp; omega
      by_cases e : q % 2 = 1
      · rw [if_pos (.inr ⟨d, e⟩)] at hev
        rw [e] at hand
        have HE := Lib.hid hev
        clear hev
        rw [HE.out]
        go_enter Try.func86, Try.ntmps86
        go_wp2_with fail
        go_ret
        exact ⟨ret_int (by omega), rfl⟩
      · rw [if_neg (by omega)] at hev
        rw [show q % 2 = 0 by omega] at hand
        have HE := Lib.hid hev
        clear hev
        rw [HE.out]
        go_enter Try.func86, Try.ntmps86
        go_wp2_with fail
        go_ret
        exact ⟨ret_int (by omega), rfl⟩
    · have c2 : (r == 2147483648) = false := by simp; omega
      rw [if_neg (by omega)] at hev
      have HE := Lib.hid hev
      clear hev hand
      rw [HE.out]
      go_enter Try.func86, Try.ntmps86
      go_wp2_with fail
      go_ret
      exact ⟨ret_int (by omega), rfl⟩
/-- are two numbers near 0 -/
def nearB (x y m : Int) : Bool := decide (-m ≤ x) && decide (x ≤ m) && decide (-m ≤ y) && decide (y ≤ m)
/-- a number, if all is well; else 0 -/
def okI (b : Bool) (x : Int) : Int := if b = true then x else 0
/-- what is said of it -/
def okE (b : Bool) : Int := if b = true then 0 else 2
set_option maxRecDepth 100000 in
theorem near_any (x y m : Int) (w : World) (m0 : 0 ≤ m) (m1 : m ≤ 4294967296) : Calls Try.prog 67 #[.int .i64 x, .int .i64 y, .int .i64 m] w fun e w' => e = .returned (.tuple #[.int .i64 (okI (nearB x y m) x), .int .i64 (okI (nearB x y m) y), .int .i64 (okE (nearB x y m))]) ∧ w = w' := by
  by_cases h0 : x < -m
  · have hb : nearB x y m = false := by unfold nearB; simp; omega
    rw [hb]
    have c0 : decide (x < -m) = true := by simp; omega
    go_enter Try.func67, Try.ntmps67
    go_wp2_with fail
    go_ret3
    exact ⟨rfl, rfl⟩
  · have c0 : decide (x < -m) = false := by simp; omega
    by_cases h1 : m < x
    · have hb : nearB x y m = false := by unfold nearB; simp; omega
      rw [hb]
      have c1 : decide (m < x) = true := by simp; omega
      go_enter Try.func67, Try.ntmps67
      go_wp2_with fail
      go_ret3
      exact ⟨rfl, rfl⟩
    · have c1 : decide (m < x) = false := by simp; omega
      by_cases h2 : y < -m
      · have hb : nearB x y m = false := by unfold nearB; simp; omega
        rw [hb]
        have c2 : decide (y < -m) = true := by simp; omega
        go_enter Try.func67, Try.ntmps67
        go_wp2_with fail
        go_ret3
        exact ⟨rfl, rfl⟩
      · have c2 : decide (y < -m) = false := by simp; omega
        by_cases h3 : m < y
        · have hb : nearB x y m = false := by unfold nearB; simp; omega
          rw [hb]
          have c3 : decide (m < y) = true := by simp; omega
          go_enter Try.func67, Try.ntmps67
          go_wp2_with fail
          go_ret3
          exact ⟨rfl, rfl⟩
        · have c3 : decide (m < y) = false := by simp; omega
          have hb : nearB x y m = true := by unfold nearB; simp; omega
          rw [hb]
          go_enter Try.func67, Try.ntmps67
          go_wp2_with fail
          go_ret3
          exact ⟨rfl, rfl⟩
set_option maxRecDepth 100000 in
theorem det_any (A B C D E F : Int) (w : World) (h : mayB A B C D E F = true) : Calls Try.prog 68 #[.agg #[.int .i64 A, .int .i64 B, .int .i64 C, .int .i64 D, .int .i64 E, .int .i64 F]] w fun e w' => e = .returned (.int .i64 (A * D - B * C)) ∧ Below w.heap.size w w' := by
  obtain ⟨a, b, c, d, _, _⟩ := mayB_bd h
  have b1 := fix_mul a d
  have b2 := fix_mul b c
  generalize h1 : A * D = x at *
  generalize h2 : B * C = y at *
  obtain ⟨b10, b11⟩ := b1
  obtain ⟨b20, b21⟩ := b2
  clear a b c d h
  go_enter Try.func68, Try.ntmps68
  go_wp2_with fail
  go_ret
  exact ⟨rfl, by (repeat' (first | exact Below.refl _ _ | exact Below.refl _ _ | refine balloc ?_ _ | refine Below.drew ?_ | refine below_drewN ?_ _ | refine bset ?_ (by first | omega | (simp <;> omega)) _))⟩
end Go.Proofs.Ytegpjjkbbdfggaa.mt

/-
  Layer 24 in the seat of the images: good, held (the text of mat/XMay).
-/
namespace Go.Proofs.Ytegpjjkbbdfggaa.mt
set_option linter.unusedVariables false
set_option linter.unusedSimpArgs false
open Go.RowKit bs
/-- may a matrix and a point be -/
def goodB (A B C D E F x y : Int) : Bool := mayB A B C D E F && fixB x && fixB y
set_option maxRecDepth 100000 in
theorem good_any (A B C D E F x y : Int) (w : World) : Calls Try.prog 88 #[.agg #[.int .i64 A, .int .i64 B, .int .i64 C, .int .i64 D, .int .i64 E, .int .i64 F], .int .i64 x, .int .i64 y] w fun e w' => e = .returned (.bool (goodB A B C D E F x y)) ∧ Below w.heap.size w w' := by
  cases ha : mayB A B C D E F with
  | false =>
    have HA := Lib.hid (fun W => show Calls Try.prog 66 #[.agg #[.int .i64 A, .int .i64 B, .int .i64 C, .int .i64 D, .int .i64 E, .int .i64 F]] W fun e w' => e = .returned (.bool false) ∧ Below W.heap.size W w' by have := may_any A B C D E F W; rw [ha] at this; exact this)
    rw [show goodB A B C D E F x y = false by unfold goodB; rw [ha]; rfl]
    clear ha
    go_enter Try.func88, Try.ntmps88
    go_wp2_with fail
    refine (HA.out _).mono ?_
    rintro e w' ⟨rfl, hb1⟩
    go_wp2_with fail
    go_ret
    exact ⟨rfl, btrans (by (repeat' (first | exact Below.refl _ _ | exact Below.refl _ _ | refine balloc ?_ _ | refine Below.drew ?_ | refine below_drewN ?_ _ | refine bset ?_ (by first | omega | (simp <;> omega)) _))) hb1⟩
  | true =>
    have HA := Lib.hid (fun W => show Calls Try.prog 66 #[.agg #[.int .i64 A, .int .i64 B, .int .i64 C, .int .i64 D, .int .i64 E, .int .i64 F]] W fun e w' => e = .returned (.bool true) ∧ Below W.heap.size W w' by have := may_any A B C D E F W; rw [ha] at this; exact this)
    cases hx : fixB x with
    | false =>
      have HX := Lib.hid (fun W => show Calls Try.prog 83 #[.int .i64 x] W fun e w' => e = .returned (.bool false) ∧ W = w' by have := fix_any x W; rw [hx] at this; exact this)
      rw [show goodB A B C D E F x y = false by unfold goodB; rw [ha, hx]; rfl]
      clear ha hx
      go_enter Try.func88, Try.ntmps88
      go_wp2_with fail
      refine (HA.out _).mono ?_
      rintro e w' ⟨rfl, hb1⟩
      go_wp2_with fail
      refine (HX.out _).mono ?_
      rintro e w' ⟨rfl, rfl⟩
      go_wp2_with fail
      go_ret
      exact ⟨rfl, btrans (by (repeat' (first | exact Below.refl _ _ | exact Below.refl _ _ | refine balloc ?_ _ | refine Below.drew ?_ | refine below_drewN ?_ _ | refine bset ?_ (by first | omega | (simp <;> omega)) _))) hb1⟩
    | true =>
      have HX := Lib.hid (fun W => show Calls Try.prog 83 #[.int .i64 x] W fun e w' => e = .returned (.bool true) ∧ W = w' by have := fix_any x W; rw [hx] at this; exact this)
      cases hy : fixB y with
      | false =>
        have HY := Lib.hid (fun W => show Calls Try.prog 83 #[.int .i64 y] W fun e w' => e = .returned (.bool false) ∧ W = w' by have := fix_any y W; rw [hy] at this; exact this)
        rw [show goodB A B C D E F x y = false by unfold goodB; rw [ha, hx, hy]; rfl]
        clear ha hx hy
        go_enter Try.func88, Try.ntmps88
        go_wp2_with fail
        refine (HA.out _).mono ?_
        rintro e w' ⟨rfl, hb1⟩
        go_wp2_with fail
        refine (HX.out _).mono ?_
        rintro e w' ⟨rfl, rfl⟩
        go_wp2_with fail
        refine (HY.out _).mono ?_
        rintro e w' ⟨rfl, rfl⟩
        go_wp2_with fail
        go_ret
        exact ⟨rfl, btrans (by (repeat' (first | exact Below.refl _ _ | exact Below.refl _ _ | refine balloc ?_ _ | refine Below.drew ?_ | refine below_drewN ?_ _ | refine bset ?_ (by first | omega | (simp <;> omega)) _))) hb1⟩
      | true =>
        have HY := Lib.hid (fun W => show Calls Try.prog 83 #[.int .i64 y] W fun e w' => e = .returned (.bool true) ∧ W = w' by have := fix_any y W; rw [hy] at this; exact this)
        rw [show goodB A B C D E F x y = true by unfold goodB; rw [ha, hx, hy]; rfl]
        clear ha hx hy
        go_enter Try.func88, Try.ntmps88
        go_wp2_with fail
        refine (HA.out _).mono ?_
        rintro e w' ⟨rfl, hb1⟩
        go_wp2_with fail
        refine (HX.out _).mono ?_
        rintro e w' ⟨rfl, rfl⟩
        go_wp2_with fail
        refine (HY.out _).mono ?_
        rintro e w' ⟨rfl, rfl⟩
        go_wp2_with fail
        go_ret
        exact ⟨rfl, btrans (by (repeat' (first | exact Below.refl _ _ | exact Below.refl _ _ | refine balloc ?_ _ | refine Below.drew ?_ | refine below_drewN ?_ _ | refine bset ?_ (by first | omega | (simp <;> omega)) _))) hb1⟩
set_option maxRecDepth 100000 in
set_option maxHeartbeats 400000 in
theorem held_any_false (A B C D E F : Int) (w : World) (h : mayB A B C D E F = false) : Calls Try.prog 87 #[.agg #[.int .i64 A, .int .i64 B, .int .i64 C, .int .i64 D, .int .i64 E, .int .i64 F]] w fun e w' => e = .returned (.tuple #[.agg #[.int .i64 0, .int .i64 0, .int .i64 0, .int .i64 0, .int .i64 0, .int .i64 0], .int .i64 2]) ∧ Below w.heap.size w w' := by
  have HA := Lib.hid (fun W => show Calls Try.prog 66 #[.agg #[.int .i64 A, .int .i64 B, .int .i64 C, .int .i64 D, .int .i64 E, .int .i64 F]] W fun e w' => e = .returned (.bool false) ∧ Below W.heap.size W w' by have := may_any A B C D E F W; rw [h] at this; exact this)
  clear h
  have K1 := (Blk.new w 25 #[.int .i64 A, .int .i64 B, .int .i64 C, .int .i64 D, .int .i64 E, .int .i64 F]).alloc (.cells #[.int .i64 0, .int .i64 0, .int .i64 0, .int .i64 0, .int .i64 0, .int .i64 0] 25)
  have K2 := Blk.new (w.alloc (.cells #[.int .i64 A, .int .i64 B, .int .i64 C, .int .i64 D, .int .i64 E, .int .i64 F] 25)) 25 #[.int .i64 0, .int .i64 0, .int .i64 0, .int .i64 0, .int .i64 0, .int .i64 0]
  have s1 : (w.alloc (.cells #[.int .i64 A, .int .i64 B, .int .i64 C, .int .i64 D, .int .i64 E, .int .i64 F] 25)).heap.size = w.heap.size + 1 := by simp
  rw [s1] at K2
  go_enter Try.func87, Try.ntmps87
  go_wp2_with fail
  refine (HA.out _).mono ?_
  rintro e w1 ⟨rfl, hb1⟩
  replace K1 := K1.below hb1 (by simp; omega)
  replace K2 := K2.below hb1 (by simp)
  have hbw : Below w.heap.size w w1 := btrans (by (repeat' (first | exact Below.refl _ _ | exact Below.refl _ _ | refine balloc ?_ _ | refine Below.drew ?_ | refine below_drewN ?_ _ | refine bset ?_ (by first | omega | (simp <;> omega)) _))) hb1
  have p0 := K1.cell 0
  have q0 := K2.cell 0
  have f0 := K2.frozen 0
  have p1 := K1.cell 1
  have q1 := K2.cell 1
  have f1 := K2.frozen 1
  have p2 := K1.cell 2
  have q2 := K2.cell 2
  have f2 := K2.frozen 2
  have p3 := K1.cell 3
  have q3 := K2.cell 3
  have f3 := K2.frozen 3
  have p4 := K1.cell 4
  have q4 := K2.cell 4
  have f4 := K2.frozen 4
  have p5 := K1.cell 5
  have q5 := K2.cell 5
  have f5 := K2.frozen 5
  simp only [List.getElem?_toArray, List.getElem?_cons_succ, List.getElem?_cons_zero] at p0 q0 p1 q1 p2 q2 p3 q3 p4 q4 p5 q5
  have HK := Lib.hid (K2)
  have HBW := Lib.hid hbw
  clear K1 K2 hb1 hbw s1
  go_wp2_with fail
  have K := (((((HK.out.set_ 0 (.int .i64 0)).set_ 1 (.int .i64 0)).set_ 2 (.int .i64 0)).set_ 3 (.int .i64 0)).set_ 4 (.int .i64 0)).set_ 5 (.int .i64 0)
  refine ret_struct2 (g := w.heap.size + 1) (t := 25) (cs := #[.int .i64 0, .int .i64 0, .int .i64 0, .int .i64 0, .int .i64 0, .int .i64 0]) rfl rfl ?_ Try.underlying25 rfl rfl rfl ?_
  · exact K
  · exact ⟨rfl, by (repeat' (first | refine bset ?_ (by first | omega | (simp <;> omega)) _ | refine balloc ?_ _ | refine Below.drew ?_ | refine below_drewN ?_ _ | exact HBW.out | exact Below.refl _ _))⟩
set_option maxRecDepth 100000 in
set_option maxHeartbeats 400000 in
theorem held_any_true (A B C D E F : Int) (w : World) (h : mayB A B C D E F = true) : Calls Try.prog 87 #[.agg #[.int .i64 A, .int .i64 B, .int .i64 C, .int .i64 D, .int .i64 E, .int .i64 F]] w fun e w' => e = .returned (.tuple #[.agg #[.int .i64 A, .int .i64 B, .int .i64 C, .int .i64 D, .int .i64 E, .int .i64 F], .int .i64 0]) ∧ Below w.heap.size w w' := by
  have HA := Lib.hid (fun W => show Calls Try.prog 66 #[.agg #[.int .i64 A, .int .i64 B, .int .i64 C, .int .i64 D, .int .i64 E, .int .i64 F]] W fun e w' => e = .returned (.bool true) ∧ Below W.heap.size W w' by have := may_any A B C D E F W; rw [h] at this; exact this)
  clear h
  have K1 := (Blk.new w 25 #[.int .i64 A, .int .i64 B, .int .i64 C, .int .i64 D, .int .i64 E, .int .i64 F]).alloc (.cells #[.int .i64 0, .int .i64 0, .int .i64 0, .int .i64 0, .int .i64 0, .int .i64 0] 25)
  have K2 := Blk.new (w.alloc (.cells #[.int .i64 A, .int .i64 B, .int .i64 C, .int .i64 D, .int .i64 E, .int .i64 F] 25)) 25 #[.int .i64 0, .int .i64 0, .int .i64 0, .int .i64 0, .int .i64 0, .int .i64 0]
  have s1 : (w.alloc (.cells #[.int .i64 A, .int .i64 B, .int .i64 C, .int .i64 D, .int .i64 E, .int .i64 F] 25)).heap.size = w.heap.size + 1 := by simp
  rw [s1] at K2
  go_enter Try.func87, Try.ntmps87
  go_wp2_with fail
  refine (HA.out _).mono ?_
  rintro e w1 ⟨rfl, hb1⟩
  replace K1 := K1.below hb1 (by simp; omega)
  replace K2 := K2.below hb1 (by simp)
  have hbw : Below w.heap.size w w1 := btrans (by (repeat' (first | exact Below.refl _ _ | exact Below.refl _ _ | refine balloc ?_ _ | refine Below.drew ?_ | refine below_drewN ?_ _ | refine bset ?_ (by first | omega | (simp <;> omega)) _))) hb1
  have p0 := K1.cell 0
  have q0 := K2.cell 0
  have f0 := K2.frozen 0
  have p1 := K1.cell 1
  have q1 := K2.cell 1
  have f1 := K2.frozen 1
  have p2 := K1.cell 2
  have q2 := K2.cell 2
  have f2 := K2.frozen 2
  have p3 := K1.cell 3
  have q3 := K2.cell 3
  have f3 := K2.frozen 3
  have p4 := K1.cell 4
  have q4 := K2.cell 4
  have f4 := K2.frozen 4
  have p5 := K1.cell 5
  have q5 := K2.cell 5
  have f5 := K2.frozen 5
  simp only [List.getElem?_toArray, List.getElem?_cons_succ, List.getElem?_cons_zero] at p0 q0 p1 q1 p2 q2 p3 q3 p4 q4 p5 q5
  have HK := Lib.hid (K2)
  have HBW := Lib.hid hbw
  clear K1 K2 hb1 hbw s1
  go_wp2_with fail
  have K := (((((HK.out.set_ 0 (.int .i64 A)).set_ 1 (.int .i64 B)).set_ 2 (.int .i64 C)).set_ 3 (.int .i64 D)).set_ 4 (.int .i64 E)).set_ 5 (.int .i64 F)
  refine ret_struct2 (g := w.heap.size + 1) (t := 25) (cs := #[.int .i64 A, .int .i64 B, .int .i64 C, .int .i64 D, .int .i64 E, .int .i64 F]) rfl rfl ?_ Try.underlying25 rfl rfl rfl ?_
  · exact K
  · exact ⟨rfl, by (repeat' (first | refine bset ?_ (by first | omega | (simp <;> omega)) _ | refine balloc ?_ _ | refine Below.drew ?_ | refine below_drewN ?_ _ | exact HBW.out | exact Below.refl _ _))⟩
set_option maxRecDepth 100000 in
theorem held_any (A B C D E F : Int) (w : World) : Calls Try.prog 87 #[.agg #[.int .i64 A, .int .i64 B, .int .i64 C, .int .i64 D, .int .i64 E, .int .i64 F]] w fun e w' => e = .returned (.tuple #[.agg #[.int .i64 (okI (mayB A B C D E F) A), .int .i64 (okI (mayB A B C D E F) B), .int .i64 (okI (mayB A B C D E F) C), .int .i64 (okI (mayB A B C D E F) D), .int .i64 (okI (mayB A B C D E F) E), .int .i64 (okI (mayB A B C D E F) F)], .int .i64 (okE (mayB A B C D E F))]) ∧ Below w.heap.size w w' := by
  cases h : mayB A B C D E F with
  | false => exact held_any_false A B C D E F w h
  | true => exact held_any_true A B C D E F w h
end Go.Proofs.Ytegpjjkbbdfggaa.mt

/-
  Layer 24 in the seat of the images: matrices compared (the text of mat/XEq).
-/
namespace Go.Proofs.Ytegpjjkbbdfggaa.mt
set_option linter.unusedVariables false
set_option linter.unusedSimpArgs false
open Go.RowKit bs
set_option maxRecDepth 100000 in
theorem mat_und : Try.prog.underlying 25 = some (.struct (Try.prog.fieldsOf 25)) := by kernel_rfl
set_option maxRecDepth 100000 in
theorem mat_held : Try.prog.stoodInHeld 25 = false := by kernel_rfl
set_option maxRecDepth 100000 in
theorem mat_guard : Try.prog.eqGuardType Try.prog.depth 25 = false := by kernel_rfl
/-- are two matrices the same -/
def eqB (A B C D E F a b c d e f : Int) : Bool := A == a && (B == b && (C == c && (D == d && (E == e && F == f))))
set_option maxRecDepth 100000 in
theorem eq_mat (A B C D E F a b c d e f : Int) (w : World) : (binOp .eql 25 (.agg #[.int .i64 A, .int .i64 B, .int .i64 C, .int .i64 D, .int .i64 E, .int .i64 F]) (.agg #[.int .i64 a, .int .i64 b, .int .i64 c, .int .i64 d, .int .i64 e, .int .i64 f])).run Try.prog w = .ok (.bool (eqB A B C D E F a b c d e f)) w := by
  rw [run_eql_struct, run_equalIn_agg w 9999 _ _ _ mat_und mat_held]
  have hf : (Try.prog.fieldsOf 25).toList.map (fun f => (f.name, f.type, f.offset)) = [("A", 3, 0), ("B", 3, 1), ("C", 3, 2), ("D", 3, 3), ("E", 3, 4), ("F", 3, 5)] := by kernel_rfl
  generalize (Try.prog.fieldsOf 25).toList = fs at *
  have hp : Try.prog.plainKey 3 = true := by kernel_rfl
  have key : ∀ (fs : List Field) (l : List (Nat × Int × Int)), fs.map (fun f => (f.type, f.offset)) = l.map (fun x => (3, x.1)) → (∀ f ∈ fs, f.name ≠ "_") → ∀ xs ys : Array Value, (∀ x ∈ l, xs[x.1]? = some (.int .i64 x.2.1) ∧ ys[x.1]? = some (.int .i64 x.2.2)) →
      (Op.eqFields 9999 xs ys fs).run Try.prog w = .ok (l.all fun x => x.2.1 == x.2.2) w := by
    intro fs
    induction fs with
    | nil =>
      intro l h _ xs ys _
      cases l with
      | nil => simp [Op.eqFields]
      | cons x l => simp at h
    | cons f fs ih =>
      intro l h hn xs ys hx
      cases l with
      | nil => simp at h
      | cons x l =>
        simp only [List.map_cons, List.cons.injEq, Prod.mk.injEq] at h
        obtain ⟨⟨h1, h2⟩, h3⟩ := h
        obtain ⟨x1, x2⟩ := hx x (by simp)
        have n1 := hn f (by simp)
        simp only [Op.eqFields, ne_eq, n1, not_false_eq_true, if_true, Sem.run_bind]
        rw [h1, h2, run_part_plain w hp x1]
        simp only [Result.andThen_ok]
        rw [run_part_plain w hp x2]
        simp only [Result.andThen_ok]
        rw [run_equalIn_int w 9998 _ .i64 .i64 _ _ Try.underlying3]
        simp only [Result.andThen_ok]
        cases he : (x.2.1 == x.2.2) with
        | false => simp [he]
        | true =>
          simp only [Bool.not_true, Bool.false_eq_true, if_false, List.all_cons, he, Bool.true_and]
          exact ih l h3 (fun g hg => hn g (by simp [hg])) xs ys (fun y hy => hx y (by simp [hy]))
  have := key fs [(0, A, a), (1, B, b), (2, C, c), (3, D, d), (4, E, e), (5, F, f)] (by
      have h2 := congrArg (List.map (fun x : String × Nat × Nat => (x.2.1, x.2.2))) hf
      simp only [List.map_map, Function.comp_def] at h2
      exact h2) (by
      intro g hg hne
      have h2 := congrArg (List.map (fun x : String × Nat × Nat => x.1)) hf
      simp only [List.map_map, Function.comp_def] at h2
      have h3 : g.name ∈ fs.map (fun f => f.name) := List.mem_map.2 ⟨g, hg, rfl⟩
      rw [h2, hne] at h3
      revert h3
      decide) #[.int .i64 A, .int .i64 B, .int .i64 C, .int .i64 D, .int .i64 E, .int .i64 F] #[.int .i64 a, .int .i64 b, .int .i64 c, .int .i64 d, .int .i64 e, .int .i64 f] (by simp)
  rw [this]
  simp [eqB]
set_option maxRecDepth 100000 in
theorem guard_mat (x y : Operand) (xs ys : Array Value) (w : World) : (eqGuard .eql 25 x y (.agg xs) (.agg ys)).run Try.prog w = .ok () w := run_eqGuard_agg w .eql _ x y xs ys mat_guard
set_option maxRecDepth 100000 in
theorem guard_mat_ne (x y : Operand) (xs ys : Array Value) (w : World) : (eqGuard .neq 25 x y (.agg xs) (.agg ys)).run Try.prog w = .ok () w := run_eqGuard_agg w .neq _ x y xs ys mat_guard
set_option maxRecDepth 100000 in
theorem ne_mat (A B C D E F a b c d e f : Int) (w : World) : (binOp .neq 25 (.agg #[.int .i64 A, .int .i64 B, .int .i64 C, .int .i64 D, .int .i64 E, .int .i64 F]) (.agg #[.int .i64 a, .int .i64 b, .int .i64 c, .int .i64 d, .int .i64 e, .int .i64 f])).run Try.prog w = .ok (.bool (!(eqB A B C D E F a b c d e f))) w := by
  have h := eq_mat A B C D E F a b c d e f w
  rw [run_eql_struct] at h
  rw [run_neq_struct]
  cases hr : (Op.equalIn 10000 25 (.agg #[.int .i64 A, .int .i64 B, .int .i64 C, .int .i64 D, .int .i64 E, .int .i64 F]) (.agg #[.int .i64 a, .int .i64 b, .int .i64 c, .int .i64 d, .int .i64 e, .int .i64 f])).run Try.prog w with
  | ok r w2 =>
    rw [hr] at h
    simp only [Result.andThen_ok, Result.ok.injEq, Value.bool.injEq] at h ⊢
    obtain ⟨rfl, rfl⟩ := h
    exact ⟨rfl, rfl⟩
  | halt x w2 => rw [hr] at h; simp [Result.andThen] at h
end Go.Proofs.Ytegpjjkbbdfggaa.mt

/-
  Layer 24 in the seat of the images: One, Mul (the text of mat/XMul).
-/
namespace Go.Proofs.Ytegpjjkbbdfggaa.mt
set_option linter.unusedVariables false
set_option linter.unusedSimpArgs false
open Go.RowKit bs
set_option maxRecDepth 100000 in
set_option maxHeartbeats 800000 in
theorem one_any (w : World) : Calls Try.prog 84 #[] w fun e w' => e = .returned (.agg #[.int .i64 65536, .int .i64 0, .int .i64 0, .int .i64 65536, .int .i64 0, .int .i64 0]) ∧ Below w.heap.size w w' := by
  have K2 := Blk.new w 25 #[.int .i64 0, .int .i64 0, .int .i64 0, .int .i64 0, .int .i64 0, .int .i64 0]
  have q0 := K2.cell 0
  have f0 := K2.frozen 0
  have q1 := K2.cell 1
  have f1 := K2.frozen 1
  have q2 := K2.cell 2
  have f2 := K2.frozen 2
  have q3 := K2.cell 3
  have f3 := K2.frozen 3
  have q4 := K2.cell 4
  have f4 := K2.frozen 4
  have q5 := K2.cell 5
  have f5 := K2.frozen 5
  simp only [List.getElem?_toArray, List.getElem?_cons_succ, List.getElem?_cons_zero] at q0 q1 q2 q3 q4 q5
  have HK := Lib.hid K2
  clear K2
  go_enter Try.func84, Try.ntmps84
  go_wp2_with fail
  refine ret_struct1 (g := w.heap.size) (t := 25) (cs := #[.int .i64 65536, .int .i64 0, .int .i64 0, .int .i64 65536, .int .i64 0, .int .i64 0]) rfl rfl ?_ Try.underlying25 rfl rfl rfl ?_
  · exact Blk.new _ _ _
  · exact ⟨rfl, by (repeat' (first | refine bset ?_ (by first | omega | (simp <;> omega)) _ | refine balloc ?_ _ | refine Below.drew ?_ | refine below_drewN ?_ _ | exact Below.refl _ _ | exact Below.refl _ _))⟩
/-- a b + c d, rounded to a fix -/
def sum16 (a b c d : Int) : Int := even (a * b + c * d) 65536 32768
set_option maxRecDepth 100000 in
theorem sum16_bd {a b c d : Int} (ha : -1073741823 ≤ a ∧ a ≤ 1073741823) (hb : -1073741823 ≤ b ∧ b ≤ 1073741823) (hc : -1073741823 ≤ c ∧ c ≤ 1073741823) (hd : -1073741823 ≤ d ∧ d ≤ 1073741823) : -35184372088832 ≤ sum16 a b c d ∧ sum16 a b c d ≤ 35184372088832 := by
  have h1 := fix_mul ha hb
  have h2 := fix_mul hc hd
  have h3 := even_bd (a * b + c * d) 65536 32768 (by omega)
  unfold sum16
  omega
set_option maxRecDepth 100000 in
set_option maxHeartbeats 800000 in
theorem sum_any (a b c d : Int) (w : World) (ha : -1073741823 ≤ a ∧ a ≤ 1073741823) (hb : -1073741823 ≤ b ∧ b ≤ 1073741823) (hc : -1073741823 ≤ c ∧ c ≤ 1073741823) (hd : -1073741823 ≤ d ∧ d ≤ 1073741823) : Calls Try.prog 85 #[.int .i64 a, .int .i64 b, .int .i64 c, .int .i64 d] w fun e w' => e = .returned (.int .i64 (sum16 a b c d)) ∧ w = w' := by
  have h1 := fix_mul ha hb
  have h2 := fix_mul hc hd
  have HR := Lib.hid (fun W => round16 (a * b + c * d) W (by omega) (by omega))
  unfold sum16
  generalize even (a * b + c * d) 65536 32768 = r at *
  generalize hx : a * b = x at *
  generalize hy : c * d = y at *
  obtain ⟨h10, h11⟩ := h1
  obtain ⟨h20, h21⟩ := h2
  clear ha hb hc hd
  go_enter Try.func85, Try.ntmps85
  go_wp2_with fail
  refine (HR.out _).mono ?_
  rintro e w' ⟨rfl, rfl⟩
  go_wp2_with fail
  go_ret
  exact ⟨rfl, rfl⟩
/-- what is said of a reckoning: 1 if it may not be tried, 2 if its result may not be -/
def erE (g ok : Bool) : Int := if g = true then okE ok else 1
/-- is a product a matrix that may be -/
def mulB (A B C D E F a b c d e f : Int) : Bool := mayB (sum16 A a B c) (sum16 A b B d) (sum16 C a D c) (sum16 C b D d) ((sum16 E a F c) + e) ((sum16 E b F d) + f)
set_option maxRecDepth 100000 in
set_option maxHeartbeats 3200000 in
theorem mul_no1 (A B C D E F a b c d e f : Int) (w : World) (h1 : mayB A B C D E F = false) : Calls Try.prog 44 #[.agg #[.int .i64 A, .int .i64 B, .int .i64 C, .int .i64 D, .int .i64 E, .int .i64 F], .agg #[.int .i64 a, .int .i64 b, .int .i64 c, .int .i64 d, .int .i64 e, .int .i64 f]] w fun ed w' => ed = .returned (.tuple #[.agg #[.int .i64 0, .int .i64 0, .int .i64 0, .int .i64 0, .int .i64 0, .int .i64 0], .int .i64 1]) ∧ Below w.heap.size w w' := by
  have HA := Lib.hid (fun W => show Calls Try.prog 66 #[.agg #[.int .i64 A, .int .i64 B, .int .i64 C, .int .i64 D, .int .i64 E, .int .i64 F]] W fun ed w' => ed = .returned (.bool false) ∧ Below W.heap.size W w' by have := may_any A B C D E F W; rw [h1] at this; exact this)
  have K1 := ((Blk.new w 25 #[.int .i64 A, .int .i64 B, .int .i64 C, .int .i64 D, .int .i64 E, .int .i64 F]).alloc (.cells #[.int .i64 a, .int .i64 b, .int .i64 c, .int .i64 d, .int .i64 e, .int .i64 f] 25)).alloc (.cells #[.int .i64 0, .int .i64 0, .int .i64 0, .int .i64 0, .int .i64 0, .int .i64 0] 25)
  have K2 := (Blk.new (w.alloc (.cells #[.int .i64 A, .int .i64 B, .int .i64 C, .int .i64 D, .int .i64 E, .int .i64 F] 25)) 25 #[.int .i64 a, .int .i64 b, .int .i64 c, .int .i64 d, .int .i64 e, .int .i64 f]).alloc (.cells #[.int .i64 0, .int .i64 0, .int .i64 0, .int .i64 0, .int .i64 0, .int .i64 0] 25)
  have K3 := Blk.new ((w.alloc (.cells #[.int .i64 A, .int .i64 B, .int .i64 C, .int .i64 D, .int .i64 E, .int .i64 F] 25)).alloc (.cells #[.int .i64 a, .int .i64 b, .int .i64 c, .int .i64 d, .int .i64 e, .int .i64 f] 25)) 25 #[.int .i64 0, .int .i64 0, .int .i64 0, .int .i64 0, .int .i64 0, .int .i64 0]
  have s1 : ∀ (u : World) (o : Obj), (u.alloc o).heap.size = u.heap.size + 1 := fun u o => by simp
  simp only [s1] at K2 K3
  clear s1
  go_enter Try.func44, Try.ntmps44
  go_wp2_with fail
  refine (HA.out _).mono ?_
  rintro e_ w1 ⟨rfl, hb1⟩
  replace K1 := K1.below hb1 (by simp; omega)
  replace K2 := K2.below hb1 (by first | (simp; done) | (simp; omega))
  replace K3 := K3.below hb1 (by first | (simp; done) | (simp; omega))
  have hbw : Below w.heap.size w w1 := btrans (by (repeat' (first | exact Below.refl _ _ | exact Below.refl _ _ | refine balloc ?_ _ | refine Below.drew ?_ | refine below_drewN ?_ _ | refine bset ?_ (by first | omega | (simp <;> omega)) _))) hb1
  have p0 := K1.cell 0
  have p1 := K1.cell 1
  have p2 := K1.cell 2
  have p3 := K1.cell 3
  have p4 := K1.cell 4
  have p5 := K1.cell 5
  have q0 := K2.cell 0
  have q1 := K2.cell 1
  have q2 := K2.cell 2
  have q3 := K2.cell 3
  have q4 := K2.cell 4
  have q5 := K2.cell 5
  have r0 := K3.cell 0
  have r1 := K3.cell 1
  have r2 := K3.cell 2
  have r3 := K3.cell 3
  have r4 := K3.cell 4
  have r5 := K3.cell 5
  have zr0 := K3.frozen 0
  have zr1 := K3.frozen 1
  have zr2 := K3.frozen 2
  have zr3 := K3.frozen 3
  have zr4 := K3.frozen 4
  have zr5 := K3.frozen 5
  simp only [List.getElem?_toArray, List.getElem?_cons_succ, List.getElem?_cons_zero] at p0 p1 p2 p3 p4 p5 q0 q1 q2 q3 q4 q5 r0 r1 r2 r3 r4 r5
  have HK := Lib.hid K3
  have HBW := Lib.hid hbw
  clear K1 K2 K3 hb1 hbw
  go_wp2_with fail
  have K := (((((HK.out.set_ 0 (.int .i64 0)).set_ 1 (.int .i64 0)).set_ 2 (.int .i64 0)).set_ 3 (.int .i64 0)).set_ 4 (.int .i64 0)).set_ 5 (.int .i64 0)
  refine ret_struct2 (g := w.heap.size + 2) (t := 25) (cs := #[.int .i64 0, .int .i64 0, .int .i64 0, .int .i64 0, .int .i64 0, .int .i64 0]) rfl rfl ?_ Try.underlying25 rfl rfl rfl ?_
  · exact K
  · exact ⟨rfl, by (repeat' (first | refine bset ?_ (by first | omega | (simp <;> omega)) _ | refine balloc ?_ _ | refine Below.drew ?_ | refine below_drewN ?_ _ | exact HBW.out | exact Below.refl _ _))⟩
set_option maxRecDepth 100000 in
set_option maxHeartbeats 3200000 in
theorem mul_no2 (A B C D E F a b c d e f : Int) (w : World) (h1 : mayB A B C D E F = true) (h2 : mayB a b c d e f = false) : Calls Try.prog 44 #[.agg #[.int .i64 A, .int .i64 B, .int .i64 C, .int .i64 D, .int .i64 E, .int .i64 F], .agg #[.int .i64 a, .int .i64 b, .int .i64 c, .int .i64 d, .int .i64 e, .int .i64 f]] w fun ed w' => ed = .returned (.tuple #[.agg #[.int .i64 0, .int .i64 0, .int .i64 0, .int .i64 0, .int .i64 0, .int .i64 0], .int .i64 1]) ∧ Below w.heap.size w w' := by
  have HA := Lib.hid (fun W => show Calls Try.prog 66 #[.agg #[.int .i64 A, .int .i64 B, .int .i64 C, .int .i64 D, .int .i64 E, .int .i64 F]] W fun ed w' => ed = .returned (.bool true) ∧ Below W.heap.size W w' by have := may_any A B C D E F W; rw [h1] at this; exact this)
  have HB := Lib.hid (fun W => show Calls Try.prog 66 #[.agg #[.int .i64 a, .int .i64 b, .int .i64 c, .int .i64 d, .int .i64 e, .int .i64 f]] W fun ed w' => ed = .returned (.bool false) ∧ Below W.heap.size W w' by have := may_any a b c d e f W; rw [h2] at this; exact this)
  have K1 := ((Blk.new w 25 #[.int .i64 A, .int .i64 B, .int .i64 C, .int .i64 D, .int .i64 E, .int .i64 F]).alloc (.cells #[.int .i64 a, .int .i64 b, .int .i64 c, .int .i64 d, .int .i64 e, .int .i64 f] 25)).alloc (.cells #[.int .i64 0, .int .i64 0, .int .i64 0, .int .i64 0, .int .i64 0, .int .i64 0] 25)
  have K2 := (Blk.new (w.alloc (.cells #[.int .i64 A, .int .i64 B, .int .i64 C, .int .i64 D, .int .i64 E, .int .i64 F] 25)) 25 #[.int .i64 a, .int .i64 b, .int .i64 c, .int .i64 d, .int .i64 e, .int .i64 f]).alloc (.cells #[.int .i64 0, .int .i64 0, .int .i64 0, .int .i64 0, .int .i64 0, .int .i64 0] 25)
  have K3 := Blk.new ((w.alloc (.cells #[.int .i64 A, .int .i64 B, .int .i64 C, .int .i64 D, .int .i64 E, .int .i64 F] 25)).alloc (.cells #[.int .i64 a, .int .i64 b, .int .i64 c, .int .i64 d, .int .i64 e, .int .i64 f] 25)) 25 #[.int .i64 0, .int .i64 0, .int .i64 0, .int .i64 0, .int .i64 0, .int .i64 0]
  have s1 : ∀ (u : World) (o : Obj), (u.alloc o).heap.size = u.heap.size + 1 := fun u o => by simp
  simp only [s1] at K2 K3
  clear s1
  go_enter Try.func44, Try.ntmps44
  go_wp2_with fail
  refine (HA.out _).mono ?_
  rintro e_ w1 ⟨rfl, hb1⟩
  replace K1 := K1.below hb1 (by simp; omega)
  replace K2 := K2.below hb1 (by first | (simp; done) | (simp; omega))
  replace K3 := K3.below hb1 (by first | (simp; done) | (simp; omega))
  have hbw : Below w.heap.size w w1 := btrans (by (repeat' (first | exact Below.refl _ _ | exact Below.refl _ _ | refine balloc ?_ _ | refine Below.drew ?_ | refine below_drewN ?_ _ | refine bset ?_ (by first | omega | (simp <;> omega)) _))) hb1
  have p0 := K1.cell 0
  have p1 := K1.cell 1
  have p2 := K1.cell 2
  have p3 := K1.cell 3
  have p4 := K1.cell 4
  have p5 := K1.cell 5
  have q0 := K2.cell 0
  have q1 := K2.cell 1
  have q2 := K2.cell 2
  have q3 := K2.cell 3
  have q4 := K2.cell 4
  have q5 := K2.cell 5
  have r0 := K3.cell 0
  have r1 := K3.cell 1
  have r2 := K3.cell 2
  have r3 := K3.cell 3
  have r4 := K3.cell 4
  have r5 := K3.cell 5
  have zr0 := K3.frozen 0
  have zr1 := K3.frozen 1
  have zr2 := K3.frozen 2
  have zr3 := K3.frozen 3
  have zr4 := K3.frozen 4
  have zr5 := K3.frozen 5
  simp only [List.getElem?_toArray, List.getElem?_cons_succ, List.getElem?_cons_zero] at p0 p1 p2 p3 p4 p5 q0 q1 q2 q3 q4 q5 r0 r1 r2 r3 r4 r5
  have l1 := K1.lt
  have l2 := K2.lt
  have l3 := K3.lt
  clear hb1
  go_wp2_with fail
  refine (HB.out _).mono ?_
  rintro e_ w2 ⟨rfl, hb1⟩
  replace K1 := K1.below hb1 l1
  replace K2 := K2.below hb1 l2
  replace K3 := K3.below hb1 l3
  replace hbw := btrans hbw hb1
  clear p0 p1 p2 p3 p4 p5 q0 q1 q2 q3 q4 q5 r0 r1 r2 r3 r4 r5 zr0 zr1 zr2 zr3 zr4 zr5 l1 l2 l3
  have p0 := K1.cell 0
  have p1 := K1.cell 1
  have p2 := K1.cell 2
  have p3 := K1.cell 3
  have p4 := K1.cell 4
  have p5 := K1.cell 5
  have q0 := K2.cell 0
  have q1 := K2.cell 1
  have q2 := K2.cell 2
  have q3 := K2.cell 3
  have q4 := K2.cell 4
  have q5 := K2.cell 5
  have r0 := K3.cell 0
  have r1 := K3.cell 1
  have r2 := K3.cell 2
  have r3 := K3.cell 3
  have r4 := K3.cell 4
  have r5 := K3.cell 5
  have zr0 := K3.frozen 0
  have zr1 := K3.frozen 1
  have zr2 := K3.frozen 2
  have zr3 := K3.frozen 3
  have zr4 := K3.frozen 4
  have zr5 := K3.frozen 5
  simp only [List.getElem?_toArray, List.getElem?_cons_succ, List.getElem?_cons_zero] at p0 p1 p2 p3 p4 p5 q0 q1 q2 q3 q4 q5 r0 r1 r2 r3 r4 r5
  have HK := Lib.hid K3
  have HBW := Lib.hid hbw
  clear K1 K2 K3 hb1 hbw
  go_wp2_with fail
  have K := (((((HK.out.set_ 0 (.int .i64 0)).set_ 1 (.int .i64 0)).set_ 2 (.int .i64 0)).set_ 3 (.int .i64 0)).set_ 4 (.int .i64 0)).set_ 5 (.int .i64 0)
  refine ret_struct2 (g := w.heap.size + 2) (t := 25) (cs := #[.int .i64 0, .int .i64 0, .int .i64 0, .int .i64 0, .int .i64 0, .int .i64 0]) rfl rfl ?_ Try.underlying25 rfl rfl rfl ?_
  · exact K
  · exact ⟨rfl, by (repeat' (first | refine bset ?_ (by first | omega | (simp <;> omega)) _ | refine balloc ?_ _ | refine Below.drew ?_ | refine below_drewN ?_ _ | exact HBW.out | exact Below.refl _ _))⟩
end Go.Proofs.Ytegpjjkbbdfggaa.mt

/-
  Layer 24 in the seat of the images: Mul (the text of mat/XMulY).
-/
namespace Go.Proofs.Ytegpjjkbbdfggaa.mt
set_option linter.unusedVariables false
set_option linter.unusedSimpArgs false
open Go.RowKit bs
set_option maxRecDepth 100000 in
set_option maxHeartbeats 3200000 in
theorem mul_yes (A B C D E F a b c d e f : Int) (w : World) (h1 : mayB A B C D E F = true) (h2 : mayB a b c d e f = true) (n1 : eqB A B C D E F 65536 0 0 65536 0 0 = false) (n2 : eqB a b c d e f 65536 0 0 65536 0 0 = false) : Calls Try.prog 44 #[.agg #[.int .i64 A, .int .i64 B, .int .i64 C, .int .i64 D, .int .i64 E, .int .i64 F], .agg #[.int .i64 a, .int .i64 b, .int .i64 c, .int .i64 d, .int .i64 e, .int .i64 f]] w fun ed w' => ed = .returned (.tuple #[.agg #[.int .i64 (okI (mulB A B C D E F a b c d e f) (sum16 A a B c)), .int .i64 (okI (mulB A B C D E F a b c d e f) (sum16 A b B d)), .int .i64 (okI (mulB A B C D E F a b c d e f) (sum16 C a D c)), .int .i64 (okI (mulB A B C D E F a b c d e f) (sum16 C b D d)), .int .i64 (okI (mulB A B C D E F a b c d e f) ((sum16 E a F c) + e)), .int .i64 (okI (mulB A B C D E F a b c d e f) ((sum16 E b F d) + f))], .int .i64 (okE (mulB A B C D E F a b c d e f))]) ∧ Below w.heap.size w w' := by
  obtain ⟨bA, bB, bC, bD, bE, bF⟩ := mayB_bd h1
  obtain ⟨ba, bb, bc, bd, be, bf⟩ := mayB_bd h2
  have HA := Lib.hid (fun W => show Calls Try.prog 66 #[.agg #[.int .i64 A, .int .i64 B, .int .i64 C, .int .i64 D, .int .i64 E, .int .i64 F]] W fun ed w' => ed = .returned (.bool true) ∧ Below W.heap.size W w' by have := may_any A B C D E F W; rw [h1] at this; exact this)
  have HB := Lib.hid (fun W => show Calls Try.prog 66 #[.agg #[.int .i64 a, .int .i64 b, .int .i64 c, .int .i64 d, .int .i64 e, .int .i64 f]] W fun ed w' => ed = .returned (.bool true) ∧ Below W.heap.size W w' by have := may_any a b c d e f W; rw [h2] at this; exact this)
  have S0 := fun W => sum_any A a B c W bA ba bB bc
  have B0 := sum16_bd bA ba bB bc
  have S1 := fun W => sum_any A b B d W bA bb bB bd
  have B1 := sum16_bd bA bb bB bd
  have S2 := fun W => sum_any C a D c W bC ba bD bc
  have B2 := sum16_bd bC ba bD bc
  have S3 := fun W => sum_any C b D d W bC bb bD bd
  have B3 := sum16_bd bC bb bD bd
  have S4 := fun W => sum_any E a F c W bE ba bF bc
  have B4 := sum16_bd bE ba bF bc
  have S5 := fun W => sum_any E b F d W bE bb bF bd
  have B5 := sum16_bd bE bb bF bd
  have hok : mulB A B C D E F a b c d e f = mayB (sum16 A a B c) (sum16 A b B d) (sum16 C a D c) (sum16 C b D d) ((sum16 E a F c) + e) ((sum16 E b F d) + f) := rfl
  generalize mulB A B C D E F a b c d e f = ok at *
  generalize sum16 A a B c = v0 at *
  generalize sum16 A b B d = v1 at *
  generalize sum16 C a D c = v2 at *
  generalize sum16 C b D d = v3 at *
  generalize sum16 E a F c = v4 at *
  generalize sum16 E b F d = v5 at *
  have HH := Lib.hid (fun W => show Calls Try.prog 87 #[.agg #[.int .i64 v0, .int .i64 v1, .int .i64 v2, .int .i64 v3, .int .i64 (v4 + e), .int .i64 (v5 + f)]] W fun ed w' => ed = .returned (.tuple #[.agg #[.int .i64 (okI ok v0), .int .i64 (okI ok v1), .int .i64 (okI ok v2), .int .i64 (okI ok v3), .int .i64 (okI ok (v4 + e)), .int .i64 (okI ok (v5 + f))], .int .i64 (okE ok)]) ∧ Below W.heap.size W w' by have := held_any v0 v1 v2 v3 (v4 + e) (v5 + f) W; rw [← hok] at this; exact this)
  have HS0 := Lib.hid S0
  have HS1 := Lib.hid S1
  have HS2 := Lib.hid S2
  have HS3 := Lib.hid S3
  have HS4 := Lib.hid S4
  have HS5 := Lib.hid S5
  clear h1 h2 hok S0 S1 S2 S3 S4 S5
  obtain ⟨bE0, bE1⟩ := be
  obtain ⟨bF0, bF1⟩ := bf
  obtain ⟨B00, B01⟩ := B0
  obtain ⟨B10, B11⟩ := B1
  obtain ⟨B20, B21⟩ := B2
  obtain ⟨B30, B31⟩ := B3
  obtain ⟨B40, B41⟩ := B4
  obtain ⟨B50, B51⟩ := B5
  clear bA bB bC bD bE bF ba bb bc bd
  have K1 := ((Blk.new w 25 #[.int .i64 A, .int .i64 B, .int .i64 C, .int .i64 D, .int .i64 E, .int .i64 F]).alloc (.cells #[.int .i64 a, .int .i64 b, .int .i64 c, .int .i64 d, .int .i64 e, .int .i64 f] 25)).alloc (.cells #[.int .i64 0, .int .i64 0, .int .i64 0, .int .i64 0, .int .i64 0, .int .i64 0] 25)
  have K2 := (Blk.new (w.alloc (.cells #[.int .i64 A, .int .i64 B, .int .i64 C, .int .i64 D, .int .i64 E, .int .i64 F] 25)) 25 #[.int .i64 a, .int .i64 b, .int .i64 c, .int .i64 d, .int .i64 e, .int .i64 f]).alloc (.cells #[.int .i64 0, .int .i64 0, .int .i64 0, .int .i64 0, .int .i64 0, .int .i64 0] 25)
  have K3 := Blk.new ((w.alloc (.cells #[.int .i64 A, .int .i64 B, .int .i64 C, .int .i64 D, .int .i64 E, .int .i64 F] 25)).alloc (.cells #[.int .i64 a, .int .i64 b, .int .i64 c, .int .i64 d, .int .i64 e, .int .i64 f] 25)) 25 #[.int .i64 0, .int .i64 0, .int .i64 0, .int .i64 0, .int .i64 0, .int .i64 0]
  have s1 : ∀ (u : World) (o : Obj), (u.alloc o).heap.size = u.heap.size + 1 := fun u o => by simp
  simp only [s1] at K2 K3
  clear s1
  go_enter Try.func44, Try.ntmps44
  go_wp2_with fail
  refine (HA.out _).mono ?_
  rintro e_ w1 ⟨rfl, hb1⟩
  replace K1 := K1.below hb1 (by simp; omega)
  replace K2 := K2.below hb1 (by first | (simp; done) | (simp; omega))
  replace K3 := K3.below hb1 (by first | (simp; done) | (simp; omega))
  have hbw : Below w.heap.size w w1 := btrans (by (repeat' (first | exact Below.refl _ _ | exact Below.refl _ _ | refine balloc ?_ _ | refine Below.drew ?_ | refine below_drewN ?_ _ | refine bset ?_ (by first | omega | (simp <;> omega)) _))) hb1
  have p0 := K1.cell 0
  have p1 := K1.cell 1
  have p2 := K1.cell 2
  have p3 := K1.cell 3
  have p4 := K1.cell 4
  have p5 := K1.cell 5
  have q0 := K2.cell 0
  have q1 := K2.cell 1
  have q2 := K2.cell 2
  have q3 := K2.cell 3
  have q4 := K2.cell 4
  have q5 := K2.cell 5
  have r0 := K3.cell 0
  have r1 := K3.cell 1
  have r2 := K3.cell 2
  have r3 := K3.cell 3
  have r4 := K3.cell 4
  have r5 := K3.cell 5
  have zr0 := K3.frozen 0
  have zr1 := K3.frozen 1
  have zr2 := K3.frozen 2
  have zr3 := K3.frozen 3
  have zr4 := K3.frozen 4
  have zr5 := K3.frozen 5
  simp only [List.getElem?_toArray, List.getElem?_cons_succ, List.getElem?_cons_zero] at p0 p1 p2 p3 p4 p5 q0 q1 q2 q3 q4 q5 r0 r1 r2 r3 r4 r5
  have l1 := K1.lt
  have l2 := K2.lt
  have l3 := K3.lt
  clear hb1
  go_wp2_with fail
  refine (HB.out _).mono ?_
  rintro e_ w2 ⟨rfl, hb1⟩
  replace K1 := K1.below hb1 l1
  replace K2 := K2.below hb1 l2
  replace K3 := K3.below hb1 l3
  replace hbw := btrans hbw hb1
  clear p0 p1 p2 p3 p4 p5 q0 q1 q2 q3 q4 q5 r0 r1 r2 r3 r4 r5 zr0 zr1 zr2 zr3 zr4 zr5 l1 l2 l3
  have p0 := K1.cell 0
  have p1 := K1.cell 1
  have p2 := K1.cell 2
  have p3 := K1.cell 3
  have p4 := K1.cell 4
  have p5 := K1.cell 5
  have q0 := K2.cell 0
  have q1 := K2.cell 1
  have q2 := K2.cell 2
  have q3 := K2.cell 3
  have q4 := K2.cell 4
  have q5 := K2.cell 5
  have r0 := K3.cell 0
  have r1 := K3.cell 1
  have r2 := K3.cell 2
  have r3 := K3.cell 3
  have r4 := K3.cell 4
  have r5 := K3.cell 5
  have zr0 := K3.frozen 0
  have zr1 := K3.frozen 1
  have zr2 := K3.frozen 2
  have zr3 := K3.frozen 3
  have zr4 := K3.frozen 4
  have zr5 := K3.frozen 5
  simp only [List.getElem?_toArray, List.getElem?_cons_succ, List.getElem?_cons_zero] at p0 p1 p2 p3 p4 p5 q0 q1 q2 q3 q4 q5 r0 r1 r2 r3 r4 r5
  have l1 := K1.lt
  have l2 := K2.lt
  have l3 := K3.lt
  have u0 : ∀ u : Up w2, u.val.cell? ⟨w.heap.size, 0, none⟩ = some (.int .i64 A) := fun u => (u.cell l1).trans p0
  have u1 : ∀ u : Up w2, u.val.cell? ⟨w.heap.size, 1, none⟩ = some (.int .i64 B) := fun u => (u.cell l1).trans p1
  have u2 : ∀ u : Up w2, u.val.cell? ⟨w.heap.size, 2, none⟩ = some (.int .i64 C) := fun u => (u.cell l1).trans p2
  have u3 : ∀ u : Up w2, u.val.cell? ⟨w.heap.size, 3, none⟩ = some (.int .i64 D) := fun u => (u.cell l1).trans p3
  have u4 : ∀ u : Up w2, u.val.cell? ⟨w.heap.size, 4, none⟩ = some (.int .i64 E) := fun u => (u.cell l1).trans p4
  have u5 : ∀ u : Up w2, u.val.cell? ⟨w.heap.size, 5, none⟩ = some (.int .i64 F) := fun u => (u.cell l1).trans p5
  clear hb1
  have JG := guard_mat
  have JE : ∀ w, (binOp .eql 25 (.agg #[.int .i64 A, .int .i64 B, .int .i64 C, .int .i64 D, .int .i64 E, .int .i64 F]) (.agg #[.int .i64 65536, .int .i64 0, .int .i64 0, .int .i64 65536, .int .i64 0, .int .i64 0])).run Try.prog w = .ok (.bool false) w := fun w => by
    have := eq_mat A B C D E F 65536 0 0 65536 0 0 w
    rw [n1] at this
    exact this
  have HU := Lib.hid (fun u : Up w2 => up_of (u := u) (one_any u.val))
  go_wp2_with fail
  (refine wp_region_up (by kernel_rfl) (by kernel_rfl) ?_; (repeat (go_big_quiet_step (exact HU.out _))); refine wpQuiet_nil ?_; rintro _ ⟨uq, rfl⟩)
  replace K1 := K1.below uq.ok l1
  replace K2 := K2.below uq.ok l2
  replace K3 := K3.below uq.ok l3
  replace hbw := btrans hbw uq.ok
  generalize hwx : uq.val = w3 at *
  clear hwx uq HU JG JE p0 p1 p2 p3 p4 p5 q0 q1 q2 q3 q4 q5 r0 r1 r2 r3 r4 r5 zr0 zr1 zr2 zr3 zr4 zr5 u0 u1 u2 u3 u4 u5 l1 l2 l3
  have p0 := K1.cell 0
  have p1 := K1.cell 1
  have p2 := K1.cell 2
  have p3 := K1.cell 3
  have p4 := K1.cell 4
  have p5 := K1.cell 5
  have q0 := K2.cell 0
  have q1 := K2.cell 1
  have q2 := K2.cell 2
  have q3 := K2.cell 3
  have q4 := K2.cell 4
  have q5 := K2.cell 5
  have r0 := K3.cell 0
  have r1 := K3.cell 1
  have r2 := K3.cell 2
  have r3 := K3.cell 3
  have r4 := K3.cell 4
  have r5 := K3.cell 5
  have zr0 := K3.frozen 0
  have zr1 := K3.frozen 1
  have zr2 := K3.frozen 2
  have zr3 := K3.frozen 3
  have zr4 := K3.frozen 4
  have zr5 := K3.frozen 5
  simp only [List.getElem?_toArray, List.getElem?_cons_succ, List.getElem?_cons_zero] at p0 p1 p2 p3 p4 p5 q0 q1 q2 q3 q4 q5 r0 r1 r2 r3 r4 r5
  have l1 := K1.lt
  have l2 := K2.lt
  have l3 := K3.lt
  have u0 : ∀ u : Up w3, u.val.cell? ⟨w.heap.size + 1, 0, none⟩ = some (.int .i64 a) := fun u => (u.cell l2).trans q0
  have u1 : ∀ u : Up w3, u.val.cell? ⟨w.heap.size + 1, 1, none⟩ = some (.int .i64 b) := fun u => (u.cell l2).trans q1
  have u2 : ∀ u : Up w3, u.val.cell? ⟨w.heap.size + 1, 2, none⟩ = some (.int .i64 c) := fun u => (u.cell l2).trans q2
  have u3 : ∀ u : Up w3, u.val.cell? ⟨w.heap.size + 1, 3, none⟩ = some (.int .i64 d) := fun u => (u.cell l2).trans q3
  have u4 : ∀ u : Up w3, u.val.cell? ⟨w.heap.size + 1, 4, none⟩ = some (.int .i64 e) := fun u => (u.cell l2).trans q4
  have u5 : ∀ u : Up w3, u.val.cell? ⟨w.heap.size + 1, 5, none⟩ = some (.int .i64 f) := fun u => (u.cell l2).trans q5
  have JG := guard_mat
  have JE : ∀ w, (binOp .eql 25 (.agg #[.int .i64 a, .int .i64 b, .int .i64 c, .int .i64 d, .int .i64 e, .int .i64 f]) (.agg #[.int .i64 65536, .int .i64 0, .int .i64 0, .int .i64 65536, .int .i64 0, .int .i64 0])).run Try.prog w = .ok (.bool false) w := fun w => by
    have := eq_mat a b c d e f 65536 0 0 65536 0 0 w
    rw [n2] at this
    exact this
  have HU := Lib.hid (fun u : Up w3 => up_of (u := u) (one_any u.val))
  go_wp2_with fail
  (refine wp_region_up (by kernel_rfl) (by kernel_rfl) ?_; (repeat (go_big_quiet_step (exact HU.out _))); refine wpQuiet_nil ?_; rintro _ ⟨uq, rfl⟩)
  replace K1 := K1.below uq.ok l1
  replace K2 := K2.below uq.ok l2
  replace K3 := K3.below uq.ok l3
  replace hbw := btrans hbw uq.ok
  generalize hwx : uq.val = w4 at *
  clear hwx uq HU JG JE p0 p1 p2 p3 p4 p5 q0 q1 q2 q3 q4 q5 r0 r1 r2 r3 r4 r5 zr0 zr1 zr2 zr3 zr4 zr5 u0 u1 u2 u3 u4 u5 l1 l2 l3
  have p0 := K1.cell 0
  have p1 := K1.cell 1
  have p2 := K1.cell 2
  have p3 := K1.cell 3
  have p4 := K1.cell 4
  have p5 := K1.cell 5
  have q0 := K2.cell 0
  have q1 := K2.cell 1
  have q2 := K2.cell 2
  have q3 := K2.cell 3
  have q4 := K2.cell 4
  have q5 := K2.cell 5
  have r0 := K3.cell 0
  have r1 := K3.cell 1
  have r2 := K3.cell 2
  have r3 := K3.cell 3
  have r4 := K3.cell 4
  have r5 := K3.cell 5
  have zr0 := K3.frozen 0
  have zr1 := K3.frozen 1
  have zr2 := K3.frozen 2
  have zr3 := K3.frozen 3
  have zr4 := K3.frozen 4
  have zr5 := K3.frozen 5
  simp only [List.getElem?_toArray, List.getElem?_cons_succ, List.getElem?_cons_zero] at p0 p1 p2 p3 p4 p5 q0 q1 q2 q3 q4 q5 r0 r1 r2 r3 r4 r5
  have l1 := K1.lt
  have l2 := K2.lt
  have l3 := K3.lt
  go_wp2_with fail
  have xp0 : ∀ u : Up w4, u.val.cell? ⟨w.heap.size, 0, none⟩ = some (.int .i64 A) := fun u => (u.cell l1).trans p0
  have xp1 : ∀ u : Up w4, u.val.cell? ⟨w.heap.size, 1, none⟩ = some (.int .i64 B) := fun u => (u.cell l1).trans p1
  have xp2 : ∀ u : Up w4, u.val.cell? ⟨w.heap.size, 2, none⟩ = some (.int .i64 C) := fun u => (u.cell l1).trans p2
  have xp3 : ∀ u : Up w4, u.val.cell? ⟨w.heap.size, 3, none⟩ = some (.int .i64 D) := fun u => (u.cell l1).trans p3
  have xp4 : ∀ u : Up w4, u.val.cell? ⟨w.heap.size, 4, none⟩ = some (.int .i64 E) := fun u => (u.cell l1).trans p4
  have xp5 : ∀ u : Up w4, u.val.cell? ⟨w.heap.size, 5, none⟩ = some (.int .i64 F) := fun u => (u.cell l1).trans p5
  have xq0 : ∀ u : Up w4, u.val.cell? ⟨w.heap.size + 1, 0, none⟩ = some (.int .i64 a) := fun u => (u.cell l2).trans q0
  have xq1 : ∀ u : Up w4, u.val.cell? ⟨w.heap.size + 1, 1, none⟩ = some (.int .i64 b) := fun u => (u.cell l2).trans q1
  have xq2 : ∀ u : Up w4, u.val.cell? ⟨w.heap.size + 1, 2, none⟩ = some (.int .i64 c) := fun u => (u.cell l2).trans q2
  have xq3 : ∀ u : Up w4, u.val.cell? ⟨w.heap.size + 1, 3, none⟩ = some (.int .i64 d) := fun u => (u.cell l2).trans q3
  have xq4 : ∀ u : Up w4, u.val.cell? ⟨w.heap.size + 1, 4, none⟩ = some (.int .i64 e) := fun u => (u.cell l2).trans q4
  have xq5 : ∀ u : Up w4, u.val.cell? ⟨w.heap.size + 1, 5, none⟩ = some (.int .i64 f) := fun u => (u.cell l2).trans q5
  have HU0 := Lib.hid (fun u : Up w4 => up_same (u := u) (HS0.out u.val))
  have HU1 := Lib.hid (fun u : Up w4 => up_same (u := u) (HS1.out u.val))
  have HU2 := Lib.hid (fun u : Up w4 => up_same (u := u) (HS2.out u.val))
  have HU3 := Lib.hid (fun u : Up w4 => up_same (u := u) (HS3.out u.val))
  have HU4 := Lib.hid (fun u : Up w4 => up_same (u := u) (HS4.out u.val))
  have HU5 := Lib.hid (fun u : Up w4 => up_same (u := u) (HS5.out u.val))
  have HUH := Lib.hid (fun u : Up w4 => up_of (u := u) (HH.out u.val))
  clear HH HS0 HS1 HS2 HS3 HS4 HS5 p0 p1 p2 p3 p4 p5 q0 q1 q2 q3 q4 q5 r0 r1 r2 r3 r4 r5 zr0 zr1 zr2 zr3 zr4 zr5
  simp only [List.append]
  refine wp_region_up_tail 70 (by kernel_rfl) (by kernel_rfl) ?_
  simp only [List.take_succ_cons, List.take_zero, List.drop_succ_cons, List.drop_zero]
  repeat (go_big_quiet_step (fail))
  go_big_quiet_step (exact HU0.out _)
  repeat (go_big_quiet_step (fail))
  go_big_quiet_step (exact HU1.out _)
  repeat (go_big_quiet_step (fail))
  go_big_quiet_step (exact HU2.out _)
  repeat (go_big_quiet_step (fail))
  go_big_quiet_step (exact HU3.out _)
  repeat (go_big_quiet_step (fail))
  go_big_quiet_step (exact HU4.out _)
  repeat (go_big_quiet_step (fail))
  go_big_quiet_step (exact HU5.out _)
  repeat (go_big_quiet_step (fail))
  go_big_quiet_step (exact HUH.out _)
  repeat (go_big_quiet_step (fail))
  refine wpQuiet_nil ?_
  rintro _ ⟨uq, rfl⟩
  replace K3 := K3.below uq.ok l3
  replace hbw := btrans hbw uq.ok
  generalize hwx : uq.val = wx at *
  clear hwx uq K1 K2 l1 l2 l3 HUH HU0 HU1 HU2 HU3 HU4 HU5 xp0 xp1 xp2 xp3 xp4 xp5 xq0 xq1 xq2 xq3 xq4 xq5
  have r0 := K3.cell 0
  have r1 := K3.cell 1
  have r2 := K3.cell 2
  have r3 := K3.cell 3
  have r4 := K3.cell 4
  have r5 := K3.cell 5
  have zr0 := K3.frozen 0
  have zr1 := K3.frozen 1
  have zr2 := K3.frozen 2
  have zr3 := K3.frozen 3
  have zr4 := K3.frozen 4
  have zr5 := K3.frozen 5
  simp only [List.getElem?_toArray, List.getElem?_cons_succ, List.getElem?_cons_zero] at r0 r1 r2 r3 r4 r5
  have HK := Lib.hid K3
  have HBW := Lib.hid hbw
  clear K3 hbw
  go_wp2_with fail
  have K := (((((HK.out.set_ 0 (.int .i64 (okI ok v0))).set_ 1 (.int .i64 (okI ok v1))).set_ 2 (.int .i64 (okI ok v2))).set_ 3 (.int .i64 (okI ok v3))).set_ 4 (.int .i64 (okI ok (v4 + e)))).set_ 5 (.int .i64 (okI ok (v5 + f)))
  refine ret_struct2 (g := w.heap.size + 2) (t := 25) (cs := #[.int .i64 (okI ok v0), .int .i64 (okI ok v1), .int .i64 (okI ok v2), .int .i64 (okI ok v3), .int .i64 (okI ok (v4 + e)), .int .i64 (okI ok (v5 + f))]) rfl rfl ?_ Try.underlying25 rfl rfl rfl ?_
  · exact K
  · exact ⟨rfl, by (repeat' (first | refine bset ?_ (by first | omega | (simp <;> omega)) _ | refine balloc ?_ _ | refine Below.drew ?_ | refine below_drewN ?_ _ | exact HBW.out | exact Below.refl _ _))⟩
end Go.Proofs.Ytegpjjkbbdfggaa.mt

/-
  Layer 24 in the seat of the images: Mul (the text of mat/XMulA).
-/
namespace Go.Proofs.Ytegpjjkbbdfggaa.mt
set_option linter.unusedVariables false
set_option linter.unusedSimpArgs false
open Go.RowKit bs
set_option maxRecDepth 100000 in
set_option maxHeartbeats 3200000 in
theorem mul_ol (A B C D E F a b c d e f : Int) (w : World) (h1 : mayB A B C D E F = true) (h2 : mayB a b c d e f = true) (n1 : eqB A B C D E F 65536 0 0 65536 0 0 = true) : Calls Try.prog 44 #[.agg #[.int .i64 A, .int .i64 B, .int .i64 C, .int .i64 D, .int .i64 E, .int .i64 F], .agg #[.int .i64 a, .int .i64 b, .int .i64 c, .int .i64 d, .int .i64 e, .int .i64 f]] w fun ed w' => ed = .returned (.tuple #[.agg #[.int .i64 a, .int .i64 b, .int .i64 c, .int .i64 d, .int .i64 e, .int .i64 f], .int .i64 0]) ∧ Below w.heap.size w w' := by
  have HA := Lib.hid (fun W => show Calls Try.prog 66 #[.agg #[.int .i64 A, .int .i64 B, .int .i64 C, .int .i64 D, .int .i64 E, .int .i64 F]] W fun ed w' => ed = .returned (.bool true) ∧ Below W.heap.size W w' by have := may_any A B C D E F W; rw [h1] at this; exact this)
  have HB := Lib.hid (fun W => show Calls Try.prog 66 #[.agg #[.int .i64 a, .int .i64 b, .int .i64 c, .int .i64 d, .int .i64 e, .int .i64 f]] W fun ed w' => ed = .returned (.bool true) ∧ Below W.heap.size W w' by have := may_any a b c d e f W; rw [h2] at this; exact this)
  clear h1 h2
  have K1 := ((Blk.new w 25 #[.int .i64 A, .int .i64 B, .int .i64 C, .int .i64 D, .int .i64 E, .int .i64 F]).alloc (.cells #[.int .i64 a, .int .i64 b, .int .i64 c, .int .i64 d, .int .i64 e, .int .i64 f] 25)).alloc (.cells #[.int .i64 0, .int .i64 0, .int .i64 0, .int .i64 0, .int .i64 0, .int .i64 0] 25)
  have K2 := (Blk.new (w.alloc (.cells #[.int .i64 A, .int .i64 B, .int .i64 C, .int .i64 D, .int .i64 E, .int .i64 F] 25)) 25 #[.int .i64 a, .int .i64 b, .int .i64 c, .int .i64 d, .int .i64 e, .int .i64 f]).alloc (.cells #[.int .i64 0, .int .i64 0, .int .i64 0, .int .i64 0, .int .i64 0, .int .i64 0] 25)
  have K3 := Blk.new ((w.alloc (.cells #[.int .i64 A, .int .i64 B, .int .i64 C, .int .i64 D, .int .i64 E, .int .i64 F] 25)).alloc (.cells #[.int .i64 a, .int .i64 b, .int .i64 c, .int .i64 d, .int .i64 e, .int .i64 f] 25)) 25 #[.int .i64 0, .int .i64 0, .int .i64 0, .int .i64 0, .int .i64 0, .int .i64 0]
  have s1 : ∀ (u : World) (o : Obj), (u.alloc o).heap.size = u.heap.size + 1 := fun u o => by simp
  simp only [s1] at K2 K3
  clear s1
  go_enter Try.func44, Try.ntmps44
  go_wp2_with fail
  refine (HA.out _).mono ?_
  rintro e_ w1 ⟨rfl, hb1⟩
  replace K1 := K1.below hb1 (by simp; omega)
  replace K2 := K2.below hb1 (by first | (simp; done) | (simp; omega))
  replace K3 := K3.below hb1 (by first | (simp; done) | (simp; omega))
  have hbw : Below w.heap.size w w1 := btrans (by (repeat' (first | exact Below.refl _ _ | exact Below.refl _ _ | refine balloc ?_ _ | refine Below.drew ?_ | refine below_drewN ?_ _ | refine bset ?_ (by first | omega | (simp <;> omega)) _))) hb1
  have p0 := K1.cell 0
  have p1 := K1.cell 1
  have p2 := K1.cell 2
  have p3 := K1.cell 3
  have p4 := K1.cell 4
  have p5 := K1.cell 5
  have q0 := K2.cell 0
  have q1 := K2.cell 1
  have q2 := K2.cell 2
  have q3 := K2.cell 3
  have q4 := K2.cell 4
  have q5 := K2.cell 5
  have r0 := K3.cell 0
  have r1 := K3.cell 1
  have r2 := K3.cell 2
  have r3 := K3.cell 3
  have r4 := K3.cell 4
  have r5 := K3.cell 5
  have zr0 := K3.frozen 0
  have zr1 := K3.frozen 1
  have zr2 := K3.frozen 2
  have zr3 := K3.frozen 3
  have zr4 := K3.frozen 4
  have zr5 := K3.frozen 5
  simp only [List.getElem?_toArray, List.getElem?_cons_succ, List.getElem?_cons_zero] at p0 p1 p2 p3 p4 p5 q0 q1 q2 q3 q4 q5 r0 r1 r2 r3 r4 r5
  have l1 := K1.lt
  have l2 := K2.lt
  have l3 := K3.lt
  clear hb1
  go_wp2_with fail
  refine (HB.out _).mono ?_
  rintro e_ w2 ⟨rfl, hb1⟩
  replace K1 := K1.below hb1 l1
  replace K2 := K2.below hb1 l2
  replace K3 := K3.below hb1 l3
  replace hbw := btrans hbw hb1
  clear p0 p1 p2 p3 p4 p5 q0 q1 q2 q3 q4 q5 r0 r1 r2 r3 r4 r5 zr0 zr1 zr2 zr3 zr4 zr5 l1 l2 l3
  have p0 := K1.cell 0
  have p1 := K1.cell 1
  have p2 := K1.cell 2
  have p3 := K1.cell 3
  have p4 := K1.cell 4
  have p5 := K1.cell 5
  have q0 := K2.cell 0
  have q1 := K2.cell 1
  have q2 := K2.cell 2
  have q3 := K2.cell 3
  have q4 := K2.cell 4
  have q5 := K2.cell 5
  have r0 := K3.cell 0
  have r1 := K3.cell 1
  have r2 := K3.cell 2
  have r3 := K3.cell 3
  have r4 := K3.cell 4
  have r5 := K3.cell 5
  have zr0 := K3.frozen 0
  have zr1 := K3.frozen 1
  have zr2 := K3.frozen 2
  have zr3 := K3.frozen 3
  have zr4 := K3.frozen 4
  have zr5 := K3.frozen 5
  simp only [List.getElem?_toArray, List.getElem?_cons_succ, List.getElem?_cons_zero] at p0 p1 p2 p3 p4 p5 q0 q1 q2 q3 q4 q5 r0 r1 r2 r3 r4 r5
  have l1 := K1.lt
  have l2 := K2.lt
  have l3 := K3.lt
  have u0 : ∀ u : Up w2, u.val.cell? ⟨w.heap.size, 0, none⟩ = some (.int .i64 A) := fun u => (u.cell l1).trans p0
  have u1 : ∀ u : Up w2, u.val.cell? ⟨w.heap.size, 1, none⟩ = some (.int .i64 B) := fun u => (u.cell l1).trans p1
  have u2 : ∀ u : Up w2, u.val.cell? ⟨w.heap.size, 2, none⟩ = some (.int .i64 C) := fun u => (u.cell l1).trans p2
  have u3 : ∀ u : Up w2, u.val.cell? ⟨w.heap.size, 3, none⟩ = some (.int .i64 D) := fun u => (u.cell l1).trans p3
  have u4 : ∀ u : Up w2, u.val.cell? ⟨w.heap.size, 4, none⟩ = some (.int .i64 E) := fun u => (u.cell l1).trans p4
  have u5 : ∀ u : Up w2, u.val.cell? ⟨w.heap.size, 5, none⟩ = some (.int .i64 F) := fun u => (u.cell l1).trans p5
  clear hb1
  have JG := guard_mat
  have JE : ∀ w, (binOp .eql 25 (.agg #[.int .i64 A, .int .i64 B, .int .i64 C, .int .i64 D, .int .i64 E, .int .i64 F]) (.agg #[.int .i64 65536, .int .i64 0, .int .i64 0, .int .i64 65536, .int .i64 0, .int .i64 0])).run Try.prog w = .ok (.bool true) w := fun w => by
    have := eq_mat A B C D E F 65536 0 0 65536 0 0 w
    rw [n1] at this
    exact this
  have HU := Lib.hid (fun u : Up w2 => up_of (u := u) (one_any u.val))
  go_wp2_with fail
  (refine wp_region_up (by kernel_rfl) (by kernel_rfl) ?_; (repeat (go_big_quiet_step (exact HU.out _))); refine wpQuiet_nil ?_; rintro _ ⟨uq, rfl⟩)
  replace K1 := K1.below uq.ok l1
  replace K2 := K2.below uq.ok l2
  replace K3 := K3.below uq.ok l3
  replace hbw := btrans hbw uq.ok
  generalize hwx : uq.val = w3 at *
  clear hwx uq HU JG JE p0 p1 p2 p3 p4 p5 q0 q1 q2 q3 q4 q5 r0 r1 r2 r3 r4 r5 zr0 zr1 zr2 zr3 zr4 zr5 u0 u1 u2 u3 u4 u5 l1 l2 l3
  have p0 := K1.cell 0
  have p1 := K1.cell 1
  have p2 := K1.cell 2
  have p3 := K1.cell 3
  have p4 := K1.cell 4
  have p5 := K1.cell 5
  have q0 := K2.cell 0
  have q1 := K2.cell 1
  have q2 := K2.cell 2
  have q3 := K2.cell 3
  have q4 := K2.cell 4
  have q5 := K2.cell 5
  have r0 := K3.cell 0
  have r1 := K3.cell 1
  have r2 := K3.cell 2
  have r3 := K3.cell 3
  have r4 := K3.cell 4
  have r5 := K3.cell 5
  have zr0 := K3.frozen 0
  have zr1 := K3.frozen 1
  have zr2 := K3.frozen 2
  have zr3 := K3.frozen 3
  have zr4 := K3.frozen 4
  have zr5 := K3.frozen 5
  simp only [List.getElem?_toArray, List.getElem?_cons_succ, List.getElem?_cons_zero] at p0 p1 p2 p3 p4 p5 q0 q1 q2 q3 q4 q5 r0 r1 r2 r3 r4 r5
  have HK := Lib.hid K3
  have HBW := Lib.hid hbw
  clear K1 K2 K3 hbw
  go_wp2_with fail
  have K := (((((HK.out.set_ 0 (.int .i64 a)).set_ 1 (.int .i64 b)).set_ 2 (.int .i64 c)).set_ 3 (.int .i64 d)).set_ 4 (.int .i64 e)).set_ 5 (.int .i64 f)
  refine ret_struct2 (g := w.heap.size + 2) (t := 25) (cs := #[.int .i64 a, .int .i64 b, .int .i64 c, .int .i64 d, .int .i64 e, .int .i64 f]) rfl rfl ?_ Try.underlying25 rfl rfl rfl ?_
  · exact K
  · exact ⟨rfl, by (repeat' (first | refine bset ?_ (by first | omega | (simp <;> omega)) _ | refine balloc ?_ _ | refine Below.drew ?_ | refine below_drewN ?_ _ | exact HBW.out | exact Below.refl _ _))⟩
set_option maxRecDepth 100000 in
set_option maxHeartbeats 3200000 in
theorem mul_or (A B C D E F a b c d e f : Int) (w : World) (h1 : mayB A B C D E F = true) (h2 : mayB a b c d e f = true) (n1 : eqB A B C D E F 65536 0 0 65536 0 0 = false) (n2 : eqB a b c d e f 65536 0 0 65536 0 0 = true) : Calls Try.prog 44 #[.agg #[.int .i64 A, .int .i64 B, .int .i64 C, .int .i64 D, .int .i64 E, .int .i64 F], .agg #[.int .i64 a, .int .i64 b, .int .i64 c, .int .i64 d, .int .i64 e, .int .i64 f]] w fun ed w' => ed = .returned (.tuple #[.agg #[.int .i64 A, .int .i64 B, .int .i64 C, .int .i64 D, .int .i64 E, .int .i64 F], .int .i64 0]) ∧ Below w.heap.size w w' := by
  have HA := Lib.hid (fun W => show Calls Try.prog 66 #[.agg #[.int .i64 A, .int .i64 B, .int .i64 C, .int .i64 D, .int .i64 E, .int .i64 F]] W fun ed w' => ed = .returned (.bool true) ∧ Below W.heap.size W w' by have := may_any A B C D E F W; rw [h1] at this; exact this)
  have HB := Lib.hid (fun W => show Calls Try.prog 66 #[.agg #[.int .i64 a, .int .i64 b, .int .i64 c, .int .i64 d, .int .i64 e, .int .i64 f]] W fun ed w' => ed = .returned (.bool true) ∧ Below W.heap.size W w' by have := may_any a b c d e f W; rw [h2] at this; exact this)
  clear h1 h2
  have K1 := ((Blk.new w 25 #[.int .i64 A, .int .i64 B, .int .i64 C, .int .i64 D, .int .i64 E, .int .i64 F]).alloc (.cells #[.int .i64 a, .int .i64 b, .int .i64 c, .int .i64 d, .int .i64 e, .int .i64 f] 25)).alloc (.cells #[.int .i64 0, .int .i64 0, .int .i64 0, .int .i64 0, .int .i64 0, .int .i64 0] 25)
  have K2 := (Blk.new (w.alloc (.cells #[.int .i64 A, .int .i64 B, .int .i64 C, .int .i64 D, .int .i64 E, .int .i64 F] 25)) 25 #[.int .i64 a, .int .i64 b, .int .i64 c, .int .i64 d, .int .i64 e, .int .i64 f]).alloc (.cells #[.int .i64 0, .int .i64 0, .int .i64 0, .int .i64 0, .int .i64 0, .int .i64 0] 25)
  have K3 := Blk.new ((w.alloc (.cells #[.int .i64 A, .int .i64 B, .int .i64 C, .int .i64 D, .int .i64 E, .int .i64 F] 25)).alloc (.cells #[.int .i64 a, .int .i64 b, .int .i64 c, .int .i64 d, .int .i64 e, .int .i64 f] 25)) 25 #[.int .i64 0, .int .i64 0, .int .i64 0, .int .i64 0, .int .i64 0, .int .i64 0]
  have s1 : ∀ (u : World) (o : Obj), (u.alloc o).heap.size = u.heap.size + 1 := fun u o => by simp
  simp only [s1] at K2 K3
  clear s1
  go_enter Try.func44, Try.ntmps44
  go_wp2_with fail
  refine (HA.out _).mono ?_
  rintro e_ w1 ⟨rfl, hb1⟩
  replace K1 := K1.below hb1 (by simp; omega)
  replace K2 := K2.below hb1 (by first | (simp; done) | (simp; omega))
  replace K3 := K3.below hb1 (by first | (simp; done) | (simp; omega))
  have hbw : Below w.heap.size w w1 := btrans (by (repeat' (first | exact Below.refl _ _ | exact Below.refl _ _ | refine balloc ?_ _ | refine Below.drew ?_ | refine below_drewN ?_ _ | refine bset ?_ (by first | omega | (simp <;> omega)) _))) hb1
  have p0 := K1.cell 0
  have p1 := K1.cell 1
  have p2 := K1.cell 2
  have p3 := K1.cell 3
  have p4 := K1.cell 4
  have p5 := K1.cell 5
  have q0 := K2.cell 0
  have q1 := K2.cell 1
  have q2 := K2.cell 2
  have q3 := K2.cell 3
  have q4 := K2.cell 4
  have q5 := K2.cell 5
  have r0 := K3.cell 0
  have r1 := K3.cell 1
  have r2 := K3.cell 2
  have r3 := K3.cell 3
  have r4 := K3.cell 4
  have r5 := K3.cell 5
  have zr0 := K3.frozen 0
  have zr1 := K3.frozen 1
  have zr2 := K3.frozen 2
  have zr3 := K3.frozen 3
  have zr4 := K3.frozen 4
  have zr5 := K3.frozen 5
  simp only [List.getElem?_toArray, List.getElem?_cons_succ, List.getElem?_cons_zero] at p0 p1 p2 p3 p4 p5 q0 q1 q2 q3 q4 q5 r0 r1 r2 r3 r4 r5
  have l1 := K1.lt
  have l2 := K2.lt
  have l3 := K3.lt
  clear hb1
  go_wp2_with fail
  refine (HB.out _).mono ?_
  rintro e_ w2 ⟨rfl, hb1⟩
  replace K1 := K1.below hb1 l1
  replace K2 := K2.below hb1 l2
  replace K3 := K3.below hb1 l3
  replace hbw := btrans hbw hb1
  clear p0 p1 p2 p3 p4 p5 q0 q1 q2 q3 q4 q5 r0 r1 r2 r3 r4 r5 zr0 zr1 zr2 zr3 zr4 zr5 l1 l2 l3
  have p0 := K1.cell 0
  have p1 := K1.cell 1
  have p2 := K1.cell 2
  have p3 := K1.cell 3
  have p4 := K1.cell 4
  have p5 := K1.cell 5
  have q0 := K2.cell 0
  have q1 := K2.cell 1
  have q2 := K2.cell 2
  have q3 := K2.cell 3
  have q4 := K2.cell 4
  have q5 := K2.cell 5
  have r0 := K3.cell 0
  have r1 := K3.cell 1
  have r2 := K3.cell 2
  have r3 := K3.cell 3
  have r4 := K3.cell 4
  have r5 := K3.cell 5
  have zr0 := K3.frozen 0
  have zr1 := K3.frozen 1
  have zr2 := K3.frozen 2
  have zr3 := K3.frozen 3
  have zr4 := K3.frozen 4
  have zr5 := K3.frozen 5
  simp only [List.getElem?_toArray, List.getElem?_cons_succ, List.getElem?_cons_zero] at p0 p1 p2 p3 p4 p5 q0 q1 q2 q3 q4 q5 r0 r1 r2 r3 r4 r5
  have l1 := K1.lt
  have l2 := K2.lt
  have l3 := K3.lt
  have u0 : ∀ u : Up w2, u.val.cell? ⟨w.heap.size, 0, none⟩ = some (.int .i64 A) := fun u => (u.cell l1).trans p0
  have u1 : ∀ u : Up w2, u.val.cell? ⟨w.heap.size, 1, none⟩ = some (.int .i64 B) := fun u => (u.cell l1).trans p1
  have u2 : ∀ u : Up w2, u.val.cell? ⟨w.heap.size, 2, none⟩ = some (.int .i64 C) := fun u => (u.cell l1).trans p2
  have u3 : ∀ u : Up w2, u.val.cell? ⟨w.heap.size, 3, none⟩ = some (.int .i64 D) := fun u => (u.cell l1).trans p3
  have u4 : ∀ u : Up w2, u.val.cell? ⟨w.heap.size, 4, none⟩ = some (.int .i64 E) := fun u => (u.cell l1).trans p4
  have u5 : ∀ u : Up w2, u.val.cell? ⟨w.heap.size, 5, none⟩ = some (.int .i64 F) := fun u => (u.cell l1).trans p5
  clear hb1
  have JG := guard_mat
  have JE : ∀ w, (binOp .eql 25 (.agg #[.int .i64 A, .int .i64 B, .int .i64 C, .int .i64 D, .int .i64 E, .int .i64 F]) (.agg #[.int .i64 65536, .int .i64 0, .int .i64 0, .int .i64 65536, .int .i64 0, .int .i64 0])).run Try.prog w = .ok (.bool false) w := fun w => by
    have := eq_mat A B C D E F 65536 0 0 65536 0 0 w
    rw [n1] at this
    exact this
  have HU := Lib.hid (fun u : Up w2 => up_of (u := u) (one_any u.val))
  go_wp2_with fail
  (refine wp_region_up (by kernel_rfl) (by kernel_rfl) ?_; (repeat (go_big_quiet_step (exact HU.out _))); refine wpQuiet_nil ?_; rintro _ ⟨uq, rfl⟩)
  replace K1 := K1.below uq.ok l1
  replace K2 := K2.below uq.ok l2
  replace K3 := K3.below uq.ok l3
  replace hbw := btrans hbw uq.ok
  generalize hwx : uq.val = w3 at *
  clear hwx uq HU JG JE p0 p1 p2 p3 p4 p5 q0 q1 q2 q3 q4 q5 r0 r1 r2 r3 r4 r5 zr0 zr1 zr2 zr3 zr4 zr5 u0 u1 u2 u3 u4 u5 l1 l2 l3
  have p0 := K1.cell 0
  have p1 := K1.cell 1
  have p2 := K1.cell 2
  have p3 := K1.cell 3
  have p4 := K1.cell 4
  have p5 := K1.cell 5
  have q0 := K2.cell 0
  have q1 := K2.cell 1
  have q2 := K2.cell 2
  have q3 := K2.cell 3
  have q4 := K2.cell 4
  have q5 := K2.cell 5
  have r0 := K3.cell 0
  have r1 := K3.cell 1
  have r2 := K3.cell 2
  have r3 := K3.cell 3
  have r4 := K3.cell 4
  have r5 := K3.cell 5
  have zr0 := K3.frozen 0
  have zr1 := K3.frozen 1
  have zr2 := K3.frozen 2
  have zr3 := K3.frozen 3
  have zr4 := K3.frozen 4
  have zr5 := K3.frozen 5
  simp only [List.getElem?_toArray, List.getElem?_cons_succ, List.getElem?_cons_zero] at p0 p1 p2 p3 p4 p5 q0 q1 q2 q3 q4 q5 r0 r1 r2 r3 r4 r5
  have l1 := K1.lt
  have l2 := K2.lt
  have l3 := K3.lt
  have u0 : ∀ u : Up w3, u.val.cell? ⟨w.heap.size + 1, 0, none⟩ = some (.int .i64 a) := fun u => (u.cell l2).trans q0
  have u1 : ∀ u : Up w3, u.val.cell? ⟨w.heap.size + 1, 1, none⟩ = some (.int .i64 b) := fun u => (u.cell l2).trans q1
  have u2 : ∀ u : Up w3, u.val.cell? ⟨w.heap.size + 1, 2, none⟩ = some (.int .i64 c) := fun u => (u.cell l2).trans q2
  have u3 : ∀ u : Up w3, u.val.cell? ⟨w.heap.size + 1, 3, none⟩ = some (.int .i64 d) := fun u => (u.cell l2).trans q3
  have u4 : ∀ u : Up w3, u.val.cell? ⟨w.heap.size + 1, 4, none⟩ = some (.int .i64 e) := fun u => (u.cell l2).trans q4
  have u5 : ∀ u : Up w3, u.val.cell? ⟨w.heap.size + 1, 5, none⟩ = some (.int .i64 f) := fun u => (u.cell l2).trans q5
  have JG := guard_mat
  have JE : ∀ w, (binOp .eql 25 (.agg #[.int .i64 a, .int .i64 b, .int .i64 c, .int .i64 d, .int .i64 e, .int .i64 f]) (.agg #[.int .i64 65536, .int .i64 0, .int .i64 0, .int .i64 65536, .int .i64 0, .int .i64 0])).run Try.prog w = .ok (.bool true) w := fun w => by
    have := eq_mat a b c d e f 65536 0 0 65536 0 0 w
    rw [n2] at this
    exact this
  have HU := Lib.hid (fun u : Up w3 => up_of (u := u) (one_any u.val))
  go_wp2_with fail
  (refine wp_region_up (by kernel_rfl) (by kernel_rfl) ?_; (repeat (go_big_quiet_step (exact HU.out _))); refine wpQuiet_nil ?_; rintro _ ⟨uq, rfl⟩)
  replace K1 := K1.below uq.ok l1
  replace K2 := K2.below uq.ok l2
  replace K3 := K3.below uq.ok l3
  replace hbw := btrans hbw uq.ok
  generalize hwx : uq.val = w4 at *
  clear hwx uq HU JG JE p0 p1 p2 p3 p4 p5 q0 q1 q2 q3 q4 q5 r0 r1 r2 r3 r4 r5 zr0 zr1 zr2 zr3 zr4 zr5 u0 u1 u2 u3 u4 u5 l1 l2 l3
  have p0 := K1.cell 0
  have p1 := K1.cell 1
  have p2 := K1.cell 2
  have p3 := K1.cell 3
  have p4 := K1.cell 4
  have p5 := K1.cell 5
  have q0 := K2.cell 0
  have q1 := K2.cell 1
  have q2 := K2.cell 2
  have q3 := K2.cell 3
  have q4 := K2.cell 4
  have q5 := K2.cell 5
  have r0 := K3.cell 0
  have r1 := K3.cell 1
  have r2 := K3.cell 2
  have r3 := K3.cell 3
  have r4 := K3.cell 4
  have r5 := K3.cell 5
  have zr0 := K3.frozen 0
  have zr1 := K3.frozen 1
  have zr2 := K3.frozen 2
  have zr3 := K3.frozen 3
  have zr4 := K3.frozen 4
  have zr5 := K3.frozen 5
  simp only [List.getElem?_toArray, List.getElem?_cons_succ, List.getElem?_cons_zero] at p0 p1 p2 p3 p4 p5 q0 q1 q2 q3 q4 q5 r0 r1 r2 r3 r4 r5
  have HK := Lib.hid K3
  have HBW := Lib.hid hbw
  clear K1 K2 K3 hbw
  go_wp2_with fail
  have K := (((((HK.out.set_ 0 (.int .i64 A)).set_ 1 (.int .i64 B)).set_ 2 (.int .i64 C)).set_ 3 (.int .i64 D)).set_ 4 (.int .i64 E)).set_ 5 (.int .i64 F)
  refine ret_struct2 (g := w.heap.size + 2) (t := 25) (cs := #[.int .i64 A, .int .i64 B, .int .i64 C, .int .i64 D, .int .i64 E, .int .i64 F]) rfl rfl ?_ Try.underlying25 rfl rfl rfl ?_
  · exact K
  · exact ⟨rfl, by (repeat' (first | refine bset ?_ (by first | omega | (simp <;> omega)) _ | refine balloc ?_ _ | refine Below.drew ?_ | refine below_drewN ?_ _ | exact HBW.out | exact Below.refl _ _))⟩
set_option maxRecDepth 100000 in
theorem even_one (a : Int) : even (65536 * a) 65536 32768 = a := by unfold even; rw [if_neg (by omega)]; omega
set_option maxRecDepth 100000 in
theorem okI_true (x : Int) : okI true x = x := rfl
set_option maxRecDepth 100000 in
theorem okE_true : okE true = 0 := rfl
set_option maxRecDepth 100000 in
theorem eqB_true {A B C D E F a b c d e f : Int} (h : eqB A B C D E F a b c d e f = true) : A = a ∧ B = b ∧ C = c ∧ D = d ∧ E = e ∧ F = f := by
  unfold eqB at h
  simpa using h
set_option maxRecDepth 100000 in
theorem sum16_l (a c : Int) : sum16 65536 a 0 c = a := by unfold sum16; rw [Int.zero_mul, Int.add_zero]; exact even_one a
set_option maxRecDepth 100000 in
theorem sum16_r (b d : Int) : sum16 0 b 65536 d = d := by unfold sum16; rw [Int.zero_mul, Int.zero_add]; exact even_one d
set_option maxRecDepth 100000 in
theorem sum16_z (b d : Int) : sum16 0 b 0 d = 0 := by unfold sum16; rw [Int.zero_mul, Int.zero_mul]; rfl
set_option maxRecDepth 100000 in
theorem sum16_l' (a c : Int) : sum16 a 65536 c 0 = a := by unfold sum16; rw [Int.mul_zero, Int.add_zero, Int.mul_comm]; exact even_one a
set_option maxRecDepth 100000 in
theorem sum16_r' (b d : Int) : sum16 b 0 d 65536 = d := by unfold sum16; rw [Int.mul_zero, Int.zero_add, Int.mul_comm]; exact even_one d
set_option maxRecDepth 100000 in
theorem sum16_z' (b d : Int) : sum16 b 0 d 0 = 0 := by unfold sum16; rw [Int.mul_zero, Int.mul_zero]; rfl
set_option maxRecDepth 100000 in
/-- the product of two matrices that may be, whatever they are -/
theorem mul_may (A B C D E F a b c d e f : Int) (w : World) (h1 : mayB A B C D E F = true) (h2 : mayB a b c d e f = true) : Calls Try.prog 44 #[.agg #[.int .i64 A, .int .i64 B, .int .i64 C, .int .i64 D, .int .i64 E, .int .i64 F], .agg #[.int .i64 a, .int .i64 b, .int .i64 c, .int .i64 d, .int .i64 e, .int .i64 f]] w fun ed w' => ed = .returned (.tuple #[.agg #[.int .i64 (okI (mulB A B C D E F a b c d e f) (sum16 A a B c)), .int .i64 (okI (mulB A B C D E F a b c d e f) (sum16 A b B d)), .int .i64 (okI (mulB A B C D E F a b c d e f) (sum16 C a D c)), .int .i64 (okI (mulB A B C D E F a b c d e f) (sum16 C b D d)), .int .i64 (okI (mulB A B C D E F a b c d e f) ((sum16 E a F c) + e)), .int .i64 (okI (mulB A B C D E F a b c d e f) ((sum16 E b F d) + f))], .int .i64 (okE (mulB A B C D E F a b c d e f))]) ∧ Below w.heap.size w w' := by
  cases n1 : eqB A B C D E F 65536 0 0 65536 0 0 with
  | true =>
    have hc := mul_ol A B C D E F a b c d e f w h1 h2 n1
    obtain ⟨rfl, rfl, rfl, rfl, rfl, rfl⟩ := eqB_true n1
    have hm : mulB 65536 0 0 65536 0 0 a b c d e f = true := by unfold mulB; simp only [sum16_l, sum16_r, sum16_z, Int.zero_add]; exact h2
    rw [hm]
    simp only [sum16_l, sum16_r, sum16_z, Int.zero_add, okI_true, okE_true]
    exact hc
  | false =>
    cases n2 : eqB a b c d e f 65536 0 0 65536 0 0 with
    | true =>
      have hc := mul_or A B C D E F a b c d e f w h1 h2 n1 n2
      obtain ⟨rfl, rfl, rfl, rfl, rfl, rfl⟩ := eqB_true n2
      have hm : mulB A B C D E F 65536 0 0 65536 0 0 = true := by unfold mulB; simp only [sum16_l', sum16_r', Int.add_zero]; exact h1
      rw [hm]
      simp only [sum16_l', sum16_r', Int.add_zero, okI_true, okE_true]
      exact hc
    | false => exact mul_yes A B C D E F a b c d e f w h1 h2 n1 n2
end Go.Proofs.Ytegpjjkbbdfggaa.mt

/-
  Layer 24 in the seat of the images: Point (the text of mat/XPts).
-/
namespace Go.Proofs.Ytegpjjkbbdfggaa.mt
set_option linter.unusedVariables false
set_option linter.unusedSimpArgs false
open Go.RowKit bs
set_option maxRecDepth 100000 in
theorem okI_and (b : Bool) (x : Int) : okI (true && b) x = okI b x := by rw [Bool.true_and]
/-- what Point reckons -/
def xPoint (A B C D E F x y : Int) : Int := even (A * x + C * y + E * 65536) 4294967296 2147483648
def yPoint (A B C D E F x y : Int) : Int := even (B * x + D * y + F * 65536) 4294967296 2147483648
def bPoint (A B C D E F x y : Int) : Bool := nearB (xPoint A B C D E F x y) (yPoint A B C D E F x y) 8191
set_option maxRecDepth 100000 in
theorem Point_no (A B C D E F x y : Int) (w : World) (h : goodB A B C D E F x y = false) : Calls Try.prog 45 #[.agg #[.int .i64 A, .int .i64 B, .int .i64 C, .int .i64 D, .int .i64 E, .int .i64 F], .int .i64 x, .int .i64 y] w fun ed w' => ed = .returned (.tuple #[.int .i64 0, .int .i64 0, .int .i64 1]) ∧ Below w.heap.size w w' := by
  have HA := Lib.hid (fun W => show Calls Try.prog 88 #[.agg #[.int .i64 A, .int .i64 B, .int .i64 C, .int .i64 D, .int .i64 E, .int .i64 F], .int .i64 x, .int .i64 y] W fun ed w' => ed = .returned (.bool false) ∧ Below W.heap.size W w' by have := good_any A B C D E F x y W; rw [h] at this; exact this)
  go_enter Try.func45, Try.ntmps45
  go_wp2_with fail
  refine (HA.out _).mono ?_
  rintro e_ w1 ⟨rfl, hb1⟩
  go_wp2_with fail
  go_ret3
  exact ⟨rfl, btrans (by (repeat' (first | exact Below.refl _ _ | exact Below.refl _ _ | refine balloc ?_ _ | refine Below.drew ?_ | refine below_drewN ?_ _ | refine bset ?_ (by first | omega | (simp <;> omega)) _))) hb1⟩
set_option maxRecDepth 100000 in
set_option maxHeartbeats 1600000 in
theorem Point_yes (A B C D E F x y : Int) (w : World) (h : goodB A B C D E F x y = true) : Calls Try.prog 45 #[.agg #[.int .i64 A, .int .i64 B, .int .i64 C, .int .i64 D, .int .i64 E, .int .i64 F], .int .i64 x, .int .i64 y] w fun ed w' => ed = .returned (.tuple #[.int .i64 (okI (bPoint A B C D E F x y) (xPoint A B C D E F x y)), .int .i64 (okI (bPoint A B C D E F x y) (yPoint A B C D E F x y)), .int .i64 (okE (bPoint A B C D E F x y))]) ∧ Below w.heap.size w w' := by
  have hg := h
  unfold goodB at hg
  simp only [Bool.and_eq_true] at hg
  obtain ⟨bA, bB, bC, bD, bE, bF⟩ := mayB_bd hg.1.1
  have bx := fixB_bd hg.1.2
  have by_ := fixB_bd hg.2
  have HA := Lib.hid (fun W => show Calls Try.prog 88 #[.agg #[.int .i64 A, .int .i64 B, .int .i64 C, .int .i64 D, .int .i64 E, .int .i64 F], .int .i64 x, .int .i64 y] W fun ed w' => ed = .returned (.bool true) ∧ Below W.heap.size W w' by have := good_any A B C D E F x y W; rw [h] at this; exact this)
  have m1 := fix_mul bA bx
  have m2 := fix_mul bC by_
  have m3 := fix_mul bB bx
  have m4 := fix_mul bD by_
  have e1 := even_bd (A * x + C * y + E * 65536) 4294967296 2147483648 (by omega)
  have e2 := even_bd (B * x + D * y + F * 65536) 4294967296 2147483648 (by omega)
  have S1 := fun W => show Calls Try.prog 86 #[.int .i64 (A * x + C * y + E * 65536), .int .u64 32] W fun ed w' => ed = .returned (.int .i64 (even (A * x + C * y + E * 65536) 4294967296 2147483648)) ∧ W = w' from round32 _ W (by omega) (by omega)
  have S2 := fun W => show Calls Try.prog 86 #[.int .i64 (B * x + D * y + F * 65536), .int .u64 32] W fun ed w' => ed = .returned (.int .i64 (even (B * x + D * y + F * 65536) 4294967296 2147483648)) ∧ W = w' from round32 _ W (by omega) (by omega)
  have hx : xPoint A B C D E F x y = even (A * x + C * y + E * 65536) 4294967296 2147483648 := rfl
  have hy : yPoint A B C D E F x y = even (B * x + D * y + F * 65536) 4294967296 2147483648 := rfl
  have hb : bPoint A B C D E F x y = nearB (xPoint A B C D E F x y) (yPoint A B C D E F x y) 8191 := rfl
  generalize bPoint A B C D E F x y = nb at *
  generalize xPoint A B C D E F x y = rx at *
  generalize yPoint A B C D E F x y = ry at *
  generalize even (A * x + C * y + E * 65536) 4294967296 2147483648 = v1 at *
  generalize even (B * x + D * y + F * 65536) 4294967296 2147483648 = v2 at *
  generalize hp1 : A * x = p1 at *
  generalize hp2 : C * y = p2 at *
  generalize hp3 : B * x = p3 at *
  generalize hp4 : D * y = p4 at *
  have S3 := fun W => show Calls Try.prog 67 #[.int .i64 (v1), .int .i64 (v2), .int .i64 8191] W fun ed w' => ed = .returned (.tuple #[.int .i64 (okI nb rx), .int .i64 (okI nb ry), .int .i64 (okE nb)]) ∧ W = w' by have := near_any rx ry 8191 W (by omega) (by omega); rw [← hb] at this; rw [← hx, ← hy]; exact this
  have HS1 := Lib.hid S1
  have HS2 := Lib.hid S2
  have HS3 := Lib.hid S3
  have HX := Lib.hid hx
  have HY := Lib.hid hy
  obtain ⟨m10, m11⟩ := m1
  obtain ⟨m20, m21⟩ := m2
  obtain ⟨m30, m31⟩ := m3
  obtain ⟨m40, m41⟩ := m4
  obtain ⟨e10, e11⟩ := e1
  obtain ⟨e20, e21⟩ := e2
  obtain ⟨bE0, bE1⟩ := bE
  obtain ⟨bF0, bF1⟩ := bF
  have z1 : -4611686018427387904 ≤ v1 ∧ v1 ≤ 4611686018427387904 := by omega
  have z2 : -4611686018427387904 ≤ v2 ∧ v2 ≤ 4611686018427387904 := by omega
  obtain ⟨z10, z11⟩ := z1
  obtain ⟨z20, z21⟩ := z2
  clear S1 S2 S3 hx hy hb h hg bA bB bC bD bx by_ e10 e11 e20 e21
  have K1 := Blk.new w 25 #[.int .i64 A, .int .i64 B, .int .i64 C, .int .i64 D, .int .i64 E, .int .i64 F]
  go_enter Try.func45, Try.ntmps45
  go_wp2_with fail
  refine (HA.out _).mono ?_
  rintro e_ w1 ⟨rfl, hb1⟩
  replace K1 := K1.below hb1 (by simp)
  have hbw : Below w.heap.size w w1 := btrans (by (repeat' (first | exact Below.refl _ _ | exact Below.refl _ _ | refine balloc ?_ _ | refine Below.drew ?_ | refine below_drewN ?_ _ | refine bset ?_ (by first | omega | (simp <;> omega)) _))) hb1
  have l1 := K1.lt
  have p0_ := K1.cell 0
  have p1_ := K1.cell 1
  have p2_ := K1.cell 2
  have p3_ := K1.cell 3
  have p4_ := K1.cell 4
  have p5_ := K1.cell 5
  simp only [List.getElem?_toArray, List.getElem?_cons_succ, List.getElem?_cons_zero] at p0_ p1_ p2_ p3_ p4_ p5_
  have u0 : ∀ u : Up w1, u.val.cell? ⟨w.heap.size, 0, none⟩ = some (.int .i64 A) := fun u => (u.cell l1).trans p0_
  have u1 : ∀ u : Up w1, u.val.cell? ⟨w.heap.size, 1, none⟩ = some (.int .i64 B) := fun u => (u.cell l1).trans p1_
  have u2 : ∀ u : Up w1, u.val.cell? ⟨w.heap.size, 2, none⟩ = some (.int .i64 C) := fun u => (u.cell l1).trans p2_
  have u3 : ∀ u : Up w1, u.val.cell? ⟨w.heap.size, 3, none⟩ = some (.int .i64 D) := fun u => (u.cell l1).trans p3_
  have u4 : ∀ u : Up w1, u.val.cell? ⟨w.heap.size, 4, none⟩ = some (.int .i64 E) := fun u => (u.cell l1).trans p4_
  have u5 : ∀ u : Up w1, u.val.cell? ⟨w.heap.size, 5, none⟩ = some (.int .i64 F) := fun u => (u.cell l1).trans p5_
  have HU1 := Lib.hid (fun u : Up w1 => up_same (u := u) (HS1.out u.val))
  have HU2 := Lib.hid (fun u : Up w1 => up_same (u := u) (HS2.out u.val))
  have HU3 := Lib.hid (fun u : Up w1 => up_same (u := u) (HS3.out u.val))
  have HBW := Lib.hid hbw
  clear HA HS1 HS2 HS3 hb1 hbw K1 p0_ p1_ p2_ p3_ p4_ p5_
  go_wp2_with fail
  refine wp_region_up (by kernel_rfl) (by kernel_rfl) ?_
  repeat (go_big_quiet_step (fail))
  go_big_quiet_step (exact HU1.out _)
  repeat (go_big_quiet_step (fail))
  go_big_quiet_step (exact HU2.out _)
  repeat (go_big_quiet_step (fail))
  go_big_quiet_step (exact HU3.out _)
  repeat (go_big_quiet_step (fail))
  refine wpQuiet_nil ?_
  rintro _ ⟨uq, rfl⟩
  go_wp2_with fail
  go_ret3
  exact ⟨rfl, btrans HBW.out uq.ok⟩
end Go.Proofs.Ytegpjjkbbdfggaa.mt

/-
  Layer 24 in the seat of the images: exact division (the text of mat/XExact).
-/
namespace Go.Proofs.Ytegpjjkbbdfggaa.mt
set_option linter.unusedVariables false
set_option linter.unusedSimpArgs false
open Go.RowKit bs
set_option maxRecDepth 100000 in
theorem size_abs (v : Int) : size v = (v.natAbs : Int) := by unfold size; split <;> omega
set_option maxRecDepth 100000 in
theorem sign_of (a b d r : Int) (hd : d ≠ 0) (h : a * b = r * d) : (neg a b d = true → r ≤ 0) ∧ (neg a b d = false → 0 ≤ r) := by
  have ab : (a < 0 ∧ b < 0 ∧ 0 < a * b) ∨ (a < 0 ∧ 0 ≤ b ∧ a * b ≤ 0) ∨ (0 ≤ a ∧ b < 0 ∧ a * b ≤ 0) ∨ (0 ≤ a ∧ 0 ≤ b ∧ 0 ≤ a * b) := by
    rcases Int.lt_or_le a 0 with ha | ha <;> rcases Int.lt_or_le b 0 with hb | hb
    · exact .inl ⟨ha, hb, Int.mul_pos_of_neg_of_neg ha hb⟩
    · exact .inr (.inl ⟨ha, hb, Int.mul_nonpos_of_nonpos_of_nonneg (Int.le_of_lt ha) hb⟩)
    · exact .inr (.inr (.inl ⟨ha, hb, Int.mul_nonpos_of_nonneg_of_nonpos ha (Int.le_of_lt hb)⟩))
    · exact .inr (.inr (.inr ⟨ha, hb, Int.mul_nonneg ha hb⟩))
  have rd : ∀ {x y : Int}, (0 < x → 0 < y → 0 < x * y) ∧ (0 < x → y < 0 → x * y < 0) ∧ (x < 0 → 0 < y → x * y < 0) ∧ (x < 0 → y < 0 → 0 < x * y) :=
    ⟨Int.mul_pos, Int.mul_neg_of_pos_of_neg, Int.mul_neg_of_neg_of_pos, Int.mul_pos_of_neg_of_neg⟩
  obtain ⟨r1, r2, r3, r4⟩ := @rd r d
  rw [← h] at r1 r2 r3 r4
  generalize a * b = z at *
  unfold neg
  constructor
  · intro hn
    rcases Int.lt_or_le 0 r with hr | hr
    · exfalso
      rcases Int.lt_or_le d 0 with hd0 | hd0
      · have := r2 hr hd0
        rcases ab with ⟨x1, x2, x3⟩ | ⟨x1, x2, x3⟩ | ⟨x1, x2, x3⟩ | ⟨x1, x2, x3⟩
        · omega
        · rw [decide_eq_true x1, decide_eq_false (by omega : ¬ b < 0), decide_eq_true hd0] at hn; cases hn
        · rw [decide_eq_false (by omega : ¬ a < 0), decide_eq_true x2, decide_eq_true hd0] at hn; cases hn
        · omega
      · have := r1 hr (by omega)
        rcases ab with ⟨x1, x2, x3⟩ | ⟨x1, x2, x3⟩ | ⟨x1, x2, x3⟩ | ⟨x1, x2, x3⟩
        · rw [decide_eq_true x1, decide_eq_true x2, decide_eq_false (by omega : ¬ d < 0)] at hn; cases hn
        · omega
        · omega
        · rw [decide_eq_false (by omega : ¬ a < 0), decide_eq_false (by omega : ¬ b < 0), decide_eq_false (by omega : ¬ d < 0)] at hn; cases hn
    · exact hr
  · intro hn
    rcases Int.lt_or_le r 0 with hr | hr
    · exfalso
      rcases Int.lt_or_le d 0 with hd0 | hd0
      · have := r4 hr hd0
        rcases ab with ⟨x1, x2, x3⟩ | ⟨x1, x2, x3⟩ | ⟨x1, x2, x3⟩ | ⟨x1, x2, x3⟩
        · rw [decide_eq_true x1, decide_eq_true x2, decide_eq_true hd0] at hn; cases hn
        · omega
        · omega
        · rw [decide_eq_false (by omega : ¬ a < 0), decide_eq_false (by omega : ¬ b < 0), decide_eq_true hd0] at hn; cases hn
      · have := r3 hr (by omega)
        rcases ab with ⟨x1, x2, x3⟩ | ⟨x1, x2, x3⟩ | ⟨x1, x2, x3⟩ | ⟨x1, x2, x3⟩
        · omega
        · rw [decide_eq_true x1, decide_eq_false (by omega : ¬ b < 0), decide_eq_false (by omega : ¬ d < 0)] at hn; cases hn
        · rw [decide_eq_false (by omega : ¬ a < 0), decide_eq_true x2, decide_eq_false (by omega : ¬ d < 0)] at hn; cases hn
        · omega
    · exact hr
set_option maxRecDepth 100000 in
/-- a product that the divisor divides -/
theorem mulDiv_exact {a b d r : Int} (hd : d ≠ 0) (h : a * b = r * d) (h0 : -9223372036854775808 < r) (h1 : r < 9223372036854775808) : mulDiv a b d = some r := by
  obtain ⟨s1, s2⟩ := sign_of a b d r hd h
  have hN : size a * size b = ((r.natAbs * d.natAbs : Nat) : Int) := by
    rw [size_abs, size_abs, ← Int.natAbs_mul, ← h, Int.natAbs_mul]
    push_cast; rfl
  have hD : size d = (d.natAbs : Int) := size_abs d
  have hD0 : 0 < d.natAbs := by omega
  have hr : rdiv (r.natAbs * d.natAbs) d.natAbs = r.natAbs := by
    unfold rdiv
    rw [Nat.mul_mod_left, Nat.mul_div_cancel _ hD0, if_neg (by omega)]
  unfold mulDiv
  rw [if_neg hd, hN, hD]
  simp only [Int.toNat_natCast]
  rw [hr]
  unfold sgn
  cases hn : neg a b d with
  | true =>
    have := s1 hn
    rw [if_pos rfl, if_pos (by omega)]
    congr 1
    omega
  | false =>
    have := s2 hn
    rw [if_neg (by decide), if_pos (by omega)]
    congr 1
    omega
set_option maxRecDepth 100000 in
theorem even32_exact (k : Int) : even (k * 4294967296) 4294967296 2147483648 = k := by unfold even; rw [if_neg (by omega)]; omega
set_option maxRecDepth 100000 in
theorem even16_exact (k : Int) : even (k * 65536) 65536 32768 = k := by unfold even; rw [if_neg (by omega)]; omega
set_option maxRecDepth 100000 in
theorem mayB_true {A B C D E F : Int} (a : -1073741823 ≤ A ∧ A ≤ 1073741823) (b : -1073741823 ≤ B ∧ B ≤ 1073741823) (c : -1073741823 ≤ C ∧ C ≤ 1073741823) (d : -1073741823 ≤ D ∧ D ≤ 1073741823) (e : -1073741823 ≤ E ∧ E ≤ 1073741823) (f : -1073741823 ≤ F ∧ F ≤ 1073741823) : mayB A B C D E F = true := by
  unfold mayB
  rw [fixB_true a, fixB_true b, fixB_true c, fixB_true d, fixB_true e, fixB_true f]
  rfl
set_option maxRecDepth 100000 in
theorem goodB_true {A B C D E F x y : Int} (h : mayB A B C D E F = true) (hx : -1073741823 ≤ x ∧ x ≤ 1073741823) (hy : -1073741823 ≤ y ∧ y ≤ 1073741823) : goodB A B C D E F x y = true := by
  unfold goodB
  rw [h, fixB_true hx, fixB_true hy]
  rfl
set_option maxRecDepth 100000 in
theorem nearB_true {x y m : Int} (hx : -m ≤ x ∧ x ≤ m) (hy : -m ≤ y ∧ y ≤ m) : nearB x y m = true := by unfold nearB; simp; omega
end Go.Proofs.Ytegpjjkbbdfggaa.mt

/-
  Layer 24's laws: Unit, a matrix of whole numbers whose determinant is 1 or -1; its value as a function of the numbers.
-/
namespace Go.Proofs.Ytegpjjkbbdfggaa.mt
set_option linter.unusedVariables false
set_option linter.unusedSimpArgs false
open Go.RowKit bs im

theorem mul_two {k a B : Int} (hk : -2 ≤ k ∧ k ≤ 2) (ha : -B ≤ a ∧ a ≤ B) : -(2 * B) ≤ k * a ∧ k * a ≤ 2 * B := by
  rcases (show k = -2 ∨ k = -1 ∨ k = 0 ∨ k = 1 ∨ k = 2 by omega) with h | h | h | h | h <;> subst h <;> omega
theorem shear_l (a b c d k : Int) : a * (d + k * b) - b * (c + k * a) = a * d - b * c := by
  rw [Int.mul_add, Int.mul_add, Int.mul_left_comm a k b, Int.mul_left_comm b k a, Int.mul_comm a b]
  omega
theorem shear_r (a b c d k : Int) : (a + k * c) * d - (b + k * d) * c = a * d - b * c := by
  rw [Int.add_mul, Int.add_mul, Int.mul_assoc k c d, Int.mul_assoc k d c, Int.mul_comm c d]
  omega
/-- what Unit's loop holds of its four numbers -/
def UB (B a b c d : Int) : Prop := (-B ≤ a ∧ a ≤ B) ∧ (-B ≤ b ∧ b ≤ B) ∧ (-B ≤ c ∧ c ≤ B) ∧ (-B ≤ d ∧ d ≤ B) ∧ Hid (a * d - b * c = 1)
/-- Unit's four numbers behind m rounds -/
def uS (ns : Nat → Int) : Nat → Int × Int × Int × Int
  | 0 => (1, 0, 0, 1)
  | m + 1 => if m % 2 = 0 then ((uS ns m).1, (uS ns m).2.1, (uS ns m).2.2.1 + (ns m % 5 - 2) * (uS ns m).1, (uS ns m).2.2.2 + (ns m % 5 - 2) * (uS ns m).2.1)
    else ((uS ns m).1 + (ns m % 5 - 2) * (uS ns m).2.2.1, (uS ns m).2.1 + (ns m % 5 - 2) * (uS ns m).2.2.2, (uS ns m).2.2.1, (uS ns m).2.2.2)
theorem uS_even {a b c d : Int} (ns : Nat → Int) (m : Nat) (h : uS ns m = (a, b, c, d)) (hm : m % 2 = 0) : uS ns (m + 1) = (a, b, c + (ns m % 5 - 2) * a, d + (ns m % 5 - 2) * b) := by
  show (if m % 2 = 0 then _ else _) = _
  rw [if_pos hm, h]
theorem uS_odd {a b c d : Int} (ns : Nat → Int) (m : Nat) (h : uS ns m = (a, b, c, d)) (hm : m % 2 = 1) : uS ns (m + 1) = (a + (ns m % 5 - 2) * c, b + (ns m % 5 - 2) * d, c, d) := by
  show (if m % 2 = 0 then _ else _) = _
  rw [if_neg (by omega), h]
/-- Unit's four numbers -/
def uV (ns : Nat → Int) (n : Nat) : Int × Int × Int × Int := if 4 < n ∧ (ns 4).tmod 2 ≠ 0 then ((uS ns 4).2.2.1, (uS ns 4).2.2.2, (uS ns 4).1, (uS ns 4).2.1) else uS ns (min n 4)
/-- is the result of Unit -/
def UnitV (ns : Nat → Int) (n : Nat) (w : World) (e : Ending) (w' : World) : Prop := ∃ a b c d : Int, uV ns n = (a, b, c, d) ∧ e = .returned (.agg #[.int .i64 (a * 65536), .int .i64 (b * 65536), .int .i64 (c * 65536), .int .i64 (d * 65536), .int .i64 0, .int .i64 0]) ∧
  (-81 ≤ a ∧ a ≤ 81) ∧ (-81 ≤ b ∧ b ≤ 81) ∧ (-81 ≤ c ∧ c ≤ 81) ∧ (-81 ≤ d ∧ d ≤ 81) ∧ (a * d - b * c = 1 ∨ a * d - b * c = -1) ∧ Below w.heap.size w w'

set_option maxRecDepth 100000 in
set_option maxHeartbeats 3200000 in
theorem unitV_any (A : Option Addr) (n c0 : Nat) (ns : Nat → Int) (w : World) (hI : op.Ints w A n c0 ns) (hn : n ≤ 9223372036854775807) : Calls Try.prog 29 #[.slice A n c0] w (UnitV ns n w) := by
  have hI2 : op.Ints (w.alloc (.cells #[.int .i64 0, .int .i64 0, .int .i64 0, .int .i64 0, .int .i64 0, .int .i64 0] 25)) A n c0 ns := hI.below (by (repeat' (first | exact Below.refl _ _ | exact Below.refl _ _ | refine balloc ?_ _ | refine Below.drew ?_ | refine below_drewN ?_ _ | refine bset ?_ (by first | omega | (simp <;> omega)) _)))
  have HI := Lib.hid hI2
  clear hI hI2
  go_enter Try.func29, Try.ntmps29
  go_wp2_with fail
  go_loop [3, 4, 5, 6, 7, 8, 37] (fun va vb vc vd vi x y => ∃ m : Nat, m ≤ 4 ∧ m ≤ n ∧ vi = .int .i64 m ∧ ∃ a b c d : Int, va = .int .i64 a ∧ vb = .int .i64 b ∧ vc = .int .i64 c ∧ vd = .int .i64 d ∧ UB (3 ^ m) a b c d ∧ Hid (uS ns m = (a, b, c, d))) (fun _ _ _ _ vi _ _ => 4 - (intOf vi).toNat)
  case atStart => exact ⟨0, by omega, by omega, rfl, 1, 0, 0, 1, rfl, rfl, rfl, rfl, ⟨by omega, by omega, by omega, by omega, (by decide : (1 : Int) * 1 - 0 * 0 = 1)⟩, rfl⟩
  case round =>
    obtain ⟨m, hm, hmn, rfl, a, b, c, d, rfl, rfl, rfl, rfl, ⟨ha, hb, hc, hd, HD⟩, HU⟩ := hrel
    rcases (show m = 0 ∨ m = 1 ∨ m = 2 ∨ m = 3 ∨ m = 4 by omega) with h | h | h | h | h <;> subst h
    · simp only [Int.reducePow, Nat.reducePow] at ha hb hc hd
      by_cases hlt : 0 < n
      · have c1 : decide ((0 : Int) < (n : Int)) = true := by simp; omega
        obtain ⟨b_, o_, rfl, hbl, hcl⟩ := HI.out.2 (by omega)
        have r0 := hcl 0 hlt
        simp only [Nat.add_zero] at r0
        have HPl := Lib.hid (fun W => place_any (ns 0) 5 W (by omega) (by omega))
        obtain ⟨v, hv⟩ : ∃ v, ns 0 = v := ⟨_, rfl⟩
        rw [hv] at r0 HPl
        obtain ⟨r, hr⟩ : ∃ r, v % 5 = r := ⟨_, rfl⟩
        rw [hr] at HPl
        have hr0 : 0 ≤ r ∧ r ≤ 4 := by omega
        obtain ⟨k, hk⟩ : ∃ k, r - 2 = k := ⟨_, rfl⟩
        have hk0 : -2 ≤ k ∧ k ≤ 2 := by omega
        have m1 := mul_two hk0 ha
        have m2 := mul_two hk0 hb
        have hdet := shear_l a b c d k
        rw [HD.out] at hdet
        have hU2 := uS_even ns 0 HU.out (by decide)
        rw [hv, hr, hk] at hU2
        generalize hp1 : k * a = p1 at *
        generalize hp2 : k * b = p2 at *
        have HD2 := Lib.hid hdet
        have HU2 := Lib.hid hU2
        have HC := Lib.hid hcl
        have HVr := Lib.hid hr
        have HVv := Lib.hid hv
        clear hcl hdet hr hv HD hU2 HU
        obtain ⟨ha0, ha1⟩ := ha
        obtain ⟨hb0, hb1⟩ := hb
        obtain ⟨hc0, hc1⟩ := hc
        obtain ⟨hd0, hd1⟩ := hd
        obtain ⟨m10, m11⟩ := m1
        obtain ⟨m20, m21⟩ := m2
        obtain ⟨hr00, hr01⟩ := hr0
        go_wp2_with fail
        refine (HPl.out _).mono ?_
        rintro e_ w_ ⟨rfl, rfl⟩
        go_wp2_with fail
        go_round
        case rel => exact ⟨1, by omega, by omega, rfl, _, _, _, _, rfl, rfl, rfl, rfl, ⟨by omega, by omega, by omega, by omega, HD2.out⟩, HU2.out⟩
        case measure => simp [intOf]
      · have HUV := Lib.hid (show uV ns n = (a, b, c, d) by unfold uV; rw [if_neg (by omega), show min n 4 = 0 by omega]; exact HU.out)
        have c1 : decide ((0 : Int) < (n : Int)) = false := by simp; omega
        have c4 : decide ((4 : Int) < (n : Int)) = false := by simp; omega
        have HWh := Lib.hid (fun W => Whole_any a b c d 0 0 W (by omega) (by omega) (by omega) (by omega) (by omega) (by omega))
        have K0 := Blk.new w 25 #[.int .i64 0, .int .i64 0, .int .i64 0, .int .i64 0, .int .i64 0, .int .i64 0]
        go_wp2_with fail
        refine (HWh.out _).mono ?_
        rintro e_ w1 ⟨rfl, hb1⟩
        replace K0 := K0.below hb1 (by simp)
        have hbw : Below w.heap.size w w1 := btrans (by (repeat' (first | exact Below.refl _ _ | exact Below.refl _ _ | refine balloc ?_ _ | refine Below.drew ?_ | refine below_drewN ?_ _ | refine bset ?_ (by first | omega | (simp <;> omega)) _))) hb1
        clear hb1
        have q0 := K0.cell 0
        have f0 := K0.frozen 0
        have q1 := K0.cell 1
        have f1 := K0.frozen 1
        have q2 := K0.cell 2
        have f2 := K0.frozen 2
        have q3 := K0.cell 3
        have f3 := K0.frozen 3
        have q4 := K0.cell 4
        have f4 := K0.frozen 4
        have q5 := K0.cell 5
        have f5 := K0.frozen 5
        simp only [List.getElem?_toArray, List.getElem?_cons_succ, List.getElem?_cons_zero] at q0 q1 q2 q3 q4 q5
        have HK := Lib.hid K0
        have HBW := Lib.hid hbw
        clear K0 hbw
        go_wp2_with fail
        have K := (((((HK.out.set_ 0 (.int .i64 (a * 65536))).set_ 1 (.int .i64 (b * 65536))).set_ 2 (.int .i64 (c * 65536))).set_ 3 (.int .i64 (d * 65536))).set_ 4 (.int .i64 0)).set_ 5 (.int .i64 0)
        refine ret_struct1 (g := w.heap.size) (t := 25) (cs := #[.int .i64 (a * 65536), .int .i64 (b * 65536), .int .i64 (c * 65536), .int .i64 (d * 65536), .int .i64 0, .int .i64 0]) rfl rfl ?_ Try.underlying25 rfl rfl rfl ?_
        · exact K
        · exact ⟨_, _, _, _, HUV.out, rfl, by omega, by omega, by omega, by omega, .inl HD.out, by (repeat' (first | refine bset ?_ (by first | omega | (simp <;> omega)) _ | refine balloc ?_ _ | refine Below.drew ?_ | refine below_drewN ?_ _ | exact HBW.out | exact Below.refl _ _))⟩
    · simp only [Int.reducePow, Nat.reducePow] at ha hb hc hd
      by_cases hlt : 1 < n
      · have c1 : decide ((1 : Int) < (n : Int)) = true := by simp; omega
        obtain ⟨b_, o_, rfl, hbl, hcl⟩ := HI.out.2 (by omega)
        have r0 := hcl 1 hlt
        have HPl := Lib.hid (fun W => place_any (ns 1) 5 W (by omega) (by omega))
        obtain ⟨v, hv⟩ : ∃ v, ns 1 = v := ⟨_, rfl⟩
        rw [hv] at r0 HPl
        obtain ⟨r, hr⟩ : ∃ r, v % 5 = r := ⟨_, rfl⟩
        rw [hr] at HPl
        have hr0 : 0 ≤ r ∧ r ≤ 4 := by omega
        obtain ⟨k, hk⟩ : ∃ k, r - 2 = k := ⟨_, rfl⟩
        have hk0 : -2 ≤ k ∧ k ≤ 2 := by omega
        have m1 := mul_two hk0 hc
        have m2 := mul_two hk0 hd
        have hdet := shear_r a b c d k
        rw [HD.out] at hdet
        have hU2 := uS_odd ns 1 HU.out (by decide)
        rw [hv, hr, hk] at hU2
        generalize hp1 : k * c = p1 at *
        generalize hp2 : k * d = p2 at *
        have HD2 := Lib.hid hdet
        have HU2 := Lib.hid hU2
        have HC := Lib.hid hcl
        have HVr := Lib.hid hr
        have HVv := Lib.hid hv
        clear hcl hdet hr hv HD hU2 HU
        obtain ⟨ha0, ha1⟩ := ha
        obtain ⟨hb0, hb1⟩ := hb
        obtain ⟨hc0, hc1⟩ := hc
        obtain ⟨hd0, hd1⟩ := hd
        obtain ⟨m10, m11⟩ := m1
        obtain ⟨m20, m21⟩ := m2
        obtain ⟨hr00, hr01⟩ := hr0
        go_wp2_with fail
        refine (HPl.out _).mono ?_
        rintro e_ w_ ⟨rfl, rfl⟩
        go_wp2_with fail
        go_round
        case rel => exact ⟨2, by omega, by omega, rfl, _, _, _, _, rfl, rfl, rfl, rfl, ⟨by omega, by omega, by omega, by omega, HD2.out⟩, HU2.out⟩
        case measure => simp [intOf]
      · have HUV := Lib.hid (show uV ns n = (a, b, c, d) by unfold uV; rw [if_neg (by omega), show min n 4 = 1 by omega]; exact HU.out)
        have c1 : decide ((1 : Int) < (n : Int)) = false := by simp; omega
        have c4 : decide ((4 : Int) < (n : Int)) = false := by simp; omega
        have HWh := Lib.hid (fun W => Whole_any a b c d 0 0 W (by omega) (by omega) (by omega) (by omega) (by omega) (by omega))
        have K0 := Blk.new w 25 #[.int .i64 0, .int .i64 0, .int .i64 0, .int .i64 0, .int .i64 0, .int .i64 0]
        go_wp2_with fail
        refine (HWh.out _).mono ?_
        rintro e_ w1 ⟨rfl, hb1⟩
        replace K0 := K0.below hb1 (by simp)
        have hbw : Below w.heap.size w w1 := btrans (by (repeat' (first | exact Below.refl _ _ | exact Below.refl _ _ | refine balloc ?_ _ | refine Below.drew ?_ | refine below_drewN ?_ _ | refine bset ?_ (by first | omega | (simp <;> omega)) _))) hb1
        clear hb1
        have q0 := K0.cell 0
        have f0 := K0.frozen 0
        have q1 := K0.cell 1
        have f1 := K0.frozen 1
        have q2 := K0.cell 2
        have f2 := K0.frozen 2
        have q3 := K0.cell 3
        have f3 := K0.frozen 3
        have q4 := K0.cell 4
        have f4 := K0.frozen 4
        have q5 := K0.cell 5
        have f5 := K0.frozen 5
        simp only [List.getElem?_toArray, List.getElem?_cons_succ, List.getElem?_cons_zero] at q0 q1 q2 q3 q4 q5
        have HK := Lib.hid K0
        have HBW := Lib.hid hbw
        clear K0 hbw
        go_wp2_with fail
        have K := (((((HK.out.set_ 0 (.int .i64 (a * 65536))).set_ 1 (.int .i64 (b * 65536))).set_ 2 (.int .i64 (c * 65536))).set_ 3 (.int .i64 (d * 65536))).set_ 4 (.int .i64 0)).set_ 5 (.int .i64 0)
        refine ret_struct1 (g := w.heap.size) (t := 25) (cs := #[.int .i64 (a * 65536), .int .i64 (b * 65536), .int .i64 (c * 65536), .int .i64 (d * 65536), .int .i64 0, .int .i64 0]) rfl rfl ?_ Try.underlying25 rfl rfl rfl ?_
        · exact K
        · exact ⟨_, _, _, _, HUV.out, rfl, by omega, by omega, by omega, by omega, .inl HD.out, by (repeat' (first | refine bset ?_ (by first | omega | (simp <;> omega)) _ | refine balloc ?_ _ | refine Below.drew ?_ | refine below_drewN ?_ _ | exact HBW.out | exact Below.refl _ _))⟩
    · simp only [Int.reducePow, Nat.reducePow] at ha hb hc hd
      by_cases hlt : 2 < n
      · have c1 : decide ((2 : Int) < (n : Int)) = true := by simp; omega
        obtain ⟨b_, o_, rfl, hbl, hcl⟩ := HI.out.2 (by omega)
        have r0 := hcl 2 hlt
        have HPl := Lib.hid (fun W => place_any (ns 2) 5 W (by omega) (by omega))
        obtain ⟨v, hv⟩ : ∃ v, ns 2 = v := ⟨_, rfl⟩
        rw [hv] at r0 HPl
        obtain ⟨r, hr⟩ : ∃ r, v % 5 = r := ⟨_, rfl⟩
        rw [hr] at HPl
        have hr0 : 0 ≤ r ∧ r ≤ 4 := by omega
        obtain ⟨k, hk⟩ : ∃ k, r - 2 = k := ⟨_, rfl⟩
        have hk0 : -2 ≤ k ∧ k ≤ 2 := by omega
        have m1 := mul_two hk0 ha
        have m2 := mul_two hk0 hb
        have hdet := shear_l a b c d k
        rw [HD.out] at hdet
        have hU2 := uS_even ns 2 HU.out (by decide)
        rw [hv, hr, hk] at hU2
        generalize hp1 : k * a = p1 at *
        generalize hp2 : k * b = p2 at *
        have HD2 := Lib.hid hdet
        have HU2 := Lib.hid hU2
        have HC := Lib.hid hcl
        have HVr := Lib.hid hr
        have HVv := Lib.hid hv
        clear hcl hdet hr hv HD hU2 HU
        obtain ⟨ha0, ha1⟩ := ha
        obtain ⟨hb0, hb1⟩ := hb
        obtain ⟨hc0, hc1⟩ := hc
        obtain ⟨hd0, hd1⟩ := hd
        obtain ⟨m10, m11⟩ := m1
        obtain ⟨m20, m21⟩ := m2
        obtain ⟨hr00, hr01⟩ := hr0
        go_wp2_with fail
        refine (HPl.out _).mono ?_
        rintro e_ w_ ⟨rfl, rfl⟩
        go_wp2_with fail
        go_round
        case rel => exact ⟨3, by omega, by omega, rfl, _, _, _, _, rfl, rfl, rfl, rfl, ⟨by omega, by omega, by omega, by omega, HD2.out⟩, HU2.out⟩
        case measure => simp [intOf]
      · have HUV := Lib.hid (show uV ns n = (a, b, c, d) by unfold uV; rw [if_neg (by omega), show min n 4 = 2 by omega]; exact HU.out)
        have c1 : decide ((2 : Int) < (n : Int)) = false := by simp; omega
        have c4 : decide ((4 : Int) < (n : Int)) = false := by simp; omega
        have HWh := Lib.hid (fun W => Whole_any a b c d 0 0 W (by omega) (by omega) (by omega) (by omega) (by omega) (by omega))
        have K0 := Blk.new w 25 #[.int .i64 0, .int .i64 0, .int .i64 0, .int .i64 0, .int .i64 0, .int .i64 0]
        go_wp2_with fail
        refine (HWh.out _).mono ?_
        rintro e_ w1 ⟨rfl, hb1⟩
        replace K0 := K0.below hb1 (by simp)
        have hbw : Below w.heap.size w w1 := btrans (by (repeat' (first | exact Below.refl _ _ | exact Below.refl _ _ | refine balloc ?_ _ | refine Below.drew ?_ | refine below_drewN ?_ _ | refine bset ?_ (by first | omega | (simp <;> omega)) _))) hb1
        clear hb1
        have q0 := K0.cell 0
        have f0 := K0.frozen 0
        have q1 := K0.cell 1
        have f1 := K0.frozen 1
        have q2 := K0.cell 2
        have f2 := K0.frozen 2
        have q3 := K0.cell 3
        have f3 := K0.frozen 3
        have q4 := K0.cell 4
        have f4 := K0.frozen 4
        have q5 := K0.cell 5
        have f5 := K0.frozen 5
        simp only [List.getElem?_toArray, List.getElem?_cons_succ, List.getElem?_cons_zero] at q0 q1 q2 q3 q4 q5
        have HK := Lib.hid K0
        have HBW := Lib.hid hbw
        clear K0 hbw
        go_wp2_with fail
        have K := (((((HK.out.set_ 0 (.int .i64 (a * 65536))).set_ 1 (.int .i64 (b * 65536))).set_ 2 (.int .i64 (c * 65536))).set_ 3 (.int .i64 (d * 65536))).set_ 4 (.int .i64 0)).set_ 5 (.int .i64 0)
        refine ret_struct1 (g := w.heap.size) (t := 25) (cs := #[.int .i64 (a * 65536), .int .i64 (b * 65536), .int .i64 (c * 65536), .int .i64 (d * 65536), .int .i64 0, .int .i64 0]) rfl rfl ?_ Try.underlying25 rfl rfl rfl ?_
        · exact K
        · exact ⟨_, _, _, _, HUV.out, rfl, by omega, by omega, by omega, by omega, .inl HD.out, by (repeat' (first | refine bset ?_ (by first | omega | (simp <;> omega)) _ | refine balloc ?_ _ | refine Below.drew ?_ | refine below_drewN ?_ _ | exact HBW.out | exact Below.refl _ _))⟩
    · simp only [Int.reducePow, Nat.reducePow] at ha hb hc hd
      by_cases hlt : 3 < n
      · have c1 : decide ((3 : Int) < (n : Int)) = true := by simp; omega
        obtain ⟨b_, o_, rfl, hbl, hcl⟩ := HI.out.2 (by omega)
        have r0 := hcl 3 hlt
        have HPl := Lib.hid (fun W => place_any (ns 3) 5 W (by omega) (by omega))
        obtain ⟨v, hv⟩ : ∃ v, ns 3 = v := ⟨_, rfl⟩
        rw [hv] at r0 HPl
        obtain ⟨r, hr⟩ : ∃ r, v % 5 = r := ⟨_, rfl⟩
        rw [hr] at HPl
        have hr0 : 0 ≤ r ∧ r ≤ 4 := by omega
        obtain ⟨k, hk⟩ : ∃ k, r - 2 = k := ⟨_, rfl⟩
        have hk0 : -2 ≤ k ∧ k ≤ 2 := by omega
        have m1 := mul_two hk0 hc
        have m2 := mul_two hk0 hd
        have hdet := shear_r a b c d k
        rw [HD.out] at hdet
        have hU2 := uS_odd ns 3 HU.out (by decide)
        rw [hv, hr, hk] at hU2
        generalize hp1 : k * c = p1 at *
        generalize hp2 : k * d = p2 at *
        have HD2 := Lib.hid hdet
        have HU2 := Lib.hid hU2
        have HC := Lib.hid hcl
        have HVr := Lib.hid hr
        have HVv := Lib.hid hv
        clear hcl hdet hr hv HD hU2 HU
        obtain ⟨ha0, ha1⟩ := ha
        obtain ⟨hb0, hb1⟩ := hb
        obtain ⟨hc0, hc1⟩ := hc
        obtain ⟨hd0, hd1⟩ := hd
        obtain ⟨m10, m11⟩ := m1
        obtain ⟨m20, m21⟩ := m2
        obtain ⟨hr00, hr01⟩ := hr0
        go_wp2_with fail
        refine (HPl.out _).mono ?_
        rintro e_ w_ ⟨rfl, rfl⟩
        go_wp2_with fail
        go_round
        case rel => exact ⟨4, by omega, by omega, rfl, _, _, _, _, rfl, rfl, rfl, rfl, ⟨by omega, by omega, by omega, by omega, HD2.out⟩, HU2.out⟩
        case measure => simp [intOf]
      · have HUV := Lib.hid (show uV ns n = (a, b, c, d) by unfold uV; rw [if_neg (by omega), show min n 4 = 3 by omega]; exact HU.out)
        have c1 : decide ((3 : Int) < (n : Int)) = false := by simp; omega
        have c4 : decide ((4 : Int) < (n : Int)) = false := by simp; omega
        have HWh := Lib.hid (fun W => Whole_any a b c d 0 0 W (by omega) (by omega) (by omega) (by omega) (by omega) (by omega))
        have K0 := Blk.new w 25 #[.int .i64 0, .int .i64 0, .int .i64 0, .int .i64 0, .int .i64 0, .int .i64 0]
        go_wp2_with fail
        refine (HWh.out _).mono ?_
        rintro e_ w1 ⟨rfl, hb1⟩
        replace K0 := K0.below hb1 (by simp)
        have hbw : Below w.heap.size w w1 := btrans (by (repeat' (first | exact Below.refl _ _ | exact Below.refl _ _ | refine balloc ?_ _ | refine Below.drew ?_ | refine below_drewN ?_ _ | refine bset ?_ (by first | omega | (simp <;> omega)) _))) hb1
        clear hb1
        have q0 := K0.cell 0
        have f0 := K0.frozen 0
        have q1 := K0.cell 1
        have f1 := K0.frozen 1
        have q2 := K0.cell 2
        have f2 := K0.frozen 2
        have q3 := K0.cell 3
        have f3 := K0.frozen 3
        have q4 := K0.cell 4
        have f4 := K0.frozen 4
        have q5 := K0.cell 5
        have f5 := K0.frozen 5
        simp only [List.getElem?_toArray, List.getElem?_cons_succ, List.getElem?_cons_zero] at q0 q1 q2 q3 q4 q5
        have HK := Lib.hid K0
        have HBW := Lib.hid hbw
        clear K0 hbw
        go_wp2_with fail
        have K := (((((HK.out.set_ 0 (.int .i64 (a * 65536))).set_ 1 (.int .i64 (b * 65536))).set_ 2 (.int .i64 (c * 65536))).set_ 3 (.int .i64 (d * 65536))).set_ 4 (.int .i64 0)).set_ 5 (.int .i64 0)
        refine ret_struct1 (g := w.heap.size) (t := 25) (cs := #[.int .i64 (a * 65536), .int .i64 (b * 65536), .int .i64 (c * 65536), .int .i64 (d * 65536), .int .i64 0, .int .i64 0]) rfl rfl ?_ Try.underlying25 rfl rfl rfl ?_
        · exact K
        · exact ⟨_, _, _, _, HUV.out, rfl, by omega, by omega, by omega, by omega, .inl HD.out, by (repeat' (first | refine bset ?_ (by first | omega | (simp <;> omega)) _ | refine balloc ?_ _ | refine Below.drew ?_ | refine below_drewN ?_ _ | exact HBW.out | exact Below.refl _ _))⟩
    · simp only [Int.reducePow, Nat.reducePow] at ha hb hc hd
      by_cases h4 : 4 < n
      · have c4 : decide ((4 : Int) < (n : Int)) = true := by simp; omega
        obtain ⟨b_, o_, rfl, hbl, hcl⟩ := HI.out.2 (by omega)
        have r4 := hcl 4 h4
        obtain ⟨v4, hv4⟩ : ∃ v, ns 4 = v := ⟨_, rfl⟩
        rw [hv4] at r4
        obtain ⟨t, ht⟩ : ∃ t, v4.tmod 2 = t := ⟨_, rfl⟩
        have HC := Lib.hid hcl
        have HV := Lib.hid hv4
        clear hcl hv4
        by_cases h0 : t = 0
        · have HUV := Lib.hid (show uV ns n = (a, b, c, d) by unfold uV; rw [if_neg (by rintro ⟨_, h⟩; exact h (by rw [HV.out]; exact ht.trans h0)), show min n 4 = 4 by omega]; exact HU.out)
          have c5 : (t == 0) = true := by simp [h0]
          have c6 : (t != 0) = false := by simp [h0]
          have HWh := Lib.hid (fun W => Whole_any a b c d 0 0 W (by omega) (by omega) (by omega) (by omega) (by omega) (by omega))
          have K0 := Blk.new w 25 #[.int .i64 0, .int .i64 0, .int .i64 0, .int .i64 0, .int .i64 0, .int .i64 0]
          go_wp2_with fail
          refine (HWh.out _).mono ?_
          rintro e_ w1 ⟨rfl, hb1⟩
          replace K0 := K0.below hb1 (by simp)
          have hbw : Below w.heap.size w w1 := btrans (by (repeat' (first | exact Below.refl _ _ | exact Below.refl _ _ | refine balloc ?_ _ | refine Below.drew ?_ | refine below_drewN ?_ _ | refine bset ?_ (by first | omega | (simp <;> omega)) _))) hb1
          clear hb1
          have q0 := K0.cell 0
          have f0 := K0.frozen 0
          have q1 := K0.cell 1
          have f1 := K0.frozen 1
          have q2 := K0.cell 2
          have f2 := K0.frozen 2
          have q3 := K0.cell 3
          have f3 := K0.frozen 3
          have q4 := K0.cell 4
          have f4 := K0.frozen 4
          have q5 := K0.cell 5
          have f5 := K0.frozen 5
          simp only [List.getElem?_toArray, List.getElem?_cons_succ, List.getElem?_cons_zero] at q0 q1 q2 q3 q4 q5
          have HK := Lib.hid K0
          have HBW := Lib.hid hbw
          clear K0 hbw
          go_wp2_with fail
          have K := (((((HK.out.set_ 0 (.int .i64 (a * 65536))).set_ 1 (.int .i64 (b * 65536))).set_ 2 (.int .i64 (c * 65536))).set_ 3 (.int .i64 (d * 65536))).set_ 4 (.int .i64 0)).set_ 5 (.int .i64 0)
          refine ret_struct1 (g := w.heap.size) (t := 25) (cs := #[.int .i64 (a * 65536), .int .i64 (b * 65536), .int .i64 (c * 65536), .int .i64 (d * 65536), .int .i64 0, .int .i64 0]) rfl rfl ?_ Try.underlying25 rfl rfl rfl ?_
          · exact K
          · exact ⟨_, _, _, _, HUV.out, rfl, by omega, by omega, by omega, by omega, .inl HD.out, by (repeat' (first | refine bset ?_ (by first | omega | (simp <;> omega)) _ | refine balloc ?_ _ | refine Below.drew ?_ | refine below_drewN ?_ _ | exact HBW.out | exact Below.refl _ _))⟩
        · have HUV := Lib.hid (show uV ns n = (c, d, a, b) by unfold uV; rw [if_pos ⟨h4, by rw [HV.out, ht]; exact h0⟩, HU.out])
          have c5 : (t == 0) = false := by simp [h0]
          have c6 : (t != 0) = true := by simp [h0]
          have HWh := Lib.hid (fun W => Whole_any c d a b 0 0 W (by omega) (by omega) (by omega) (by omega) (by omega) (by omega))
          have K0 := Blk.new w 25 #[.int .i64 0, .int .i64 0, .int .i64 0, .int .i64 0, .int .i64 0, .int .i64 0]
          go_wp2_with fail
          refine (HWh.out _).mono ?_
          rintro e_ w1 ⟨rfl, hb1⟩
          replace K0 := K0.below hb1 (by simp)
          have hbw : Below w.heap.size w w1 := btrans (by (repeat' (first | exact Below.refl _ _ | exact Below.refl _ _ | refine balloc ?_ _ | refine Below.drew ?_ | refine below_drewN ?_ _ | refine bset ?_ (by first | omega | (simp <;> omega)) _))) hb1
          clear hb1
          have q0 := K0.cell 0
          have f0 := K0.frozen 0
          have q1 := K0.cell 1
          have f1 := K0.frozen 1
          have q2 := K0.cell 2
          have f2 := K0.frozen 2
          have q3 := K0.cell 3
          have f3 := K0.frozen 3
          have q4 := K0.cell 4
          have f4 := K0.frozen 4
          have q5 := K0.cell 5
          have f5 := K0.frozen 5
          simp only [List.getElem?_toArray, List.getElem?_cons_succ, List.getElem?_cons_zero] at q0 q1 q2 q3 q4 q5
          have HK := Lib.hid K0
          have HBW := Lib.hid hbw
          clear K0 hbw
          go_wp2_with fail
          have K := (((((HK.out.set_ 0 (.int .i64 (c * 65536))).set_ 1 (.int .i64 (d * 65536))).set_ 2 (.int .i64 (a * 65536))).set_ 3 (.int .i64 (b * 65536))).set_ 4 (.int .i64 0)).set_ 5 (.int .i64 0)
          refine ret_struct1 (g := w.heap.size) (t := 25) (cs := #[.int .i64 (c * 65536), .int .i64 (d * 65536), .int .i64 (a * 65536), .int .i64 (b * 65536), .int .i64 0, .int .i64 0]) rfl rfl ?_ Try.underlying25 rfl rfl rfl ?_
          · exact K
          · exact ⟨_, _, _, _, HUV.out, rfl, by omega, by omega, by omega, by omega, .inr (by have := HD.out; have e1 := Int.mul_comm c b; have e2 := Int.mul_comm d a; omega), by (repeat' (first | refine bset ?_ (by first | omega | (simp <;> omega)) _ | refine balloc ?_ _ | refine Below.drew ?_ | refine below_drewN ?_ _ | exact HBW.out | exact Below.refl _ _))⟩
      · have HUV := Lib.hid (show uV ns n = (a, b, c, d) by unfold uV; rw [if_neg (by omega), show min n 4 = 4 by omega]; exact HU.out)
        have c4 : decide ((4 : Int) < (n : Int)) = false := by simp; omega
        have HWh := Lib.hid (fun W => Whole_any a b c d 0 0 W (by omega) (by omega) (by omega) (by omega) (by omega) (by omega))
        have K0 := Blk.new w 25 #[.int .i64 0, .int .i64 0, .int .i64 0, .int .i64 0, .int .i64 0, .int .i64 0]
        go_wp2_with fail
        refine (HWh.out _).mono ?_
        rintro e_ w1 ⟨rfl, hb1⟩
        replace K0 := K0.below hb1 (by simp)
        have hbw : Below w.heap.size w w1 := btrans (by (repeat' (first | exact Below.refl _ _ | exact Below.refl _ _ | refine balloc ?_ _ | refine Below.drew ?_ | refine below_drewN ?_ _ | refine bset ?_ (by first | omega | (simp <;> omega)) _))) hb1
        clear hb1
        have q0 := K0.cell 0
        have f0 := K0.frozen 0
        have q1 := K0.cell 1
        have f1 := K0.frozen 1
        have q2 := K0.cell 2
        have f2 := K0.frozen 2
        have q3 := K0.cell 3
        have f3 := K0.frozen 3
        have q4 := K0.cell 4
        have f4 := K0.frozen 4
        have q5 := K0.cell 5
        have f5 := K0.frozen 5
        simp only [List.getElem?_toArray, List.getElem?_cons_succ, List.getElem?_cons_zero] at q0 q1 q2 q3 q4 q5
        have HK := Lib.hid K0
        have HBW := Lib.hid hbw
        clear K0 hbw
        go_wp2_with fail
        have K := (((((HK.out.set_ 0 (.int .i64 (a * 65536))).set_ 1 (.int .i64 (b * 65536))).set_ 2 (.int .i64 (c * 65536))).set_ 3 (.int .i64 (d * 65536))).set_ 4 (.int .i64 0)).set_ 5 (.int .i64 0)
        refine ret_struct1 (g := w.heap.size) (t := 25) (cs := #[.int .i64 (a * 65536), .int .i64 (b * 65536), .int .i64 (c * 65536), .int .i64 (d * 65536), .int .i64 0, .int .i64 0]) rfl rfl ?_ Try.underlying25 rfl rfl rfl ?_
        · exact K
        · exact ⟨_, _, _, _, HUV.out, rfl, by omega, by omega, by omega, by omega, .inl HD.out, by (repeat' (first | refine bset ?_ (by first | omega | (simp <;> omega)) _ | refine balloc ?_ _ | refine Below.drew ?_ | refine below_drewN ?_ _ | exact HBW.out | exact Below.refl _ _))⟩

end Go.Proofs.Ytegpjjkbbdfggaa.mt
