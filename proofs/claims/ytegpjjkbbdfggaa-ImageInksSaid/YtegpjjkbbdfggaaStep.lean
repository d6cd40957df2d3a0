/-
  Layer 37: the closure of walk: the next sample of a line.
-/
import Derived.Test.YtegpjjkbbdfggaaAt2
namespace Go.Proofs.Ytegpjjkbbdfggaa.im
set_option linter.unusedVariables false
set_option linter.unusedSimpArgs false
open Go.RowKit bs mt

theorem blk_new2 (w : World) (o : Obj) (t : TypeId) (cs : Array Value) : Blk ((w.alloc o).alloc (.cells cs t)) (w.heap.size + 1) t cs := by
  have := Blk.new (w.alloc o) t cs
  simpa using this

set_option maxRecDepth 100000 in
set_option maxHeartbeats 1600000 in
theorem step_any (W H B a b c d e f t X Z dd bb X2 Z2 u v z : Int) (vB xB zB : Nat) (s : ByteArray) (w : World) (Kv : Blk w vB 92 #[.int .i64 W, .int .i64 H, .int .i64 B, .string s, .int .i64 a, .int .i64 b, .int .i64 c, .int .i64 d, .int .i64 e, .int .i64 f, .int .i64 t]) (Kx : Blk w xB 3 #[.int .i64 X]) (Kz : Blk w zB 3 #[.int .i64 Z]) (n1 : vB ≠ xB) (n2 : vB ≠ zB) (n3 : xB ≠ zB)
    (hd : d * 1048576 = dd) (hb : b * 1048576 = bb) (hX : X + dd = X2) (hZ : Z - bb = Z2) (d0 : -4611686018427387904 ≤ dd) (d1 : dd ≤ 4611686018427387904) (b0 : -4611686018427387904 ≤ bb) (b1 : bb ≤ 4611686018427387904) (x0 : -4611686018427387904 ≤ X2) (x1 : X2 ≤ 4611686018427387904) (z0 : -4611686018427387904 ≤ Z2) (z1 : Z2 ≤ 4611686018427387904)
    (HD1 : Hid (∀ W', Calls Try.prog 102 #[.int .i64 X, .int .i64 t] W' fun ed w' => ed = .returned (.int .i64 u) ∧ W' = w'))
    (HD2 : Hid (∀ W', Calls Try.prog 102 #[.int .i64 Z, .int .i64 t] W' fun ed w' => ed = .returned (.int .i64 v) ∧ W' = w'))
    (HS : Hid (∀ W', Calls Try.prog 57 #[.agg #[.int .i64 W, .int .i64 H, .int .i64 B, .string s], .int .i64 u, .int .i64 v] W' fun ed w' => ed = .returned (.int .i64 z) ∧ Below W'.heap.size W' w')) :
    Calls Try.prog 104 #[.pointer (some ⟨vB, 0, none⟩), .pointer (some ⟨xB, 0, none⟩), .pointer (some ⟨zB, 0, none⟩)] w fun ed w' => ed = .returned (.int .i64 z) ∧ ∃ wm, Below w.heap.size w wm ∧ w' = (wm.setCell ⟨xB, 0, none⟩ (.int .i64 X2)).setCell ⟨zB, 0, none⟩ (.int .i64 Z2) := by
  go_enter Try.func104, Try.ntmps104
  have hbw : Below w.heap.size w w := Below.refl _ _
  have lKv := Kv.lt
  have cKv0 := Kv.cell 0
  have cKv1 := Kv.cell 1
  have cKv2 := Kv.cell 2
  have cKv3 := Kv.cell 3
  have cKv4 := Kv.cell 4
  have cKv5 := Kv.cell 5
  have cKv6 := Kv.cell 6
  have cKv7 := Kv.cell 7
  have cKv8 := Kv.cell 8
  have cKv9 := Kv.cell 9
  have cKv10 := Kv.cell 10
  have lKx := Kx.lt
  have cKx0 := Kx.cell 0
  have fKx0 := Kx.frozen 0
  have lKz := Kz.lt
  have cKz0 := Kz.cell 0
  have fKz0 := Kz.frozen 0
  simp only [List.getElem?_toArray, List.getElem?_cons_succ, List.getElem?_cons_zero] at cKv0 cKv1 cKv2 cKv3 cKv4 cKv5 cKv6 cKv7 cKv8 cKv9 cKv10 cKx0 cKz0
  go_wp2_with fail
  have uKv0 : ∀ u : Up w, u.val.cell? ⟨vB, 0, none⟩ = some (.int .i64 W) := fun u => (u.cell lKv).trans cKv0
  have uKv1 : ∀ u : Up w, u.val.cell? ⟨vB, 1, none⟩ = some (.int .i64 H) := fun u => (u.cell lKv).trans cKv1
  have uKv2 : ∀ u : Up w, u.val.cell? ⟨vB, 2, none⟩ = some (.int .i64 B) := fun u => (u.cell lKv).trans cKv2
  have uKv3 : ∀ u : Up w, u.val.cell? ⟨vB, 3, none⟩ = some (.string s) := fun u => (u.cell lKv).trans cKv3
  have uKv4 : ∀ u : Up w, u.val.cell? ⟨vB, 4, none⟩ = some (.int .i64 a) := fun u => (u.cell lKv).trans cKv4
  have uKv5 : ∀ u : Up w, u.val.cell? ⟨vB, 5, none⟩ = some (.int .i64 b) := fun u => (u.cell lKv).trans cKv5
  have uKv6 : ∀ u : Up w, u.val.cell? ⟨vB, 6, none⟩ = some (.int .i64 c) := fun u => (u.cell lKv).trans cKv6
  have uKv7 : ∀ u : Up w, u.val.cell? ⟨vB, 7, none⟩ = some (.int .i64 d) := fun u => (u.cell lKv).trans cKv7
  have uKv8 : ∀ u : Up w, u.val.cell? ⟨vB, 8, none⟩ = some (.int .i64 e) := fun u => (u.cell lKv).trans cKv8
  have uKv9 : ∀ u : Up w, u.val.cell? ⟨vB, 9, none⟩ = some (.int .i64 f) := fun u => (u.cell lKv).trans cKv9
  have uKv10 : ∀ u : Up w, u.val.cell? ⟨vB, 10, none⟩ = some (.int .i64 t) := fun u => (u.cell lKv).trans cKv10
  have uKx0 : ∀ u : Up w, u.val.cell? ⟨xB, 0, none⟩ = some (.int .i64 X) := fun u => (u.cell lKx).trans cKx0
  have uKz0 : ∀ u : Up w, u.val.cell? ⟨zB, 0, none⟩ = some (.int .i64 Z) := fun u => (u.cell lKz).trans cKz0
  have HU1 := Lib.hid (fun u : Up w => up_same (u := u) (HD1.out u.val))
  have HU2 := Lib.hid (fun u : Up w => up_same (u := u) (HD2.out u.val))
  have HU3 := Lib.hid (fun u : Up w => up_of (u := u) (HS.out u.val))
  refine wp_region_up (by kernel_rfl) (by kernel_rfl) ?_
  repeat (go_big_quiet_step (fail))
  go_big_quiet_step (exact HU1.out _)
  repeat (go_big_quiet_step (fail))
  go_big_quiet_step (exact HU2.out _)
  repeat (go_big_quiet_step (fail))
  go_big_quiet_step (exact HU3.out _)
  repeat (go_big_quiet_step (fail))
  refine wpQuiet_nil ?_
  rintro _ ⟨uq, rfl⟩
  replace Kv := Kv.below uq.ok lKv
  replace Kx := Kx.below uq.ok lKx
  replace Kz := Kz.below uq.ok lKz
  replace hbw := btrans hbw uq.ok
  generalize hwx : uq.val = w1 at *
  clear hwx uq lKv cKv0 cKv1 cKv2 cKv3 cKv4 cKv5 cKv6 cKv7 cKv8 cKv9 cKv10 lKx cKx0 fKx0 lKz cKz0 fKz0 uKv0 uKv1 uKv2 uKv3 uKv4 uKv5 uKv6 uKv7 uKv8 uKv9 uKv10 uKx0 uKz0 HU1 HU2 HU3
  have lKv := Kv.lt
  have cKv0 := Kv.cell 0
  have cKv1 := Kv.cell 1
  have cKv2 := Kv.cell 2
  have cKv3 := Kv.cell 3
  have cKv4 := Kv.cell 4
  have cKv5 := Kv.cell 5
  have cKv6 := Kv.cell 6
  have cKv7 := Kv.cell 7
  have cKv8 := Kv.cell 8
  have cKv9 := Kv.cell 9
  have cKv10 := Kv.cell 10
  have lKx := Kx.lt
  have cKx0 := Kx.cell 0
  have fKx0 := Kx.frozen 0
  have lKz := Kz.lt
  have cKz0 := Kz.cell 0
  have fKz0 := Kz.frozen 0
  simp only [List.getElem?_toArray, List.getElem?_cons_succ, List.getElem?_cons_zero] at cKv0 cKv1 cKv2 cKv3 cKv4 cKv5 cKv6 cKv7 cKv8 cKv9 cKv10 cKx0 cKz0
  clear HD1 HD2 HS Kv Kx Kz
  go_wp2_with fail
  go_region
  go_wp2_with fail
  go_ret
  exact ⟨rfl, _, Below.drew hbw, rfl⟩

set_option maxRecDepth 100000 in
set_option maxHeartbeats 1600000 in
theorem walk_any (W H B a b c d e f t y p q p1 p2 p3 p4 : Int) (s : ByteArray) (w : World) (y0 : -8191 ≤ y) (y1 : y ≤ 8191) (e0 : -1073741823 ≤ e) (e1 : e ≤ 1073741823) (f0 : -1073741823 ≤ f) (f1 : f ≤ 1073741823)
    (hp : 524288 - e = p) (hq : y * 65536 - f = q) (h1 : d * p = p1) (h2 : c * q = p2) (h3 : a * q = p3) (h4 : b * p = p4) (b10 : -1729311893777219919 ≤ p1) (b11 : p1 ≤ 1729311893777219919) (b20 : -1729311893777219919 ≤ p2) (b21 : p2 ≤ 1729311893777219919) (b30 : -1729311893777219919 ≤ p3) (b31 : p3 ≤ 1729311893777219919) (b40 : -1729311893777219919 ≤ p4) (b41 : p4 ≤ 1729311893777219919) :
    Calls Try.prog 65 #[.agg #[.int .i64 W, .int .i64 H, .int .i64 B, .string s, .int .i64 a, .int .i64 b, .int .i64 c, .int .i64 d, .int .i64 e, .int .i64 f, .int .i64 t], .int .i64 y] w fun ed w' => ∃ vB xB zB : Nat, ed = .returned (.func (.func 104) #[] #[.pointer (some ⟨vB, 0, none⟩), .pointer (some ⟨xB, 0, none⟩), .pointer (some ⟨zB, 0, none⟩)]) ∧
      Blk w' vB 92 #[.int .i64 W, .int .i64 H, .int .i64 B, .string s, .int .i64 a, .int .i64 b, .int .i64 c, .int .i64 d, .int .i64 e, .int .i64 f, .int .i64 t] ∧ Blk w' xB 3 #[.int .i64 (p1 - p2)] ∧ Blk w' zB 3 #[.int .i64 (p3 - p4)] ∧ (vB ≠ xB ∧ vB ≠ zB ∧ xB ≠ zB) ∧ (w.heap.size ≤ vB ∧ w.heap.size ≤ xB ∧ w.heap.size ≤ zB) ∧ Below w.heap.size w w' := by
  have hmf : ∀ (fn : Fn) (first cap : Array Value) (w : World), (Instr.makeFunc fn first cap).run Try.prog w = .ok (.func fn first cap) w := fun _ _ _ _ => rfl
  go_enter Try.func65, Try.ntmps65
  go_wp2_with fail
  have Kv := (Blk.new w 92 #[.int .i64 W, .int .i64 H, .int .i64 B, .string s, .int .i64 a, .int .i64 b, .int .i64 c, .int .i64 d, .int .i64 e, .int .i64 f, .int .i64 t])
  have hbw : Below w.heap.size w (w.alloc (.cells #[.int .i64 W, .int .i64 H, .int .i64 B, .string s, .int .i64 a, .int .i64 b, .int .i64 c, .int .i64 d, .int .i64 e, .int .i64 f, .int .i64 t] 92)) := by (repeat' (first | exact Below.refl _ _ | exact Below.refl _ _ | refine balloc ?_ _ | refine Below.drew ?_ | refine below_drewN ?_ _ | refine bset ?_ (by first | omega | (simp <;> omega)) _))
  generalize hwx : (w.alloc (.cells #[.int .i64 W, .int .i64 H, .int .i64 B, .string s, .int .i64 a, .int .i64 b, .int .i64 c, .int .i64 d, .int .i64 e, .int .i64 f, .int .i64 t] 92)) = wa at *
  clear hwx
  have lKv := Kv.lt
  have cKv0 := Kv.cell 0
  have cKv1 := Kv.cell 1
  have cKv2 := Kv.cell 2
  have cKv3 := Kv.cell 3
  have cKv4 := Kv.cell 4
  have cKv5 := Kv.cell 5
  have cKv6 := Kv.cell 6
  have cKv7 := Kv.cell 7
  have cKv8 := Kv.cell 8
  have cKv9 := Kv.cell 9
  have cKv10 := Kv.cell 10
  simp only [List.getElem?_toArray, List.getElem?_cons_succ, List.getElem?_cons_zero] at cKv0 cKv1 cKv2 cKv3 cKv4 cKv5 cKv6 cKv7 cKv8 cKv9 cKv10
  have uKv0 : ∀ u : Up wa, u.val.cell? ⟨w.heap.size, 0, none⟩ = some (.int .i64 W) := fun u => (u.cell lKv).trans cKv0
  have uKv1 : ∀ u : Up wa, u.val.cell? ⟨w.heap.size, 1, none⟩ = some (.int .i64 H) := fun u => (u.cell lKv).trans cKv1
  have uKv2 : ∀ u : Up wa, u.val.cell? ⟨w.heap.size, 2, none⟩ = some (.int .i64 B) := fun u => (u.cell lKv).trans cKv2
  have uKv3 : ∀ u : Up wa, u.val.cell? ⟨w.heap.size, 3, none⟩ = some (.string s) := fun u => (u.cell lKv).trans cKv3
  have uKv4 : ∀ u : Up wa, u.val.cell? ⟨w.heap.size, 4, none⟩ = some (.int .i64 a) := fun u => (u.cell lKv).trans cKv4
  have uKv5 : ∀ u : Up wa, u.val.cell? ⟨w.heap.size, 5, none⟩ = some (.int .i64 b) := fun u => (u.cell lKv).trans cKv5
  have uKv6 : ∀ u : Up wa, u.val.cell? ⟨w.heap.size, 6, none⟩ = some (.int .i64 c) := fun u => (u.cell lKv).trans cKv6
  have uKv7 : ∀ u : Up wa, u.val.cell? ⟨w.heap.size, 7, none⟩ = some (.int .i64 d) := fun u => (u.cell lKv).trans cKv7
  have uKv8 : ∀ u : Up wa, u.val.cell? ⟨w.heap.size, 8, none⟩ = some (.int .i64 e) := fun u => (u.cell lKv).trans cKv8
  have uKv9 : ∀ u : Up wa, u.val.cell? ⟨w.heap.size, 9, none⟩ = some (.int .i64 f) := fun u => (u.cell lKv).trans cKv9
  have uKv10 : ∀ u : Up wa, u.val.cell? ⟨w.heap.size, 10, none⟩ = some (.int .i64 t) := fun u => (u.cell lKv).trans cKv10
  refine wp_region_up (by kernel_rfl) (by kernel_rfl) ?_
  repeat (go_big_quiet_step (fail))
  refine wpQuiet_nil ?_
  rintro _ ⟨uq, rfl⟩
  replace Kv := Kv.below uq.ok lKv
  replace hbw := btrans hbw uq.ok
  generalize hwx : uq.val = w1 at *
  clear hwx uq lKv cKv0 cKv1 cKv2 cKv3 cKv4 cKv5 cKv6 cKv7 cKv8 cKv9 cKv10 uKv0 uKv1 uKv2 uKv3 uKv4 uKv5 uKv6 uKv7 uKv8 uKv9 uKv10
  have lKv := Kv.lt
  have cKv0 := Kv.cell 0
  have cKv1 := Kv.cell 1
  have cKv2 := Kv.cell 2
  have cKv3 := Kv.cell 3
  have cKv4 := Kv.cell 4
  have cKv5 := Kv.cell 5
  have cKv6 := Kv.cell 6
  have cKv7 := Kv.cell 7
  have cKv8 := Kv.cell 8
  have cKv9 := Kv.cell 9
  have cKv10 := Kv.cell 10
  simp only [List.getElem?_toArray, List.getElem?_cons_succ, List.getElem?_cons_zero] at cKv0 cKv1 cKv2 cKv3 cKv4 cKv5 cKv6 cKv7 cKv8 cKv9 cKv10
  have HKv := Lib.hid Kv
  have HBW := Lib.hid hbw
  have hsz := hbw.size
  have lv := Kv.lt
  clear Kv hbw
  go_wp2_with fail
  go_region
  · go_wp2_with fail
    go_ret
    exact ⟨_, _, _, rfl, ((HKv.out.alloc _).alloc _).drew, ((Blk.new _ _ _).alloc _).drew, (blk_new2 _ _ _ _).drew, ⟨by omega, by omega, by omega⟩, ⟨by omega, by omega, by omega⟩, by (repeat' (first | exact HBW.out | exact Below.refl _ _ | refine balloc ?_ _ | refine Below.drew ?_ | refine below_drewN ?_ _ | refine bset ?_ (by first | omega | (simp <;> omega)) _))⟩
  · go_wp2_with fail
    go_ret
    exact ⟨_, _, _, rfl, ((HKv.out.alloc _).alloc _).drew, (blk_new2 _ _ _ _).drew, ((Blk.new _ _ _).alloc _).drew, ⟨by omega, by omega, by omega⟩, ⟨by omega, by omega, by omega⟩, by (repeat' (first | exact HBW.out | exact Below.refl _ _ | refine balloc ?_ _ | refine Below.drew ?_ | refine below_drewN ?_ _ | refine bset ?_ (by first | omega | (simp <;> omega)) _))⟩

end Go.Proofs.Ytegpjjkbbdfggaa.im
