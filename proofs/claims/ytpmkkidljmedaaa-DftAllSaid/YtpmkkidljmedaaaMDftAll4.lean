/- Part 4 of 4 of the proof of the given statement DftAll: the last functions, the plain law, and the statement. No conditions but those in the statements. -/
import Derived.Test.YtpmkkidljmedaaaMDftAll3
import Derived.WalkKit
import Derived.ProofKit
import Derived.OpenShut
import Derived.ChangeOld
import Derived.Deep.SlicePairs
import Derived.Lib.SmallJoins
import Derived.KernelRfl
import Derived.Test.YtpmkkidljmedaaaRows
import Derived.ShutString
import Derived.Below
import Derived.SizedLaws
import Derived.Test.YtpmkkidljmedaaaVDftAll
namespace Go.Proofs.Ytpmkkidljmedaaa.X
open Go.RowKit Go.Proofs.YtpmkkidljmedaaaW.PrintWords Go.Proofs.YtpmkkidljmedaaaW.PrintLast Go.Proofs.YtpmkkidljmedaaaW.PrintMore
attribute [local go_sem] max2_int min2_int max_two min_two max_three min_three max_four min_four   -- for this text's walks alone
set_option linter.unusedVariables false
set_option linter.unusedSimpArgs false

/-! ### headroomref16_Bin: function 39 -/
def headroomref16_Bin.l0 : Nat → List (S41) → Int → Bool → Int → List (S41) → Int → Int → Int → Int → Int → Int → Option (Int × Int)
  | 0, _, _, _, _, _, _, _, _, _, _, _ => none
  | k + 1, x1, x2, x3, x9, x19, x20, x21, x3000, x3001, x4000, x4001 => if x21 < x20 then (if 0 ≤ x21 then (if x21 < (x19.length : Int) then (if x9 = 0 then (none) else ((headroomref10_Root.f x1 (Int.tmod (wrap64 (x21 * x2)) x9) x3).bind fun bt8 => ((headroomref16_times.f k ((rd_T41 x19 x21).f0) bt8.1).bind fun bt11 => ((headroomref16_add.f k x3000 x3001 bt11.1 bt11.2).bind fun bt13 => ((headroomref16_times.f k ((rd_T41 x19 x21).f1) bt8.2).bind fun bt15 => ((headroomref16_less.f k bt13.1 bt13.2 bt15.1 bt15.2).bind fun bt17 => ((headroomref16_times.f k ((rd_T41 x19 x21).f0) bt8.2).bind fun bt19 => ((headroomref16_add.f k x4000 x4001 bt19.1 bt19.2).bind fun bt21 => ((headroomref16_times.f k ((rd_T41 x19 x21).f1) bt8.1).bind fun bt23 => ((headroomref16_add.f k bt21.1 bt21.2 bt23.1 bt23.2).bind fun bt25 => (headroomref16_Bin.l0 k x1 x2 x3 x9 x19 x20 (wrap64 (x21 + 1)) bt17.1 bt17.2 bt25.1 bt25.2))))))))))) else (none)) else (none)) else ((headroomref16_down.f k x3000 x3001).bind fun t4 => ((headroomref16_down.f k x4000 x4001).bind fun t5 => (some (t4, t5))))
def headroomref16_Bin.f (k : Nat) (l0 : List (S41)) (l1 : List (S41)) (a2 : Int) (a3 : Bool) : Option (Int × Int) := headroomref16_Bin.l0 k l1 a2 a3 (l0.length : Int) l0 (l0.length : Int) 0 0 0 0 0
theorem headroomref16_Bin.mono_l : ∀ k, (∀ y0 y1 y2 y3 y4 y5 y6 y7 y8 y9 y10, LeO (headroomref16_Bin.l0 k y0 y1 y2 y3 y4 y5 y6 y7 y8 y9 y10) (headroomref16_Bin.l0 (k + 1) y0 y1 y2 y3 y4 y5 y6 y7 y8 y9 y10))
  | 0 => fun _ _ _ _ _ _ _ _ _ _ _ r h => by simp [headroomref16_Bin.l0] at h
  | k + 1 => by
    have ih0 := headroomref16_Bin.mono_l k
    · intro y0 y1 y2 y3 y4 y5 y6 y7 y8 y9 y10
      unfold headroomref16_Bin.l0
      repeat' first
      | (with_reducible exact ih0 _ _ _ _ _ _ _ _ _ _ _)
      | (with_reducible exact headroomref16_add.mono _ _ _ _ _)
      | (with_reducible exact headroomref16_down.mono _ _ _)
      | (with_reducible exact headroomref16_less.mono _ _ _ _ _)
      | (with_reducible exact headroomref16_times.mono _ _ _)
      | (with_reducible exact LeO.refl _)
      | (with_reducible exact LeO.none _)
      | (with_reducible refine LeO.ite ?_ ?_)
      | (with_reducible refine LeO.bind ?_ (fun _ => ?_))
      | exact ih0 _ _ _ _ _ _ _ _ _ _ _
      | exact headroomref16_add.mono _ _ _ _ _
      | exact headroomref16_down.mono _ _ _
      | exact headroomref16_less.mono _ _ _ _ _
      | exact headroomref16_times.mono _ _ _
      | exact LeO.none _
      | refine LeO.ite ?_ ?_
      | refine LeO.bind ?_ (fun _ => ?_)
theorem headroomref16_Bin.mono : ∀ a0 a1 a2 a3 k, LeO (headroomref16_Bin.f k a0 a1 a2 a3) (headroomref16_Bin.f (k + 1) a0 a1 a2 a3) := by
  intro a0 a1 a2 a3 k
  have ih0 := headroomref16_Bin.mono_l k
  unfold headroomref16_Bin.f
  repeat' first
      | (with_reducible exact ih0 _ _ _ _ _ _ _ _ _ _ _)
      | (with_reducible exact headroomref16_add.mono _ _ _ _ _)
      | (with_reducible exact headroomref16_down.mono _ _ _)
      | (with_reducible exact headroomref16_less.mono _ _ _ _ _)
      | (with_reducible exact headroomref16_times.mono _ _ _)
      | (with_reducible exact LeO.refl _)
      | (with_reducible exact LeO.none _)
      | (with_reducible refine LeO.ite ?_ ?_)
      | (with_reducible refine LeO.bind ?_ (fun _ => ?_))
      | exact ih0 _ _ _ _ _ _ _ _ _ _ _
      | exact headroomref16_add.mono _ _ _ _ _
      | exact headroomref16_down.mono _ _ _
      | exact headroomref16_less.mono _ _ _ _ _
      | exact headroomref16_times.mono _ _ _
      | exact LeO.none _
      | refine LeO.ite ?_ ?_
      | refine LeO.bind ?_ (fun _ => ?_)
def headroomref16_Bin.T8 : Bool × List (List Nat × List Nat) := (true, [([], []), ([], []), ([1], [1]), ([], []), ([3], [3]), ([2, 4], [2, 4]), ([0, 5, 5], [0, 5]), ([], []), ([7], [7]), ([], []), ([9], [9]), ([8, 10, 6], [8, 10]), ([6, 11, 11], [6, 11]), ([12, 12, 0, 1, 2, 3, 4, 5, 6, 7, 8, 9, 10, 11, 12], [12])])
def headroomref16_Bin.B8 : List Nat := [0, 0, 2, 0, 8, 30, 63, 0, 128, 0, 512, 2047, 4095, 8191]
theorem headroomref16_Bin.tab8 : rtab .any (opsOf Try.f39 8) = headroomref16_Bin.T8 := by kernel_rfl
theorem headroomref16_Bin.bits8 : waitsOk headroomref16_Bin.T8.2 headroomref16_Bin.B8 = true := by kernel_rfl
def headroomref16_Bin.T9 : Bool × List (List Nat × List Nat) := (true, [([], []), ([], []), ([1], [1]), ([], []), ([3], [3]), ([2, 4], [2, 4]), ([0, 5, 5], [0, 5]), ([], []), ([7], [7]), ([], []), ([9], [9]), ([8, 10, 6], [8, 10]), ([6, 11, 11], [6, 11]), ([12, 12, 0, 1, 2, 3, 4, 5, 6, 7, 8, 9, 10, 11, 12], [12])])
def headroomref16_Bin.B9 : List Nat := [0, 0, 2, 0, 8, 30, 63, 0, 128, 0, 512, 2047, 4095, 8191]
theorem headroomref16_Bin.tab9 : rtab .any (opsOf Try.f39 9) = headroomref16_Bin.T9 := by kernel_rfl
theorem headroomref16_Bin.bits9 : waitsOk headroomref16_Bin.T9.2 headroomref16_Bin.B9 = true := by kernel_rfl
set_option maxHeartbeats 8000000 in
set_option maxRecDepth 100000 in
theorem headroomref16_Bin.calls (k : Nat) (A0 : Option Addr) (c0 : Nat) (l0 : List (S41)) (A1 : Option Addr) (c1 : Nat) (l1 : List (S41)) (a2 : Int) (a3 : Bool) (r1 : Int) (r2 : Int) (w : World) (hr0 : Kd.C k41 w A0 l0.length l0) (hc0 : l0.length ≤ c0) (hr1 : Kd.C k41 w A1 l1.length l1) (hc1 : l1.length ≤ c1) (h : headroomref16_Bin.f k l0 l1 a2 a3 = some (r1, r2)) :
    Calls Try.prog 39 #[.slice A0 l0.length c0, .slice A1 l1.length c1, .int .i64 a2, .bool a3] w fun e w' => e = .returned (.agg #[.int .i64 r1, .int .i64 r2]) ∧ Below w.heap.size w w' := by
  have hu41 := Try.underlying41
  have hu94 := Try.underlying94
  have HR0 := Aside0.mk hr0
  have HC0 := Aside0.mk hc0
  clear hr0 hc0
  have HR1 := Aside0.mk hr1
  have HC1 := Aside0.mk hc1
  clear hr1 hc1
  have HB := Aside0.mk (Below.refl w.heap.size w)
  have H : (headroomref16_Bin.l0 k l1 a2 a3 (l0.length : Int) l0 (l0.length : Int) 0 0 0 0 0) = some (r1, r2) := h
  clear h
  have H' := Aside0.mk H
  clear H
  go_enter Try.func39, Try.ntmps39
  go_wp2_with (first | ((with_reducible refine gate_dst (N := 8) rfl ?_); refine box_event ?hg (N := 8) ?hd (cs := #[.int .i64 0, .int .i64 0]) (t := 41) ?hr ?_; (case hd => rfl); (case hg => rfl); (case hr => first | (go_simp; done) | (go_simp; rfl)); intro gb1 hg w5 hbox hb; have n0_ := Aside0.mk (below_step (by repeat (first | (with_reducible first | exact HB.out | apply below_alloc | apply pw_below_drewN | apply below_drew1) | exact HB.out)) hb); have n1_ := Aside0.mk (hbox); have n2_ := Aside0.mk ((by rw [hg]; exact (below_size (by repeat (first | (with_reducible first | exact HB.out | apply below_alloc | apply pw_below_drewN | apply below_drew1) | exact HB.out))) : w.heap.size ≤ gb1)); have n3_ := Aside0.mk ((by rw [hg]; exact (below_size (by repeat (first | (with_reducible first | exact HB.out | apply below_alloc | apply pw_below_drewN | apply below_drew1) | exact HB.out))) : w.heap.size ≤ gb1)); clear HB; have HB := n0_; have BK1 := n1_; have GW1 := n2_; have GE1 := n3_; clear n0_ n1_ n2_ n3_; clear hb hbox hg) | ((with_reducible refine gate_dst (N := 10) rfl ?_); refine box_event ?hg (N := 10) ?hd (cs := #[.int .i64 0, .int .i64 0]) (t := 94) ?hr ?_; (case hd => rfl); (case hg => rfl); (case hr => first | (go_simp; done) | (go_simp; rfl)); intro gb2 hg w6 hbox hb; have n0_ := Aside0.mk (blk_below (g := gb1) (o := .cells #[.int .i64 0, .int .i64 0] 41 (0, 0)) (by (with_reducible repeat (first | refine blk_drewN ?_ _ | refine blk_drew ?_ | refine blk_alloc ?_ _)); exact BK1.out) hb); have n1_ := Aside0.mk (below_step (by repeat (first | (with_reducible first | exact HB.out | apply below_alloc | apply pw_below_drewN | apply below_drew1 | refine below_set ?_ GE1.out) | exact HB.out)) hb); have n2_ := Aside0.mk (hbox); have n3_ := Aside0.mk ((by rw [hg]; exact (below_size (by repeat (first | (with_reducible first | exact HB.out | apply below_alloc | apply pw_below_drewN | apply below_drew1 | refine below_set ?_ GE1.out) | exact HB.out))) : w.heap.size ≤ gb2)); have n4_ := Aside0.mk ((by rw [hg]; exact (below_size (by repeat (first | (with_reducible first | exact HB.out | apply below_alloc | apply pw_below_drewN | apply below_drew1 | refine below_set ?_ GE1.out) | exact HB.out))) : w.heap.size ≤ gb2)); have n5_ := Aside0.mk ((by rw [hg]; exact Nat.ne_of_lt (blk_lt (g := gb1) (o := .cells #[.int .i64 0, .int .i64 0] 41 (0, 0)) (by (with_reducible repeat (first | refine blk_drewN ?_ _ | refine blk_drew ?_ | refine blk_alloc ?_ _)); exact BK1.out)) : gb1 ≠ gb2)); have n6_ := Aside0.mk ((by rw [hg]; exact Nat.ne_of_gt (blk_lt (g := gb1) (o := .cells #[.int .i64 0, .int .i64 0] 41 (0, 0)) (by (with_reducible repeat (first | refine blk_drewN ?_ _ | refine blk_drew ?_ | refine blk_alloc ?_ _)); exact BK1.out)) : gb2 ≠ gb1)); clear BK1; clear HB; have BK1 := n0_; have HB := n1_; have BK2 := n2_; have GW2 := n3_; have GE2 := n4_; have NB1_2 := n5_; have NB2_1 := n6_; clear n0_ n1_ n2_ n3_ n4_ n5_ n6_; clear hb hbox hg; have hnb7 := NB2_1.out; have hnc7 := NB1_2.out; have hcz8_0 : w6.cell? ⟨gb2, 0, none⟩ = some (.int .i64 0) := (blk_cell BK2.out 0).trans rfl; have hcz8_1 : w6.cell? ⟨gb2, 1, none⟩ = some (.int .i64 0) := (blk_cell BK2.out 1).trans rfl; have hfz8_0 := blk_frozen BK2.out 0; have hfz8_1 := blk_frozen BK2.out 1) | ((with_reducible refine gate_dst (N := 11) rfl ?_); refine box_event ?hg (N := 11) ?hd (cs := #[.int .i64 0, .int .i64 0]) (t := 94) ?hr ?_; (case hd => rfl); (case hg => rfl); (case hr => first | (go_simp; done) | (go_simp; rfl)); intro gb3 hg w9 hbox hb; have n0_ := Aside0.mk (blk_below (g := gb1) (o := .cells #[.int .i64 0, .int .i64 0] 41 (0, 0)) (by (with_reducible repeat (first | refine blk_drewN ?_ _ | refine blk_drew ?_ | refine blk_alloc ?_ _)); refine blk_far ?_ NB1_2.out _; (with_reducible repeat (first | refine blk_drewN ?_ _ | refine blk_drew ?_ | refine blk_alloc ?_ _)); refine blk_far ?_ NB1_2.out _; (with_reducible repeat (first | refine blk_drewN ?_ _ | refine blk_drew ?_ | refine blk_alloc ?_ _)); exact BK1.out) hb); have n1_ := Aside0.mk (blk_below (g := gb2) (o := .cells #[.int .i64 0, .int .i64 0] 94 (0, 0)) (by (with_reducible repeat (first | refine blk_drewN ?_ _ | refine blk_drew ?_ | refine blk_alloc ?_ _)); refine blk_put (cs := #[.int .i64 0, .int .i64 0]) ?_ 1 _ rfl; (with_reducible repeat (first | refine blk_drewN ?_ _ | refine blk_drew ?_ | refine blk_alloc ?_ _)); refine blk_put (cs := #[.int .i64 0, .int .i64 0]) ?_ 0 _ rfl; (with_reducible repeat (first | refine blk_drewN ?_ _ | refine blk_drew ?_ | refine blk_alloc ?_ _)); exact BK2.out) hb); have n2_ := Aside0.mk (below_step (by repeat (first | (with_reducible first | exact HB.out | apply below_alloc | apply pw_below_drewN | apply below_drew1 | refine below_set ?_ GE1.out | refine below_set ?_ GE2.out) | exact HB.out)) hb); have n3_ := Aside0.mk (hbox); have n4_ := Aside0.mk ((by rw [hg]; exact (below_size (by repeat (first | (with_reducible first | exact HB.out | apply below_alloc | apply pw_below_drewN | apply below_drew1 | refine below_set ?_ GE1.out | refine below_set ?_ GE2.out) | exact HB.out))) : w.heap.size ≤ gb3)); have n5_ := Aside0.mk ((by rw [hg]; exact (below_size (by repeat (first | (with_reducible first | exact HB.out | apply below_alloc | apply pw_below_drewN | apply below_drew1 | refine below_set ?_ GE1.out | refine below_set ?_ GE2.out) | exact HB.out))) : w.heap.size ≤ gb3)); have n6_ := Aside0.mk ((by rw [hg]; exact Nat.ne_of_lt (blk_lt (g := gb1) (o := .cells #[.int .i64 0, .int .i64 0] 41 (0, 0)) (by (with_reducible repeat (first | refine blk_drewN ?_ _ | refine blk_drew ?_ | refine blk_alloc ?_ _)); refine blk_far ?_ NB1_2.out _; (with_reducible repeat (first | refine blk_drewN ?_ _ | refine blk_drew ?_ | refine blk_alloc ?_ _)); refine blk_far ?_ NB1_2.out _; (with_reducible repeat (first | refine blk_drewN ?_ _ | refine blk_drew ?_ | refine blk_alloc ?_ _)); exact BK1.out)) : gb1 ≠ gb3)); have n7_ := Aside0.mk ((by rw [hg]; exact Nat.ne_of_gt (blk_lt (g := gb1) (o := .cells #[.int .i64 0, .int .i64 0] 41 (0, 0)) (by (with_reducible repeat (first | refine blk_drewN ?_ _ | refine blk_drew ?_ | refine blk_alloc ?_ _)); refine blk_far ?_ NB1_2.out _; (with_reducible repeat (first | refine blk_drewN ?_ _ | refine blk_drew ?_ | refine blk_alloc ?_ _)); refine blk_far ?_ NB1_2.out _; (with_reducible repeat (first | refine blk_drewN ?_ _ | refine blk_drew ?_ | refine blk_alloc ?_ _)); exact BK1.out)) : gb3 ≠ gb1)); have n8_ := Aside0.mk ((by rw [hg]; exact Nat.ne_of_lt (blk_lt (g := gb2) (o := .cells #[.int .i64 0, .int .i64 0] 94 (0, 0)) (by (with_reducible repeat (first | refine blk_drewN ?_ _ | refine blk_drew ?_ | refine blk_alloc ?_ _)); refine blk_put (cs := #[.int .i64 0, .int .i64 0]) ?_ 1 _ rfl; (with_reducible repeat (first | refine blk_drewN ?_ _ | refine blk_drew ?_ | refine blk_alloc ?_ _)); refine blk_put (cs := #[.int .i64 0, .int .i64 0]) ?_ 0 _ rfl; (with_reducible repeat (first | refine blk_drewN ?_ _ | refine blk_drew ?_ | refine blk_alloc ?_ _)); exact BK2.out)) : gb2 ≠ gb3)); have n9_ := Aside0.mk ((by rw [hg]; exact Nat.ne_of_gt (blk_lt (g := gb2) (o := .cells #[.int .i64 0, .int .i64 0] 94 (0, 0)) (by (with_reducible repeat (first | refine blk_drewN ?_ _ | refine blk_drew ?_ | refine blk_alloc ?_ _)); refine blk_put (cs := #[.int .i64 0, .int .i64 0]) ?_ 1 _ rfl; (with_reducible repeat (first | refine blk_drewN ?_ _ | refine blk_drew ?_ | refine blk_alloc ?_ _)); refine blk_put (cs := #[.int .i64 0, .int .i64 0]) ?_ 0 _ rfl; (with_reducible repeat (first | refine blk_drewN ?_ _ | refine blk_drew ?_ | refine blk_alloc ?_ _)); exact BK2.out)) : gb3 ≠ gb2)); clear BK1; clear BK2; clear HB; have BK1 := n0_; have BK2 := n1_; have HB := n2_; have BK3 := n3_; have GW3 := n4_; have GE3 := n5_; have NB1_3 := n6_; have NB3_1 := n7_; have NB2_3 := n8_; have NB3_2 := n9_; clear n0_ n1_ n2_ n3_ n4_ n5_ n6_ n7_ n8_ n9_; clear hb hbox hg; have hnb10 := NB3_1.out; have hnc10 := NB1_3.out; have hnb11 := NB3_2.out; have hnc11 := NB2_3.out; have hcz12_0 : w9.cell? ⟨gb3, 0, none⟩ = some (.int .i64 0) := (blk_cell BK3.out 0).trans rfl; have hcz12_1 : w9.cell? ⟨gb3, 1, none⟩ = some (.int .i64 0) := (blk_cell BK3.out 1).trans rfl; have hfz12_0 := blk_frozen BK3.out 0; have hfz12_1 := blk_frozen BK3.out 1))
  go_loopg [21] k (fun kq v21 w' => ∃ (x21_1 : Int) (x3000_1 : Int) (x3001_1 : Int) (x4000_1 : Int) (x4001_1 : Int), v21 = .int .i64 x21_1 ∧ Aside0 (headroomref16_Bin.l0 kq l1 a2 a3 (l0.length : Int) l0 (l0.length : Int) x21_1 x3000_1 x3001_1 x4000_1 x4001_1 = some (r1, r2)) ∧ Aside0 (kq ≤ k) ∧ Aside0 (w'.heap[gb1]? = some (.cells #[.int .i64 0, .int .i64 0] 41 (0, 0))) ∧ Aside0 (w'.heap[gb2]? = some (.cells #[.int .i64 x3000_1, .int .i64 x3001_1] 94 (0, 0))) ∧ Aside0 (w'.heap[gb3]? = some (.cells #[.int .i64 x4000_1, .int .i64 x4001_1] 94 (0, 0))) ∧ Aside0 (Below w.heap.size w w'))
  case atStart => exact ⟨(0), (0), (0), (0), (0), (by first | rfl | (simp; done) | (simp [*]; done)), H', ⟨Nat.le_refl _⟩, ⟨by (with_reducible repeat (first | refine blk_drewN ?_ _ | refine blk_drew ?_ | refine blk_alloc ?_ _)); refine blk_far ?_ NB1_3.out _; (with_reducible repeat (first | refine blk_drewN ?_ _ | refine blk_drew ?_ | refine blk_alloc ?_ _)); refine blk_far ?_ NB1_3.out _; (with_reducible repeat (first | refine blk_drewN ?_ _ | refine blk_drew ?_ | refine blk_alloc ?_ _)); exact BK1.out⟩, ⟨by (with_reducible repeat (first | refine blk_drewN ?_ _ | refine blk_drew ?_ | refine blk_alloc ?_ _)); refine blk_far ?_ NB2_3.out _; (with_reducible repeat (first | refine blk_drewN ?_ _ | refine blk_drew ?_ | refine blk_alloc ?_ _)); refine blk_far ?_ NB2_3.out _; (with_reducible repeat (first | refine blk_drewN ?_ _ | refine blk_drew ?_ | refine blk_alloc ?_ _)); exact BK2.out⟩, ⟨by (with_reducible repeat (first | refine blk_drewN ?_ _ | refine blk_drew ?_ | refine blk_alloc ?_ _)); refine blk_put (cs := #[.int .i64 0, .int .i64 0]) ?_ 1 _ rfl; (with_reducible repeat (first | refine blk_drewN ?_ _ | refine blk_drew ?_ | refine blk_alloc ?_ _)); refine blk_put (cs := #[.int .i64 0, .int .i64 0]) ?_ 0 _ rfl; (with_reducible repeat (first | refine blk_drewN ?_ _ | refine blk_drew ?_ | refine blk_alloc ?_ _)); exact BK3.out⟩, ⟨by repeat (first | (with_reducible first | exact HB.out | apply below_alloc | apply pw_below_drewN | apply below_drew1 | refine below_set ?_ GE1.out | refine below_set ?_ GE2.out | refine below_set ?_ GE3.out) | exact HB.out)⟩⟩
  case round =>
    clear H'
    try clear c1
    try clear p2
    try clear c3
    try clear c7
    try clear c10
    try clear c11
    try clear hcz12_0
    try clear hcz12_1
    try clear hcz8_0
    try clear hcz8_1
    try clear hfz12_0
    try clear hfz12_1
    try clear hfz8_0
    try clear hfz8_1
    obtain ⟨x21_1, x3000_1, x3001_1, x4000_1, x4001_1, rfl, HA, HK1, BK1, BK2, BK3, HB⟩ := hrel
    cases gk with
    | zero => exact absurd HA.out (by simp [headroomref16_Bin.l0])
    | succ k1 =>
      have H := HA.out
      clear HA
      simp only [headroomref16_Bin.l0] at H
      by_cases c13 : x21_1 < (l0.length : Int)
      · rw [if_pos c13] at H
        have c13b0 : decide (x21_1 < (l0.length : Int)) = true := decide_eq_true c13
        clear c13
        by_cases c14 : 0 ≤ x21_1
        · rw [if_pos c14] at H
          have c14b0 : decide (0 ≤ x21_1) = true := decide_eq_true c14
          clear c14
          by_cases c15 : x21_1 < (l0.length : Int)
          · rw [if_pos c15] at H
            have c15b0 : decide (x21_1 < (l0.length : Int)) = true := decide_eq_true c15
            clear c15
            by_cases c16 : (l0.length : Int) = 0
            · rw [if_pos c16] at H
              exact absurd H (by simp)
            · rw [if_neg c16] at H
              have c16b0 : ((l0.length : Int) == 0) = false := beq_eq_false_iff_ne.mpr c16
              have c16b1 : ((l0.length : Int) != 0) = true := bne_iff_ne.mpr c16
              have c16b2 : ¬ (l0 = []) := fun h_ => c16 (by rw [h_]; rfl)
              replace H := Option.bind_eq_some_iff.mp H
              obtain ⟨⟨t8, t9⟩, A170, H⟩ := H
              replace H : ((headroomref16_times.f k1 ((rd_T41 l0 x21_1).f0) t8).bind fun bt11 => ((headroomref16_add.f k1 x3000_1 x3001_1 bt11.1 bt11.2).bind fun bt13 => ((headroomref16_times.f k1 ((rd_T41 l0 x21_1).f1) t9).bind fun bt15 => ((headroomref16_less.f k1 bt13.1 bt13.2 bt15.1 bt15.2).bind fun bt17 => ((headroomref16_times.f k1 ((rd_T41 l0 x21_1).f0) t9).bind fun bt19 => ((headroomref16_add.f k1 x4000_1 x4001_1 bt19.1 bt19.2).bind fun bt21 => ((headroomref16_times.f k1 ((rd_T41 l0 x21_1).f1) t8).bind fun bt23 => ((headroomref16_add.f k1 bt21.1 bt21.2 bt23.1 bt23.2).bind fun bt25 => (headroomref16_Bin.l0 k1 l1 a2 a3 (l0.length : Int) l0 (l0.length : Int) (wrap64 (x21_1 + 1)) bt17.1 bt17.2 bt25.1 bt25.2))))))))) = some (r1, r2) := H
              have A17 := Aside0.mk A170
              clear A170
              replace H := Option.bind_eq_some_iff.mp H
              obtain ⟨⟨t11, t12⟩, A180, H⟩ := H
              replace H : ((headroomref16_add.f k1 x3000_1 x3001_1 t11 t12).bind fun bt13 => ((headroomref16_times.f k1 ((rd_T41 l0 x21_1).f1) t9).bind fun bt15 => ((headroomref16_less.f k1 bt13.1 bt13.2 bt15.1 bt15.2).bind fun bt17 => ((headroomref16_times.f k1 ((rd_T41 l0 x21_1).f0) t9).bind fun bt19 => ((headroomref16_add.f k1 x4000_1 x4001_1 bt19.1 bt19.2).bind fun bt21 => ((headroomref16_times.f k1 ((rd_T41 l0 x21_1).f1) t8).bind fun bt23 => ((headroomref16_add.f k1 bt21.1 bt21.2 bt23.1 bt23.2).bind fun bt25 => (headroomref16_Bin.l0 k1 l1 a2 a3 (l0.length : Int) l0 (l0.length : Int) (wrap64 (x21_1 + 1)) bt17.1 bt17.2 bt25.1 bt25.2)))))))) = some (r1, r2) := H
              have A18 := Aside0.mk A180
              clear A180
              replace H := Option.bind_eq_some_iff.mp H
              obtain ⟨⟨t13, t14⟩, A190, H⟩ := H
              replace H : ((headroomref16_times.f k1 ((rd_T41 l0 x21_1).f1) t9).bind fun bt15 => ((headroomref16_less.f k1 t13 t14 bt15.1 bt15.2).bind fun bt17 => ((headroomref16_times.f k1 ((rd_T41 l0 x21_1).f0) t9).bind fun bt19 => ((headroomref16_add.f k1 x4000_1 x4001_1 bt19.1 bt19.2).bind fun bt21 => ((headroomref16_times.f k1 ((rd_T41 l0 x21_1).f1) t8).bind fun bt23 => ((headroomref16_add.f k1 bt21.1 bt21.2 bt23.1 bt23.2).bind fun bt25 => (headroomref16_Bin.l0 k1 l1 a2 a3 (l0.length : Int) l0 (l0.length : Int) (wrap64 (x21_1 + 1)) bt17.1 bt17.2 bt25.1 bt25.2))))))) = some (r1, r2) := H
              have A19 := Aside0.mk A190
              clear A190
              replace H := Option.bind_eq_some_iff.mp H
              obtain ⟨⟨t15, t16⟩, A200, H⟩ := H
              replace H : ((headroomref16_less.f k1 t13 t14 t15 t16).bind fun bt17 => ((headroomref16_times.f k1 ((rd_T41 l0 x21_1).f0) t9).bind fun bt19 => ((headroomref16_add.f k1 x4000_1 x4001_1 bt19.1 bt19.2).bind fun bt21 => ((headroomref16_times.f k1 ((rd_T41 l0 x21_1).f1) t8).bind fun bt23 => ((headroomref16_add.f k1 bt21.1 bt21.2 bt23.1 bt23.2).bind fun bt25 => (headroomref16_Bin.l0 k1 l1 a2 a3 (l0.length : Int) l0 (l0.length : Int) (wrap64 (x21_1 + 1)) bt17.1 bt17.2 bt25.1 bt25.2)))))) = some (r1, r2) := H
              have A20 := Aside0.mk A200
              clear A200
              replace H := Option.bind_eq_some_iff.mp H
              obtain ⟨⟨t17, t18⟩, A210, H⟩ := H
              replace H : ((headroomref16_times.f k1 ((rd_T41 l0 x21_1).f0) t9).bind fun bt19 => ((headroomref16_add.f k1 x4000_1 x4001_1 bt19.1 bt19.2).bind fun bt21 => ((headroomref16_times.f k1 ((rd_T41 l0 x21_1).f1) t8).bind fun bt23 => ((headroomref16_add.f k1 bt21.1 bt21.2 bt23.1 bt23.2).bind fun bt25 => (headroomref16_Bin.l0 k1 l1 a2 a3 (l0.length : Int) l0 (l0.length : Int) (wrap64 (x21_1 + 1)) t17 t18 bt25.1 bt25.2))))) = some (r1, r2) := H
              have A21 := Aside0.mk A210
              clear A210
              replace H := Option.bind_eq_some_iff.mp H
              obtain ⟨⟨t19, t20⟩, A220, H⟩ := H
              replace H : ((headroomref16_add.f k1 x4000_1 x4001_1 t19 t20).bind fun bt21 => ((headroomref16_times.f k1 ((rd_T41 l0 x21_1).f1) t8).bind fun bt23 => ((headroomref16_add.f k1 bt21.1 bt21.2 bt23.1 bt23.2).bind fun bt25 => (headroomref16_Bin.l0 k1 l1 a2 a3 (l0.length : Int) l0 (l0.length : Int) (wrap64 (x21_1 + 1)) t17 t18 bt25.1 bt25.2)))) = some (r1, r2) := H
              have A22 := Aside0.mk A220
              clear A220
              replace H := Option.bind_eq_some_iff.mp H
              obtain ⟨⟨t21, t22⟩, A230, H⟩ := H
              replace H : ((headroomref16_times.f k1 ((rd_T41 l0 x21_1).f1) t8).bind fun bt23 => ((headroomref16_add.f k1 t21 t22 bt23.1 bt23.2).bind fun bt25 => (headroomref16_Bin.l0 k1 l1 a2 a3 (l0.length : Int) l0 (l0.length : Int) (wrap64 (x21_1 + 1)) t17 t18 bt25.1 bt25.2))) = some (r1, r2) := H
              have A23 := Aside0.mk A230
              clear A230
              replace H := Option.bind_eq_some_iff.mp H
              obtain ⟨⟨t23, t24⟩, A240, H⟩ := H
              replace H : ((headroomref16_add.f k1 t21 t22 t23 t24).bind fun bt25 => (headroomref16_Bin.l0 k1 l1 a2 a3 (l0.length : Int) l0 (l0.length : Int) (wrap64 (x21_1 + 1)) t17 t18 bt25.1 bt25.2)) = some (r1, r2) := H
              have A24 := Aside0.mk A240
              clear A240
              replace H := Option.bind_eq_some_iff.mp H
              obtain ⟨⟨t25, t26⟩, A250, H⟩ := H
              replace H : (headroomref16_Bin.l0 k1 l1 a2 a3 (l0.length : Int) l0 (l0.length : Int) (wrap64 (x21_1 + 1)) t17 t18 t25 t26) = some (r1, r2) := H
              have A25 := Aside0.mk A250
              clear A250
              have H' := Aside0.mk H
              clear H
              have p6 : 0 ≤ (x21_1 : Int) := of_decide_eq_true (by first | (with_reducible assumption) | assumption)
              have q6 : x21_1 < (l0.length : Int) := of_decide_eq_true (by first | (with_reducible assumption) | assumption)
              obtain ⟨ad6, e6, hx6_0, hx6_1⟩ := at_T41 HR0.out x21_1 p6 q6
              cases e6
              replace hx6_0 := (HB.out.cell (World.block_lt_of_cell? w _ hx6_0)).trans hx6_0
              replace hx6_1 := (HB.out.cell (World.block_lt_of_cell? w _ hx6_1)).trans hx6_1
              replace p6 := eq_true p6
              replace q6 := eq_true q6
              try go_wp2_with (first | ((with_reducible refine gate_dst (N := 13) rfl ?_); refine box_event ?hg (N := 13) ?hd (cs := #[.int .i64 0, .int .i64 0]) (t := 41) ?hr ?_; (case hd => rfl); (case hg => rfl); (case hr => first | (go_simp; done) | (go_simp; rfl)); intro gb7 hg w26 hbox hb; have n0_ := Aside0.mk (blk_below (g := gb1) (o := .cells #[.int .i64 0, .int .i64 0] 41 (0, 0)) (by (with_reducible repeat (first | refine blk_drewN ?_ _ | refine blk_drew ?_ | refine blk_alloc ?_ _)); exact BK1.out) hb); have n1_ := Aside0.mk (blk_below (g := gb2) (o := .cells #[.int .i64 x3000_1, .int .i64 x3001_1] 94 (0, 0)) (by (with_reducible repeat (first | refine blk_drewN ?_ _ | refine blk_drew ?_ | refine blk_alloc ?_ _)); exact BK2.out) hb); have n2_ := Aside0.mk (blk_below (g := gb3) (o := .cells #[.int .i64 x4000_1, .int .i64 x4001_1] 94 (0, 0)) (by (with_reducible repeat (first | refine blk_drewN ?_ _ | refine blk_drew ?_ | refine blk_alloc ?_ _)); exact BK3.out) hb); have n3_ := Aside0.mk (below_step (by repeat (first | (with_reducible first | exact HB.out | apply below_alloc | apply pw_below_drewN | apply below_drew1 | refine below_set ?_ GE1.out | refine below_set ?_ GE2.out | refine below_set ?_ GE3.out) | exact HB.out)) hb); have n4_ := Aside0.mk (hbox); have n5_ := Aside0.mk ((by rw [hg]; exact (below_size (by repeat (first | (with_reducible first | exact HB.out | apply below_alloc | apply pw_below_drewN | apply below_drew1 | refine below_set ?_ GE1.out | refine below_set ?_ GE2.out | refine below_set ?_ GE3.out) | exact HB.out))) : w.heap.size ≤ gb7)); have n6_ := Aside0.mk ((by rw [hg]; exact (below_size (by repeat (first | (with_reducible first | exact HB.out | apply below_alloc | apply pw_below_drewN | apply below_drew1 | refine below_set ?_ GE1.out | refine below_set ?_ GE2.out | refine below_set ?_ GE3.out) | exact HB.out))) : w.heap.size ≤ gb7)); have n7_ := Aside0.mk ((by rw [hg]; exact Nat.ne_of_lt (blk_lt (g := gb1) (o := .cells #[.int .i64 0, .int .i64 0] 41 (0, 0)) (by (with_reducible repeat (first | refine blk_drewN ?_ _ | refine blk_drew ?_ | refine blk_alloc ?_ _)); exact BK1.out)) : gb1 ≠ gb7)); have n8_ := Aside0.mk ((by rw [hg]; exact Nat.ne_of_gt (blk_lt (g := gb1) (o := .cells #[.int .i64 0, .int .i64 0] 41 (0, 0)) (by (with_reducible repeat (first | refine blk_drewN ?_ _ | refine blk_drew ?_ | refine blk_alloc ?_ _)); exact BK1.out)) : gb7 ≠ gb1)); have n9_ := Aside0.mk ((by rw [hg]; exact Nat.ne_of_lt (blk_lt (g := gb2) (o := .cells #[.int .i64 x3000_1, .int .i64 x3001_1] 94 (0, 0)) (by (with_reducible repeat (first | refine blk_drewN ?_ _ | refine blk_drew ?_ | refine blk_alloc ?_ _)); exact BK2.out)) : gb2 ≠ gb7)); have n10_ := Aside0.mk ((by rw [hg]; exact Nat.ne_of_gt (blk_lt (g := gb2) (o := .cells #[.int .i64 x3000_1, .int .i64 x3001_1] 94 (0, 0)) (by (with_reducible repeat (first | refine blk_drewN ?_ _ | refine blk_drew ?_ | refine blk_alloc ?_ _)); exact BK2.out)) : gb7 ≠ gb2)); have n11_ := Aside0.mk ((by rw [hg]; exact Nat.ne_of_lt (blk_lt (g := gb3) (o := .cells #[.int .i64 x4000_1, .int .i64 x4001_1] 94 (0, 0)) (by (with_reducible repeat (first | refine blk_drewN ?_ _ | refine blk_drew ?_ | refine blk_alloc ?_ _)); exact BK3.out)) : gb3 ≠ gb7)); have n12_ := Aside0.mk ((by rw [hg]; exact Nat.ne_of_gt (blk_lt (g := gb3) (o := .cells #[.int .i64 x4000_1, .int .i64 x4001_1] 94 (0, 0)) (by (with_reducible repeat (first | refine blk_drewN ?_ _ | refine blk_drew ?_ | refine blk_alloc ?_ _)); exact BK3.out)) : gb7 ≠ gb3)); clear BK1; clear BK2; clear BK3; clear HB; have BK1 := n0_; have BK2 := n1_; have BK3 := n2_; have HB := n3_; have BK7 := n4_; have GW7 := n5_; have GE7 := n6_; have NB1_7 := n7_; have NB7_1 := n8_; have NB2_7 := n9_; have NB7_2 := n10_; have NB3_7 := n11_; have NB7_3 := n12_; clear n0_ n1_ n2_ n3_ n4_ n5_ n6_ n7_ n8_ n9_ n10_ n11_ n12_; clear hb hbox hg; have hnb27 := NB7_1.out; have hnc27 := NB1_7.out; have hnb28 := NB7_2.out; have hnc28 := NB2_7.out; have hnb29 := NB7_3.out; have hnc29 := NB3_7.out; have hcz30_0 : w26.cell? ⟨gb7, 0, none⟩ = some (.int .i64 0) := (blk_cell BK7.out 0).trans rfl; have hcz30_1 : w26.cell? ⟨gb7, 1, none⟩ = some (.int .i64 0) := (blk_cell BK7.out 1).trans rfl; have hfz30_0 := blk_frozen BK7.out 0; have hfz30_1 := blk_frozen BK7.out 1) | ((with_reducible refine gate_callee (f := 63) rfl ?_); refine goesL_ (some 33) rfl rfl Try.func63 (by kernel_rfl) rfl #[.slice A1 l1.length c1, .int .i64 (Int.tmod (wrap64 (x21_1 * a2)) (l0.length : Int)), .bool a3] rfl (by (try simp only [List.map_toArray, List.map_cons, List.map_nil]); first | done | rfl | (simp only [List.length_drop, List.length_take]; rfl)) ?_; (with_reducible refine (headroomref10_Root.calls _ _ l1 (Int.tmod (wrap64 (x21_1 * a2)) (l0.length : Int)) a3 t8 t9 _ ?side1 ?side2 A17.out).mono ?_); (case side1 => exact Kd.C_below HR1.out (by repeat (first | (with_reducible first | exact HB.out | apply below_alloc | apply pw_below_drewN | apply below_drew1 | refine below_set ?_ GE1.out | refine below_set ?_ GE2.out | refine below_set ?_ GE3.out | refine below_set ?_ GE7.out) | exact HB.out))); (case side2 => exact HC1.out); rintro e w31 ⟨rfl, hb⟩; refine ⟨_, rfl, ?_⟩; have n0_ := Aside0.mk (blk_below (g := gb1) (o := .cells #[.int .i64 0, .int .i64 0] 41 (0, 0)) (by (with_reducible repeat (first | refine blk_drewN ?_ _ | refine blk_drew ?_ | refine blk_alloc ?_ _)); refine blk_far ?_ NB1_7.out _; (with_reducible repeat (first | refine blk_drewN ?_ _ | refine blk_drew ?_ | refine blk_alloc ?_ _)); refine blk_far ?_ NB1_7.out _; (with_reducible repeat (first | refine blk_drewN ?_ _ | refine blk_drew ?_ | refine blk_alloc ?_ _)); exact BK1.out) hb); have n1_ := Aside0.mk (blk_below (g := gb2) (o := .cells #[.int .i64 x3000_1, .int .i64 x3001_1] 94 (0, 0)) (by (with_reducible repeat (first | refine blk_drewN ?_ _ | refine blk_drew ?_ | refine blk_alloc ?_ _)); refine blk_far ?_ NB2_7.out _; (with_reducible repeat (first | refine blk_drewN ?_ _ | refine blk_drew ?_ | refine blk_alloc ?_ _)); refine blk_far ?_ NB2_7.out _; (with_reducible repeat (first | refine blk_drewN ?_ _ | refine blk_drew ?_ | refine blk_alloc ?_ _)); exact BK2.out) hb); have n2_ := Aside0.mk (blk_below (g := gb3) (o := .cells #[.int .i64 x4000_1, .int .i64 x4001_1] 94 (0, 0)) (by (with_reducible repeat (first | refine blk_drewN ?_ _ | refine blk_drew ?_ | refine blk_alloc ?_ _)); refine blk_far ?_ NB3_7.out _; (with_reducible repeat (first | refine blk_drewN ?_ _ | refine blk_drew ?_ | refine blk_alloc ?_ _)); refine blk_far ?_ NB3_7.out _; (with_reducible repeat (first | refine blk_drewN ?_ _ | refine blk_drew ?_ | refine blk_alloc ?_ _)); exact BK3.out) hb); have n3_ := Aside0.mk (blk_below (g := gb7) (o := .cells #[.int .i64 ((rd_T41 l0 x21_1).f0), .int .i64 ((rd_T41 l0 x21_1).f1)] 41 (0, 0)) (by (with_reducible repeat (first | refine blk_drewN ?_ _ | refine blk_drew ?_ | refine blk_alloc ?_ _)); refine blk_put (cs := #[.int .i64 ((rd_T41 l0 x21_1).f0), .int .i64 0]) ?_ 1 _ rfl; (with_reducible repeat (first | refine blk_drewN ?_ _ | refine blk_drew ?_ | refine blk_alloc ?_ _)); refine blk_put (cs := #[.int .i64 0, .int .i64 0]) ?_ 0 _ rfl; (with_reducible repeat (first | refine blk_drewN ?_ _ | refine blk_drew ?_ | refine blk_alloc ?_ _)); exact BK7.out) hb); have n4_ := Aside0.mk (below_step (by repeat (first | (with_reducible first | exact HB.out | apply below_alloc | apply pw_below_drewN | apply below_drew1 | refine below_set ?_ GE1.out | refine below_set ?_ GE2.out | refine below_set ?_ GE3.out | refine below_set ?_ GE7.out) | exact HB.out)) hb); clear BK1; clear BK2; clear BK3; clear BK7; clear HB; have BK1 := n0_; have BK2 := n1_; have BK3 := n2_; have BK7 := n3_; have HB := n4_; clear n0_ n1_ n2_ n3_ n4_; (try clear hb); (try clear hb2); (try clear hk); (try clear hi)) | ((with_reducible refine gate_dst (N := 14) rfl ?_); refine box_event ?hg (N := 14) ?hd (cs := #[.int .i64 0, .int .i64 0]) (t := 41) ?hr ?_; (case hd => rfl); (case hg => rfl); (case hr => first | (go_simp; done) | (go_simp; rfl)); intro gb10 hg w32 hbox hb; have n0_ := Aside0.mk (blk_below (g := gb1) (o := .cells #[.int .i64 0, .int .i64 0] 41 (0, 0)) (by (with_reducible repeat (first | refine blk_drewN ?_ _ | refine blk_drew ?_ | refine blk_alloc ?_ _)); exact BK1.out) hb); have n1_ := Aside0.mk (blk_below (g := gb2) (o := .cells #[.int .i64 x3000_1, .int .i64 x3001_1] 94 (0, 0)) (by (with_reducible repeat (first | refine blk_drewN ?_ _ | refine blk_drew ?_ | refine blk_alloc ?_ _)); exact BK2.out) hb); have n2_ := Aside0.mk (blk_below (g := gb3) (o := .cells #[.int .i64 x4000_1, .int .i64 x4001_1] 94 (0, 0)) (by (with_reducible repeat (first | refine blk_drewN ?_ _ | refine blk_drew ?_ | refine blk_alloc ?_ _)); exact BK3.out) hb); have n3_ := Aside0.mk (blk_below (g := gb7) (o := .cells #[.int .i64 ((rd_T41 l0 x21_1).f0), .int .i64 ((rd_T41 l0 x21_1).f1)] 41 (0, 0)) (by (with_reducible repeat (first | refine blk_drewN ?_ _ | refine blk_drew ?_ | refine blk_alloc ?_ _)); exact BK7.out) hb); have n4_ := Aside0.mk (below_step (by repeat (first | (with_reducible first | exact HB.out | apply below_alloc | apply pw_below_drewN | apply below_drew1 | refine below_set ?_ GE1.out | refine below_set ?_ GE2.out | refine below_set ?_ GE3.out | refine below_set ?_ GE7.out) | exact HB.out)) hb); have n5_ := Aside0.mk (hbox); have n6_ := Aside0.mk ((by rw [hg]; exact (below_size (by repeat (first | (with_reducible first | exact HB.out | apply below_alloc | apply pw_below_drewN | apply below_drew1 | refine below_set ?_ GE1.out | refine below_set ?_ GE2.out | refine below_set ?_ GE3.out | refine below_set ?_ GE7.out) | exact HB.out))) : w.heap.size ≤ gb10)); have n7_ := Aside0.mk ((by rw [hg]; exact (below_size (by repeat (first | (with_reducible first | exact HB.out | apply below_alloc | apply pw_below_drewN | apply below_drew1 | refine below_set ?_ GE1.out | refine below_set ?_ GE2.out | refine below_set ?_ GE3.out | refine below_set ?_ GE7.out) | exact HB.out))) : w.heap.size ≤ gb10)); have n8_ := Aside0.mk ((by rw [hg]; exact Nat.ne_of_lt (blk_lt (g := gb1) (o := .cells #[.int .i64 0, .int .i64 0] 41 (0, 0)) (by (with_reducible repeat (first | refine blk_drewN ?_ _ | refine blk_drew ?_ | refine blk_alloc ?_ _)); exact BK1.out)) : gb1 ≠ gb10)); have n9_ := Aside0.mk ((by rw [hg]; exact Nat.ne_of_gt (blk_lt (g := gb1) (o := .cells #[.int .i64 0, .int .i64 0] 41 (0, 0)) (by (with_reducible repeat (first | refine blk_drewN ?_ _ | refine blk_drew ?_ | refine blk_alloc ?_ _)); exact BK1.out)) : gb10 ≠ gb1)); have n10_ := Aside0.mk ((by rw [hg]; exact Nat.ne_of_lt (blk_lt (g := gb2) (o := .cells #[.int .i64 x3000_1, .int .i64 x3001_1] 94 (0, 0)) (by (with_reducible repeat (first | refine blk_drewN ?_ _ | refine blk_drew ?_ | refine blk_alloc ?_ _)); exact BK2.out)) : gb2 ≠ gb10)); have n11_ := Aside0.mk ((by rw [hg]; exact Nat.ne_of_gt (blk_lt (g := gb2) (o := .cells #[.int .i64 x3000_1, .int .i64 x3001_1] 94 (0, 0)) (by (with_reducible repeat (first | refine blk_drewN ?_ _ | refine blk_drew ?_ | refine blk_alloc ?_ _)); exact BK2.out)) : gb10 ≠ gb2)); have n12_ := Aside0.mk ((by rw [hg]; exact Nat.ne_of_lt (blk_lt (g := gb3) (o := .cells #[.int .i64 x4000_1, .int .i64 x4001_1] 94 (0, 0)) (by (with_reducible repeat (first | refine blk_drewN ?_ _ | refine blk_drew ?_ | refine blk_alloc ?_ _)); exact BK3.out)) : gb3 ≠ gb10)); have n13_ := Aside0.mk ((by rw [hg]; exact Nat.ne_of_gt (blk_lt (g := gb3) (o := .cells #[.int .i64 x4000_1, .int .i64 x4001_1] 94 (0, 0)) (by (with_reducible repeat (first | refine blk_drewN ?_ _ | refine blk_drew ?_ | refine blk_alloc ?_ _)); exact BK3.out)) : gb10 ≠ gb3)); have n14_ := Aside0.mk ((by rw [hg]; exact Nat.ne_of_lt (blk_lt (g := gb7) (o := .cells #[.int .i64 ((rd_T41 l0 x21_1).f0), .int .i64 ((rd_T41 l0 x21_1).f1)] 41 (0, 0)) (by (with_reducible repeat (first | refine blk_drewN ?_ _ | refine blk_drew ?_ | refine blk_alloc ?_ _)); exact BK7.out)) : gb7 ≠ gb10)); have n15_ := Aside0.mk ((by rw [hg]; exact Nat.ne_of_gt (blk_lt (g := gb7) (o := .cells #[.int .i64 ((rd_T41 l0 x21_1).f0), .int .i64 ((rd_T41 l0 x21_1).f1)] 41 (0, 0)) (by (with_reducible repeat (first | refine blk_drewN ?_ _ | refine blk_drew ?_ | refine blk_alloc ?_ _)); exact BK7.out)) : gb10 ≠ gb7)); clear BK1; clear BK2; clear BK3; clear BK7; clear HB; have BK1 := n0_; have BK2 := n1_; have BK3 := n2_; have BK7 := n3_; have HB := n4_; have BK10 := n5_; have GW10 := n6_; have GE10 := n7_; have NB1_10 := n8_; have NB10_1 := n9_; have NB2_10 := n10_; have NB10_2 := n11_; have NB3_10 := n12_; have NB10_3 := n13_; have NB7_10 := n14_; have NB10_7 := n15_; clear n0_ n1_ n2_ n3_ n4_ n5_ n6_ n7_ n8_ n9_ n10_ n11_ n12_ n13_ n14_ n15_; clear hb hbox hg; have hnb33 := NB10_1.out; have hnc33 := NB1_10.out; have hnb34 := NB10_2.out; have hnc34 := NB2_10.out; have hnb35 := NB10_3.out; have hnc35 := NB3_10.out; have hnb36 := NB10_7.out; have hnc36 := NB7_10.out; have hcz37_0 : w32.cell? ⟨gb10, 0, none⟩ = some (.int .i64 0) := (blk_cell BK10.out 0).trans rfl; have hcz37_1 : w32.cell? ⟨gb10, 1, none⟩ = some (.int .i64 0) := (blk_cell BK10.out 1).trans rfl; have hfz37_0 := blk_frozen BK10.out 0; have hfz37_1 := blk_frozen BK10.out 1))
              have n0_ : Aside0 (((w32.setCell ⟨gb10, 0, none⟩ (.int .i64 t8)).setCell ⟨gb10, 1, none⟩ (.int .i64 t9)).heap[gb1]? = some (.cells #[.int .i64 0, .int .i64 0] 41 (0, 0))) := ⟨by (with_reducible repeat (first | refine blk_drewN ?_ _ | refine blk_drew ?_ | refine blk_alloc ?_ _)); refine blk_far ?_ NB1_10.out _; (with_reducible repeat (first | refine blk_drewN ?_ _ | refine blk_drew ?_ | refine blk_alloc ?_ _)); refine blk_far ?_ NB1_10.out _; (with_reducible repeat (first | refine blk_drewN ?_ _ | refine blk_drew ?_ | refine blk_alloc ?_ _)); exact BK1.out⟩
              have n1_ : Aside0 (((w32.setCell ⟨gb10, 0, none⟩ (.int .i64 t8)).setCell ⟨gb10, 1, none⟩ (.int .i64 t9)).heap[gb2]? = some (.cells #[.int .i64 x3000_1, .int .i64 x3001_1] 94 (0, 0))) := ⟨by (with_reducible repeat (first | refine blk_drewN ?_ _ | refine blk_drew ?_ | refine blk_alloc ?_ _)); refine blk_far ?_ NB2_10.out _; (with_reducible repeat (first | refine blk_drewN ?_ _ | refine blk_drew ?_ | refine blk_alloc ?_ _)); refine blk_far ?_ NB2_10.out _; (with_reducible repeat (first | refine blk_drewN ?_ _ | refine blk_drew ?_ | refine blk_alloc ?_ _)); exact BK2.out⟩
              have n2_ : Aside0 (((w32.setCell ⟨gb10, 0, none⟩ (.int .i64 t8)).setCell ⟨gb10, 1, none⟩ (.int .i64 t9)).heap[gb3]? = some (.cells #[.int .i64 x4000_1, .int .i64 x4001_1] 94 (0, 0))) := ⟨by (with_reducible repeat (first | refine blk_drewN ?_ _ | refine blk_drew ?_ | refine blk_alloc ?_ _)); refine blk_far ?_ NB3_10.out _; (with_reducible repeat (first | refine blk_drewN ?_ _ | refine blk_drew ?_ | refine blk_alloc ?_ _)); refine blk_far ?_ NB3_10.out _; (with_reducible repeat (first | refine blk_drewN ?_ _ | refine blk_drew ?_ | refine blk_alloc ?_ _)); exact BK3.out⟩
              have n3_ : Aside0 (((w32.setCell ⟨gb10, 0, none⟩ (.int .i64 t8)).setCell ⟨gb10, 1, none⟩ (.int .i64 t9)).heap[gb7]? = some (.cells #[.int .i64 ((rd_T41 l0 x21_1).f0), .int .i64 ((rd_T41 l0 x21_1).f1)] 41 (0, 0))) := ⟨by (with_reducible repeat (first | refine blk_drewN ?_ _ | refine blk_drew ?_ | refine blk_alloc ?_ _)); refine blk_far ?_ NB7_10.out _; (with_reducible repeat (first | refine blk_drewN ?_ _ | refine blk_drew ?_ | refine blk_alloc ?_ _)); refine blk_far ?_ NB7_10.out _; (with_reducible repeat (first | refine blk_drewN ?_ _ | refine blk_drew ?_ | refine blk_alloc ?_ _)); exact BK7.out⟩
              have n4_ : Aside0 (((w32.setCell ⟨gb10, 0, none⟩ (.int .i64 t8)).setCell ⟨gb10, 1, none⟩ (.int .i64 t9)).heap[gb10]? = some (.cells #[.int .i64 t8, .int .i64 t9] 41 (0, 0))) := ⟨by (with_reducible repeat (first | refine blk_drewN ?_ _ | refine blk_drew ?_ | refine blk_alloc ?_ _)); refine blk_put (cs := #[.int .i64 t8, .int .i64 0]) ?_ 1 _ rfl; (with_reducible repeat (first | refine blk_drewN ?_ _ | refine blk_drew ?_ | refine blk_alloc ?_ _)); refine blk_put (cs := #[.int .i64 0, .int .i64 0]) ?_ 0 _ rfl; (with_reducible repeat (first | refine blk_drewN ?_ _ | refine blk_drew ?_ | refine blk_alloc ?_ _)); exact BK10.out⟩
              have n5_ : Aside0 (Below w.heap.size w ((w32.setCell ⟨gb10, 0, none⟩ (.int .i64 t8)).setCell ⟨gb10, 1, none⟩ (.int .i64 t9))) := ⟨by repeat (first | (with_reducible first | exact HB.out | apply below_alloc | apply pw_below_drewN | apply below_drew1 | refine below_set ?_ GE1.out | refine below_set ?_ GE2.out | refine below_set ?_ GE3.out | refine below_set ?_ GE7.out | refine below_set ?_ GE10.out) | exact HB.out)⟩
              (try clear BK1)
              (try clear BK2)
              (try clear BK3)
              (try clear BK7)
              (try clear BK10)
              (try clear HB)
              generalize ((w32.setCell ⟨gb10, 0, none⟩ (.int .i64 t8)).setCell ⟨gb10, 1, none⟩ (.int .i64 t9)) = w38 at n0_ n1_ n2_ n3_ n4_ n5_ ⊢
              have BK1 := n0_
              have BK2 := n1_
              have BK3 := n2_
              have BK7 := n3_
              have BK10 := n4_
              have HB := n5_
              clear n0_ n1_ n2_ n3_ n4_ n5_
              have n0_ := Aside0.mk (blk_drew BK1.out)
              have n1_ := Aside0.mk (blk_drew BK2.out)
              have n2_ := Aside0.mk (blk_drew BK3.out)
              have n3_ := Aside0.mk (blk_drew BK7.out)
              have n4_ := Aside0.mk (blk_drew BK10.out)
              have n5_ := Aside0.mk (below_drew1 HB.out)
              clear BK1
              clear BK2
              clear BK3
              clear BK7
              clear BK10
              clear HB
              have BK1 := n0_
              have BK2 := n1_
              have BK3 := n2_
              have BK7 := n3_
              have BK10 := n4_
              have HB := n5_
              clear n0_ n1_ n2_ n3_ n4_ n5_
              refine start_ (n := 14) (S := fun w' => w'.cell? ⟨gb2, 0, none⟩ = some (.int .i64 x3000_1) ∧ w'.cell? ⟨gb2, 1, none⟩ = some (.int .i64 x3001_1) ∧ w'.cell? ⟨gb7, 0, none⟩ = some (.int .i64 ((rd_T41 l0 x21_1).f0)) ∧ w'.cell? ⟨gb7, 1, none⟩ = some (.int .i64 ((rd_T41 l0 x21_1).f1)) ∧ w'.cell? ⟨gb10, 0, none⟩ = some (.int .i64 t8) ∧ w'.cell? ⟨gb10, 1, none⟩ = some (.int .i64 t9)) (ds := [13]) #[false, false, false, false, false, false, false, false, false, false, false, false, false, false] (by kernel_rfl) rfl rfl ⟨(blk_cell BK2.out 0).trans rfl, (blk_cell BK2.out 1).trans rfl, (blk_cell BK7.out 0).trans rfl, (blk_cell BK7.out 1).trans rfl, (blk_cell BK10.out 0).trans rfl, (blk_cell BK10.out 1).trans rfl⟩ (fun hHeld => ?_); refine with_tabW headroomref16_Bin.tab8 headroomref16_Bin.bits8 (fun HT_ HW_ => ?_)
              generalize w38.drew = w39 at BK1 BK2 BK3 BK7 BK10 HB hHeld ⊢
              refine pure_ (i := 1) (N := some 35) (v := ?_) (a' := ?_) #[false, true, false, false, false, false, false, false, false, false, false, false, false, false] rfl rfl (any_of HT_.out (by kernel_rfl)) (fun _ _ _ h => h) (Or.inl ⟨by rfl, ?_⟩) ?_ ?_
              rotate_left
              · intro w'
                go_simp
                with_reducible rfl
              rotate_left
              · simp only [Act.put, List.setIfInBounds_toArray, List.set_cons_zero, List.set_cons_succ, i64_w, i32_w]
                rfl
              refine pure_ (i := 3) (N := some 37) (v := ?_) (a' := ?_) #[false, true, false, true, false, false, false, false, false, false, false, false, false, false] rfl rfl (any_of HT_.out (by kernel_rfl)) (fun _ _ _ h => h) (Or.inl ⟨by rfl, ?_⟩) ?_ ?_
              rotate_left
              · intro w'
                go_simp
                with_reducible rfl
              rotate_left
              · simp only [Act.put, List.setIfInBounds_toArray, List.set_cons_zero, List.set_cons_succ, i64_w, i32_w]
                rfl
              refine pure_ (i := 7) (N := some 41) (v := ?_) (a' := ?_) #[false, true, false, true, false, false, false, true, false, false, false, false, false, false] rfl rfl (any_of HT_.out (by kernel_rfl)) (fun _ _ _ h => h) (Or.inl ⟨by rfl, ?_⟩) ?_ ?_
              rotate_left
              · intro w'
                go_simp
                with_reducible rfl
              rotate_left
              · simp only [Act.put, List.setIfInBounds_toArray, List.set_cons_zero, List.set_cons_succ, i64_w, i32_w]
                rfl
              refine pure_ (i := 9) (N := some 43) (v := ?_) (a' := ?_) #[false, true, false, true, false, false, false, true, false, true, false, false, false, false] rfl rfl (any_of HT_.out (by kernel_rfl)) (fun _ _ _ h => h) (Or.inl ⟨by rfl, ?_⟩) ?_ ?_
              rotate_left
              · intro w'
                go_simp
                with_reducible rfl
              rotate_left
              · simp only [Act.put, List.setIfInBounds_toArray, List.set_cons_zero, List.set_cons_succ, i64_w, i32_w]
                rfl
              refine take_ (i := 0) (N := some 34) (v := ?_) (a' := ?_) #[true, true, false, true, false, false, false, true, false, true, false, false, false, false] rfl rfl (take_ofW HT_.out HW_.out (by kernel_rfl)) (fun _ _ _ h => h) (Or.inl ⟨by rfl, ?_⟩) hHeld ?_ ?_
              rotate_left
              · rintro w' ⟨s0, s1, s2, s3, s4, s5⟩
                go_simp
                with_reducible rfl
              rotate_left
              · simp only [Act.put, List.setIfInBounds_toArray, List.set_cons_zero, List.set_cons_succ, i64_w, i32_w]
                rfl
              refine take_ (i := 2) (N := some 36) (v := ?_) (a' := ?_) #[true, true, true, true, false, false, false, true, false, true, false, false, false, false] rfl rfl (take_ofW HT_.out HW_.out (by kernel_rfl)) (fun _ _ _ h => h) (Or.inl ⟨by rfl, ?_⟩) hHeld ?_ ?_
              rotate_left
              · rintro w' ⟨s0, s1, s2, s3, s4, s5⟩
                go_simp
                with_reducible rfl
              rotate_left
              · simp only [Act.put, List.setIfInBounds_toArray, List.set_cons_zero, List.set_cons_succ, i64_w, i32_w]
                rfl
              refine take_ (i := 4) (N := some 38) (v := ?_) (a' := ?_) #[true, true, true, true, true, false, false, true, false, true, false, false, false, false] rfl rfl (take_ofW HT_.out HW_.out (by kernel_rfl)) (fun _ _ _ h => h) (Or.inl ⟨by rfl, ?_⟩) hHeld ?_ ?_
              rotate_left
              · rintro w' ⟨s0, s1, s2, s3, s4, s5⟩
                go_simp
                with_reducible rfl
              rotate_left
              · simp only [Act.put, List.setIfInBounds_toArray, List.set_cons_zero, List.set_cons_succ, i64_w, i32_w]
                rfl
              refine take_ (i := 8) (N := some 42) (v := ?_) (a' := ?_) #[true, true, true, true, true, false, false, true, true, true, false, false, false, false] rfl rfl (take_ofW HT_.out HW_.out (by kernel_rfl)) (fun _ _ _ h => h) (Or.inl ⟨by rfl, ?_⟩) hHeld ?_ ?_
              rotate_left
              · rintro w' ⟨s0, s1, s2, s3, s4, s5⟩
                go_simp
                with_reducible rfl
              rotate_left
              · simp only [Act.put, List.setIfInBounds_toArray, List.set_cons_zero, List.set_cons_succ, i64_w, i32_w]
                rfl
              refine take_ (i := 10) (N := some 44) (v := ?_) (a' := ?_) #[true, true, true, true, true, false, false, true, true, true, true, false, false, false] rfl rfl (take_ofW HT_.out HW_.out (by kernel_rfl)) (fun _ _ _ h => h) (Or.inl ⟨by rfl, ?_⟩) hHeld ?_ ?_
              rotate_left
              · rintro w' ⟨s0, s1, s2, s3, s4, s5⟩
                go_simp
                with_reducible rfl
              rotate_left
              · simp only [Act.put, List.setIfInBounds_toArray, List.set_cons_zero, List.set_cons_succ, i64_w, i32_w]
                rfl
              refine one_ (i := 5) (N := some 39) #[true, true, true, true, true, true, false, true, true, true, true, false, false, false] rfl rfl (one_of HT_.out (by kernel_rfl)) (by decide) (fun K hK => ?_)
              refine goes_ Try.func76 (by kernel_rfl) rfl #[.int .i64 ((rd_T41 l0 x21_1).f0), .int .i64 t8] (by rfl) rfl rfl (by (try simp only [List.map_toArray, List.map_cons, List.map_nil]); first | done | rfl | (simp only [List.length_drop, List.length_take]; rfl)) ?_
              with_reducible refine (headroomref16_times.calls k1 ((rd_T41 l0 x21_1).f0) t8 t11 t12 _ A18.out).mono ?_
              rintro e w40 ⟨rfl, hb⟩
              refine ⟨_, rfl, ?_⟩
              have n0_ := Aside0.mk (blk_below (g := gb1) (o := .cells #[.int .i64 0, .int .i64 0] 41 (0, 0)) (by (with_reducible repeat (first | refine blk_drewN ?_ _ | refine blk_drew ?_ | refine blk_alloc ?_ _)); exact BK1.out) hb)
              have n1_ := Aside0.mk (blk_below (g := gb2) (o := .cells #[.int .i64 x3000_1, .int .i64 x3001_1] 94 (0, 0)) (by (with_reducible repeat (first | refine blk_drewN ?_ _ | refine blk_drew ?_ | refine blk_alloc ?_ _)); exact BK2.out) hb)
              have n2_ := Aside0.mk (blk_below (g := gb3) (o := .cells #[.int .i64 x4000_1, .int .i64 x4001_1] 94 (0, 0)) (by (with_reducible repeat (first | refine blk_drewN ?_ _ | refine blk_drew ?_ | refine blk_alloc ?_ _)); exact BK3.out) hb)
              have n3_ := Aside0.mk (blk_below (g := gb7) (o := .cells #[.int .i64 ((rd_T41 l0 x21_1).f0), .int .i64 ((rd_T41 l0 x21_1).f1)] 41 (0, 0)) (by (with_reducible repeat (first | refine blk_drewN ?_ _ | refine blk_drew ?_ | refine blk_alloc ?_ _)); exact BK7.out) hb)
              have n4_ := Aside0.mk (blk_below (g := gb10) (o := .cells #[.int .i64 t8, .int .i64 t9] 41 (0, 0)) (by (with_reducible repeat (first | refine blk_drewN ?_ _ | refine blk_drew ?_ | refine blk_alloc ?_ _)); exact BK10.out) hb)
              have n5_ := Aside0.mk (below_step (by repeat (first | (with_reducible first | exact HB.out | apply below_alloc | apply pw_below_drewN | apply below_drew1 | refine below_set ?_ GE1.out | refine below_set ?_ GE2.out | refine below_set ?_ GE3.out | refine below_set ?_ GE7.out | refine below_set ?_ GE10.out) | exact HB.out)) hb)
              clear BK1
              clear BK2
              clear BK3
              clear BK7
              clear BK10
              clear HB
              have BK1 := n0_
              have BK2 := n1_
              have BK3 := n2_
              have BK7 := n3_
              have BK10 := n4_
              have HB := n5_
              clear n0_ n1_ n2_ n3_ n4_ n5_
              (try clear hb)
              (try clear hb2)
              (try clear hk)
              (try clear hi)
              refine hK.out _ _ ⟨(blk_cell BK2.out 0).trans rfl, (blk_cell BK2.out 1).trans rfl, (blk_cell BK7.out 0).trans rfl, (blk_cell BK7.out 1).trans rfl, (blk_cell BK10.out 0).trans rfl, (blk_cell BK10.out 1).trans rfl⟩ (fun hHeld => ?_)
              clear hK K
              refine norm_ (a' := ?_) ?_ ?_
              rotate_left
              · show Act.put _ (some 39) _ = _
                simp only [Act.put, List.setIfInBounds_toArray, List.set_cons_zero, List.set_cons_succ, i64_w, i32_w]
                rfl
              refine one_ (i := 6) (N := some 40) #[true, true, true, true, true, true, true, true, true, true, true, false, false, false] rfl rfl (one_of HT_.out (by kernel_rfl)) (by decide) (fun K hK => ?_)
              refine goes_ Try.func75 (by kernel_rfl) rfl #[.agg #[.int .i64 x3000_1, .int .i64 x3001_1], .agg #[.int .i64 t11, .int .i64 t12]] (by rfl) rfl rfl (by (try simp only [List.map_toArray, List.map_cons, List.map_nil]); first | done | rfl | (simp only [List.length_drop, List.length_take]; rfl)) ?_
              with_reducible refine (headroomref16_add.calls k1 x3000_1 x3001_1 t11 t12 t13 t14 _ A19.out).mono ?_
              rintro e w41 ⟨rfl, hb⟩
              refine ⟨_, rfl, ?_⟩
              have n0_ := Aside0.mk (blk_below (g := gb1) (o := .cells #[.int .i64 0, .int .i64 0] 41 (0, 0)) (by (with_reducible repeat (first | refine blk_drewN ?_ _ | refine blk_drew ?_ | refine blk_alloc ?_ _)); exact BK1.out) hb)
              have n1_ := Aside0.mk (blk_below (g := gb2) (o := .cells #[.int .i64 x3000_1, .int .i64 x3001_1] 94 (0, 0)) (by (with_reducible repeat (first | refine blk_drewN ?_ _ | refine blk_drew ?_ | refine blk_alloc ?_ _)); exact BK2.out) hb)
              have n2_ := Aside0.mk (blk_below (g := gb3) (o := .cells #[.int .i64 x4000_1, .int .i64 x4001_1] 94 (0, 0)) (by (with_reducible repeat (first | refine blk_drewN ?_ _ | refine blk_drew ?_ | refine blk_alloc ?_ _)); exact BK3.out) hb)
              have n3_ := Aside0.mk (blk_below (g := gb7) (o := .cells #[.int .i64 ((rd_T41 l0 x21_1).f0), .int .i64 ((rd_T41 l0 x21_1).f1)] 41 (0, 0)) (by (with_reducible repeat (first | refine blk_drewN ?_ _ | refine blk_drew ?_ | refine blk_alloc ?_ _)); exact BK7.out) hb)
              have n4_ := Aside0.mk (blk_below (g := gb10) (o := .cells #[.int .i64 t8, .int .i64 t9] 41 (0, 0)) (by (with_reducible repeat (first | refine blk_drewN ?_ _ | refine blk_drew ?_ | refine blk_alloc ?_ _)); exact BK10.out) hb)
              have n5_ := Aside0.mk (below_step (by repeat (first | (with_reducible first | exact HB.out | apply below_alloc | apply pw_below_drewN | apply below_drew1 | refine below_set ?_ GE1.out | refine below_set ?_ GE2.out | refine below_set ?_ GE3.out | refine below_set ?_ GE7.out | refine below_set ?_ GE10.out) | exact HB.out)) hb)
              clear BK1
              clear BK2
              clear BK3
              clear BK7
              clear BK10
              clear HB
              have BK1 := n0_
              have BK2 := n1_
              have BK3 := n2_
              have BK7 := n3_
              have BK10 := n4_
              have HB := n5_
              clear n0_ n1_ n2_ n3_ n4_ n5_
              (try clear hb)
              (try clear hb2)
              (try clear hk)
              (try clear hi)
              refine hK.out _ _ ⟨(blk_cell BK2.out 0).trans rfl, (blk_cell BK2.out 1).trans rfl, (blk_cell BK7.out 0).trans rfl, (blk_cell BK7.out 1).trans rfl, (blk_cell BK10.out 0).trans rfl, (blk_cell BK10.out 1).trans rfl⟩ (fun hHeld => ?_)
              clear hK K
              refine norm_ (a' := ?_) ?_ ?_
              rotate_left
              · show Act.put _ (some 40) _ = _
                simp only [Act.put, List.setIfInBounds_toArray, List.set_cons_zero, List.set_cons_succ, i64_w, i32_w]
                rfl
              refine one_ (i := 11) (N := some 45) #[true, true, true, true, true, true, true, true, true, true, true, true, false, false] rfl rfl (one_of HT_.out (by kernel_rfl)) (by decide) (fun K hK => ?_)
              refine goes_ Try.func76 (by kernel_rfl) rfl #[.int .i64 ((rd_T41 l0 x21_1).f1), .int .i64 t9] (by rfl) rfl rfl (by (try simp only [List.map_toArray, List.map_cons, List.map_nil]); first | done | rfl | (simp only [List.length_drop, List.length_take]; rfl)) ?_
              with_reducible refine (headroomref16_times.calls k1 ((rd_T41 l0 x21_1).f1) t9 t15 t16 _ A20.out).mono ?_
              rintro e w42 ⟨rfl, hb⟩
              refine ⟨_, rfl, ?_⟩
              have n0_ := Aside0.mk (blk_below (g := gb1) (o := .cells #[.int .i64 0, .int .i64 0] 41 (0, 0)) (by (with_reducible repeat (first | refine blk_drewN ?_ _ | refine blk_drew ?_ | refine blk_alloc ?_ _)); exact BK1.out) hb)
              have n1_ := Aside0.mk (blk_below (g := gb2) (o := .cells #[.int .i64 x3000_1, .int .i64 x3001_1] 94 (0, 0)) (by (with_reducible repeat (first | refine blk_drewN ?_ _ | refine blk_drew ?_ | refine blk_alloc ?_ _)); exact BK2.out) hb)
              have n2_ := Aside0.mk (blk_below (g := gb3) (o := .cells #[.int .i64 x4000_1, .int .i64 x4001_1] 94 (0, 0)) (by (with_reducible repeat (first | refine blk_drewN ?_ _ | refine blk_drew ?_ | refine blk_alloc ?_ _)); exact BK3.out) hb)
              have n3_ := Aside0.mk (blk_below (g := gb7) (o := .cells #[.int .i64 ((rd_T41 l0 x21_1).f0), .int .i64 ((rd_T41 l0 x21_1).f1)] 41 (0, 0)) (by (with_reducible repeat (first | refine blk_drewN ?_ _ | refine blk_drew ?_ | refine blk_alloc ?_ _)); exact BK7.out) hb)
              have n4_ := Aside0.mk (blk_below (g := gb10) (o := .cells #[.int .i64 t8, .int .i64 t9] 41 (0, 0)) (by (with_reducible repeat (first | refine blk_drewN ?_ _ | refine blk_drew ?_ | refine blk_alloc ?_ _)); exact BK10.out) hb)
              have n5_ := Aside0.mk (below_step (by repeat (first | (with_reducible first | exact HB.out | apply below_alloc | apply pw_below_drewN | apply below_drew1 | refine below_set ?_ GE1.out | refine below_set ?_ GE2.out | refine below_set ?_ GE3.out | refine below_set ?_ GE7.out | refine below_set ?_ GE10.out) | exact HB.out)) hb)
              clear BK1
              clear BK2
              clear BK3
              clear BK7
              clear BK10
              clear HB
              have BK1 := n0_
              have BK2 := n1_
              have BK3 := n2_
              have BK7 := n3_
              have BK10 := n4_
              have HB := n5_
              clear n0_ n1_ n2_ n3_ n4_ n5_
              (try clear hb)
              (try clear hb2)
              (try clear hk)
              (try clear hi)
              refine hK.out _ _ ⟨(blk_cell BK2.out 0).trans rfl, (blk_cell BK2.out 1).trans rfl, (blk_cell BK7.out 0).trans rfl, (blk_cell BK7.out 1).trans rfl, (blk_cell BK10.out 0).trans rfl, (blk_cell BK10.out 1).trans rfl⟩ (fun hHeld => ?_)
              clear hK K
              refine norm_ (a' := ?_) ?_ ?_
              rotate_left
              · show Act.put _ (some 45) _ = _
                simp only [Act.put, List.setIfInBounds_toArray, List.set_cons_zero, List.set_cons_succ, i64_w, i32_w]
                rfl
              refine one_ (i := 12) (N := some 46) #[true, true, true, true, true, true, true, true, true, true, true, true, true, false] rfl rfl (one_of HT_.out (by kernel_rfl)) (by decide) (fun K hK => ?_)
              refine goes_ Try.func74 (by kernel_rfl) rfl #[.agg #[.int .i64 t13, .int .i64 t14], .agg #[.int .i64 t15, .int .i64 t16]] (by rfl) rfl rfl (by (try simp only [List.map_toArray, List.map_cons, List.map_nil]); first | done | rfl | (simp only [List.length_drop, List.length_take]; rfl)) ?_
              with_reducible refine (headroomref16_less.calls k1 t13 t14 t15 t16 t17 t18 _ A21.out).mono ?_
              rintro e w43 ⟨rfl, hb⟩
              refine ⟨_, rfl, ?_⟩
              have n0_ := Aside0.mk (blk_below (g := gb1) (o := .cells #[.int .i64 0, .int .i64 0] 41 (0, 0)) (by (with_reducible repeat (first | refine blk_drewN ?_ _ | refine blk_drew ?_ | refine blk_alloc ?_ _)); exact BK1.out) hb)
              have n1_ := Aside0.mk (blk_below (g := gb2) (o := .cells #[.int .i64 x3000_1, .int .i64 x3001_1] 94 (0, 0)) (by (with_reducible repeat (first | refine blk_drewN ?_ _ | refine blk_drew ?_ | refine blk_alloc ?_ _)); exact BK2.out) hb)
              have n2_ := Aside0.mk (blk_below (g := gb3) (o := .cells #[.int .i64 x4000_1, .int .i64 x4001_1] 94 (0, 0)) (by (with_reducible repeat (first | refine blk_drewN ?_ _ | refine blk_drew ?_ | refine blk_alloc ?_ _)); exact BK3.out) hb)
              have n3_ := Aside0.mk (blk_below (g := gb7) (o := .cells #[.int .i64 ((rd_T41 l0 x21_1).f0), .int .i64 ((rd_T41 l0 x21_1).f1)] 41 (0, 0)) (by (with_reducible repeat (first | refine blk_drewN ?_ _ | refine blk_drew ?_ | refine blk_alloc ?_ _)); exact BK7.out) hb)
              have n4_ := Aside0.mk (blk_below (g := gb10) (o := .cells #[.int .i64 t8, .int .i64 t9] 41 (0, 0)) (by (with_reducible repeat (first | refine blk_drewN ?_ _ | refine blk_drew ?_ | refine blk_alloc ?_ _)); exact BK10.out) hb)
              have n5_ := Aside0.mk (below_step (by repeat (first | (with_reducible first | exact HB.out | apply below_alloc | apply pw_below_drewN | apply below_drew1 | refine below_set ?_ GE1.out | refine below_set ?_ GE2.out | refine below_set ?_ GE3.out | refine below_set ?_ GE7.out | refine below_set ?_ GE10.out) | exact HB.out)) hb)
              clear BK1
              clear BK2
              clear BK3
              clear BK7
              clear BK10
              clear HB
              have BK1 := n0_
              have BK2 := n1_
              have BK3 := n2_
              have BK7 := n3_
              have BK10 := n4_
              have HB := n5_
              clear n0_ n1_ n2_ n3_ n4_ n5_
              (try clear hb)
              (try clear hb2)
              (try clear hk)
              (try clear hi)
              refine hK.out _ _ ⟨(blk_cell BK2.out 0).trans rfl, (blk_cell BK2.out 1).trans rfl, (blk_cell BK7.out 0).trans rfl, (blk_cell BK7.out 1).trans rfl, (blk_cell BK10.out 0).trans rfl, (blk_cell BK10.out 1).trans rfl⟩ (fun hHeld => ?_)
              clear hK K
              refine norm_ (a' := ?_) ?_ ?_
              rotate_left
              · show Act.put _ (some 46) _ = _
                simp only [Act.put, List.setIfInBounds_toArray, List.set_cons_zero, List.set_cons_succ, i64_w, i32_w]
                rfl
              refine last_ (i := 13) (N := none) #[true, true, true, true, true, true, true, true, true, true, true, true, true, true] rfl rfl (one_of HT_.out (by kernel_rfl)) (by decide) (fun K hK => ?_)
              have hs44 : w43.cell? ⟨gb2, 0, none⟩ = some (.int .i64 x3000_1) := (blk_cell BK2.out 0).trans rfl
              have hfs44 := blk_frozen BK2.out 0
              have hns44_0 := NB1_2.out
              have hns44_2 := NB3_2.out
              have hns44_3 := NB7_2.out
              have hns44_4 := NB10_2.out
              have hms44_0 := NB2_1.out
              have hms44_2 := NB2_3.out
              have hms44_3 := NB2_7.out
              have hms44_4 := NB2_10.out
              have hs45 : w43.cell? ⟨gb2, 1, none⟩ = some (.int .i64 x3001_1) := (blk_cell BK2.out 1).trans rfl
              have hfs45 := blk_frozen BK2.out 1
              have hns45_0 := NB1_2.out
              have hns45_2 := NB3_2.out
              have hns45_3 := NB7_2.out
              have hns45_4 := NB10_2.out
              have hms45_0 := NB2_1.out
              have hms45_2 := NB2_3.out
              have hms45_3 := NB2_7.out
              have hms45_4 := NB2_10.out
              refine skip_ (w1 := ?_) (by rfl) rfl ?_ ?_
              rotate_left
              · go_simp
                rfl
              refine hK.out _ _ ?_
              clear hK K
              refine done_ (done_of HT_.out (by kernel_rfl)) ?_
              try go_wp2
              have n0_ : Aside0 (((w43.setCell ⟨gb2, 0, none⟩ (.int .i64 t17)).setCell ⟨gb2, 1, none⟩ (.int .i64 t18)).heap[gb1]? = some (.cells #[.int .i64 0, .int .i64 0] 41 (0, 0))) := ⟨by (with_reducible repeat (first | refine blk_drewN ?_ _ | refine blk_drew ?_ | refine blk_alloc ?_ _)); refine blk_far ?_ NB1_2.out _; (with_reducible repeat (first | refine blk_drewN ?_ _ | refine blk_drew ?_ | refine blk_alloc ?_ _)); refine blk_far ?_ NB1_2.out _; (with_reducible repeat (first | refine blk_drewN ?_ _ | refine blk_drew ?_ | refine blk_alloc ?_ _)); exact BK1.out⟩
              have n1_ : Aside0 (((w43.setCell ⟨gb2, 0, none⟩ (.int .i64 t17)).setCell ⟨gb2, 1, none⟩ (.int .i64 t18)).heap[gb2]? = some (.cells #[.int .i64 t17, .int .i64 t18] 94 (0, 0))) := ⟨by (with_reducible repeat (first | refine blk_drewN ?_ _ | refine blk_drew ?_ | refine blk_alloc ?_ _)); refine blk_put (cs := #[.int .i64 t17, .int .i64 x3001_1]) ?_ 1 _ rfl; (with_reducible repeat (first | refine blk_drewN ?_ _ | refine blk_drew ?_ | refine blk_alloc ?_ _)); refine blk_put (cs := #[.int .i64 x3000_1, .int .i64 x3001_1]) ?_ 0 _ rfl; (with_reducible repeat (first | refine blk_drewN ?_ _ | refine blk_drew ?_ | refine blk_alloc ?_ _)); exact BK2.out⟩
              have n2_ : Aside0 (((w43.setCell ⟨gb2, 0, none⟩ (.int .i64 t17)).setCell ⟨gb2, 1, none⟩ (.int .i64 t18)).heap[gb3]? = some (.cells #[.int .i64 x4000_1, .int .i64 x4001_1] 94 (0, 0))) := ⟨by (with_reducible repeat (first | refine blk_drewN ?_ _ | refine blk_drew ?_ | refine blk_alloc ?_ _)); refine blk_far ?_ NB3_2.out _; (with_reducible repeat (first | refine blk_drewN ?_ _ | refine blk_drew ?_ | refine blk_alloc ?_ _)); refine blk_far ?_ NB3_2.out _; (with_reducible repeat (first | refine blk_drewN ?_ _ | refine blk_drew ?_ | refine blk_alloc ?_ _)); exact BK3.out⟩
              have n3_ : Aside0 (((w43.setCell ⟨gb2, 0, none⟩ (.int .i64 t17)).setCell ⟨gb2, 1, none⟩ (.int .i64 t18)).heap[gb7]? = some (.cells #[.int .i64 ((rd_T41 l0 x21_1).f0), .int .i64 ((rd_T41 l0 x21_1).f1)] 41 (0, 0))) := ⟨by (with_reducible repeat (first | refine blk_drewN ?_ _ | refine blk_drew ?_ | refine blk_alloc ?_ _)); refine blk_far ?_ NB7_2.out _; (with_reducible repeat (first | refine blk_drewN ?_ _ | refine blk_drew ?_ | refine blk_alloc ?_ _)); refine blk_far ?_ NB7_2.out _; (with_reducible repeat (first | refine blk_drewN ?_ _ | refine blk_drew ?_ | refine blk_alloc ?_ _)); exact BK7.out⟩
              have n4_ : Aside0 (((w43.setCell ⟨gb2, 0, none⟩ (.int .i64 t17)).setCell ⟨gb2, 1, none⟩ (.int .i64 t18)).heap[gb10]? = some (.cells #[.int .i64 t8, .int .i64 t9] 41 (0, 0))) := ⟨by (with_reducible repeat (first | refine blk_drewN ?_ _ | refine blk_drew ?_ | refine blk_alloc ?_ _)); refine blk_far ?_ NB10_2.out _; (with_reducible repeat (first | refine blk_drewN ?_ _ | refine blk_drew ?_ | refine blk_alloc ?_ _)); refine blk_far ?_ NB10_2.out _; (with_reducible repeat (first | refine blk_drewN ?_ _ | refine blk_drew ?_ | refine blk_alloc ?_ _)); exact BK10.out⟩
              have n5_ : Aside0 (Below w.heap.size w ((w43.setCell ⟨gb2, 0, none⟩ (.int .i64 t17)).setCell ⟨gb2, 1, none⟩ (.int .i64 t18))) := ⟨by repeat (first | (with_reducible first | exact HB.out | apply below_alloc | apply pw_below_drewN | apply below_drew1 | refine below_set ?_ GE1.out | refine below_set ?_ GE2.out | refine below_set ?_ GE3.out | refine below_set ?_ GE7.out | refine below_set ?_ GE10.out) | exact HB.out)⟩
              (try clear BK1)
              (try clear BK2)
              (try clear BK3)
              (try clear BK7)
              (try clear BK10)
              (try clear HB)
              generalize ((w43.setCell ⟨gb2, 0, none⟩ (.int .i64 t17)).setCell ⟨gb2, 1, none⟩ (.int .i64 t18)) = w46 at n0_ n1_ n2_ n3_ n4_ n5_ ⊢
              have BK1 := n0_
              have BK2 := n1_
              have BK3 := n2_
              have BK7 := n3_
              have BK10 := n4_
              have HB := n5_
              clear n0_ n1_ n2_ n3_ n4_ n5_
              have n0_ := Aside0.mk (blk_drew BK1.out)
              have n1_ := Aside0.mk (blk_drew BK2.out)
              have n2_ := Aside0.mk (blk_drew BK3.out)
              have n3_ := Aside0.mk (blk_drew BK7.out)
              have n4_ := Aside0.mk (blk_drew BK10.out)
              have n5_ := Aside0.mk (below_drew1 HB.out)
              clear BK1
              clear BK2
              clear BK3
              clear BK7
              clear BK10
              clear HB
              have BK1 := n0_
              have BK2 := n1_
              have BK3 := n2_
              have BK7 := n3_
              have BK10 := n4_
              have HB := n5_
              clear n0_ n1_ n2_ n3_ n4_ n5_
              refine start_ (n := 14) (S := fun w' => w'.cell? ⟨gb3, 0, none⟩ = some (.int .i64 x4000_1) ∧ w'.cell? ⟨gb3, 1, none⟩ = some (.int .i64 x4001_1) ∧ w'.cell? ⟨gb7, 0, none⟩ = some (.int .i64 ((rd_T41 l0 x21_1).f0)) ∧ w'.cell? ⟨gb7, 1, none⟩ = some (.int .i64 ((rd_T41 l0 x21_1).f1)) ∧ w'.cell? ⟨gb10, 0, none⟩ = some (.int .i64 t8) ∧ w'.cell? ⟨gb10, 1, none⟩ = some (.int .i64 t9)) (ds := [13]) #[false, false, false, false, false, false, false, false, false, false, false, false, false, false] (by kernel_rfl) rfl rfl ⟨(blk_cell BK3.out 0).trans rfl, (blk_cell BK3.out 1).trans rfl, (blk_cell BK7.out 0).trans rfl, (blk_cell BK7.out 1).trans rfl, (blk_cell BK10.out 0).trans rfl, (blk_cell BK10.out 1).trans rfl⟩ (fun hHeld => ?_); refine with_tabW headroomref16_Bin.tab9 headroomref16_Bin.bits9 (fun HT_ HW_ => ?_)
              generalize w46.drew = w47 at BK1 BK2 BK3 BK7 BK10 HB hHeld ⊢
              refine pure_ (i := 1) (N := some 48) (v := ?_) (a' := ?_) #[false, true, false, false, false, false, false, false, false, false, false, false, false, false] rfl rfl (any_of HT_.out (by kernel_rfl)) (fun _ _ _ h => h) (Or.inl ⟨by rfl, ?_⟩) ?_ ?_
              rotate_left
              · intro w'
                go_simp
                with_reducible rfl
              rotate_left
              · simp only [Act.put, List.setIfInBounds_toArray, List.set_cons_zero, List.set_cons_succ, i64_w, i32_w]
                rfl
              refine pure_ (i := 3) (N := some 50) (v := ?_) (a' := ?_) #[false, true, false, true, false, false, false, false, false, false, false, false, false, false] rfl rfl (any_of HT_.out (by kernel_rfl)) (fun _ _ _ h => h) (Or.inl ⟨by rfl, ?_⟩) ?_ ?_
              rotate_left
              · intro w'
                go_simp
                with_reducible rfl
              rotate_left
              · simp only [Act.put, List.setIfInBounds_toArray, List.set_cons_zero, List.set_cons_succ, i64_w, i32_w]
                rfl
              refine pure_ (i := 7) (N := some 54) (v := ?_) (a' := ?_) #[false, true, false, true, false, false, false, true, false, false, false, false, false, false] rfl rfl (any_of HT_.out (by kernel_rfl)) (fun _ _ _ h => h) (Or.inl ⟨by rfl, ?_⟩) ?_ ?_
              rotate_left
              · intro w'
                go_simp
                with_reducible rfl
              rotate_left
              · simp only [Act.put, List.setIfInBounds_toArray, List.set_cons_zero, List.set_cons_succ, i64_w, i32_w]
                rfl
              refine pure_ (i := 9) (N := some 56) (v := ?_) (a' := ?_) #[false, true, false, true, false, false, false, true, false, true, false, false, false, false] rfl rfl (any_of HT_.out (by kernel_rfl)) (fun _ _ _ h => h) (Or.inl ⟨by rfl, ?_⟩) ?_ ?_
              rotate_left
              · intro w'
                go_simp
                with_reducible rfl
              rotate_left
              · simp only [Act.put, List.setIfInBounds_toArray, List.set_cons_zero, List.set_cons_succ, i64_w, i32_w]
                rfl
              refine take_ (i := 0) (N := some 47) (v := ?_) (a' := ?_) #[true, true, false, true, false, false, false, true, false, true, false, false, false, false] rfl rfl (take_ofW HT_.out HW_.out (by kernel_rfl)) (fun _ _ _ h => h) (Or.inl ⟨by rfl, ?_⟩) hHeld ?_ ?_
              rotate_left
              · rintro w' ⟨s0, s1, s2, s3, s4, s5⟩
                go_simp
                with_reducible rfl
              rotate_left
              · simp only [Act.put, List.setIfInBounds_toArray, List.set_cons_zero, List.set_cons_succ, i64_w, i32_w]
                rfl
              refine take_ (i := 2) (N := some 49) (v := ?_) (a' := ?_) #[true, true, true, true, false, false, false, true, false, true, false, false, false, false] rfl rfl (take_ofW HT_.out HW_.out (by kernel_rfl)) (fun _ _ _ h => h) (Or.inl ⟨by rfl, ?_⟩) hHeld ?_ ?_
              rotate_left
              · rintro w' ⟨s0, s1, s2, s3, s4, s5⟩
                go_simp
                with_reducible rfl
              rotate_left
              · simp only [Act.put, List.setIfInBounds_toArray, List.set_cons_zero, List.set_cons_succ, i64_w, i32_w]
                rfl
              refine take_ (i := 4) (N := some 51) (v := ?_) (a' := ?_) #[true, true, true, true, true, false, false, true, false, true, false, false, false, false] rfl rfl (take_ofW HT_.out HW_.out (by kernel_rfl)) (fun _ _ _ h => h) (Or.inl ⟨by rfl, ?_⟩) hHeld ?_ ?_
              rotate_left
              · rintro w' ⟨s0, s1, s2, s3, s4, s5⟩
                go_simp
                with_reducible rfl
              rotate_left
              · simp only [Act.put, List.setIfInBounds_toArray, List.set_cons_zero, List.set_cons_succ, i64_w, i32_w]
                rfl
              refine take_ (i := 8) (N := some 55) (v := ?_) (a' := ?_) #[true, true, true, true, true, false, false, true, true, true, false, false, false, false] rfl rfl (take_ofW HT_.out HW_.out (by kernel_rfl)) (fun _ _ _ h => h) (Or.inl ⟨by rfl, ?_⟩) hHeld ?_ ?_
              rotate_left
              · rintro w' ⟨s0, s1, s2, s3, s4, s5⟩
                go_simp
                with_reducible rfl
              rotate_left
              · simp only [Act.put, List.setIfInBounds_toArray, List.set_cons_zero, List.set_cons_succ, i64_w, i32_w]
                rfl
              refine take_ (i := 10) (N := some 57) (v := ?_) (a' := ?_) #[true, true, true, true, true, false, false, true, true, true, true, false, false, false] rfl rfl (take_ofW HT_.out HW_.out (by kernel_rfl)) (fun _ _ _ h => h) (Or.inl ⟨by rfl, ?_⟩) hHeld ?_ ?_
              rotate_left
              · rintro w' ⟨s0, s1, s2, s3, s4, s5⟩
                go_simp
                with_reducible rfl
              rotate_left
              · simp only [Act.put, List.setIfInBounds_toArray, List.set_cons_zero, List.set_cons_succ, i64_w, i32_w]
                rfl
              refine one_ (i := 5) (N := some 52) #[true, true, true, true, true, true, false, true, true, true, true, false, false, false] rfl rfl (one_of HT_.out (by kernel_rfl)) (by decide) (fun K hK => ?_)
              refine goes_ Try.func76 (by kernel_rfl) rfl #[.int .i64 ((rd_T41 l0 x21_1).f0), .int .i64 t9] (by rfl) rfl rfl (by (try simp only [List.map_toArray, List.map_cons, List.map_nil]); first | done | rfl | (simp only [List.length_drop, List.length_take]; rfl)) ?_
              with_reducible refine (headroomref16_times.calls k1 ((rd_T41 l0 x21_1).f0) t9 t19 t20 _ A22.out).mono ?_
              rintro e w48 ⟨rfl, hb⟩
              refine ⟨_, rfl, ?_⟩
              have n0_ := Aside0.mk (blk_below (g := gb1) (o := .cells #[.int .i64 0, .int .i64 0] 41 (0, 0)) (by (with_reducible repeat (first | refine blk_drewN ?_ _ | refine blk_drew ?_ | refine blk_alloc ?_ _)); exact BK1.out) hb)
              have n1_ := Aside0.mk (blk_below (g := gb2) (o := .cells #[.int .i64 t17, .int .i64 t18] 94 (0, 0)) (by (with_reducible repeat (first | refine blk_drewN ?_ _ | refine blk_drew ?_ | refine blk_alloc ?_ _)); exact BK2.out) hb)
              have n2_ := Aside0.mk (blk_below (g := gb3) (o := .cells #[.int .i64 x4000_1, .int .i64 x4001_1] 94 (0, 0)) (by (with_reducible repeat (first | refine blk_drewN ?_ _ | refine blk_drew ?_ | refine blk_alloc ?_ _)); exact BK3.out) hb)
              have n3_ := Aside0.mk (blk_below (g := gb7) (o := .cells #[.int .i64 ((rd_T41 l0 x21_1).f0), .int .i64 ((rd_T41 l0 x21_1).f1)] 41 (0, 0)) (by (with_reducible repeat (first | refine blk_drewN ?_ _ | refine blk_drew ?_ | refine blk_alloc ?_ _)); exact BK7.out) hb)
              have n4_ := Aside0.mk (blk_below (g := gb10) (o := .cells #[.int .i64 t8, .int .i64 t9] 41 (0, 0)) (by (with_reducible repeat (first | refine blk_drewN ?_ _ | refine blk_drew ?_ | refine blk_alloc ?_ _)); exact BK10.out) hb)
              have n5_ := Aside0.mk (below_step (by repeat (first | (with_reducible first | exact HB.out | apply below_alloc | apply pw_below_drewN | apply below_drew1 | refine below_set ?_ GE1.out | refine below_set ?_ GE2.out | refine below_set ?_ GE3.out | refine below_set ?_ GE7.out | refine below_set ?_ GE10.out) | exact HB.out)) hb)
              clear BK1
              clear BK2
              clear BK3
              clear BK7
              clear BK10
              clear HB
              have BK1 := n0_
              have BK2 := n1_
              have BK3 := n2_
              have BK7 := n3_
              have BK10 := n4_
              have HB := n5_
              clear n0_ n1_ n2_ n3_ n4_ n5_
              (try clear hb)
              (try clear hb2)
              (try clear hk)
              (try clear hi)
              refine hK.out _ _ ⟨(blk_cell BK3.out 0).trans rfl, (blk_cell BK3.out 1).trans rfl, (blk_cell BK7.out 0).trans rfl, (blk_cell BK7.out 1).trans rfl, (blk_cell BK10.out 0).trans rfl, (blk_cell BK10.out 1).trans rfl⟩ (fun hHeld => ?_)
              clear hK K
              refine norm_ (a' := ?_) ?_ ?_
              rotate_left
              · show Act.put _ (some 52) _ = _
                simp only [Act.put, List.setIfInBounds_toArray, List.set_cons_zero, List.set_cons_succ, i64_w, i32_w]
                rfl
              refine one_ (i := 6) (N := some 53) #[true, true, true, true, true, true, true, true, true, true, true, false, false, false] rfl rfl (one_of HT_.out (by kernel_rfl)) (by decide) (fun K hK => ?_)
              refine goes_ Try.func75 (by kernel_rfl) rfl #[.agg #[.int .i64 x4000_1, .int .i64 x4001_1], .agg #[.int .i64 t19, .int .i64 t20]] (by rfl) rfl rfl (by (try simp only [List.map_toArray, List.map_cons, List.map_nil]); first | done | rfl | (simp only [List.length_drop, List.length_take]; rfl)) ?_
              with_reducible refine (headroomref16_add.calls k1 x4000_1 x4001_1 t19 t20 t21 t22 _ A23.out).mono ?_
              rintro e w49 ⟨rfl, hb⟩
              refine ⟨_, rfl, ?_⟩
              have n0_ := Aside0.mk (blk_below (g := gb1) (o := .cells #[.int .i64 0, .int .i64 0] 41 (0, 0)) (by (with_reducible repeat (first | refine blk_drewN ?_ _ | refine blk_drew ?_ | refine blk_alloc ?_ _)); exact BK1.out) hb)
              have n1_ := Aside0.mk (blk_below (g := gb2) (o := .cells #[.int .i64 t17, .int .i64 t18] 94 (0, 0)) (by (with_reducible repeat (first | refine blk_drewN ?_ _ | refine blk_drew ?_ | refine blk_alloc ?_ _)); exact BK2.out) hb)
              have n2_ := Aside0.mk (blk_below (g := gb3) (o := .cells #[.int .i64 x4000_1, .int .i64 x4001_1] 94 (0, 0)) (by (with_reducible repeat (first | refine blk_drewN ?_ _ | refine blk_drew ?_ | refine blk_alloc ?_ _)); exact BK3.out) hb)
              have n3_ := Aside0.mk (blk_below (g := gb7) (o := .cells #[.int .i64 ((rd_T41 l0 x21_1).f0), .int .i64 ((rd_T41 l0 x21_1).f1)] 41 (0, 0)) (by (with_reducible repeat (first | refine blk_drewN ?_ _ | refine blk_drew ?_ | refine blk_alloc ?_ _)); exact BK7.out) hb)
              have n4_ := Aside0.mk (blk_below (g := gb10) (o := .cells #[.int .i64 t8, .int .i64 t9] 41 (0, 0)) (by (with_reducible repeat (first | refine blk_drewN ?_ _ | refine blk_drew ?_ | refine blk_alloc ?_ _)); exact BK10.out) hb)
              have n5_ := Aside0.mk (below_step (by repeat (first | (with_reducible first | exact HB.out | apply below_alloc | apply pw_below_drewN | apply below_drew1 | refine below_set ?_ GE1.out | refine below_set ?_ GE2.out | refine below_set ?_ GE3.out | refine below_set ?_ GE7.out | refine below_set ?_ GE10.out) | exact HB.out)) hb)
              clear BK1
              clear BK2
              clear BK3
              clear BK7
              clear BK10
              clear HB
              have BK1 := n0_
              have BK2 := n1_
              have BK3 := n2_
              have BK7 := n3_
              have BK10 := n4_
              have HB := n5_
              clear n0_ n1_ n2_ n3_ n4_ n5_
              (try clear hb)
              (try clear hb2)
              (try clear hk)
              (try clear hi)
              refine hK.out _ _ ⟨(blk_cell BK3.out 0).trans rfl, (blk_cell BK3.out 1).trans rfl, (blk_cell BK7.out 0).trans rfl, (blk_cell BK7.out 1).trans rfl, (blk_cell BK10.out 0).trans rfl, (blk_cell BK10.out 1).trans rfl⟩ (fun hHeld => ?_)
              clear hK K
              refine norm_ (a' := ?_) ?_ ?_
              rotate_left
              · show Act.put _ (some 53) _ = _
                simp only [Act.put, List.setIfInBounds_toArray, List.set_cons_zero, List.set_cons_succ, i64_w, i32_w]
                rfl
              refine one_ (i := 11) (N := some 58) #[true, true, true, true, true, true, true, true, true, true, true, true, false, false] rfl rfl (one_of HT_.out (by kernel_rfl)) (by decide) (fun K hK => ?_)
              refine goes_ Try.func76 (by kernel_rfl) rfl #[.int .i64 ((rd_T41 l0 x21_1).f1), .int .i64 t8] (by rfl) rfl rfl (by (try simp only [List.map_toArray, List.map_cons, List.map_nil]); first | done | rfl | (simp only [List.length_drop, List.length_take]; rfl)) ?_
              with_reducible refine (headroomref16_times.calls k1 ((rd_T41 l0 x21_1).f1) t8 t23 t24 _ A24.out).mono ?_
              rintro e w50 ⟨rfl, hb⟩
              refine ⟨_, rfl, ?_⟩
              have n0_ := Aside0.mk (blk_below (g := gb1) (o := .cells #[.int .i64 0, .int .i64 0] 41 (0, 0)) (by (with_reducible repeat (first | refine blk_drewN ?_ _ | refine blk_drew ?_ | refine blk_alloc ?_ _)); exact BK1.out) hb)
              have n1_ := Aside0.mk (blk_below (g := gb2) (o := .cells #[.int .i64 t17, .int .i64 t18] 94 (0, 0)) (by (with_reducible repeat (first | refine blk_drewN ?_ _ | refine blk_drew ?_ | refine blk_alloc ?_ _)); exact BK2.out) hb)
              have n2_ := Aside0.mk (blk_below (g := gb3) (o := .cells #[.int .i64 x4000_1, .int .i64 x4001_1] 94 (0, 0)) (by (with_reducible repeat (first | refine blk_drewN ?_ _ | refine blk_drew ?_ | refine blk_alloc ?_ _)); exact BK3.out) hb)
              have n3_ := Aside0.mk (blk_below (g := gb7) (o := .cells #[.int .i64 ((rd_T41 l0 x21_1).f0), .int .i64 ((rd_T41 l0 x21_1).f1)] 41 (0, 0)) (by (with_reducible repeat (first | refine blk_drewN ?_ _ | refine blk_drew ?_ | refine blk_alloc ?_ _)); exact BK7.out) hb)
              have n4_ := Aside0.mk (blk_below (g := gb10) (o := .cells #[.int .i64 t8, .int .i64 t9] 41 (0, 0)) (by (with_reducible repeat (first | refine blk_drewN ?_ _ | refine blk_drew ?_ | refine blk_alloc ?_ _)); exact BK10.out) hb)
              have n5_ := Aside0.mk (below_step (by repeat (first | (with_reducible first | exact HB.out | apply below_alloc | apply pw_below_drewN | apply below_drew1 | refine below_set ?_ GE1.out | refine below_set ?_ GE2.out | refine below_set ?_ GE3.out | refine below_set ?_ GE7.out | refine below_set ?_ GE10.out) | exact HB.out)) hb)
              clear BK1
              clear BK2
              clear BK3
              clear BK7
              clear BK10
              clear HB
              have BK1 := n0_
              have BK2 := n1_
              have BK3 := n2_
              have BK7 := n3_
              have BK10 := n4_
              have HB := n5_
              clear n0_ n1_ n2_ n3_ n4_ n5_
              (try clear hb)
              (try clear hb2)
              (try clear hk)
              (try clear hi)
              refine hK.out _ _ ⟨(blk_cell BK3.out 0).trans rfl, (blk_cell BK3.out 1).trans rfl, (blk_cell BK7.out 0).trans rfl, (blk_cell BK7.out 1).trans rfl, (blk_cell BK10.out 0).trans rfl, (blk_cell BK10.out 1).trans rfl⟩ (fun hHeld => ?_)
              clear hK K
              refine norm_ (a' := ?_) ?_ ?_
              rotate_left
              · show Act.put _ (some 58) _ = _
                simp only [Act.put, List.setIfInBounds_toArray, List.set_cons_zero, List.set_cons_succ, i64_w, i32_w]
                rfl
              refine one_ (i := 12) (N := some 59) #[true, true, true, true, true, true, true, true, true, true, true, true, true, false] rfl rfl (one_of HT_.out (by kernel_rfl)) (by decide) (fun K hK => ?_)
              refine goes_ Try.func75 (by kernel_rfl) rfl #[.agg #[.int .i64 t21, .int .i64 t22], .agg #[.int .i64 t23, .int .i64 t24]] (by rfl) rfl rfl (by (try simp only [List.map_toArray, List.map_cons, List.map_nil]); first | done | rfl | (simp only [List.length_drop, List.length_take]; rfl)) ?_
              with_reducible refine (headroomref16_add.calls k1 t21 t22 t23 t24 t25 t26 _ A25.out).mono ?_
              rintro e w51 ⟨rfl, hb⟩
              refine ⟨_, rfl, ?_⟩
              have n0_ := Aside0.mk (blk_below (g := gb1) (o := .cells #[.int .i64 0, .int .i64 0] 41 (0, 0)) (by (with_reducible repeat (first | refine blk_drewN ?_ _ | refine blk_drew ?_ | refine blk_alloc ?_ _)); exact BK1.out) hb)
              have n1_ := Aside0.mk (blk_below (g := gb2) (o := .cells #[.int .i64 t17, .int .i64 t18] 94 (0, 0)) (by (with_reducible repeat (first | refine blk_drewN ?_ _ | refine blk_drew ?_ | refine blk_alloc ?_ _)); exact BK2.out) hb)
              have n2_ := Aside0.mk (blk_below (g := gb3) (o := .cells #[.int .i64 x4000_1, .int .i64 x4001_1] 94 (0, 0)) (by (with_reducible repeat (first | refine blk_drewN ?_ _ | refine blk_drew ?_ | refine blk_alloc ?_ _)); exact BK3.out) hb)
              have n3_ := Aside0.mk (blk_below (g := gb7) (o := .cells #[.int .i64 ((rd_T41 l0 x21_1).f0), .int .i64 ((rd_T41 l0 x21_1).f1)] 41 (0, 0)) (by (with_reducible repeat (first | refine blk_drewN ?_ _ | refine blk_drew ?_ | refine blk_alloc ?_ _)); exact BK7.out) hb)
              have n4_ := Aside0.mk (blk_below (g := gb10) (o := .cells #[.int .i64 t8, .int .i64 t9] 41 (0, 0)) (by (with_reducible repeat (first | refine blk_drewN ?_ _ | refine blk_drew ?_ | refine blk_alloc ?_ _)); exact BK10.out) hb)
              have n5_ := Aside0.mk (below_step (by repeat (first | (with_reducible first | exact HB.out | apply below_alloc | apply pw_below_drewN | apply below_drew1 | refine below_set ?_ GE1.out | refine below_set ?_ GE2.out | refine below_set ?_ GE3.out | refine below_set ?_ GE7.out | refine below_set ?_ GE10.out) | exact HB.out)) hb)
              clear BK1
              clear BK2
              clear BK3
              clear BK7
              clear BK10
              clear HB
              have BK1 := n0_
              have BK2 := n1_
              have BK3 := n2_
              have BK7 := n3_
              have BK10 := n4_
              have HB := n5_
              clear n0_ n1_ n2_ n3_ n4_ n5_
              (try clear hb)
              (try clear hb2)
              (try clear hk)
              (try clear hi)
              refine hK.out _ _ ⟨(blk_cell BK3.out 0).trans rfl, (blk_cell BK3.out 1).trans rfl, (blk_cell BK7.out 0).trans rfl, (blk_cell BK7.out 1).trans rfl, (blk_cell BK10.out 0).trans rfl, (blk_cell BK10.out 1).trans rfl⟩ (fun hHeld => ?_)
              clear hK K
              refine norm_ (a' := ?_) ?_ ?_
              rotate_left
              · show Act.put _ (some 59) _ = _
                simp only [Act.put, List.setIfInBounds_toArray, List.set_cons_zero, List.set_cons_succ, i64_w, i32_w]
                rfl
              refine last_ (i := 13) (N := none) #[true, true, true, true, true, true, true, true, true, true, true, true, true, true] rfl rfl (one_of HT_.out (by kernel_rfl)) (by decide) (fun K hK => ?_)
              have hs52 : w51.cell? ⟨gb3, 0, none⟩ = some (.int .i64 x4000_1) := (blk_cell BK3.out 0).trans rfl
              have hfs52 := blk_frozen BK3.out 0
              have hns52_0 := NB1_3.out
              have hns52_1 := NB2_3.out
              have hns52_3 := NB7_3.out
              have hns52_4 := NB10_3.out
              have hms52_0 := NB3_1.out
              have hms52_1 := NB3_2.out
              have hms52_3 := NB3_7.out
              have hms52_4 := NB3_10.out
              have hs53 : w51.cell? ⟨gb3, 1, none⟩ = some (.int .i64 x4001_1) := (blk_cell BK3.out 1).trans rfl
              have hfs53 := blk_frozen BK3.out 1
              have hns53_0 := NB1_3.out
              have hns53_1 := NB2_3.out
              have hns53_3 := NB7_3.out
              have hns53_4 := NB10_3.out
              have hms53_0 := NB3_1.out
              have hms53_1 := NB3_2.out
              have hms53_3 := NB3_7.out
              have hms53_4 := NB3_10.out
              refine skip_ (w1 := ?_) (by rfl) rfl ?_ ?_
              rotate_left
              · go_simp
                rfl
              refine hK.out _ _ ?_
              clear hK K
              refine done_ (done_of HT_.out (by kernel_rfl)) ?_
              try go_wp2
              go_roundg k1
              case measure => have := HK1.out; omega
              case rel => exact ⟨(wrap64 (x21_1 + 1)), (t17), (t18), (t25), (t26), (by first | rfl | (simp; done) | (simp [*]; done)), H', ⟨by have := HK1.out; omega⟩, ⟨by (with_reducible repeat (first | refine blk_drewN ?_ _ | refine blk_drew ?_ | refine blk_alloc ?_ _)); refine blk_far ?_ NB1_3.out _; (with_reducible repeat (first | refine blk_drewN ?_ _ | refine blk_drew ?_ | refine blk_alloc ?_ _)); refine blk_far ?_ NB1_3.out _; (with_reducible repeat (first | refine blk_drewN ?_ _ | refine blk_drew ?_ | refine blk_alloc ?_ _)); exact BK1.out⟩, ⟨by (with_reducible repeat (first | refine blk_drewN ?_ _ | refine blk_drew ?_ | refine blk_alloc ?_ _)); refine blk_far ?_ NB2_3.out _; (with_reducible repeat (first | refine blk_drewN ?_ _ | refine blk_drew ?_ | refine blk_alloc ?_ _)); refine blk_far ?_ NB2_3.out _; (with_reducible repeat (first | refine blk_drewN ?_ _ | refine blk_drew ?_ | refine blk_alloc ?_ _)); exact BK2.out⟩, ⟨by (with_reducible repeat (first | refine blk_drewN ?_ _ | refine blk_drew ?_ | refine blk_alloc ?_ _)); refine blk_put (cs := #[.int .i64 t25, .int .i64 x4001_1]) ?_ 1 _ rfl; (with_reducible repeat (first | refine blk_drewN ?_ _ | refine blk_drew ?_ | refine blk_alloc ?_ _)); refine blk_put (cs := #[.int .i64 x4000_1, .int .i64 x4001_1]) ?_ 0 _ rfl; (with_reducible repeat (first | refine blk_drewN ?_ _ | refine blk_drew ?_ | refine blk_alloc ?_ _)); exact BK3.out⟩, ⟨by repeat (first | (with_reducible first | exact HB.out | apply below_alloc | apply pw_below_drewN | apply below_drew1 | refine below_set ?_ GE1.out | refine below_set ?_ GE2.out | refine below_set ?_ GE3.out | refine below_set ?_ GE7.out | refine below_set ?_ GE10.out) | exact HB.out)⟩⟩
          · rw [if_neg c15] at H
            exact absurd H (by simp)
        · rw [if_neg c14] at H
          exact absurd H (by simp)
      · rw [if_neg c13] at H
        have c13b0 : decide (x21_1 < (l0.length : Int)) = false := decide_eq_false c13
        clear c13
        replace H := Option.bind_eq_some_iff.mp H
        obtain ⟨t4, A540, H⟩ := H
        replace H : ((headroomref16_down.f k1 x4000_1 x4001_1).bind fun t5 => (some (t4, t5))) = some (r1, r2) := H
        have A54 := Aside0.mk A540
        clear A540
        replace H := Option.bind_eq_some_iff.mp H
        obtain ⟨t5, A550, H⟩ := H
        replace H : (some (t4, t5)) = some (r1, r2) := H
        have A55 := Aside0.mk A550
        clear A550
        simp only [Option.some.injEq, Prod.mk.injEq] at H
        obtain ⟨rfl, rfl⟩ := H
        try go_wp2
        have n0_ := Aside0.mk (blk_drew BK1.out)
        have n1_ := Aside0.mk (blk_drew BK2.out)
        have n2_ := Aside0.mk (blk_drew BK3.out)
        have n3_ := Aside0.mk (below_drew1 HB.out)
        clear BK1
        clear BK2
        clear BK3
        clear HB
        have BK1 := n0_
        have BK2 := n1_
        have BK3 := n2_
        have HB := n3_
        clear n0_ n1_ n2_ n3_
        refine start_ (n := 6) (S := fun w' => w'.cell? ⟨gb2, 0, none⟩ = some (.int .i64 x3000_1) ∧ w'.cell? ⟨gb2, 1, none⟩ = some (.int .i64 x3001_1) ∧ w'.cell? ⟨gb3, 0, none⟩ = some (.int .i64 x4000_1) ∧ w'.cell? ⟨gb3, 1, none⟩ = some (.int .i64 x4001_1)) (ds := []) #[false, false, false, false, false, false] (by kernel_rfl) rfl rfl ⟨(blk_cell BK2.out 0).trans rfl, (blk_cell BK2.out 1).trans rfl, (blk_cell BK3.out 0).trans rfl, (blk_cell BK3.out 1).trans rfl⟩ (fun hHeld => ?_)
        generalize wr.drew = w56 at BK1 BK2 BK3 HB hHeld ⊢
        refine take_ (i := 0) (N := some 61) (v := ?_) (a' := ?_) #[true, false, false, false, false, false] rfl rfl (by kernel_rfl) (fun _ _ _ h => h) (Or.inl ⟨by rfl, ?_⟩) hHeld ?_ ?_
        rotate_left
        · rintro w' ⟨s0, s1, s2, s3⟩
          go_simp
          with_reducible rfl
        rotate_left
        · simp only [Act.put, List.setIfInBounds_toArray, List.set_cons_zero, List.set_cons_succ, i64_w, i32_w]
          rfl
        refine take_ (i := 2) (N := some 63) (v := ?_) (a' := ?_) #[true, false, true, false, false, false] rfl rfl (by kernel_rfl) (fun _ _ _ h => h) (Or.inl ⟨by rfl, ?_⟩) hHeld ?_ ?_
        rotate_left
        · rintro w' ⟨s0, s1, s2, s3⟩
          go_simp
          with_reducible rfl
        rotate_left
        · simp only [Act.put, List.setIfInBounds_toArray, List.set_cons_zero, List.set_cons_succ, i64_w, i32_w]
          rfl
        refine one_ (i := 1) (N := some 62) #[true, true, true, false, false, false] rfl rfl (by kernel_rfl) (by decide) (fun K hK => ?_)
        refine goes_ Try.func77 (by kernel_rfl) rfl #[.agg #[.int .i64 x3000_1, .int .i64 x3001_1]] (by rfl) rfl rfl (by (try simp only [List.map_toArray, List.map_cons, List.map_nil]); first | done | rfl | (simp only [List.length_drop, List.length_take]; rfl)) ?_
        with_reducible refine (headroomref16_down.calls k1 x3000_1 x3001_1 t4 _ A54.out).mono ?_
        rintro e w57 ⟨rfl, hb⟩
        refine ⟨_, rfl, ?_⟩
        have n0_ := Aside0.mk (blk_below (g := gb1) (o := .cells #[.int .i64 0, .int .i64 0] 41 (0, 0)) (by (with_reducible repeat (first | refine blk_drewN ?_ _ | refine blk_drew ?_ | refine blk_alloc ?_ _)); exact BK1.out) hb)
        have n1_ := Aside0.mk (blk_below (g := gb2) (o := .cells #[.int .i64 x3000_1, .int .i64 x3001_1] 94 (0, 0)) (by (with_reducible repeat (first | refine blk_drewN ?_ _ | refine blk_drew ?_ | refine blk_alloc ?_ _)); exact BK2.out) hb)
        have n2_ := Aside0.mk (blk_below (g := gb3) (o := .cells #[.int .i64 x4000_1, .int .i64 x4001_1] 94 (0, 0)) (by (with_reducible repeat (first | refine blk_drewN ?_ _ | refine blk_drew ?_ | refine blk_alloc ?_ _)); exact BK3.out) hb)
        have n3_ := Aside0.mk (below_step (by repeat (first | (with_reducible first | exact HB.out | apply below_alloc | apply pw_below_drewN | apply below_drew1 | refine below_set ?_ GE1.out | refine below_set ?_ GE2.out | refine below_set ?_ GE3.out) | exact HB.out)) hb)
        clear BK1
        clear BK2
        clear BK3
        clear HB
        have BK1 := n0_
        have BK2 := n1_
        have BK3 := n2_
        have HB := n3_
        clear n0_ n1_ n2_ n3_
        (try clear hb)
        (try clear hb2)
        (try clear hk)
        (try clear hi)
        refine hK.out _ _ ⟨(blk_cell BK2.out 0).trans rfl, (blk_cell BK2.out 1).trans rfl, (blk_cell BK3.out 0).trans rfl, (blk_cell BK3.out 1).trans rfl⟩ (fun hHeld => ?_)
        clear hK K
        refine norm_ (a' := ?_) ?_ ?_
        rotate_left
        · show Act.put _ (some 62) _ = _
          simp only [Act.put, List.setIfInBounds_toArray, List.set_cons_zero, List.set_cons_succ, i64_w, i32_w]
          rfl
        refine one_ (i := 3) (N := some 64) #[true, true, true, true, false, false] rfl rfl (by kernel_rfl) (by decide) (fun K hK => ?_)
        refine goes_ Try.func77 (by kernel_rfl) rfl #[.agg #[.int .i64 x4000_1, .int .i64 x4001_1]] (by rfl) rfl rfl (by (try simp only [List.map_toArray, List.map_cons, List.map_nil]); first | done | rfl | (simp only [List.length_drop, List.length_take]; rfl)) ?_
        with_reducible refine (headroomref16_down.calls k1 x4000_1 x4001_1 t5 _ A55.out).mono ?_
        rintro e w58 ⟨rfl, hb⟩
        refine ⟨_, rfl, ?_⟩
        have n0_ := Aside0.mk (blk_below (g := gb1) (o := .cells #[.int .i64 0, .int .i64 0] 41 (0, 0)) (by (with_reducible repeat (first | refine blk_drewN ?_ _ | refine blk_drew ?_ | refine blk_alloc ?_ _)); exact BK1.out) hb)
        have n1_ := Aside0.mk (blk_below (g := gb2) (o := .cells #[.int .i64 x3000_1, .int .i64 x3001_1] 94 (0, 0)) (by (with_reducible repeat (first | refine blk_drewN ?_ _ | refine blk_drew ?_ | refine blk_alloc ?_ _)); exact BK2.out) hb)
        have n2_ := Aside0.mk (blk_below (g := gb3) (o := .cells #[.int .i64 x4000_1, .int .i64 x4001_1] 94 (0, 0)) (by (with_reducible repeat (first | refine blk_drewN ?_ _ | refine blk_drew ?_ | refine blk_alloc ?_ _)); exact BK3.out) hb)
        have n3_ := Aside0.mk (below_step (by repeat (first | (with_reducible first | exact HB.out | apply below_alloc | apply pw_below_drewN | apply below_drew1 | refine below_set ?_ GE1.out | refine below_set ?_ GE2.out | refine below_set ?_ GE3.out) | exact HB.out)) hb)
        clear BK1
        clear BK2
        clear BK3
        clear HB
        have BK1 := n0_
        have BK2 := n1_
        have BK3 := n2_
        have HB := n3_
        clear n0_ n1_ n2_ n3_
        (try clear hb)
        (try clear hb2)
        (try clear hk)
        (try clear hi)
        refine hK.out _ _ ⟨(blk_cell BK2.out 0).trans rfl, (blk_cell BK2.out 1).trans rfl, (blk_cell BK3.out 0).trans rfl, (blk_cell BK3.out 1).trans rfl⟩ (fun hHeld => ?_)
        clear hK K
        refine norm_ (a' := ?_) ?_ ?_
        rotate_left
        · show Act.put _ (some 64) _ = _
          simp only [Act.put, List.setIfInBounds_toArray, List.set_cons_zero, List.set_cons_succ, i64_w, i32_w]
          rfl
        refine pure_ (i := 4) (N := some 65) (v := ?_) (a' := ?_) #[true, true, true, true, true, false] rfl rfl (by kernel_rfl) (fun _ _ _ h => h) (Or.inl ⟨by rfl, ?_⟩) ?_ ?_
        rotate_left
        · intro w'
          go_simp
          with_reducible rfl
        rotate_left
        · simp only [Act.put, List.setIfInBounds_toArray, List.set_cons_zero, List.set_cons_succ, i64_w, i32_w]
          rfl
        refine one_ (i := 5) (N := none) #[true, true, true, true, true, true] rfl rfl (by kernel_rfl) (by decide) (fun K hK => ?_)
        have hs59 : w58.cell? ⟨gb1, 0, none⟩ = some (.int .i64 0) := (blk_cell BK1.out 0).trans rfl
        have hfs59 := blk_frozen BK1.out 0
        have hns59_1 := NB2_1.out
        have hns59_2 := NB3_1.out
        have hms59_1 := NB1_2.out
        have hms59_2 := NB1_3.out
        have hs60 : w58.cell? ⟨gb1, 1, none⟩ = some (.int .i64 0) := (blk_cell BK1.out 1).trans rfl
        have hfs60 := blk_frozen BK1.out 1
        have hns60_1 := NB2_1.out
        have hns60_2 := NB3_1.out
        have hms60_1 := NB1_2.out
        have hms60_2 := NB1_3.out
        refine skip_ (w1 := ?_) (by rfl) rfl ?_ ?_
        rotate_left
        · go_simp
          rfl
        refine hK.out _ _ ⟨((cell_far (p := ⟨gb1, _, none⟩) NB2_1.out _).trans (((cell_far (p := ⟨gb1, _, none⟩) NB2_1.out _).trans (hHeld.1)))), ((cell_far (p := ⟨gb1, _, none⟩) NB2_1.out _).trans (((cell_far (p := ⟨gb1, _, none⟩) NB2_1.out _).trans (hHeld.2.1)))), ((cell_far (p := ⟨gb1, _, none⟩) NB3_1.out _).trans (((cell_far (p := ⟨gb1, _, none⟩) NB3_1.out _).trans (hHeld.2.2.1)))), ((cell_far (p := ⟨gb1, _, none⟩) NB3_1.out _).trans (((cell_far (p := ⟨gb1, _, none⟩) NB3_1.out _).trans (hHeld.2.2.2))))⟩ (fun hHeld => ?_)
        clear hK K
        refine done_ (by kernel_rfl) ?_
        try go_wp2
        refine bodyPost_ret (results_cell_row rfl _ _ gb1 41 #[.int .i64 t4, .int .i64 t5] (0, 0) _ rfl (by (with_reducible repeat (first | refine blk_drewN ?_ _ | refine blk_drew ?_ | refine blk_alloc ?_ _)); refine blk_put (cs := #[.int .i64 t4, .int .i64 0]) ?_ 1 _ rfl; (with_reducible repeat (first | refine blk_drewN ?_ _ | refine blk_drew ?_ | refine blk_alloc ?_ _)); refine blk_put (cs := #[.int .i64 0, .int .i64 0]) ?_ 0 _ rfl; (with_reducible repeat (first | refine blk_drewN ?_ _ | refine blk_drew ?_ | refine blk_alloc ?_ _)); exact BK1.out) Try.underlying41 rfl (by kernel_rfl)) rfl ?_
        exact ⟨by first | rfl | (simp [errW_none, errW_some] <;> rfl) | (simp [*, errW_none, errW_some] <;> rfl), by repeat (first | (with_reducible first | exact HB.out | apply below_alloc | apply pw_below_drewN | apply below_drew1 | refine below_set ?_ GE1.out | refine below_set ?_ GE2.out | refine below_set ?_ GE3.out) | exact HB.out)⟩

end Go.Proofs.Ytpmkkidljmedaaa.X
namespace Go.Proofs.Ytpmkkidljmedaaa.X
open Go.RowKit Go.Proofs.YtpmkkidljmedaaaW.PrintWords Go.Proofs.YtpmkkidljmedaaaW.PrintLast Go.Proofs.YtpmkkidljmedaaaW.PrintMore
attribute [local go_sem] max2_int min2_int max_two min_two max_three min_three max_four min_four   -- for this text's walks alone
set_option linter.unusedVariables false
set_option linter.unusedSimpArgs false

/-! ### headroomref16_All: function 15 -/
def headroomref16_All.l0 : Nat → List (S41) → Bool → List (S41) → List (S41) → Int → Int → Option ((List (S41)))
  | 0, _, _, _, _, _, _ => none
  | k + 1, x0, x1, x5, x6, x13, x14 => if x14 < x13 then ((headroomref16_Bin.f k x0 x5 x14 x1).bind fun bt7 => (if x6.length < 8796093022208 then (headroomref16_All.l0 k x0 x1 x5 (x6 ++ [(⟨bt7.1, bt7.2⟩ : S41)]) x13 (wrap64 (x14 + 1))) else (none))) else (some x6)
def headroomref16_All.f (k : Nat) (l0 : List (S41)) (a1 : Bool) : Option ((List (S41))) := (headroomref16_Roots.f k (l0.length : Int)).bind fun t1 => (headroomref16_All.l0 k l0 a1 t1 (([] : List (S41))) (l0.length : Int) 0)
theorem headroomref16_All.mono_l : ∀ k, (∀ y0 y1 y2 y3 y4 y5, LeO (headroomref16_All.l0 k y0 y1 y2 y3 y4 y5) (headroomref16_All.l0 (k + 1) y0 y1 y2 y3 y4 y5))
  | 0 => fun _ _ _ _ _ _ r h => by simp [headroomref16_All.l0] at h
  | k + 1 => by
    have ih0 := headroomref16_All.mono_l k
    · intro y0 y1 y2 y3 y4 y5
      unfold headroomref16_All.l0
      repeat' first
      | (with_reducible exact ih0 _ _ _ _ _ _)
      | (with_reducible exact headroomref16_Bin.mono _ _ _ _ _)
      | (with_reducible exact headroomref16_Roots.mono _ _)
      | (with_reducible exact LeO.refl _)
      | (with_reducible exact LeO.none _)
      | (with_reducible refine LeO.ite ?_ ?_)
      | (with_reducible refine LeO.bind ?_ (fun _ => ?_))
      | exact ih0 _ _ _ _ _ _
      | exact headroomref16_Bin.mono _ _ _ _ _
      | exact headroomref16_Roots.mono _ _
      | exact LeO.none _
      | refine LeO.ite ?_ ?_
      | refine LeO.bind ?_ (fun _ => ?_)
theorem headroomref16_All.mono : ∀ a0 a1 k, LeO (headroomref16_All.f k a0 a1) (headroomref16_All.f (k + 1) a0 a1) := by
  intro a0 a1 k
  have ih0 := headroomref16_All.mono_l k
  unfold headroomref16_All.f
  repeat' first
      | (with_reducible exact ih0 _ _ _ _ _ _)
      | (with_reducible exact headroomref16_Bin.mono _ _ _ _ _)
      | (with_reducible exact headroomref16_Roots.mono _ _)
      | (with_reducible exact LeO.refl _)
      | (with_reducible exact LeO.none _)
      | (with_reducible refine LeO.ite ?_ ?_)
      | (with_reducible refine LeO.bind ?_ (fun _ => ?_))
      | exact ih0 _ _ _ _ _ _
      | exact headroomref16_Bin.mono _ _ _ _ _
      | exact headroomref16_Roots.mono _ _
      | exact LeO.none _
      | refine LeO.ite ?_ ?_
      | refine LeO.bind ?_ (fun _ => ?_)
set_option maxHeartbeats 8000000 in
set_option maxRecDepth 100000 in
theorem headroomref16_All.calls (k : Nat) (A0 : Option Addr) (c0 : Nat) (l0 : List (S41)) (a1 : Bool) (r : List (S41)) (w : World) (hr0 : Kd.C k41 w A0 l0.length l0) (hc0 : l0.length ≤ c0) (h : headroomref16_All.f k l0 a1 = some r) :
    Calls Try.prog 15 #[.slice A0 l0.length c0, .bool a1] w fun e w' => ∃ v0_ : Value, e = .returned (v0_) ∧ Kd.R k41 41 w' w.heap.size (fun _ => True) v0_ r ∧ Below w.heap.size w w' := by
  have HR0 := Aside0.mk hr0
  have HC0 := Aside0.mk hc0
  clear hr0 hc0
  have HB := Aside0.mk (Below.refl w.heap.size w)
  have H : ((headroomref16_Roots.f k (l0.length : Int)).bind fun t1 => (headroomref16_All.l0 k l0 a1 t1 (([] : List (S41))) (l0.length : Int) 0)) = some r := h
  clear h
  replace H := Option.bind_eq_some_iff.mp H
  obtain ⟨t1, A30, H⟩ := H
  replace H : (headroomref16_All.l0 k l0 a1 t1 (([] : List (S41))) (l0.length : Int) 0) = some r := H
  have A3 := Aside0.mk A30
  clear A30
  obtain ⟨y4, hy4⟩ : ∃ y_ : List (S41), y_ = (([] : List (S41))) := ⟨_, rfl⟩
  replace H : (headroomref16_All.l0 k l0 a1 t1 y4 (l0.length : Int) 0) = some r := by first | (rw [hy4]; with_reducible exact H) | (have H2_ := (Option.bind_some _ _).symm.trans H; rw [hy4]; with_reducible exact H2_) | (have H2_ := (Option.bind_some _ _).symm.trans H; with_reducible exact H2_) | with_reducible exact H | (rw [hy4]; exact H) | exact H
  have Ny4 := Aside0.mk hy4
  clear hy4
  have H' := Aside0.mk H
  clear H
  go_enter Try.func15, Try.ntmps15
  go_wp2_with (first | ((with_reducible refine gate_callee (f := 38) rfl ?_); refine goesL_ (some 10) rfl rfl Try.func38 (by kernel_rfl) rfl #[.int .i64 (l0.length : Int)] rfl (by (try simp only [List.map_toArray, List.map_cons, List.map_nil]); first | done | rfl | (simp only [List.length_drop, List.length_take]; rfl)) ?_; (with_reducible refine (headroomref16_Roots.calls k (l0.length : Int) t1 _ A3.out).mono ?_); rintro e w4 ⟨v2, rfl, ho0, hb⟩; refine ⟨_, rfl, ?_⟩; have n0_ := Aside0.mk (Kd.R_lower ho0 (below_size (by repeat (first | (with_reducible first | exact HB.out | apply below_alloc | apply pw_below_drewN | apply below_drew1) | exact HB.out)))); have n1_ := Aside0.mk (below_step (by repeat (first | (with_reducible first | exact HB.out | apply below_alloc | apply pw_below_drewN | apply below_drew1) | exact HB.out)) hb); clear HB; have HO3 := n0_; have HB := n1_; clear n0_ n1_; (try clear hb); (try clear hb2); (try clear hk); (try clear hi); (try clear ho0)) | ((with_reducible refine gate_dst (N := 11) rfl ?_); refine Kd.R_lit k41 _ 41 ?hg (N := 11) ?hd (xs := ([] : List (S41))) (inner := []) (ok := fun _ => True) (okp := fun _ => True) ?hr ?hp (fun _ hk => hk) trivial (Below.refl _ _) (Nat.le_refl _) (by simp) ?_; (case hd => rfl); (case hg => rfl); (case hr => first | (go_simp; done) | (go_simp; rfl)); (case hp => exact (Reps.none _ _)); intro v5 w5 ho6 hb hg_ hnew_; clear hg_ hnew_; (first | rw [← Ny4.out] at ho6 | (simp only [Int.reduceToNat] at ho6; rw [← Ny4.out] at ho6)); have n0_ := Aside0.mk (Kd.R_elder' (by (with_reducible repeat (first | apply Kd.R_alloc | apply Kd.R_drewN | apply Kd.R_drew)); exact HO3.out) (Kd.R_base ho6) hb); have n1_ := Aside0.mk (Kd.R_lower (Kd.R_new' ho6 (Kd.R_lt (by (with_reducible repeat (first | apply Kd.R_alloc | apply Kd.R_drewN | apply Kd.R_drew)); exact HO3.out))) (below_size (by repeat (first | (with_reducible first | exact HB.out | apply below_alloc | apply pw_below_drewN | apply below_drew1) | exact HB.out)))); have n2_ := Aside0.mk (below_step (by repeat (first | (with_reducible first | exact HB.out | apply below_alloc | apply pw_below_drewN | apply below_drew1) | exact HB.out)) hb); clear HO3; clear HB; have HO3 := n0_; have HO6 := n1_; have HB := n2_; clear n0_ n1_ n2_; clear hb ho6))
  go_loopg [6, 14] k (fun kq v6 v14 w' => ∃ (x6_1 : List (S41)) (x14_1 : Int), v14 = .int .i64 x14_1 ∧ Aside0 (headroomref16_All.l0 kq l0 a1 t1 x6_1 (l0.length : Int) x14_1 = some r) ∧ Aside0 (kq ≤ k) ∧ Aside0 (Kd.R k41 41 w' w.heap.size (fun k_ => some k_ ≠ (v6 : Value).ownBlock) v2 t1) ∧ Aside0 (Kd.R k41 41 w' w.heap.size (fun k_ => some k_ ≠ (v2 : Value).ownBlock) v6 x6_1) ∧ Aside0 (Below w.heap.size w w'))
  case atStart => exact ⟨(y4), (0), (by first | rfl | (simp; done) | (simp [*]; done)), H', ⟨Nat.le_refl _⟩, ⟨by (with_reducible repeat (first | apply Kd.R_alloc | apply Kd.R_drewN | apply Kd.R_drew)); exact Kd.R_mono HO3.out (fun _ hk => hk.2)⟩, ⟨by (with_reducible repeat (first | apply Kd.R_alloc | apply Kd.R_drewN | apply Kd.R_drew)); exact Kd.R_mono HO6.out (fun _ hk => hk.2)⟩, ⟨by repeat (first | (with_reducible first | exact HB.out | apply below_alloc | apply pw_below_drewN | apply below_drew1) | exact HB.out)⟩⟩
  case round =>
    clear H'
    try clear c1
    try clear p2
    try clear c3
    obtain ⟨x6_1, x14_1, rfl, HA, HK1, HO_5, HO_6, HB⟩ := hrel
    cases gk with
    | zero => exact absurd HA.out (by simp [headroomref16_All.l0])
    | succ k1 =>
      have H := HA.out
      clear HA
      simp only [headroomref16_All.l0] at H
      by_cases c7 : x14_1 < (l0.length : Int)
      · rw [if_pos c7] at H
        have c7b0 : decide (x14_1 < (l0.length : Int)) = true := decide_eq_true c7
        clear c7
        replace H := Option.bind_eq_some_iff.mp H
        obtain ⟨⟨t7, t8⟩, A80, H⟩ := H
        replace H : (if x6_1.length < 8796093022208 then (headroomref16_All.l0 k1 l0 a1 t1 (x6_1 ++ [(⟨t7, t8⟩ : S41)]) (l0.length : Int) (wrap64 (x14_1 + 1))) else (none)) = some r := H
        have A8 := Aside0.mk A80
        clear A80
        by_cases c9 : x6_1.length < 8796093022208
        · rw [if_pos c9] at H
          have LMc9 := Aside0.mk c9
          clear c9
          obtain ⟨y9, hy9⟩ : ∃ y_ : List (S41), y_ = (x6_1 ++ [(⟨t7, t8⟩ : S41)]) := ⟨_, rfl⟩
          replace H : (headroomref16_All.l0 k1 l0 a1 t1 y9 (l0.length : Int) (wrap64 (x14_1 + 1))) = some r := by first | (rw [hy9]; with_reducible exact H) | (have H2_ := (Option.bind_some _ _).symm.trans H; rw [hy9]; with_reducible exact H2_) | (have H2_ := (Option.bind_some _ _).symm.trans H; with_reducible exact H2_) | with_reducible exact H | (rw [hy9]; exact H) | exact H
          have Ny9 := Aside0.mk hy9
          clear hy9
          have H' := Aside0.mk H
          clear H
          obtain ⟨Ao10, co10, eo10⟩ := Kd.R_slice HO_5.out
          subst eo10
          go_wp2_with (first | ((with_reducible refine gate_callee (f := 39) rfl ?_); refine goesL_ (some 22) rfl rfl Try.func39 (by kernel_rfl) rfl #[.slice A0 l0.length c0, .slice Ao10 t1.length co10, .int .i64 x14_1, .bool a1] rfl (by (try simp only [List.map_toArray, List.map_cons, List.map_nil]); first | done | rfl | (simp only [List.length_drop, List.length_take]; rfl)) ?_; (with_reducible refine (headroomref16_Bin.calls k1 _ _ l0 _ _ t1 x14_1 a1 t7 t8 _ ?side1 ?side2 ?side3 ?side4 A8.out).mono ?_); (case side1 => repeat (first | exact (Kd.C_below HR0.out HB.out) | (with_reducible refine Kd.C_alloc ?_ _) | (with_reducible refine Kd.C_drewN ?_ _) | (with_reducible refine Kd.C_drew ?_))); (case side2 => exact HC0.out); (case side3 => repeat (first | exact (Kd.R_reads' HO_5.out).2.2 | (with_reducible refine Kd.C_alloc ?_ _) | (with_reducible refine Kd.C_drewN ?_ _) | (with_reducible refine Kd.C_drew ?_))); (case side4 => exact (Kd.R_reads' HO_5.out).2.1); rintro e w11 ⟨rfl, hb⟩; refine ⟨_, rfl, ?_⟩; have n0_ := Aside0.mk (Kd.R_below (by (with_reducible repeat (first | apply Kd.R_alloc | apply Kd.R_drewN | apply Kd.R_drew)); exact HO_5.out) hb); have n1_ := Aside0.mk (Kd.R_below (by (with_reducible repeat (first | apply Kd.R_alloc | apply Kd.R_drewN | apply Kd.R_drew)); exact HO_6.out) hb); have n2_ := Aside0.mk (below_step (by repeat (first | (with_reducible first | exact HB.out | apply below_alloc | apply pw_below_drewN | apply below_drew1) | exact HB.out)) hb); clear HO_5; clear HO_6; clear HB; have HO_5 := n0_; have HO_6 := n1_; have HB := n2_; clear n0_ n1_ n2_; (try clear hb); (try clear hb2); (try clear hk); (try clear hi)) | ((with_reducible refine gate_builtin (b := .append) (xs := #[.tmp 17, .tmp 23]) rfl ?_); at_builtin; refine Kd.R_append k41 (w0 := w) w.heap.size rfl (.tmp 17) (.tmp 23) 22 41 (.agg #[(.int .i64 0), (.int .i64 0)]) 16 rfl Try.underlying22 info41 rfl (by decide) (by omega) u6 x6_1 (⟨t7, t8⟩ : S41) [.int .i64 t7, .int .i64 t8] (fun k_ => some k_ ≠ (.slice Ao10 t1.length co10 : Value).ownBlock) (fun _ => False) rfl rfl ?aP (fun _ hk => hk.elim) ?aF ?aO ?aB ?aS ?aL ?_; (case aP => exact k41_mkM _ _ _ (⟨t7, t8⟩ : S41)); (case aB => exact (by repeat (first | (with_reducible first | exact HB.out | apply below_alloc | apply pw_below_drewN | apply below_drew1) | exact HB.out))); (case aF => exact (fun k_ hk => Kd.fresh' (Kd.R_lt (by (with_reducible repeat (first | apply Kd.R_alloc | apply Kd.R_drewN | apply Kd.R_drew)); exact HO_5.out)) k_ hk)); (case aO => exact (by (with_reducible repeat (first | apply Kd.R_alloc | apply Kd.R_drewN | apply Kd.R_drew)); exact HO_6.out)); (case aS => exact (below_size (by repeat (first | (with_reducible first | exact HB.out | apply below_alloc | apply pw_below_drewN | apply below_drew1) | exact HB.out)))); (case aL => have := LMc9.out; omega); intro v10 w12 ho hb hg hat; rw [← Ny9.out] at ho; have n0_ := Aside0.mk (Kd.R_after (ok := (fun _ => True)) (by (with_reducible repeat (first | apply Kd.R_alloc | apply Kd.R_drewN | apply Kd.R_drew)); exact Kd.R_mono HO_5.out (fun _ hk => ⟨trivial, hk⟩)) hg hat); have n1_ := Aside0.mk (hb); have n2_ := Aside0.mk (ho); clear HO_5; clear HB; clear HO_6; have HO_5 := n0_; have HB := n1_; have HO11 := n2_; clear n0_ n1_ n2_; clear ho hb hg hat))
          go_roundg k1
          case measure => have := HK1.out; omega
          case rel => exact ⟨(y9), (wrap64 (x14_1 + 1)), (by first | rfl | (simp; done) | (simp [*]; done)), H', ⟨by have := HK1.out; omega⟩, ⟨by (with_reducible repeat (first | apply Kd.R_alloc | apply Kd.R_drewN | apply Kd.R_drew)); exact Kd.R_mono HO_5.out (fun _ hk => hk.2)⟩, ⟨by (with_reducible repeat (first | apply Kd.R_alloc | apply Kd.R_drewN | apply Kd.R_drew)); exact HO11.out⟩, ⟨by repeat (first | (with_reducible first | exact HB.out | apply below_alloc | apply pw_below_drewN | apply below_drew1) | exact HB.out)⟩⟩
        · rw [if_neg c9] at H
          exact absurd H (by simp)
      · rw [if_neg c7] at H
        have c7b0 : decide (x14_1 < (l0.length : Int)) = false := decide_eq_false c7
        clear c7
        obtain rfl := Option.some.inj H
        go_wp2
        go_ret
        exact ⟨_, by first | rfl | (simp [errW_none, errW_some] <;> rfl) | (simp [*, errW_none, errW_some] <;> rfl), by (with_reducible repeat (first | apply Kd.R_alloc | apply Kd.R_drewN | apply Kd.R_drew)); exact Kd.R_mono HO_6.out (fun _ hk => trivial), by repeat (first | (with_reducible first | exact HB.out | apply below_alloc | apply pw_below_drewN | apply below_drew1) | exact HB.out)⟩

end Go.Proofs.Ytpmkkidljmedaaa.X
namespace Go.Proofs.Ytpmkkidljmedaaa.X
open Go.RowKit Go.Proofs.YtpmkkidljmedaaaW.PrintWords Go.Proofs.YtpmkkidljmedaaaW.PrintLast Go.Proofs.YtpmkkidljmedaaaW.PrintMore
attribute [local go_sem] max2_int min2_int max_two min_two max_three min_three max_four min_four   -- for this text's walks alone
set_option linter.unusedVariables false
set_option linter.unusedSimpArgs false

/-! ### headroomlaw16_DftAll: function 3 -/
def headroomlaw16_DftAll.f (k : Nat) (l0 : List (S41)) (a1 : Bool) : Option (Bool) := if 0 ≤ (mn (l0.length : Int) 70) then (if (mn (l0.length : Int) 70) ≤ (l0.length : Int) then ((some (l0.take ((mn (l0.length : Int) 70) : Int).toNat : List (S41))).bind fun y1 => ((dft_All.f k y1 a1).bind fun bt5 => ((headroomref16_May.f k y1).bind fun t9 => (if t9 = 0 then ((headroomlaw16_alive.f k).bind fun t10 => (if t10 = true then (if bt5.2 = 0 then ((headroomref16_All.f k y1 a1).bind fun t11 => ((headroomref03_Same.f k bt5.1 t11).bind fun t14 => (some t14))) else (some false)) else (some false))) else ((headroomlaw16_alive.f k).bind fun t15 => (if t15 = true then (if bt5.2 = t9 then (some ((bt5.1.length : Int) == 0)) else (some false)) else (some false))))))) else (none)) else (none)
theorem headroomlaw16_DftAll.mono : ∀ a0 a1 k, LeO (headroomlaw16_DftAll.f k a0 a1) (headroomlaw16_DftAll.f (k + 1) a0 a1) := by
  intro a0 a1 k
  unfold headroomlaw16_DftAll.f
  repeat' first
      | (with_reducible exact dft_All.mono _ _ _)
      | (with_reducible exact headroomlaw16_alive.mono _)
      | (with_reducible exact headroomref03_Same.mono _ _ _)
      | (with_reducible exact headroomref16_All.mono _ _ _)
      | (with_reducible exact headroomref16_May.mono _ _)
      | (with_reducible exact LeO.refl _)
      | (with_reducible exact LeO.none _)
      | (with_reducible refine LeO.ite ?_ ?_)
      | (with_reducible refine LeO.bind ?_ (fun _ => ?_))
      | exact dft_All.mono _ _ _
      | exact headroomlaw16_alive.mono _
      | exact headroomref03_Same.mono _ _ _
      | exact headroomref16_All.mono _ _ _
      | exact headroomref16_May.mono _ _
      | exact LeO.none _
      | refine LeO.ite ?_ ?_
      | refine LeO.bind ?_ (fun _ => ?_)
set_option maxHeartbeats 8000000 in
set_option maxRecDepth 100000 in
theorem headroomlaw16_DftAll.calls (k : Nat) (A0 : Option Addr) (c0 : Nat) (l0 : List (S41)) (a1 : Bool) (r : Bool) (w : World) (hr0 : Kd.C k41 w A0 l0.length l0) (hc0 : l0.length ≤ c0) (h : headroomlaw16_DftAll.f k l0 a1 = some r) :
    Calls Try.prog 3 #[.slice A0 l0.length c0, .bool a1] w fun e w' => e = .returned (.bool r) ∧ Below w.heap.size w w' := by
  have HR0 := Aside0.mk hr0
  have HC0 := Aside0.mk hc0
  clear hr0 hc0
  have HB := Aside0.mk (Below.refl w.heap.size w)
  have H : (if 0 ≤ (mn (l0.length : Int) 70) then (if (mn (l0.length : Int) 70) ≤ (l0.length : Int) then ((some (l0.take ((mn (l0.length : Int) 70) : Int).toNat : List (S41))).bind fun y1 => ((dft_All.f k y1 a1).bind fun bt5 => ((headroomref16_May.f k y1).bind fun t9 => (if t9 = 0 then ((headroomlaw16_alive.f k).bind fun t10 => (if t10 = true then (if bt5.2 = 0 then ((headroomref16_All.f k y1 a1).bind fun t11 => ((headroomref03_Same.f k bt5.1 t11).bind fun t14 => (some t14))) else (some false)) else (some false))) else ((headroomlaw16_alive.f k).bind fun t15 => (if t15 = true then (if bt5.2 = t9 then (some ((bt5.1.length : Int) == 0)) else (some false)) else (some false))))))) else (none)) else (none)) = some r := h
  clear h
  obtain ⟨ji3, hji3⟩ : ∃ j_ : Int, (mn (l0.length : Int) 70) = j_ := ⟨_, rfl⟩
  replace H : (if 0 ≤ (ji3) then (if (ji3) ≤ (l0.length : Int) then ((some (l0.take ((ji3) : Int).toNat : List (S41))).bind fun y1 => ((dft_All.f k y1 a1).bind fun bt5 => ((headroomref16_May.f k y1).bind fun t9 => (if t9 = 0 then ((headroomlaw16_alive.f k).bind fun t10 => (if t10 = true then (if bt5.2 = 0 then ((headroomref16_All.f k y1 a1).bind fun t11 => ((headroomref03_Same.f k bt5.1 t11).bind fun t14 => (some t14))) else (some false)) else (some false))) else ((headroomlaw16_alive.f k).bind fun t15 => (if t15 = true then (if bt5.2 = t9 then (some ((bt5.1.length : Int) == 0)) else (some false)) else (some false))))))) else (none)) else (none)) = some r := by first | (rw [hji3] at H; exact H) | (simp only [hji3] at H ⊢; exact H)
  (try (have hji3h : ji3 ≤ 70 := by (rw [← hji3]; unfold mn; (repeat' split) <;> omega)))
  (try (have hji3g : ji3 ≤ 64 := by omega))
  (try (have hji3l : 0 ≤ ji3 := by (rw [← hji3]; unfold mn; (repeat' split) <;> omega)))
  (try (have hji3m : 0 ≤ ji3 := by omega))
  have hji3_ : (if 70 < (l0.length : Int) then 70 else (l0.length : Int)) = ji3 := hji3
  by_cases c4 : 0 ≤ (ji3)
  · rw [if_pos c4] at H
    have c4b0 := eq_true c4
    have c4b1 : decide (0 ≤ (ji3)) = true := decide_eq_true c4
    clear c4
    by_cases c5 : (ji3) ≤ (l0.length : Int)
    · rw [if_pos c5] at H
      have c5b0 := eq_true c5
      have c5b1 : decide ((ji3) ≤ (l0.length : Int)) = true := decide_eq_true c5
      clear c5
      obtain ⟨y1, hy1⟩ : ∃ y_ : List (S41), y_ = (l0.take ((ji3) : Int).toNat) := ⟨_, rfl⟩
      replace H : ((dft_All.f k y1 a1).bind fun bt5 => ((headroomref16_May.f k y1).bind fun t9 => (if t9 = 0 then ((headroomlaw16_alive.f k).bind fun t10 => (if t10 = true then (if bt5.2 = 0 then ((headroomref16_All.f k y1 a1).bind fun t11 => ((headroomref03_Same.f k bt5.1 t11).bind fun t14 => (some t14))) else (some false)) else (some false))) else ((headroomlaw16_alive.f k).bind fun t15 => (if t15 = true then (if bt5.2 = t9 then (some ((bt5.1.length : Int) == 0)) else (some false)) else (some false)))))) = some r := by first | (rw [hy1]; with_reducible exact H) | (have H2_ := (Option.bind_some _ _).symm.trans H; rw [hy1]; with_reducible exact H2_) | (have H2_ := (Option.bind_some _ _).symm.trans H; with_reducible exact H2_) | with_reducible exact H | (rw [hy1]; exact H) | exact H
      have Ny1 := Aside0.mk hy1
      clear hy1
      replace H := Option.bind_eq_some_iff.mp H
      obtain ⟨⟨t5, t6⟩, A60, H⟩ := H
      replace H : ((headroomref16_May.f k y1).bind fun t9 => (if t9 = 0 then ((headroomlaw16_alive.f k).bind fun t10 => (if t10 = true then (if t6 = 0 then ((headroomref16_All.f k y1 a1).bind fun t11 => ((headroomref03_Same.f k t5 t11).bind fun t14 => (some t14))) else (some false)) else (some false))) else ((headroomlaw16_alive.f k).bind fun t15 => (if t15 = true then (if t6 = t9 then (some ((t5.length : Int) == 0)) else (some false)) else (some false))))) = some r := H
      have A6 := Aside0.mk A60
      clear A60
      replace H := Option.bind_eq_some_iff.mp H
      obtain ⟨t9, A70, H⟩ := H
      replace H : (if t9 = 0 then ((headroomlaw16_alive.f k).bind fun t10 => (if t10 = true then (if t6 = 0 then ((headroomref16_All.f k y1 a1).bind fun t11 => ((headroomref03_Same.f k t5 t11).bind fun t14 => (some t14))) else (some false)) else (some false))) else ((headroomlaw16_alive.f k).bind fun t15 => (if t15 = true then (if t6 = t9 then (some ((t5.length : Int) == 0)) else (some false)) else (some false)))) = some r := H
      have A7 := Aside0.mk A70
      clear A70
      by_cases c8 : t9 = 0
      · rw [if_pos c8] at H
        have c8b0 : (t9 == 0) = true := beq_iff_eq.mpr c8
        have c8b1 : (t9 != 0) = false := bne_eq_false_iff_eq.mpr c8
        clear c8
        replace H := Option.bind_eq_some_iff.mp H
        obtain ⟨t10, A90, H⟩ := H
        replace H : (if t10 = true then (if t6 = 0 then ((headroomref16_All.f k y1 a1).bind fun t11 => ((headroomref03_Same.f k t5 t11).bind fun t14 => (some t14))) else (some false)) else (some false)) = some r := H
        have A9 := Aside0.mk A90
        clear A90
        by_cases c10 : t10 = true
        · subst c10
          have H1 : (if t6 = 0 then ((headroomref16_All.f k y1 a1).bind fun t11 => ((headroomref03_Same.f k t5 t11).bind fun t14 => (some t14))) else (some false)) = some r := by rw [if_pos rfl] at H; exact H
          clear H
          have H := H1
          clear H1
          by_cases c11 : t6 = 0
          · rw [if_pos c11] at H
            have c11b0 : (t6 == 0) = true := beq_iff_eq.mpr c11
            have c11b1 : (t6 != 0) = false := bne_eq_false_iff_eq.mpr c11
            clear c11
            replace H := Option.bind_eq_some_iff.mp H
            obtain ⟨t11, A120, H⟩ := H
            replace H : ((headroomref03_Same.f k t5 t11).bind fun t14 => (some t14)) = some r := H
            have A12 := Aside0.mk A120
            clear A120
            replace H := Option.bind_eq_some_iff.mp H
            obtain ⟨t14, A130, H⟩ := H
            replace H : (some t14) = some r := H
            have A13 := Aside0.mk A130
            clear A130
            obtain rfl := Option.some.inj H
            have q14 : ((ji3) : Int) ≤ ((l0.length : Int) : Int) := of_decide_eq_true (by first | (with_reducible assumption) | assumption)
            obtain ⟨i014, hi014, _, hsz14, _⟩ := info_parts info41
            have hroom14 : l0.length ≤ c0 := HC0.out
            have hC14 : Kd.C k41 _ A0 l0.length l0 := HR0.out
            have hcut14 := cut_to (P := Try.prog) 22 41 .i64 Try.underlying22 hi014 A0 l0.length c0 (ji3) (of_decide_eq_true (by first | (with_reducible assumption) | assumption)) q14 hroom14
            have hr14 := Kd.C_take (m := ((ji3) : Int).toNat) hC14 (by omega)
            have hy14 : y1.length = ((ji3) : Int).toNat := (by rw [Ny1.out, List.length_take]; omega)
            rw [← Ny1.out] at hr14
            rw [← hy14] at hcut14
            have HR4 := Aside0.mk hr14
            have HC4 := Aside0.mk (show y1.length ≤ c0 from by omega)
            clear hr14 hC14 hroom14 hi014 hsz14
            have KY14 := Aside0.mk hy14
            clear hy14
            replace q14 := eq_true q14
            go_enter Try.func3, Try.ntmps3
            go_wp2_with (first | ((with_reducible refine gate_callee (f := 11) rfl ?_); refine goesL_ (some 16) rfl rfl Try.func11 (by kernel_rfl) rfl #[.slice A0 y1.length c0, .bool a1] rfl (by (try simp only [List.map_toArray, List.map_cons, List.map_nil]); first | done | rfl | (simp only [List.length_drop, List.length_take]; rfl)) ?_; (with_reducible refine (dft_All.calls k _ _ y1 a1 t5 t6 _ ?side1 ?side2 A6.out).mono ?_); (case side1 => repeat (first | exact HR4.out | (with_reducible refine Kd.C_alloc ?_ _) | (with_reducible refine Kd.C_drewN ?_ _) | (with_reducible refine Kd.C_drew ?_))); (case side2 => exact HC4.out); rintro e w15 ⟨v7, rfl, ho0, hb⟩; refine ⟨_, rfl, ?_⟩; have n0_ := Aside0.mk (Kd.R_lower ho0 (below_size (by repeat (first | (with_reducible first | exact HB.out | apply below_alloc | apply pw_below_drewN | apply below_drew1) | exact HB.out)))); have n1_ := Aside0.mk (below_step (by repeat (first | (with_reducible first | exact HB.out | apply below_alloc | apply pw_below_drewN | apply below_drew1) | exact HB.out)) hb); clear HB; have HO8 := n0_; have HB := n1_; clear n0_ n1_; (try clear hb); (try clear hb2); (try clear hk); (try clear hi); (try clear ho0)) | ((with_reducible refine gate_callee (f := 12) rfl ?_); refine goesL_ (some 20) rfl rfl Try.func12 (by kernel_rfl) rfl #[.slice A0 y1.length c0] rfl (by (try simp only [List.map_toArray, List.map_cons, List.map_nil]); first | done | rfl | (simp only [List.length_drop, List.length_take]; rfl)) ?_; (with_reducible refine (headroomref16_May.calls k _ _ y1 t9 _ ?side1 ?side2 A7.out).mono ?_); (case side1 => repeat (first | exact (Kd.C_below HR4.out HB.out) | (with_reducible refine Kd.C_alloc ?_ _) | (with_reducible refine Kd.C_drewN ?_ _) | (with_reducible refine Kd.C_drew ?_))); (case side2 => exact HC4.out); rintro e w16 ⟨rfl, hb⟩; refine ⟨_, rfl, ?_⟩; have n0_ := Aside0.mk (Kd.R_below (by (with_reducible repeat (first | apply Kd.R_alloc | apply Kd.R_drewN | apply Kd.R_drew)); exact HO8.out) hb); have n1_ := Aside0.mk (below_step (by repeat (first | (with_reducible first | exact HB.out | apply below_alloc | apply pw_below_drewN | apply below_drew1) | exact HB.out)) hb); clear HO8; clear HB; have HO8 := n0_; have HB := n1_; clear n0_ n1_; (try clear hb); (try clear hb2); (try clear hk); (try clear hi)) | ((with_reducible refine gate_callee (f := 13) rfl ?_); refine goesL_ (some 34) rfl rfl Try.func13 (by kernel_rfl) rfl #[] rfl (by (try simp only [List.map_toArray, List.map_cons, List.map_nil]); first | done | rfl | (simp only [List.length_drop, List.length_take]; rfl)) ?_; (with_reducible refine (headroomlaw16_alive.calls k  true _ A9.out).mono ?_); rintro e w17 ⟨rfl, hb⟩; refine ⟨_, rfl, ?_⟩; have n0_ := Aside0.mk (Kd.R_below (by (with_reducible repeat (first | apply Kd.R_alloc | apply Kd.R_drewN | apply Kd.R_drew)); exact HO8.out) hb); have n1_ := Aside0.mk (below_step (by repeat (first | (with_reducible first | exact HB.out | apply below_alloc | apply pw_below_drewN | apply below_drew1) | exact HB.out)) hb); clear HO8; clear HB; have HO8 := n0_; have HB := n1_; clear n0_ n1_; (try clear hb); (try clear hb2); (try clear hk); (try clear hi)) | (go_at_call 15; (with_reducible refine (headroomref16_All.calls k _ _ y1 a1 t11 _ ?side1 ?side2 A12.out).mono ?_); (case side1 => repeat (first | exact (Kd.C_below HR4.out HB.out) | (with_reducible refine Kd.C_alloc ?_ _) | (with_reducible refine Kd.C_drewN ?_ _) | (with_reducible refine Kd.C_drew ?_))); (case side2 => exact HC4.out); rintro e w18 ⟨v12, rfl, ho0, hb⟩; have n0_ := Aside0.mk (Kd.R_elder' (by (with_reducible repeat (first | apply Kd.R_alloc | apply Kd.R_drewN | apply Kd.R_drew)); exact HO8.out) (Kd.R_base ho0) hb); have n1_ := Aside0.mk (Kd.R_lower (Kd.R_new' ho0 (Kd.R_lt (by (with_reducible repeat (first | apply Kd.R_alloc | apply Kd.R_drewN | apply Kd.R_drew)); exact HO8.out))) (below_size (by repeat (first | (with_reducible first | exact HB.out | apply below_alloc | apply pw_below_drewN | apply below_drew1) | exact HB.out)))); have n2_ := Aside0.mk (below_step (by repeat (first | (with_reducible first | exact HB.out | apply below_alloc | apply pw_below_drewN | apply below_drew1) | exact HB.out)) hb); clear HO8; clear HB; have HO8 := n0_; have HO13 := n1_; have HB := n2_; clear n0_ n1_ n2_; (try clear hb); (try clear hb2); (try clear hk); (try clear hi); (try clear ho0); obtain ⟨Ao19, co19, eo19⟩ := Kd.R_slice HO8.out; subst eo19; obtain ⟨Ao20, co20, eo20⟩ := Kd.R_slice HO13.out; subst eo20) | (go_at_call 14; (with_reducible refine (headroomref03_Same.calls k _ _ t5 _ _ t11 t14 _ ?side1 ?side2 ?side3 ?side4 A13.out).mono ?_); (case side1 => repeat (first | exact (Kd.R_reads' HO8.out).2.2 | (with_reducible refine Kd.C_alloc ?_ _) | (with_reducible refine Kd.C_drewN ?_ _) | (with_reducible refine Kd.C_drew ?_))); (case side2 => exact (Kd.R_reads' HO8.out).2.1); (case side3 => repeat (first | exact (Kd.R_reads' HO13.out).2.2 | (with_reducible refine Kd.C_alloc ?_ _) | (with_reducible refine Kd.C_drewN ?_ _) | (with_reducible refine Kd.C_drew ?_))); (case side4 => exact (Kd.R_reads' HO13.out).2.1); rintro e w' ⟨rfl, ⟨nd, rfl⟩⟩))
            go_ret
            exact ⟨by first | rfl | (simp [errW_none, errW_some] <;> rfl) | (simp only [← hji3]; first | rfl | (simp [errW_none, errW_some] <;> rfl)) | (simp [*, errW_none, errW_some] <;> rfl), by repeat (first | (with_reducible first | exact HB.out | apply below_alloc | apply pw_below_drewN | apply below_drew1) | exact HB.out)⟩
          · rw [if_neg c11] at H
            have c11b0 : (t6 == 0) = false := beq_eq_false_iff_ne.mpr c11
            have c11b1 : (t6 != 0) = true := bne_iff_ne.mpr c11
            obtain rfl := Option.some.inj H
            have q21 : ((ji3) : Int) ≤ ((l0.length : Int) : Int) := of_decide_eq_true (by first | (with_reducible assumption) | assumption)
            obtain ⟨i021, hi021, _, hsz21, _⟩ := info_parts info41
            have hroom21 : l0.length ≤ c0 := HC0.out
            have hC21 : Kd.C k41 _ A0 l0.length l0 := HR0.out
            have hcut21 := cut_to (P := Try.prog) 22 41 .i64 Try.underlying22 hi021 A0 l0.length c0 (ji3) (of_decide_eq_true (by first | (with_reducible assumption) | assumption)) q21 hroom21
            have hr21 := Kd.C_take (m := ((ji3) : Int).toNat) hC21 (by omega)
            have hy21 : y1.length = ((ji3) : Int).toNat := (by rw [Ny1.out, List.length_take]; omega)
            rw [← Ny1.out] at hr21
            rw [← hy21] at hcut21
            have HR4 := Aside0.mk hr21
            have HC4 := Aside0.mk (show y1.length ≤ c0 from by omega)
            clear hr21 hC21 hroom21 hi021 hsz21
            have KY21 := Aside0.mk hy21
            clear hy21
            replace q21 := eq_true q21
            go_enter Try.func3, Try.ntmps3
            go_wp2_with (first | ((with_reducible refine gate_callee (f := 11) rfl ?_); refine goesL_ (some 16) rfl rfl Try.func11 (by kernel_rfl) rfl #[.slice A0 y1.length c0, .bool a1] rfl (by (try simp only [List.map_toArray, List.map_cons, List.map_nil]); first | done | rfl | (simp only [List.length_drop, List.length_take]; rfl)) ?_; (with_reducible refine (dft_All.calls k _ _ y1 a1 t5 t6 _ ?side1 ?side2 A6.out).mono ?_); (case side1 => repeat (first | exact HR4.out | (with_reducible refine Kd.C_alloc ?_ _) | (with_reducible refine Kd.C_drewN ?_ _) | (with_reducible refine Kd.C_drew ?_))); (case side2 => exact HC4.out); rintro e w22 ⟨v7, rfl, ho0, hb⟩; refine ⟨_, rfl, ?_⟩; have n0_ := Aside0.mk (Kd.R_lower ho0 (below_size (by repeat (first | (with_reducible first | exact HB.out | apply below_alloc | apply pw_below_drewN | apply below_drew1) | exact HB.out)))); have n1_ := Aside0.mk (below_step (by repeat (first | (with_reducible first | exact HB.out | apply below_alloc | apply pw_below_drewN | apply below_drew1) | exact HB.out)) hb); clear HB; have HO8 := n0_; have HB := n1_; clear n0_ n1_; (try clear hb); (try clear hb2); (try clear hk); (try clear hi); (try clear ho0)) | ((with_reducible refine gate_callee (f := 12) rfl ?_); refine goesL_ (some 20) rfl rfl Try.func12 (by kernel_rfl) rfl #[.slice A0 y1.length c0] rfl (by (try simp only [List.map_toArray, List.map_cons, List.map_nil]); first | done | rfl | (simp only [List.length_drop, List.length_take]; rfl)) ?_; (with_reducible refine (headroomref16_May.calls k _ _ y1 t9 _ ?side1 ?side2 A7.out).mono ?_); (case side1 => repeat (first | exact (Kd.C_below HR4.out HB.out) | (with_reducible refine Kd.C_alloc ?_ _) | (with_reducible refine Kd.C_drewN ?_ _) | (with_reducible refine Kd.C_drew ?_))); (case side2 => exact HC4.out); rintro e w23 ⟨rfl, hb⟩; refine ⟨_, rfl, ?_⟩; have n0_ := Aside0.mk (Kd.R_below (by (with_reducible repeat (first | apply Kd.R_alloc | apply Kd.R_drewN | apply Kd.R_drew)); exact HO8.out) hb); have n1_ := Aside0.mk (below_step (by repeat (first | (with_reducible first | exact HB.out | apply below_alloc | apply pw_below_drewN | apply below_drew1) | exact HB.out)) hb); clear HO8; clear HB; have HO8 := n0_; have HB := n1_; clear n0_ n1_; (try clear hb); (try clear hb2); (try clear hk); (try clear hi)) | ((with_reducible refine gate_callee (f := 13) rfl ?_); refine goesL_ (some 34) rfl rfl Try.func13 (by kernel_rfl) rfl #[] rfl (by (try simp only [List.map_toArray, List.map_cons, List.map_nil]); first | done | rfl | (simp only [List.length_drop, List.length_take]; rfl)) ?_; (with_reducible refine (headroomlaw16_alive.calls k  true _ A9.out).mono ?_); rintro e w24 ⟨rfl, hb⟩; refine ⟨_, rfl, ?_⟩; have n0_ := Aside0.mk (Kd.R_below (by (with_reducible repeat (first | apply Kd.R_alloc | apply Kd.R_drewN | apply Kd.R_drew)); exact HO8.out) hb); have n1_ := Aside0.mk (below_step (by repeat (first | (with_reducible first | exact HB.out | apply below_alloc | apply pw_below_drewN | apply below_drew1) | exact HB.out)) hb); clear HO8; clear HB; have HO8 := n0_; have HB := n1_; clear n0_ n1_; (try clear hb); (try clear hb2); (try clear hk); (try clear hi)))
            go_ret
            exact ⟨by first | rfl | (simp [errW_none, errW_some] <;> rfl) | (simp only [← hji3]; first | rfl | (simp [errW_none, errW_some] <;> rfl)) | (simp [*, errW_none, errW_some] <;> rfl), by repeat (first | (with_reducible first | exact HB.out | apply below_alloc | apply pw_below_drewN | apply below_drew1) | exact HB.out)⟩
        · replace c10 := Bool.eq_false_iff.mpr c10
          subst c10
          have H1 : (some false) = some r := by rw [if_neg (show ¬ (false = true) by decide)] at H; exact H
          clear H
          have H := H1
          clear H1
          obtain rfl := Option.some.inj H
          have q25 : ((ji3) : Int) ≤ ((l0.length : Int) : Int) := of_decide_eq_true (by first | (with_reducible assumption) | assumption)
          obtain ⟨i025, hi025, _, hsz25, _⟩ := info_parts info41
          have hroom25 : l0.length ≤ c0 := HC0.out
          have hC25 : Kd.C k41 _ A0 l0.length l0 := HR0.out
          have hcut25 := cut_to (P := Try.prog) 22 41 .i64 Try.underlying22 hi025 A0 l0.length c0 (ji3) (of_decide_eq_true (by first | (with_reducible assumption) | assumption)) q25 hroom25
          have hr25 := Kd.C_take (m := ((ji3) : Int).toNat) hC25 (by omega)
          have hy25 : y1.length = ((ji3) : Int).toNat := (by rw [Ny1.out, List.length_take]; omega)
          rw [← Ny1.out] at hr25
          rw [← hy25] at hcut25
          have HR4 := Aside0.mk hr25
          have HC4 := Aside0.mk (show y1.length ≤ c0 from by omega)
          clear hr25 hC25 hroom25 hi025 hsz25
          have KY25 := Aside0.mk hy25
          clear hy25
          replace q25 := eq_true q25
          go_enter Try.func3, Try.ntmps3
          go_wp2_with (first | ((with_reducible refine gate_callee (f := 11) rfl ?_); refine goesL_ (some 16) rfl rfl Try.func11 (by kernel_rfl) rfl #[.slice A0 y1.length c0, .bool a1] rfl (by (try simp only [List.map_toArray, List.map_cons, List.map_nil]); first | done | rfl | (simp only [List.length_drop, List.length_take]; rfl)) ?_; (with_reducible refine (dft_All.calls k _ _ y1 a1 t5 t6 _ ?side1 ?side2 A6.out).mono ?_); (case side1 => repeat (first | exact HR4.out | (with_reducible refine Kd.C_alloc ?_ _) | (with_reducible refine Kd.C_drewN ?_ _) | (with_reducible refine Kd.C_drew ?_))); (case side2 => exact HC4.out); rintro e w26 ⟨v7, rfl, ho0, hb⟩; refine ⟨_, rfl, ?_⟩; have n0_ := Aside0.mk (Kd.R_lower ho0 (below_size (by repeat (first | (with_reducible first | exact HB.out | apply below_alloc | apply pw_below_drewN | apply below_drew1) | exact HB.out)))); have n1_ := Aside0.mk (below_step (by repeat (first | (with_reducible first | exact HB.out | apply below_alloc | apply pw_below_drewN | apply below_drew1) | exact HB.out)) hb); clear HB; have HO8 := n0_; have HB := n1_; clear n0_ n1_; (try clear hb); (try clear hb2); (try clear hk); (try clear hi); (try clear ho0)) | ((with_reducible refine gate_callee (f := 12) rfl ?_); refine goesL_ (some 20) rfl rfl Try.func12 (by kernel_rfl) rfl #[.slice A0 y1.length c0] rfl (by (try simp only [List.map_toArray, List.map_cons, List.map_nil]); first | done | rfl | (simp only [List.length_drop, List.length_take]; rfl)) ?_; (with_reducible refine (headroomref16_May.calls k _ _ y1 t9 _ ?side1 ?side2 A7.out).mono ?_); (case side1 => repeat (first | exact (Kd.C_below HR4.out HB.out) | (with_reducible refine Kd.C_alloc ?_ _) | (with_reducible refine Kd.C_drewN ?_ _) | (with_reducible refine Kd.C_drew ?_))); (case side2 => exact HC4.out); rintro e w27 ⟨rfl, hb⟩; refine ⟨_, rfl, ?_⟩; have n0_ := Aside0.mk (Kd.R_below (by (with_reducible repeat (first | apply Kd.R_alloc | apply Kd.R_drewN | apply Kd.R_drew)); exact HO8.out) hb); have n1_ := Aside0.mk (below_step (by repeat (first | (with_reducible first | exact HB.out | apply below_alloc | apply pw_below_drewN | apply below_drew1) | exact HB.out)) hb); clear HO8; clear HB; have HO8 := n0_; have HB := n1_; clear n0_ n1_; (try clear hb); (try clear hb2); (try clear hk); (try clear hi)) | ((with_reducible refine gate_callee (f := 13) rfl ?_); refine goesL_ (some 34) rfl rfl Try.func13 (by kernel_rfl) rfl #[] rfl (by (try simp only [List.map_toArray, List.map_cons, List.map_nil]); first | done | rfl | (simp only [List.length_drop, List.length_take]; rfl)) ?_; (with_reducible refine (headroomlaw16_alive.calls k  false _ A9.out).mono ?_); rintro e w28 ⟨rfl, hb⟩; refine ⟨_, rfl, ?_⟩; have n0_ := Aside0.mk (Kd.R_below (by (with_reducible repeat (first | apply Kd.R_alloc | apply Kd.R_drewN | apply Kd.R_drew)); exact HO8.out) hb); have n1_ := Aside0.mk (below_step (by repeat (first | (with_reducible first | exact HB.out | apply below_alloc | apply pw_below_drewN | apply below_drew1) | exact HB.out)) hb); clear HO8; clear HB; have HO8 := n0_; have HB := n1_; clear n0_ n1_; (try clear hb); (try clear hb2); (try clear hk); (try clear hi)))
          go_ret
          exact ⟨by first | rfl | (simp [errW_none, errW_some] <;> rfl) | (simp only [← hji3]; first | rfl | (simp [errW_none, errW_some] <;> rfl)) | (simp [*, errW_none, errW_some] <;> rfl), by repeat (first | (with_reducible first | exact HB.out | apply below_alloc | apply pw_below_drewN | apply below_drew1) | exact HB.out)⟩
      · rw [if_neg c8] at H
        have c8b0 : (t9 == 0) = false := beq_eq_false_iff_ne.mpr c8
        have c8b1 : (t9 != 0) = true := bne_iff_ne.mpr c8
        replace H := Option.bind_eq_some_iff.mp H
        obtain ⟨t15, A290, H⟩ := H
        replace H : (if t15 = true then (if t6 = t9 then (some ((t5.length : Int) == 0)) else (some false)) else (some false)) = some r := H
        have A29 := Aside0.mk A290
        clear A290
        by_cases c30 : t15 = true
        · subst c30
          have H1 : (if t6 = t9 then (some ((t5.length : Int) == 0)) else (some false)) = some r := by rw [if_pos rfl] at H; exact H
          clear H
          have H := H1
          clear H1
          by_cases c31 : t6 = t9
          · rw [if_pos c31] at H
            have c31b0 : (t6 == t9) = true := beq_iff_eq.mpr c31
            have c31b1 : (t6 != t9) = false := bne_eq_false_iff_eq.mpr c31
            clear c31
            obtain rfl := Option.some.inj H
            have q32 : ((ji3) : Int) ≤ ((l0.length : Int) : Int) := of_decide_eq_true (by first | (with_reducible assumption) | assumption)
            obtain ⟨i032, hi032, _, hsz32, _⟩ := info_parts info41
            have hroom32 : l0.length ≤ c0 := HC0.out
            have hC32 : Kd.C k41 _ A0 l0.length l0 := HR0.out
            have hcut32 := cut_to (P := Try.prog) 22 41 .i64 Try.underlying22 hi032 A0 l0.length c0 (ji3) (of_decide_eq_true (by first | (with_reducible assumption) | assumption)) q32 hroom32
            have hr32 := Kd.C_take (m := ((ji3) : Int).toNat) hC32 (by omega)
            have hy32 : y1.length = ((ji3) : Int).toNat := (by rw [Ny1.out, List.length_take]; omega)
            rw [← Ny1.out] at hr32
            rw [← hy32] at hcut32
            have HR4 := Aside0.mk hr32
            have HC4 := Aside0.mk (show y1.length ≤ c0 from by omega)
            clear hr32 hC32 hroom32 hi032 hsz32
            have KY32 := Aside0.mk hy32
            clear hy32
            replace q32 := eq_true q32
            go_enter Try.func3, Try.ntmps3
            go_wp2_with (first | ((with_reducible refine gate_callee (f := 11) rfl ?_); refine goesL_ (some 16) rfl rfl Try.func11 (by kernel_rfl) rfl #[.slice A0 y1.length c0, .bool a1] rfl (by (try simp only [List.map_toArray, List.map_cons, List.map_nil]); first | done | rfl | (simp only [List.length_drop, List.length_take]; rfl)) ?_; (with_reducible refine (dft_All.calls k _ _ y1 a1 t5 t6 _ ?side1 ?side2 A6.out).mono ?_); (case side1 => repeat (first | exact HR4.out | (with_reducible refine Kd.C_alloc ?_ _) | (with_reducible refine Kd.C_drewN ?_ _) | (with_reducible refine Kd.C_drew ?_))); (case side2 => exact HC4.out); rintro e w33 ⟨v7, rfl, ho0, hb⟩; refine ⟨_, rfl, ?_⟩; have n0_ := Aside0.mk (Kd.R_lower ho0 (below_size (by repeat (first | (with_reducible first | exact HB.out | apply below_alloc | apply pw_below_drewN | apply below_drew1) | exact HB.out)))); have n1_ := Aside0.mk (below_step (by repeat (first | (with_reducible first | exact HB.out | apply below_alloc | apply pw_below_drewN | apply below_drew1) | exact HB.out)) hb); clear HB; have HO8 := n0_; have HB := n1_; clear n0_ n1_; (try clear hb); (try clear hb2); (try clear hk); (try clear hi); (try clear ho0)) | ((with_reducible refine gate_callee (f := 12) rfl ?_); refine goesL_ (some 20) rfl rfl Try.func12 (by kernel_rfl) rfl #[.slice A0 y1.length c0] rfl (by (try simp only [List.map_toArray, List.map_cons, List.map_nil]); first | done | rfl | (simp only [List.length_drop, List.length_take]; rfl)) ?_; (with_reducible refine (headroomref16_May.calls k _ _ y1 t9 _ ?side1 ?side2 A7.out).mono ?_); (case side1 => repeat (first | exact (Kd.C_below HR4.out HB.out) | (with_reducible refine Kd.C_alloc ?_ _) | (with_reducible refine Kd.C_drewN ?_ _) | (with_reducible refine Kd.C_drew ?_))); (case side2 => exact HC4.out); rintro e w34 ⟨rfl, hb⟩; refine ⟨_, rfl, ?_⟩; have n0_ := Aside0.mk (Kd.R_below (by (with_reducible repeat (first | apply Kd.R_alloc | apply Kd.R_drewN | apply Kd.R_drew)); exact HO8.out) hb); have n1_ := Aside0.mk (below_step (by repeat (first | (with_reducible first | exact HB.out | apply below_alloc | apply pw_below_drewN | apply below_drew1) | exact HB.out)) hb); clear HO8; clear HB; have HO8 := n0_; have HB := n1_; clear n0_ n1_; (try clear hb); (try clear hb2); (try clear hk); (try clear hi)) | ((with_reducible refine gate_callee (f := 13) rfl ?_); refine goesL_ (some 23) rfl rfl Try.func13 (by kernel_rfl) rfl #[] rfl (by (try simp only [List.map_toArray, List.map_cons, List.map_nil]); first | done | rfl | (simp only [List.length_drop, List.length_take]; rfl)) ?_; (with_reducible refine (headroomlaw16_alive.calls k  true _ A29.out).mono ?_); rintro e w35 ⟨rfl, hb⟩; refine ⟨_, rfl, ?_⟩; have n0_ := Aside0.mk (Kd.R_below (by (with_reducible repeat (first | apply Kd.R_alloc | apply Kd.R_drewN | apply Kd.R_drew)); exact HO8.out) hb); have n1_ := Aside0.mk (below_step (by repeat (first | (with_reducible first | exact HB.out | apply below_alloc | apply pw_below_drewN | apply below_drew1) | exact HB.out)) hb); clear HO8; clear HB; have HO8 := n0_; have HB := n1_; clear n0_ n1_; (try clear hb); (try clear hb2); (try clear hk); (try clear hi); obtain ⟨Ao36, co36, eo36⟩ := Kd.R_slice HO8.out; subst eo36))
            go_ret
            exact ⟨by first | rfl | (simp [errW_none, errW_some] <;> rfl) | (simp only [← hji3]; first | rfl | (simp [errW_none, errW_some] <;> rfl)) | (simp [*, errW_none, errW_some] <;> rfl), by repeat (first | (with_reducible first | exact HB.out | apply below_alloc | apply pw_below_drewN | apply below_drew1) | exact HB.out)⟩
          · rw [if_neg c31] at H
            have c31b0 : (t6 == t9) = false := beq_eq_false_iff_ne.mpr c31
            have c31b1 : (t6 != t9) = true := bne_iff_ne.mpr c31
            obtain rfl := Option.some.inj H
            have q37 : ((ji3) : Int) ≤ ((l0.length : Int) : Int) := of_decide_eq_true (by first | (with_reducible assumption) | assumption)
            obtain ⟨i037, hi037, _, hsz37, _⟩ := info_parts info41
            have hroom37 : l0.length ≤ c0 := HC0.out
            have hC37 : Kd.C k41 _ A0 l0.length l0 := HR0.out
            have hcut37 := cut_to (P := Try.prog) 22 41 .i64 Try.underlying22 hi037 A0 l0.length c0 (ji3) (of_decide_eq_true (by first | (with_reducible assumption) | assumption)) q37 hroom37
            have hr37 := Kd.C_take (m := ((ji3) : Int).toNat) hC37 (by omega)
            have hy37 : y1.length = ((ji3) : Int).toNat := (by rw [Ny1.out, List.length_take]; omega)
            rw [← Ny1.out] at hr37
            rw [← hy37] at hcut37
            have HR4 := Aside0.mk hr37
            have HC4 := Aside0.mk (show y1.length ≤ c0 from by omega)
            clear hr37 hC37 hroom37 hi037 hsz37
            have KY37 := Aside0.mk hy37
            clear hy37
            replace q37 := eq_true q37
            go_enter Try.func3, Try.ntmps3
            go_wp2_with (first | ((with_reducible refine gate_callee (f := 11) rfl ?_); refine goesL_ (some 16) rfl rfl Try.func11 (by kernel_rfl) rfl #[.slice A0 y1.length c0, .bool a1] rfl (by (try simp only [List.map_toArray, List.map_cons, List.map_nil]); first | done | rfl | (simp only [List.length_drop, List.length_take]; rfl)) ?_; (with_reducible refine (dft_All.calls k _ _ y1 a1 t5 t6 _ ?side1 ?side2 A6.out).mono ?_); (case side1 => repeat (first | exact HR4.out | (with_reducible refine Kd.C_alloc ?_ _) | (with_reducible refine Kd.C_drewN ?_ _) | (with_reducible refine Kd.C_drew ?_))); (case side2 => exact HC4.out); rintro e w38 ⟨v7, rfl, ho0, hb⟩; refine ⟨_, rfl, ?_⟩; have n0_ := Aside0.mk (Kd.R_lower ho0 (below_size (by repeat (first | (with_reducible first | exact HB.out | apply below_alloc | apply pw_below_drewN | apply below_drew1) | exact HB.out)))); have n1_ := Aside0.mk (below_step (by repeat (first | (with_reducible first | exact HB.out | apply below_alloc | apply pw_below_drewN | apply below_drew1) | exact HB.out)) hb); clear HB; have HO8 := n0_; have HB := n1_; clear n0_ n1_; (try clear hb); (try clear hb2); (try clear hk); (try clear hi); (try clear ho0)) | ((with_reducible refine gate_callee (f := 12) rfl ?_); refine goesL_ (some 20) rfl rfl Try.func12 (by kernel_rfl) rfl #[.slice A0 y1.length c0] rfl (by (try simp only [List.map_toArray, List.map_cons, List.map_nil]); first | done | rfl | (simp only [List.length_drop, List.length_take]; rfl)) ?_; (with_reducible refine (headroomref16_May.calls k _ _ y1 t9 _ ?side1 ?side2 A7.out).mono ?_); (case side1 => repeat (first | exact (Kd.C_below HR4.out HB.out) | (with_reducible refine Kd.C_alloc ?_ _) | (with_reducible refine Kd.C_drewN ?_ _) | (with_reducible refine Kd.C_drew ?_))); (case side2 => exact HC4.out); rintro e w39 ⟨rfl, hb⟩; refine ⟨_, rfl, ?_⟩; have n0_ := Aside0.mk (Kd.R_below (by (with_reducible repeat (first | apply Kd.R_alloc | apply Kd.R_drewN | apply Kd.R_drew)); exact HO8.out) hb); have n1_ := Aside0.mk (below_step (by repeat (first | (with_reducible first | exact HB.out | apply below_alloc | apply pw_below_drewN | apply below_drew1) | exact HB.out)) hb); clear HO8; clear HB; have HO8 := n0_; have HB := n1_; clear n0_ n1_; (try clear hb); (try clear hb2); (try clear hk); (try clear hi)) | ((with_reducible refine gate_callee (f := 13) rfl ?_); refine goesL_ (some 23) rfl rfl Try.func13 (by kernel_rfl) rfl #[] rfl (by (try simp only [List.map_toArray, List.map_cons, List.map_nil]); first | done | rfl | (simp only [List.length_drop, List.length_take]; rfl)) ?_; (with_reducible refine (headroomlaw16_alive.calls k  true _ A29.out).mono ?_); rintro e w40 ⟨rfl, hb⟩; refine ⟨_, rfl, ?_⟩; have n0_ := Aside0.mk (Kd.R_below (by (with_reducible repeat (first | apply Kd.R_alloc | apply Kd.R_drewN | apply Kd.R_drew)); exact HO8.out) hb); have n1_ := Aside0.mk (below_step (by repeat (first | (with_reducible first | exact HB.out | apply below_alloc | apply pw_below_drewN | apply below_drew1) | exact HB.out)) hb); clear HO8; clear HB; have HO8 := n0_; have HB := n1_; clear n0_ n1_; (try clear hb); (try clear hb2); (try clear hk); (try clear hi)))
            go_ret
            exact ⟨by first | rfl | (simp [errW_none, errW_some] <;> rfl) | (simp only [← hji3]; first | rfl | (simp [errW_none, errW_some] <;> rfl)) | (simp [*, errW_none, errW_some] <;> rfl), by repeat (first | (with_reducible first | exact HB.out | apply below_alloc | apply pw_below_drewN | apply below_drew1) | exact HB.out)⟩
        · replace c30 := Bool.eq_false_iff.mpr c30
          subst c30
          have H1 : (some false) = some r := by rw [if_neg (show ¬ (false = true) by decide)] at H; exact H
          clear H
          have H := H1
          clear H1
          obtain rfl := Option.some.inj H
          have q41 : ((ji3) : Int) ≤ ((l0.length : Int) : Int) := of_decide_eq_true (by first | (with_reducible assumption) | assumption)
          obtain ⟨i041, hi041, _, hsz41, _⟩ := info_parts info41
          have hroom41 : l0.length ≤ c0 := HC0.out
          have hC41 : Kd.C k41 _ A0 l0.length l0 := HR0.out
          have hcut41 := cut_to (P := Try.prog) 22 41 .i64 Try.underlying22 hi041 A0 l0.length c0 (ji3) (of_decide_eq_true (by first | (with_reducible assumption) | assumption)) q41 hroom41
          have hr41 := Kd.C_take (m := ((ji3) : Int).toNat) hC41 (by omega)
          have hy41 : y1.length = ((ji3) : Int).toNat := (by rw [Ny1.out, List.length_take]; omega)
          rw [← Ny1.out] at hr41
          rw [← hy41] at hcut41
          have HR4 := Aside0.mk hr41
          have HC4 := Aside0.mk (show y1.length ≤ c0 from by omega)
          clear hr41 hC41 hroom41 hi041 hsz41
          have KY41 := Aside0.mk hy41
          clear hy41
          replace q41 := eq_true q41
          go_enter Try.func3, Try.ntmps3
          go_wp2_with (first | ((with_reducible refine gate_callee (f := 11) rfl ?_); refine goesL_ (some 16) rfl rfl Try.func11 (by kernel_rfl) rfl #[.slice A0 y1.length c0, .bool a1] rfl (by (try simp only [List.map_toArray, List.map_cons, List.map_nil]); first | done | rfl | (simp only [List.length_drop, List.length_take]; rfl)) ?_; (with_reducible refine (dft_All.calls k _ _ y1 a1 t5 t6 _ ?side1 ?side2 A6.out).mono ?_); (case side1 => repeat (first | exact HR4.out | (with_reducible refine Kd.C_alloc ?_ _) | (with_reducible refine Kd.C_drewN ?_ _) | (with_reducible refine Kd.C_drew ?_))); (case side2 => exact HC4.out); rintro e w42 ⟨v7, rfl, ho0, hb⟩; refine ⟨_, rfl, ?_⟩; have n0_ := Aside0.mk (Kd.R_lower ho0 (below_size (by repeat (first | (with_reducible first | exact HB.out | apply below_alloc | apply pw_below_drewN | apply below_drew1) | exact HB.out)))); have n1_ := Aside0.mk (below_step (by repeat (first | (with_reducible first | exact HB.out | apply below_alloc | apply pw_below_drewN | apply below_drew1) | exact HB.out)) hb); clear HB; have HO8 := n0_; have HB := n1_; clear n0_ n1_; (try clear hb); (try clear hb2); (try clear hk); (try clear hi); (try clear ho0)) | ((with_reducible refine gate_callee (f := 12) rfl ?_); refine goesL_ (some 20) rfl rfl Try.func12 (by kernel_rfl) rfl #[.slice A0 y1.length c0] rfl (by (try simp only [List.map_toArray, List.map_cons, List.map_nil]); first | done | rfl | (simp only [List.length_drop, List.length_take]; rfl)) ?_; (with_reducible refine (headroomref16_May.calls k _ _ y1 t9 _ ?side1 ?side2 A7.out).mono ?_); (case side1 => repeat (first | exact (Kd.C_below HR4.out HB.out) | (with_reducible refine Kd.C_alloc ?_ _) | (with_reducible refine Kd.C_drewN ?_ _) | (with_reducible refine Kd.C_drew ?_))); (case side2 => exact HC4.out); rintro e w43 ⟨rfl, hb⟩; refine ⟨_, rfl, ?_⟩; have n0_ := Aside0.mk (Kd.R_below (by (with_reducible repeat (first | apply Kd.R_alloc | apply Kd.R_drewN | apply Kd.R_drew)); exact HO8.out) hb); have n1_ := Aside0.mk (below_step (by repeat (first | (with_reducible first | exact HB.out | apply below_alloc | apply pw_below_drewN | apply below_drew1) | exact HB.out)) hb); clear HO8; clear HB; have HO8 := n0_; have HB := n1_; clear n0_ n1_; (try clear hb); (try clear hb2); (try clear hk); (try clear hi)) | ((with_reducible refine gate_callee (f := 13) rfl ?_); refine goesL_ (some 23) rfl rfl Try.func13 (by kernel_rfl) rfl #[] rfl (by (try simp only [List.map_toArray, List.map_cons, List.map_nil]); first | done | rfl | (simp only [List.length_drop, List.length_take]; rfl)) ?_; (with_reducible refine (headroomlaw16_alive.calls k  false _ A29.out).mono ?_); rintro e w44 ⟨rfl, hb⟩; refine ⟨_, rfl, ?_⟩; have n0_ := Aside0.mk (Kd.R_below (by (with_reducible repeat (first | apply Kd.R_alloc | apply Kd.R_drewN | apply Kd.R_drew)); exact HO8.out) hb); have n1_ := Aside0.mk (below_step (by repeat (first | (with_reducible first | exact HB.out | apply below_alloc | apply pw_below_drewN | apply below_drew1) | exact HB.out)) hb); clear HO8; clear HB; have HO8 := n0_; have HB := n1_; clear n0_ n1_; (try clear hb); (try clear hb2); (try clear hk); (try clear hi)))
          go_ret
          exact ⟨by first | rfl | (simp [errW_none, errW_some] <;> rfl) | (simp only [← hji3]; first | rfl | (simp [errW_none, errW_some] <;> rfl)) | (simp [*, errW_none, errW_some] <;> rfl), by repeat (first | (with_reducible first | exact HB.out | apply below_alloc | apply pw_below_drewN | apply below_drew1) | exact HB.out)⟩
    · rw [if_neg c5] at H
      exact absurd H (by simp)
  · rw [if_neg c4] at H
    exact absurd H (by simp)

end Go.Proofs.Ytpmkkidljmedaaa.X
namespace Go.Proofs.Ytpmkkidljmedaaa.X
open Go.ChangeShapes Go.WideShapes Go.ChangeAt Go.RowKit Go.Proofs.YtpmkkidljmedaaaW.PrintWords Go.Proofs.YtpmkkidljmedaaaW.PrintLast Go.Proofs.YtpmkkidljmedaaaW.PrintMore
set_option linter.unusedVariables false

/-- Is each number one of 64 bits? -/
def Wf64 (x : Int) : Prop := (Lit.int .i64 x).wf = true
def WfCx (z : CxN) : Prop := Wf64 z.f0 ∧ Wf64 z.f1
theorem Wf64.bounds {x : Int} (h : Wf64 x) : -9223372036854775808 ≤ x ∧ x < 9223372036854775808 := by
  have h1 : (Lit.int .i64 x).wf = true := h
  simp only [Lit.wf, Bool.and_eq_true, decide_eq_true_eq] at h1
  have e0 : IntKind.i64.min = -9223372036854775808 := by decide
  have e1 : IntKind.i64.max = 9223372036854775807 := by decide
  omega

instance : Inhabited CxN := ⟨z41⟩
/-- A slice of complex numbers that comes in. -/
theorem open_cxs {H : Type} {enc : TypeId × Value → H} {W : World} {a : Option Addr} {len cap : Nat} {d : DataW H} {ps : List MemPlace}
    (h : DataW.Trod enc Try.prog W 0 (fun _ => true) true 22 (.slice a len cap) d ps) :
    ∃ zs : List CxN, zs.length = len ∧ len ≤ cap ∧ zs.length ≤ maxLen ∧ Kd.C k41 W a zs.length zs ∧ ∀ z ∈ zs, WfCx z := by
  obtain ⟨fuel, hf⟩ := h
  rcases Deep.open_slice_pairs (Try.underlying22) (Try.underlying41) (by kernel_rfl) rfl rfl (by kernel_rfl) (by kernel_rfl) hf with ⟨hcs, _⟩ | ⟨x, l, c, m, n, V0, V1, D0, D1, P0, P1, hcs, _, hl, hm, hmm, _, hall⟩
  · simp [Value.cells] at hcs
    obtain ⟨rfl, rfl, rfl⟩ := hcs
    refine ⟨[], rfl, Nat.le_refl _, by simp, ⟨rfl, by simp, fun h => absurd h (by simp)⟩, fun _ h => absurd h (by simp)⟩
  · simp [Value.cells] at hcs
    obtain ⟨rfl, rfl, rfl⟩ := hcs
    have hlm : len ≤ m := by rw [hmm]; split <;> omega
    have each : ∀ i, i < len → ∃ z : CxN, W.cell? (x.add (i * 2)) = some (.int .i64 z.f0) ∧ W.cell? (x.add (i * 2 + 1)) = some (.int .i64 z.f1) ∧ WfCx z := by
      intro i hi
      obtain ⟨c0, c1, t0, t1⟩ := hall i (by omega)
      obtain ⟨n0, e0, _, w0⟩ := DataW.trod_int Try.underlying3 t0
      obtain ⟨n1, e1, _, w1⟩ := DataW.trod_int Try.underlying3 t1
      simp at e0 e1
      exact ⟨⟨n0, n1⟩, by rw [c0, e0], by rw [c1, e1], w0, w1⟩
    obtain ⟨q, hq⟩ := Deep.choose_lt each
    have hlen : ((List.range len).map q).length = len := by simp
    refine ⟨(List.range len).map q, hlen, hl, by rw [hlen]; exact Nat.le_trans hl hm, ⟨rfl, by rw [hlen]; have : maxLen = 9223372036854775807 := rfl; omega, fun _ => ⟨x, rfl, ?_⟩⟩, ?_⟩
    · intro j p hj
      rw [List.getElem?_map] at hj
      obtain ⟨j', hj', rfl⟩ := Option.map_eq_some_iff.1 hj
      obtain ⟨hjl, rfl⟩ := List.getElem?_eq_some_iff.1 hj'
      simp at hjl
      simp only [List.getElem_range]
      obtain ⟨c0, c1, _⟩ := hq j hjl
      refine ⟨[.int .i64 (q j).f0, .int .i64 (q j).f1], rfl, k41_mk _ _, ?_⟩
      intro i u hu
      match i, hu with
      | 0, hu =>
        simp at hu
        subst hu
        exact c0
      | 1, hu =>
        simp at hu
        subst hu
        exact c1
      | (i + 2), hu => simp at hu
    · intro z hz
      obtain ⟨i, hi, rfl⟩ := List.mem_map.1 hz
      exact (hq i (List.mem_range.1 hi)).2.2
theorem cells_cx : Try.prog.cellsOf 41 = 2 := by kernel_rfl
theorem cells_int : Try.prog.cellsOf 3 = 1 := by kernel_rfl
set_option maxRecDepth 100000 in
/-- A complex number that comes in. -/
theorem open_cx {H : Type} {enc : TypeId × Value → H} {W : World} {r : Reach} {b0 : Nat} {v : Value} {d : DataW H} {p : List MemPlace}
    (hv : Value.okWide Try.prog W r b0 41 v) (h : DataW.Trod enc Try.prog W 0 (fun _ => true) true 41 v d p) :
    ∃ re im : Int, v = .agg #[.int .i64 re, .int .i64 im] ∧ d = .agg [.lit (.int .i64 re), .lit (.int .i64 im)] ∧ p = [] ∧ Wf64 re ∧ Wf64 im := by
  obtain ⟨v0, v1, y0, y1, n, rfl, rfl, rfl, h0, h1⟩ := Joins.open_agg2 Try.underlying41 (by simp [Deep.oneCellFields, cells_int, List.range_succ]) cells_cx hv h
  obtain ⟨n0, e0, rfl, w0⟩ := DataW.trod_int Try.underlying3 h0
  obtain ⟨n1, e1, rfl, w1⟩ := DataW.trod_int Try.underlying3 h1
  simp at e0 e1
  subst e0 e1
  exact ⟨n0, n1, rfl, rfl, rfl, w0, w1⟩
theorem shut_cx {H : Type} {enc : TypeId × Value → H} {W : World} {re im : Int} (w0 : Wf64 re) (w1 : Wf64 im) :
    DataW.Trod enc Try.prog W 0 (fun _ => true) true 41 (.agg #[.int .i64 re, .int .i64 im]) (.agg [.lit (.int .i64 re), .lit (.int .i64 im)]) [] :=
  Joins.shut_agg2 (P := Try.prog) (y0 := (.lit (.int .i64 re), [])) (y1 := (.lit (.int .i64 im), [])) Try.underlying41 (by simp [Deep.oneCellFields, cells_int, List.range_succ]) cells_cx
    (shut_int (n := re) Try.underlying3 w0) (shut_int (n := im) Try.underlying3 w1)
end Go.Proofs.Ytpmkkidljmedaaa.X
namespace Go.Proofs.Ytpmkkidljmedaaa.X
open Go.RowKit Go.Proofs.YtpmkkidljmedaaaW.PrintWords Go.Proofs.YtpmkkidljmedaaaW.PrintLast Go.Proofs.YtpmkkidljmedaaaW.PrintMore
set_option linter.unusedVariables false

theorem pow_loop (n : Nat) (hn : n ≤ 62) : ∀ (d i k : Nat), n - i = d → i ≤ n → d < k → headroomref01_Pow.l0 k n (2 ^ i) i = some (2 ^ n) := by
  intro d
  induction d with
  | zero =>
    intro i k hd hi hk
    obtain rfl : i = n := by omega
    cases k with
    | zero => omega
    | succ k => simp [headroomref01_Pow.l0]
  | succ d ih =>
    intro i k hd hi hk
    cases k with
    | zero => omega
    | succ k =>
      have h1 := HM.pow_lt62 (i := i + 1) (by omega)
      have h2 := HM.pow_pos (i + 1)
      have e : (2 : Int) * 2 ^ i = 2 ^ (i + 1) := by rw [Int.pow_succ, Int.mul_comm]
      have e2 : ((i : Int) + 1) = ((i + 1 : Nat) : Int) := by norm_cast
      rw [headroomref01_Pow.l0, if_pos (by omega), e, HM.wrap64_id _ (by omega) (by omega), HM.wrap64_id _ (by omega) (by omega), e2]
      exact ih (i + 1) k (by omega) (by omega) (by omega)
theorem ref_pow (n k : Nat) (hn : n ≤ 62) (hk : n < k) : headroomref01_Pow.f k n = some (2 ^ n) := by
  have := pow_loop n hn n 0 k (by omega) (by omega) (by omega)
  simpa [headroomref01_Pow.f] using this
theorem ref_pow' (x : Int) (k : Nat) (h0 : 0 ≤ x) (h1 : x ≤ 62) (hk : x < k) : headroomref01_Pow.f k x = some (2 ^ x.toNat) := by
  have := ref_pow x.toNat k (by omega) (by omega)
  rwa [Int.toNat_of_nonneg h0] at this

/-- Is it one of 64 bits? -/
def In64 (x : Int) : Prop := -9223372036854775808 ≤ x ∧ x < 9223372036854775808
theorem ref_half (x : Int) (h : In64 x) : headroomref01_half.f x = some (x / 2) := by
  unfold headroomref01_half.f
  obtain ⟨h0, h1⟩ := h
  have ht : Int.tmod x 2 = x % 2 ∨ (Int.tmod x 2 = x % 2 - 2 ∧ x < 0 ∧ x % 2 = 1) := by
    rcases Int.le_total 0 x with h | h
    · exact .inl (Int.tmod_eq_emod_of_nonneg h)
    · have e := Int.tmod_eq_emod (a := x) (b := 2)
      split at e <;> omega
  have hd : (Int.tdiv x 2 = x / 2 ∧ (0 ≤ x ∨ x % 2 = 0)) ∨ (Int.tdiv x 2 = x / 2 + 1 ∧ x < 0 ∧ x % 2 = 1) := by
    rcases Int.le_total 0 x with h | h
    · exact .inl ⟨Int.tdiv_eq_ediv_of_nonneg h, .inl h⟩
    · have e := Int.tdiv_eq_ediv (a := x) (b := 2)
      have s2 : Int.sign 2 = 1 := by decide
      split at e <;> omega
  revert ht hd
  generalize Int.tmod x 2 = r
  generalize Int.tdiv x 2 = q
  intro ht hd
  by_cases c : r = 0
  · have : q = x / 2 := by omega
    rw [if_pos c, this, HM.wrap64_id _ (by omega) (by omega)]
  · rw [if_neg c]
    by_cases c1 : x > 0
    · have : q = x / 2 := by omega
      rw [if_pos c1, this, HM.wrap64_id _ (by omega) (by omega)]
    · have : q = x / 2 + 1 := by omega
      rw [if_neg c1, this, HM.wrap64_id (x / 2 + 1) (by omega) (by omega), show x / 2 + 1 - 1 = x / 2 by omega, HM.wrap64_id _ (by omega) (by omega)]
theorem In64.half {x : Int} (h : In64 x) : In64 (x / 2) := by unfold In64 at *; omega
theorem floor_loop (n : Nat) (hn : n ≤ 1000) : ∀ (d i k : Nat) (x : Int), In64 x → n - i = d → i ≤ n → d < k → headroomref01_Floor.l0 k x n i = some (x / 2 ^ d) := by
  intro d
  induction d with
  | zero =>
    intro i k x hx hd hi hk
    obtain rfl : i = n := by omega
    cases k with
    | zero => omega
    | succ k => simp [headroomref01_Floor.l0]
  | succ d ih =>
    intro i k x hx hd hi hk
    cases k with
    | zero => omega
    | succ k =>
      have e2 : ((i : Int) + 1) = ((i + 1 : Nat) : Int) := by norm_cast
      rw [headroomref01_Floor.l0, if_pos (by omega), ref_half x hx, Option.bind_some, HM.wrap64_id _ (by omega) (by omega), e2, ih (i + 1) k _ hx.half (by omega) (by omega) (by omega)]
      congr 1
      rw [Int.ediv_ediv_of_nonneg (by omega), Int.pow_succ, Int.mul_comm]
theorem ref_floor (x : Int) (n k : Nat) (hx : In64 x) (hn : n ≤ 1000) (hk : n < k) : headroomref01_Floor.f k x n = some (x / 2 ^ n) := by
  have := floor_loop n hn n 0 k x hx (by omega) (by omega) (by omega)
  simpa [headroomref01_Floor.f] using this
theorem ref_floor' (x s : Int) (k : Nat) (hx : In64 x) (h0 : 0 ≤ s) (hn : s ≤ 1000) (hk : s < k) : headroomref01_Floor.f k x s = some (x / 2 ^ s.toNat) := by
  have := ref_floor x s.toNat k hx (by omega) (by omega)
  rwa [Int.toNat_of_nonneg h0] at this

/-- A list's element is as Lean's own. -/
theorem rd_cx (l : List S41) (i : Nat) (h : i < l.length) : rd_T41 l i = l[i] := by
  simp [rd_T41, List.getD, h]
/-- The same list is the same. -/
theorem same_loop (l : List S41) (hl : l.length ≤ 9223372036854775807) : ∀ (d i k : Nat), l.length - i = d → i ≤ l.length → d < k → headroomref03_Same.l0 k l l l.length i = some true := by
  intro d
  induction d with
  | zero =>
    intro i k hd hi hk
    cases k with
    | zero => omega
    | succ k => rw [headroomref03_Same.l0, if_neg (by omega)]
  | succ d ih =>
    intro i k hd hi hk
    cases k with
    | zero => omega
    | succ k =>
      have e2 : ((i : Int) + 1) = ((i + 1 : Nat) : Int) := by norm_cast
      rw [headroomref03_Same.l0, if_pos (by omega), if_pos (by omega), if_pos (by omega), if_pos (by omega), if_neg (by simp), HM.wrap64_id _ (by omega) (by omega), e2]
      exact ih (i + 1) k (by omega) (by omega) (by omega)
theorem ref_same (l : List S41) (k : Nat) (hl : l.length ≤ 9223372036854775807) (hk : l.length < k) : headroomref03_Same.f k l l = some true := by
  unfold headroomref03_Same.f
  rw [if_pos rfl]
  exact same_loop l hl l.length 0 k (by omega) (by omega) (by omega)

/-- The document's rounding and the program's are the same. -/
theorem ref_shift (x s m : Int) (k : Nat) (hx : In64 x) (h0 : 0 ≤ s) (h1 : s ≤ 62) (hm0 : 0 ≤ m) (hm1 : m ≤ 2) (hk : 64 < k) :
    headroomref01_Shift.f k x s m = (round_Shift.f x s m).bind fun r => some r.1 := by
  unfold headroomref01_Shift.f round_Shift.f
  rw [ref_floor' x s k hx h0 (by omega) (by omega), Option.bind_some]
  rw [if_neg (show ¬s < 0 by omega), if_neg (show ¬s > 62 by omega), if_neg (show ¬m < 0 by omega), if_neg (show ¬m ≥ 3 by omega)]
  obtain ⟨k, rfl⟩ : ∃ j, k = j + 1 := ⟨k - 1, by omega⟩
  by_cases c : s = 0
  · subst c
    simp [headroomref01_Shift.j0]
  · rw [if_neg c, if_neg c]
    by_cases cm : m = 0
    · subst cm
      simp [headroomref01_Shift.j0, upB]
    · have hb : (m == 0) = false := by simp [cm]
      rw [hb, headroomref01_Shift.j0, if_neg (by simp), ref_pow' s k h0 h1 (by omega)]
      rw [HM.wrap64_id (s - 1) (by omega) (by omega), Option.bind_some, ref_pow' (s - 1) k (by omega) (by omega) (by omega), Option.bind_some]
      have hp := HM.pow_pos s.toNat
      have hl := HM.pow_lt62 (i := s.toNat) (by omega)
      have hdm := Int.mul_ediv_add_emod x (2 ^ s.toNat)
      have hr0 := Int.emod_nonneg x (show (2 : Int) ^ s.toNat ≠ 0 by omega)
      have hr1 := Int.emod_lt_of_pos x hp
      have e1 : (s - 1).toNat = s.toNat - 1 := by omega
      have hq : In64 (x / 2 ^ s.toNat * 2 ^ s.toNat) := by
        unfold In64 at *
        have e63 : -(2 ^ (63 - s.toNat) : Int) * 2 ^ s.toNat = -9223372036854775808 := by
          rw [Int.neg_mul, ← Int.pow_add, show 63 - s.toNat + s.toNat = 63 by omega]
          decide
        have h1 : -(2 ^ (63 - s.toNat) : Int) ≤ x / 2 ^ s.toNat := Int.le_ediv_of_mul_le hp (by rw [e63]; exact hx.1)
        have h2 := Int.mul_le_mul_of_nonneg_right h1 (Int.le_of_lt hp)
        rw [e63] at h2
        refine ⟨h2, ?_⟩
        rw [Int.mul_comm]
        omega
      have hsub : x - x / 2 ^ s.toNat * 2 ^ s.toNat = x % 2 ^ s.toNat := by
        rw [Int.mul_comm]
        omega
      unfold In64 at hq hx
      rw [HM.wrap64_id _ hq.1 hq.2, hsub, HM.wrap64_id (x % 2 ^ s.toNat) (by omega) (by omega), e1]
      have ho : (Int.tmod (x / 2 ^ s.toNat) 2 != 0) = (x / 2 ^ s.toNat % 2 == 1) := by
        generalize x / 2 ^ s.toNat = q
        have e := Int.tmod_eq_emod (a := q) (b := 2)
        have s2 : Int.sign 2 = 1 := by decide
        rcases Int.emod_two_eq q with h | h
        · rw [h, e]
          have h' : ¬q % 2 = 1 := by omega
          split
          · simp [h]
          · rename_i hn
            exact absurd (.inr (Int.dvd_of_emod_eq_zero h)) hn
        · rw [h, e]
          split
          · simp [h]
          · simp [h]
      unfold upB
      rw [if_neg cm]
      by_cases cg : x % 2 ^ s.toNat > 2 ^ (s.toNat - 1)
      · rw [if_pos cg]
        by_cases c1 : m = 1
        · rw [if_pos c1, if_pos (decide_eq_true (by omega))]
          rfl
        · rw [if_neg c1, decide_eq_true (show 2 ^ (s.toNat - 1) < x % 2 ^ s.toNat by omega)]
          simp
      · rw [if_neg cg]
        by_cases ce : x % 2 ^ s.toNat = 2 ^ (s.toNat - 1)
        · rw [if_pos ce]
          by_cases c1 : m = 1
          · rw [if_pos c1, if_pos c1, if_pos (decide_eq_true (by omega))]
            rfl
          · rw [if_neg c1, if_neg c1]
            unfold headroomref01_odd.f
            rw [Option.bind_some, ho]
            by_cases hx1 : x / 2 ^ s.toNat % 2 = 1 <;> simp [ce, hx1]
        · rw [if_neg ce]
          by_cases c1 : m = 1
          · rw [if_pos c1, decide_eq_false (by omega)]
            simp
          · rw [if_neg c1, decide_eq_false (by omega), decide_eq_false ce]
            simp
end Go.Proofs.Ytpmkkidljmedaaa.X
namespace Go.Proofs.Ytpmkkidljmedaaa.X
open Go.RowKit Go.Proofs.YtpmkkidljmedaaaW.PrintWords Go.Proofs.YtpmkkidljmedaaaW.PrintLast Go.Proofs.YtpmkkidljmedaaaW.PrintMore
set_option linter.unusedVariables false

/-- Are both parts so great at most? -/
def Le (m : Int) (x : CxN) : Prop := -m ≤ x.f0 ∧ x.f0 ≤ m ∧ -m ≤ x.f1 ∧ x.f1 ≤ m

theorem norm_spec (a b : Int) (k : Nat) (hk : 30 < k) (ha : -4611686018427387904 ≤ a ∧ a ≤ 4611686018427387904) (hb : -4611686018427387904 ≤ b ∧ b ≤ 4611686018427387904) :
    headroomref16_norm.f k a b = some ((a * 1048576 + b) / 1048576, (a * 1048576 + b) % 1048576) := by
  unfold headroomref16_norm.f
  have e : (2 : Int) ^ (20 : Int).toNat = 1048576 := by decide
  have h1 := ref_floor' b 20 k ⟨by omega, by omega⟩ (by omega) (by omega) (by omega)
  have h2 := ref_pow' 20 k (by omega) (by omega) (by omega)
  rw [e] at h1 h2
  rw [h1, Option.bind_some, h2, Option.bind_some, HM.wrap64_id (a + b / 1048576) (by omega) (by omega), HM.wrap64_id (b / 1048576 * 1048576) (by omega) (by omega), HM.wrap64_id _ (by omega) (by omega)]
  congr 1
  rw [Prod.mk.injEq]
  constructor <;> omega

theorem times_spec (a b : Int) (k : Nat) (hk : 30 < k) (ha : -2147483648 ≤ a ∧ a ≤ 2147483648) (hb : -1099511627776 ≤ b ∧ b ≤ 1099511627776) :
    headroomref16_times.f k a b = some (a * b / 1048576, a * b % 1048576) := by
  unfold headroomref16_times.f
  have e : (2 : Int) ^ (20 : Int).toNat = 1048576 := by decide
  have h1 := ref_floor' b 20 k ⟨by omega, by omega⟩ (by omega) (by omega) (by omega)
  have h2 := ref_pow' 20 k (by omega) (by omega) (by omega)
  rw [e] at h1 h2
  have m1 := HM.mul_bound 2147483648 1048576 a (b / 1048576) (by omega) (by omega) (by omega) (by omega) (by omega) (by omega)
  have m2 := HM.mul_bound 2147483648 1048576 a (b - b / 1048576 * 1048576) (by omega) (by omega) (by omega) (by omega) (by omega) (by omega)
  rw [h1, Option.bind_some, h2, Option.bind_some, HM.wrap64_id (b / 1048576 * 1048576) (by omega) (by omega), HM.wrap64_id (b - b / 1048576 * 1048576) (by omega) (by omega),
    HM.wrap64_id (a * (b / 1048576)) (by omega) (by omega), HM.wrap64_id _ (by omega) (by omega), norm_spec _ _ k hk (by omega) (by omega), Option.bind_some]
  have ev : a * (b / 1048576) * 1048576 + a * (b - b / 1048576 * 1048576) = a * b := by
    rw [Int.mul_sub, Int.mul_assoc]
    omega
  rw [ev]

theorem add_spec (u v : Int) (k : Nat) (hk : 30 < k) (hu : -604462909807314587353088 ≤ u ∧ u ≤ 604462909807314587353088) (hv : -604462909807314587353088 ≤ v ∧ v ≤ 604462909807314587353088) :
    headroomref16_add.f k (u / 1048576) (u % 1048576) (v / 1048576) (v % 1048576) = some ((u + v) / 1048576, (u + v) % 1048576) := by
  unfold headroomref16_add.f
  rw [HM.wrap64_id _ (by omega) (by omega), HM.wrap64_id _ (by omega) (by omega), norm_spec _ _ k hk (by omega) (by omega), Option.bind_some]
  have e : (u / 1048576 + v / 1048576) * 1048576 + (u % 1048576 + v % 1048576) = u + v := by omega
  rw [e]
theorem less_spec (u v : Int) (k : Nat) (hk : 30 < k) (hu : -604462909807314587353088 ≤ u ∧ u ≤ 604462909807314587353088) (hv : -604462909807314587353088 ≤ v ∧ v ≤ 604462909807314587353088) :
    headroomref16_less.f k (u / 1048576) (u % 1048576) (v / 1048576) (v % 1048576) = some ((u - v) / 1048576, (u - v) % 1048576) := by
  unfold headroomref16_less.f
  rw [HM.wrap64_id _ (by omega) (by omega), HM.wrap64_id _ (by omega) (by omega), norm_spec _ _ k hk (by omega) (by omega), Option.bind_some]
  have e : (u / 1048576 - v / 1048576) * 1048576 + (u % 1048576 - v % 1048576) = u - v := by omega
  rw [e]
theorem down_spec (u : Int) (k : Nat) (hk : 30 < k) (hu : -604462909807314587353088 ≤ u ∧ u ≤ 604462909807314587353088) :
    headroomref16_down.f k (u / 1048576) (u % 1048576) = some (u / 4294967296) := by
  unfold headroomref16_down.f
  have e : (2 : Int) ^ (12 : Int).toNat = 4096 := by decide
  have h1 := ref_floor' (u / 1048576) 12 k ⟨by omega, by omega⟩ (by omega) (by omega) (by omega)
  rw [e] at h1
  rw [h1, Option.bind_some]
  congr 1
  omega

/-- A list's number, 0 beyond. -/
def cxAt (l : List CxN) (i : Nat) : CxN := l.getD i ⟨0, 0⟩
theorem rd_at (l : List CxN) (i : Nat) : rd_T41 l (i : Int) = cxAt l i := by
  unfold rd_T41 cxAt
  rw [Int.toNat_natCast]
  rfl
theorem Le.at {m : Int} (hm : 0 ≤ m) {l : List CxN} (h : ∀ x ∈ l, Le m x) (i : Nat) : Le m (cxAt l i) := by
  unfold cxAt
  rw [List.getD_eq_getElem?_getD]
  by_cases c : i < l.length
  · rw [List.getElem?_eq_getElem c]
    exact h _ (List.getElem_mem c)
  · rw [List.getElem?_eq_none (by omega)]
    unfold Le
    simp only [Option.getD_none]
    omega
/-- The root that number j is turned by in bin k. -/
def turnBy (t : List CxN) (n k : Nat) (inv : Bool) (j : Nat) : CxN := if inv = true then ⟨(cxAt t (j * k % n)).f0, -(cxAt t (j * k % n)).f1⟩ else cxAt t (j * k % n)
theorem Le.turnBy {m : Int} (hm : 0 ≤ m) {t : List CxN} (h : ∀ x ∈ t, Le m x) (n k : Nat) (inv : Bool) (j : Nat) : Le m (turnBy t n k inv j) := by
  have := Le.at hm h (j * k % n)
  unfold X.turnBy
  unfold Le at *
  split <;> (try dsimp only) <;> omega
def vre (l t : List CxN) (n k : Nat) (inv : Bool) : Nat → Int
  | 0 => 0
  | j + 1 => vre l t n k inv j + ((cxAt l j).f0 * (turnBy t n k inv j).f0 - (cxAt l j).f1 * (turnBy t n k inv j).f1)
def vim (l t : List CxN) (n k : Nat) (inv : Bool) : Nat → Int
  | 0 => 0
  | j + 1 => vim l t n k inv j + ((cxAt l j).f0 * (turnBy t n k inv j).f1 + (cxAt l j).f1 * (turnBy t n k inv j).f0)
/-- A bin. -/
def binV (l t : List CxN) (n : Nat) (inv : Bool) (k : Nat) : CxN := ⟨vre l t n k inv n / 4294967296, vim l t n k inv n / 4294967296⟩

theorem prod_bound (a b : Int) (ha : -2147483648 ≤ a ∧ a ≤ 2147483648) (hb : -1099511627776 ≤ b ∧ b ≤ 1099511627776) : -2361183241434822606848 ≤ a * b ∧ a * b ≤ 2361183241434822606848 := by
  have := HM.mul_bound 2147483648 1099511627776 a b (by omega) (by omega) (by omega) (by omega) (by omega) (by omega)
  omega
theorem v_bound {l t : List CxN} {n : Nat} (hl : ∀ x ∈ l, Le 2147483648 x) (ht : ∀ x ∈ t, Le 1099511627776 x) (k : Nat) (inv : Bool) (j : Nat) : -(4722366482869645213696 * (j : Int)) ≤ vre l t n k inv j ∧ vre l t n k inv j ≤ 4722366482869645213696 * j ∧ -(4722366482869645213696 * (j : Int)) ≤ vim l t n k inv j ∧ vim l t n k inv j ≤ 4722366482869645213696 * j := by
  induction j with
  | zero => simp [vre, vim]
  | succ j ih =>
    have hx := Le.at (by omega) hl j
    have hr := Le.turnBy (by omega) ht n k inv j
    unfold Le at hx hr
    have p1 := prod_bound (cxAt l j).f0 (turnBy t n k inv j).f0 (by omega) (by omega)
    have p2 := prod_bound (cxAt l j).f1 (turnBy t n k inv j).f1 (by omega) (by omega)
    have p3 := prod_bound (cxAt l j).f0 (turnBy t n k inv j).f1 (by omega) (by omega)
    have p4 := prod_bound (cxAt l j).f1 (turnBy t n k inv j).f0 (by omega) (by omega)
    simp only [vre, vim]
    push_cast
    omega
/-- The document's bin. -/
theorem refbin_loop {l t : List CxN} {n : Nat} (hl : ∀ x ∈ l, Le 2147483648 x) (ht : ∀ x ∈ t, Le 1099511627776 x) (hln : l.length = n) (htn : t.length = n) (hn : n ≤ 64) (k : Nat) (hk : k < n) (inv : Bool) : ∀ (d j K : Nat), n - j = d → j ≤ n → d + 40 < K →
    headroomref16_Bin.l0 K t k inv n l n j (vre l t n k inv j / 1048576) (vre l t n k inv j % 1048576) (vim l t n k inv j / 1048576) (vim l t n k inv j % 1048576) = some (vre l t n k inv n / 4294967296, vim l t n k inv n / 4294967296) := by
  intro d
  induction d with
  | zero =>
    intro j K hd hj hK
    obtain rfl : j = n := by omega
    obtain ⟨K, rfl⟩ : ∃ K', K = K' + 1 := ⟨K - 1, by omega⟩
    have hb := v_bound (n := j) hl ht k inv j
    rw [headroomref16_Bin.l0, if_neg (by omega), down_spec _ K (by omega) (by omega), Option.bind_some, down_spec _ K (by omega) (by omega), Option.bind_some]
  | succ d ih =>
    intro j K hd hj hK
    obtain ⟨K, rfl⟩ : ∃ K', K = K' + 1 := ⟨K - 1, by omega⟩
    have hb := v_bound (n := n) hl ht k inv j
    have hx := Le.at (by omega) hl j
    have hr := Le.turnBy (by omega) ht n k inv j
    have hjk : j * k < 64 * 64 := Nat.mul_lt_mul_of_lt_of_le (by omega) (by omega) (by omega)
    have hmod : Int.tmod (wrap64 ((j : Int) * (k : Int))) (n : Int) = ((j * k % n : Nat) : Int) := by
      rw [HM.wrap64_id _ (by rw [← Int.natCast_mul]; omega) (by rw [← Int.natCast_mul]; omega), ← Int.natCast_mul, Int.tmod_eq_emod_of_nonneg (by omega), ← Int.natCast_emod]
    have hlt : j * k % n < n := Nat.mod_lt _ (by omega)
    have hroot : headroomref10_Root.f t (Int.tmod (wrap64 ((j : Int) * (k : Int))) (n : Int)) inv = some ((turnBy t n k inv j).f0, (turnBy t n k inv j).f1) := by
      rw [hmod]
      unfold headroomref10_Root.f turnBy
      have hc := Le.at (by omega) ht (j * k % n)
      unfold Le at hc
      cases inv
      · rw [if_neg (by simp), if_pos (by omega), if_pos (by omega), rd_at]
        simp
      · rw [if_pos rfl, if_pos (by omega), if_pos (by omega), rd_at]
        unfold headroomref03_Conj.f
        rw [Option.bind_some, HM.wrap64_id _ (by omega) (by omega)]
        simp
    have e2 : ((j : Int) + 1) = ((j + 1 : Nat) : Int) := by norm_cast
    unfold Le at hx hr
    have p1 := prod_bound (cxAt l j).f0 (turnBy t n k inv j).f0 (by omega) (by omega)
    have p2 := prod_bound (cxAt l j).f1 (turnBy t n k inv j).f1 (by omega) (by omega)
    have p3 := prod_bound (cxAt l j).f0 (turnBy t n k inv j).f1 (by omega) (by omega)
    have p4 := prod_bound (cxAt l j).f1 (turnBy t n k inv j).f0 (by omega) (by omega)
    rw [headroomref16_Bin.l0, if_pos (by omega), if_pos (by omega), if_pos (by omega), if_neg (by omega), hroot, Option.bind_some, rd_at]
    simp only
    rw [times_spec (cxAt l j).f0 (turnBy t n k inv j).f0 K (by omega) (by omega) (by omega), Option.bind_some,
      add_spec _ _ K (by omega) (by omega) (by omega), Option.bind_some,
      times_spec (cxAt l j).f1 (turnBy t n k inv j).f1 K (by omega) (by omega) (by omega), Option.bind_some,
      less_spec _ _ K (by omega) (by omega) (by omega), Option.bind_some,
      times_spec (cxAt l j).f0 (turnBy t n k inv j).f1 K (by omega) (by omega) (by omega), Option.bind_some,
      add_spec _ _ K (by omega) (by omega) (by omega), Option.bind_some,
      times_spec (cxAt l j).f1 (turnBy t n k inv j).f0 K (by omega) (by omega) (by omega), Option.bind_some,
      add_spec _ _ K (by omega) (by omega) (by omega), Option.bind_some, HM.wrap64_id _ (by omega) (by omega), e2]
    have q1 : vre l t n k inv j + (cxAt l j).f0 * (turnBy t n k inv j).f0 - (cxAt l j).f1 * (turnBy t n k inv j).f1 = vre l t n k inv (j + 1) := by
      simp only [vre]
      omega
    have q2 : vim l t n k inv j + (cxAt l j).f0 * (turnBy t n k inv j).f1 + (cxAt l j).f1 * (turnBy t n k inv j).f0 = vim l t n k inv (j + 1) := by
      simp only [vim]
      omega
    rw [q1, q2]
    exact ih (j + 1) K (by omega) (by omega) (by omega)
theorem ref_bin {l t : List CxN} {n : Nat} (hl : ∀ x ∈ l, Le 2147483648 x) (ht : ∀ x ∈ t, Le 1099511627776 x) (hln : l.length = n) (htn : t.length = n) (hn : n ≤ 64) (k : Nat) (hk : k < n) (inv : Bool) (K : Nat) (hK : n + 40 < K) : headroomref16_Bin.f K l t k inv = some ((binV l t n inv k).f0, (binV l t n inv k).f1) := by
  unfold headroomref16_Bin.f
  have := refbin_loop hl ht hln htn hn k hk inv n 0 K (by omega) (by omega) (by omega)
  rw [hln]
  simpa [vre, vim, binV] using this

/-- The program's two parts of a sum. -/
theorem addHi_val (hi a b : Int) (h0 : -4611686018427387904 ≤ hi + a / 65536 * b ∧ hi + a / 65536 * b ≤ 4611686018427387904) (h1 : -72057594037927936 ≤ a / 65536 * b ∧ a / 65536 * b ≤ 72057594037927936) : addHi hi a b = hi + a / 65536 * b := by
  unfold addHi
  rw [HM.wrap64_id (a / 65536 * b) (by omega) (by omega), HM.wrap64_id _ (by omega) (by omega)]
theorem addLo_val (lo a b : Int) (h0 : -9223372036854775808 ≤ lo + a % 65536 * b ∧ lo + a % 65536 * b < 9223372036854775808) (h1 : -72057594037927936 ≤ a % 65536 * b ∧ a % 65536 * b ≤ 72057594037927936) : addLo lo a b = lo + a % 65536 * b := by
  unfold addLo
  rw [HM.wrap64_id (a % 65536 * b) (by omega) (by omega), HM.wrap64_id _ (by omega) (by omega)]
/-- One of 80 bits, and how great its parts may be after so many products. -/
def SumOk (m : Nat) (hi lo v : Int) : Prop := hi * 65536 + lo = v ∧ -(36028797018963968 * (m : Int)) ≤ hi ∧ hi ≤ 36028797018963968 * m ∧ -(72056494526300160 * (m : Int)) ≤ lo ∧ lo ≤ 72056494526300160 * m
theorem SumOk.add {m : Nat} {hi lo v a b : Int} (h : SumOk m hi lo v) (hm : m < 128) (ha : -2147483648 ≤ a ∧ a ≤ 2147483648) (hb : -1099511627776 ≤ b ∧ b ≤ 1099511627776) : SumOk (m + 1) (addHi hi a b) (addLo lo a b) (v + a * b) := by
  obtain ⟨h1, h2, h3, h4, h5⟩ := h
  have m1 := HM.mul_bound 32768 1099511627776 (a / 65536) b (by omega) (by omega) (by omega) (by omega) (by omega) (by omega)
  have m2 := HM.mul_bound 65535 1099511627776 (a % 65536) b (by omega) (by omega) (by omega) (by omega) (by omega) (by omega)
  have e : a / 65536 * b * 65536 + a % 65536 * b = a * b := by
    have := Int.mul_ediv_add_emod a 65536
    calc a / 65536 * b * 65536 + a % 65536 * b = (65536 * (a / 65536) + a % 65536) * b := by rw [Int.add_mul, Int.mul_right_comm, Int.mul_comm (a / 65536) 65536]
      _ = a * b := by rw [this]
  rw [addHi_val hi a b (by omega) (by omega), addLo_val lo a b (by omega) (by omega)]
  unfold SumOk
  push_cast
  omega
theorem SumOk.down {m : Nat} {hi lo v : Int} (h : SumOk m hi lo v) (hm : m ≤ 128) : sumDown hi lo = v / 4294967296 := by
  obtain ⟨h1, h2, h3, h4, h5⟩ := h
  unfold sumDown
  rw [HM.wrap64_id _ (by omega) (by omega)]
  omega
theorem binTo_val {l t : List CxN} {n : Nat} (hl : ∀ x ∈ l, Le 2147483648 x) (ht : ∀ x ∈ t, Le 1099511627776 x) {e : Nat} (he : e ≤ 6) (hn : n = 2 ^ e) (hln : l.length = n) (htn : t.length = n) (k : Nat) (hk : k < n) (inv : Bool) : ∀ j, j ≤ n → ∃ s : Sums, binTo l t k inv j = some s ∧ SumOk (2 * j) s.1 s.2.1 (vre l t n k inv j) ∧ SumOk (2 * j) s.2.2.1 s.2.2.2 (vim l t n k inv j) := by
  intro j
  induction j with
  | zero => intro _; exact ⟨(0, 0, 0, 0), rfl, by simp [SumOk, vre], by simp [SumOk, vim]⟩
  | succ j ih =>
    intro hj
    obtain ⟨s, hs, h1, h2⟩ := ih (by omega)
    have h64 : n ≤ 64 := by
      have : 2 ^ e ≤ 2 ^ 6 := Nat.pow_le_pow_right (by omega) he
      omega
    have hx := Le.at (by omega) hl j
    have hr := Le.turnBy (by omega) ht n k inv j
    have hjk : j * k < 64 * 64 := Nat.mul_lt_mul_of_lt_of_le (by omega) (by omega) (by omega)
    have hnE : (n : Int) = 2 ^ e := by rw [hn]; norm_cast
    have hmod : bits .and .i64 (wrap64 ((j : Int) * (k : Int))) ((n : Int) - 1) = ((j * k % n : Nat) : Int) := by
      rw [HM.wrap64_id _ (by rw [← Int.natCast_mul]; omega) (by rw [← Int.natCast_mul]; omega), ← Int.natCast_mul, hnE, HM.and_mask _ e (by omega), ← hnE, ← Int.natCast_emod]
    have hlt : j * k % n < n := Nat.mod_lt _ (by omega)
    have hroot : binRoot t l.length k inv j = some (turnBy t n k inv j) := by
      have hc := Le.at (by omega) ht (j * k % n)
      unfold Le at hc
      unfold binRoot
      rw [hln, hmod, if_pos ⟨by omega, by omega⟩, rd_at]
      unfold turnBy
      cases inv
      · simp
      · rw [if_pos rfl, if_pos rfl]
        unfold cx_Conj.f
        rw [if_pos (by unfold cxIn; simp; omega)]
        rfl
    unfold Le at hx hr
    refine ⟨binStep (cxAt l j) (turnBy t n k inv j) s, ?_, ?_, ?_⟩
    · rw [binTo, hs, Option.bind_some, hroot, Option.bind_some, rd_at]
    · have g1 := h1.add (a := (cxAt l j).f0) (b := (turnBy t n k inv j).f0) (by omega) (by omega) (by omega)
      have g2 := g1.add (a := wrap64 (-(cxAt l j).f1)) (b := (turnBy t n k inv j).f1) (by omega) (by rw [HM.wrap64_id _ (by omega) (by omega)]; omega) (by omega)
      rw [show vre l t n k inv j + (cxAt l j).f0 * (turnBy t n k inv j).f0 + wrap64 (-(cxAt l j).f1) * (turnBy t n k inv j).f1 = vre l t n k inv (j + 1) by
        rw [HM.wrap64_id _ (by omega) (by omega), Int.neg_mul]; simp only [vre]; omega] at g2
      exact g2
    · have g1 := h2.add (a := (cxAt l j).f0) (b := (turnBy t n k inv j).f1) (by omega) (by omega) (by omega)
      have g2 := g1.add (a := (cxAt l j).f1) (b := (turnBy t n k inv j).f0) (by omega) (by omega) (by omega)
      rw [show vim l t n k inv j + (cxAt l j).f0 * (turnBy t n k inv j).f1 + (cxAt l j).f1 * (turnBy t n k inv j).f0 = vim l t n k inv (j + 1) by
        simp only [vim]; omega] at g2
      exact g2
theorem prog_bin {l t : List CxN} {n : Nat} (hl : ∀ x ∈ l, Le 2147483648 x) (ht : ∀ x ∈ t, Le 1099511627776 x) {e : Nat} (he : e ≤ 6) (hn : n = 2 ^ e) (hln : l.length = n) (htn : t.length = n) (k : Nat) (hk : k < n) (inv : Bool) : dft_bin.f l t k inv = some ((binV l t n inv k).f0, (binV l t n inv k).f1) := by
  obtain ⟨s, hs, h1, h2⟩ := binTo_val hl ht he hn hln htn k hk inv n (Nat.le_refl n)
  have h64 : n ≤ 64 := by
    have : 2 ^ e ≤ 2 ^ 6 := Nat.pow_le_pow_right (by omega) he
    omega
  unfold dft_bin.f
  rw [hln, hs, Option.bind_some, h1.down (by omega), h2.down (by omega)]
  rfl
end Go.Proofs.Ytpmkkidljmedaaa.X
namespace Go.Proofs.Ytpmkkidljmedaaa.X
open Go.RowKit Go.Proofs.YtpmkkidljmedaaaW.PrintWords Go.Proofs.YtpmkkidljmedaaaW.PrintLast Go.Proofs.YtpmkkidljmedaaaW.PrintMore
set_option linter.unusedVariables false

theorem logs (n : Int) (k : Nat) (hk : 20 < k) : (flip_Log.f k n = some (0, 3) ∧ headroomref08_Log.f k n = some (-1)) ∨
    ∃ e : Nat, 2 ≤ e ∧ e ≤ 6 ∧ n = 2 ^ e ∧ flip_Log.f k n = some ((e : Int), 0) ∧ headroomref08_Log.f k n = some (e : Int) := by
  obtain ⟨k, rfl⟩ : ∃ j, k = j + 6 := ⟨k - 6, by omega⟩
  have s2 : shl .i64 1 2 = 4 := by decide +kernel
  have s3 : shl .i64 1 3 = 8 := by decide +kernel
  have s4 : shl .i64 1 4 = 16 := by decide +kernel
  have s5 : shl .i64 1 5 = 32 := by decide +kernel
  have s6 : shl .i64 1 6 = 64 := by decide +kernel
  have w2 : wrap64 (2 + 1) = 3 := by decide +kernel
  have w3 : wrap64 (3 + 1) = 4 := by decide +kernel
  have w4 : wrap64 (4 + 1) = 5 := by decide +kernel
  have w5 : wrap64 (5 + 1) = 6 := by decide +kernel
  have w6 : wrap64 (6 + 1) = 7 := by decide +kernel
  have p2 : ∀ j, 6 < j → headroomref01_Pow.f j 2 = some 4 := fun j h => ref_pow' 2 j (by omega) (by omega) (by omega)
  have p3 : ∀ j, 6 < j → headroomref01_Pow.f j 3 = some 8 := fun j h => ref_pow' 3 j (by omega) (by omega) (by omega)
  have p4 : ∀ j, 6 < j → headroomref01_Pow.f j 4 = some 16 := fun j h => ref_pow' 4 j (by omega) (by omega) (by omega)
  have p5 : ∀ j, 6 < j → headroomref01_Pow.f j 5 = some 32 := fun j h => ref_pow' 5 j (by omega) (by omega) (by omega)
  have p6 : ∀ j, 6 < j → headroomref01_Pow.f j 6 = some 64 := fun j h => ref_pow' 6 j (by omega) (by omega) (by omega)
  have hf : flip_Log.f (k + 6) n = if n = 4 then some (2, 0) else if n = 8 then some (3, 0) else if n = 16 then some (4, 0) else if n = 32 then some (5, 0) else if n = 64 then some (6, 0) else some (0, 3) := by
    unfold flip_Log.f
    rw [flip_Log.l0, flip_Log.l0, flip_Log.l0, flip_Log.l0, flip_Log.l0, flip_Log.l0, s2, w2, s3, w3, s4, w4, s5, w5, s6, w6]
    simp
  have hr : headroomref08_Log.f (k + 6) n = if n = 4 then some 2 else if n = 8 then some 3 else if n = 16 then some 4 else if n = 32 then some 5 else if n = 64 then some 6 else some (-1) := by
    unfold headroomref08_Log.f
    rw [headroomref08_Log.l0, headroomref08_Log.l0, headroomref08_Log.l0, headroomref08_Log.l0, headroomref08_Log.l0, headroomref08_Log.l0, p2 _ (by omega), w2, p3 _ (by omega), w3, p4 _ (by omega), w4, p5 _ (by omega), w5, p6 _ (by omega), w6]
    simp [eq_comm]
  rw [hf, hr]
  by_cases c2 : n = 4
  · exact .inr ⟨2, by omega, by omega, by rw [c2]; decide, by simp [c2], by simp [c2]⟩
  by_cases c3 : n = 8
  · exact .inr ⟨3, by omega, by omega, by rw [c3]; decide, by simp [c3], by simp [c3]⟩
  by_cases c4 : n = 16
  · exact .inr ⟨4, by omega, by omega, by rw [c4]; decide, by simp [c4], by simp [c4]⟩
  by_cases c5 : n = 32
  · exact .inr ⟨5, by omega, by omega, by rw [c5]; decide, by simp [c5], by simp [c5]⟩
  by_cases c6 : n = 64
  · exact .inr ⟨6, by omega, by omega, by rw [c6]; decide, by simp [c6], by simp [c6]⟩
  exact .inl ⟨by simp [c2, c3, c4, c5, c6], by simp [c2, c3, c4, c5, c6]⟩

/-- Are a number's parts between -2^31 and 2^31? -/
def narrowB (z : CxN) : Bool := decide (-2147483648 ≤ z.f0) && decide (z.f0 ≤ 2147483648) && decide (-2147483648 ≤ z.f1) && decide (z.f1 ≤ 2147483648)
theorem narrowB_le {z : CxN} (h : narrowB z = true) : Le 2147483648 z := by
  simp only [narrowB, Bool.and_eq_true, decide_eq_true_eq] at h
  unfold Le
  omega
/-- The greatest of a number and the parts of another one, all without their signs. -/
def grow (m : Int) (z : CxN) : Int := mx (mx (mx (mx m z.f0) (-z.f0)) z.f1) (-z.f1)
theorem mx_le (a b c : Int) : mx a b ≤ c ↔ a ≤ c ∧ b ≤ c := by unfold mx; split <;> omega
theorem le_mx (a b : Int) : a ≤ mx a b ∧ b ≤ mx a b := by unfold mx; split <;> omega
theorem greatest_three (m : Int) (z : CxN) (k : Nat) (hk : 5 < k) (hm : 0 ≤ m ∧ m ≤ 2147483648) (hz : Le 2147483648 z) : scan_greatest.f k [m, z.f0, z.f1] = some (grow m z) := by
  obtain ⟨k, rfl⟩ : ∃ j, k = j + 4 := ⟨k - 4, by omega⟩
  unfold Le at hz
  have w0 : wrap64 (0 + 1) = 1 := by decide +kernel
  have w1 : wrap64 (1 + 1) = 2 := by decide +kernel
  have w2 : wrap64 (2 + 1) = 3 := by decide +kernel
  unfold scan_greatest.f
  rw [scan_greatest.l0, w0, scan_greatest.l0, w1, scan_greatest.l0, w2, scan_greatest.l0]
  have r0 : rd [m, z.f0, z.f1] 0 = m := rfl
  have r1 : rd [m, z.f0, z.f1] 1 = z.f0 := rfl
  have r2 : rd [m, z.f0, z.f1] 2 = z.f1 := rfl
  rw [r0, r1, r2, HM.wrap64_id (-m) (by omega) (by omega), HM.wrap64_id (-z.f0) (by omega) (by omega), HM.wrap64_id (-z.f1) (by omega) (by omega)]
  have hm0 : mx (mx 0 m) (-m) = m := by unfold mx; split <;> split <;> omega
  rw [hm0]
  simp [grow]
theorem grow_bound {m : Int} {z : CxN} (hm : 0 ≤ m ∧ m ≤ 2147483648) (hz : Le 2147483648 z) : 0 ≤ grow m z ∧ grow m z ≤ 2147483648 := by
  unfold Le at hz
  unfold grow
  have h1 := le_mx m z.f0
  have h2 := le_mx (mx m z.f0) (-z.f0)
  have h3 := le_mx (mx (mx m z.f0) (-z.f0)) z.f1
  have h4 := le_mx (mx (mx (mx m z.f0) (-z.f0)) z.f1) (-z.f1)
  refine ⟨by omega, ?_⟩
  simp only [mx_le]
  omega
/-- The greatest part of numbers, without its sign. -/
def maxAll (l : List CxN) : Int := l.foldl grow 0
theorem maxTo_bound (l : List CxN) (hl : ∀ z ∈ l, Le 2147483648 z) : ∀ m, 0 ≤ m ∧ m ≤ 2147483648 → 0 ≤ l.foldl grow m ∧ l.foldl grow m ≤ 2147483648 := by
  induction l with
  | nil => intro m h; exact h
  | cons z l ih => intro m h; exact ih (fun z hz => hl z (List.mem_cons_of_mem _ hz)) _ (grow_bound h (hl z List.mem_cons_self))
theorem drop_at (l : List CxN) (i : Nat) (h : i < l.length) : l.drop i = cxAt l i :: l.drop (i + 1) := by
  rw [List.drop_eq_getElem_cons h]
  simp [cxAt, h]
theorem scan_loop (l : List CxN) (hl : l.length ≤ 1000000) : ∀ (d i k : Nat) (m : Int), l.length - i = d → i ≤ l.length → d + 10 < k → (0 ≤ m ∧ m ≤ 2147483648) →
    scan_Max.l0 k m l l.length i = if (l.drop i).all narrowB = true then some ((l.drop i).foldl grow m, 0) else some (0, 2) := by
  intro d
  induction d with
  | zero =>
    intro i k m hd hi hk hm
    obtain ⟨k, rfl⟩ : ∃ j, k = j + 1 := ⟨k - 1, by omega⟩
    rw [scan_Max.l0, if_neg (by omega), List.drop_of_length_le (by omega)]
    simp
  | succ d ih =>
    intro i k m hd hi hk hm
    obtain ⟨k, rfl⟩ : ∃ j, k = j + 1 := ⟨k - 1, by omega⟩
    have e2 : ((i : Int) + 1) = ((i + 1 : Nat) : Int) := by norm_cast
    rw [scan_Max.l0, if_pos (by omega), if_pos (by omega), if_pos (by omega), rd_at, drop_at l i (by omega), HM.wrap64_id _ (by omega) (by omega), e2]
    rw [List.all_cons, List.foldl_cons]
    by_cases c : narrowB (cxAt l i) = true
    · have hz := narrowB_le c
      have hz' := hz
      unfold Le at hz'
      have h1 : ¬ mn (cxAt l i).f0 (cxAt l i).f1 < -2147483648 := by unfold mn; split <;> omega
      have h2 : ¬ mx (cxAt l i).f0 (cxAt l i).f1 > 2147483648 := by unfold mx; split <;> omega
      rw [if_neg h1, if_neg h2, greatest_three m _ k (by omega) hm hz, Option.bind_some, ih (i + 1) k _ (by omega) (by omega) (by omega) (grow_bound hm hz), c, Bool.true_and]
    · rw [Bool.not_eq_true] at c
      have hff : ∀ a b : Option (Int × Int), (if false = true then a else b) = b := fun _ _ => rfl
      rw [c, Bool.false_and, hff]
      simp only [narrowB, Bool.and_eq_false_iff, decide_eq_false_iff_not] at c
      by_cases h1 : mn (cxAt l i).f0 (cxAt l i).f1 < -2147483648
      · rw [if_pos h1]
      · rw [if_neg h1]
        have h2 : mx (cxAt l i).f0 (cxAt l i).f1 > 2147483648 := by
          unfold mn at h1
          unfold mx
          split at h1 <;> split <;> omega
        rw [if_pos h2]
theorem scan_val (l : List CxN) (hl : l.length ≤ 1000000) (k : Nat) (hk : l.length + 10 < k) : scan_Max.f k l = if l.all narrowB = true then some (maxAll l, 0) else some (0, 2) := by
  have := scan_loop l hl l.length 0 k 0 (by omega) (by omega) (by omega) (by omega)
  simpa [scan_Max.f, maxAll] using this
theorem narrow_loop (l : List CxN) (hl : l.length ≤ 1000000) : ∀ (d i k : Nat), l.length - i = d → i ≤ l.length → d + 40 < k →
    headroomref09_Narrow.l0 k l l.length i = some ((l.drop i).all narrowB) := by
  intro d
  induction d with
  | zero =>
    intro i k hd hi hk
    obtain ⟨k, rfl⟩ : ∃ j, k = j + 1 := ⟨k - 1, by omega⟩
    rw [headroomref09_Narrow.l0, if_neg (by omega), List.drop_of_length_le (by omega)]
    rfl
  | succ d ih =>
    intro i k hd hi hk
    obtain ⟨k, rfl⟩ : ∃ j, k = j + 1 := ⟨k - 1, by omega⟩
    have e2 : ((i : Int) + 1) = ((i + 1 : Nat) : Int) := by norm_cast
    have e31 : headroomref01_Pow.f k 31 = some 2147483648 := ref_pow' 31 k (by omega) (by omega) (by omega)
    have wn : wrap64 (-2147483648) = -2147483648 := by decide +kernel
    rw [headroomref09_Narrow.l0, if_pos (by omega), if_pos (by omega), if_pos (by omega), rd_at, drop_at l i (by omega), HM.wrap64_id _ (by omega) (by omega), e2, e31, Option.bind_some]
    have hw : headroomref03_Within.f (cxAt l i).f0 (cxAt l i).f1 2147483648 = some (narrowB (cxAt l i)) := by
      unfold headroomref03_Within.f narrowB
      rw [wn]
      by_cases c1 : (cxAt l i).f0 ≤ 2147483648 <;> by_cases c2 : -2147483648 ≤ (cxAt l i).f0 <;> by_cases c3 : (cxAt l i).f1 ≤ 2147483648 <;> by_cases c4 : -2147483648 ≤ (cxAt l i).f1 <;> simp [c1, c2, c3, c4]
    rw [hw, Option.bind_some, List.all_cons]
    cases narrowB (cxAt l i)
    · simp
    · rw [if_pos rfl, ih (i + 1) k (by omega) (by omega) (by omega)]
      simp
theorem narrow_val (l : List CxN) (hl : l.length ≤ 1000000) (k : Nat) (hk : l.length + 40 < k) : headroomref09_Narrow.f k l = some (l.all narrowB) := by
  have := narrow_loop l hl l.length 0 k (by omega) (by omega) (by omega)
  simpa [headroomref09_Narrow.f] using this
end Go.Proofs.Ytpmkkidljmedaaa.X
namespace Go.Proofs.Ytpmkkidljmedaaa.X
open Go.RowKit Go.Proofs.YtpmkkidljmedaaaW.PrintWords Go.Proofs.YtpmkkidljmedaaaW.PrintLast Go.Proofs.YtpmkkidljmedaaaW.PrintMore
set_option linter.unusedVariables false

def sameCxs : List CxN → List CxN → Bool
  | [], [] => true
  | x :: a, y :: b => (x.f0 == y.f0) && (x.f1 == y.f1) && sameCxs a b
  | _, _ => false
theorem sameCxs_eq : ∀ a b : List CxN, sameCxs a b = true → a = b
  | [], [], _ => rfl
  | x :: a, y :: b, h => by
    simp only [sameCxs, Bool.and_eq_true, beq_iff_eq] at h
    obtain ⟨⟨h0, h1⟩, h2⟩ := h
    rw [sameCxs_eq a b h2]
    cases x; cases y
    simp only at h0 h1
    rw [h0, h1]
  | [], _ :: _, h => by simp [sameCxs] at h
  | _ :: _, [], h => by simp [sameCxs] at h
def cxLe (m : Int) (x : CxN) : Bool := decide (-m ≤ x.f0) && decide (x.f0 ≤ m) && decide (-m ≤ x.f1) && decide (x.f1 ≤ m)
/-- Both tables come, are the same, as long as they should be, and no part is greater than 1. -/
def tabsOk (log bits : Int) : Bool := match roots_Table.f log bits, headroomref07_Table.f 200 log bits with
  | some (a, e), some b => (e == 0) && sameCxs a b && (a.length == 2 ^ log.toNat) && a.all (cxLe (2 ^ bits.toNat))
  | _, _ => false
theorem tabsOk_spec {e : Nat} {bits : Int} (h : tabsOk e bits = true) : ∃ t : List CxN, roots_Table.f e bits = some (t, 0) ∧ headroomref07_Table.f 200 e bits = some t ∧ t.length = 2 ^ e ∧ ∀ x ∈ t, -(2 ^ bits.toNat) ≤ x.f0 ∧ x.f0 ≤ 2 ^ bits.toNat ∧ -(2 ^ bits.toNat) ≤ x.f1 ∧ x.f1 ≤ 2 ^ bits.toNat := by
  unfold tabsOk at h
  split at h
  · rename_i a er b h1 h2
    simp only [Bool.and_eq_true, beq_iff_eq, Int.toNat_natCast] at h
    obtain ⟨⟨⟨rfl, hs⟩, hl⟩, ha⟩ := h
    have := sameCxs_eq _ _ hs
    subst this
    refine ⟨a, h1, h2, hl, fun x hx => ?_⟩
    have := List.all_eq_true.1 ha x hx
    simp only [cxLe, Bool.and_eq_true, decide_eq_true_eq] at this
    omega
  · cases h
end Go.Proofs.Ytpmkkidljmedaaa.X
namespace Go.Proofs.Ytpmkkidljmedaaa.X
open Go.RowKit Go.Proofs.YtpmkkidljmedaaaW.PrintWords Go.Proofs.YtpmkkidljmedaaaW.PrintLast Go.Proofs.YtpmkkidljmedaaaW.PrintMore
theorem tabs_2_40 : tabsOk 2 40 = true := by kernel_rfl
theorem tabs_3_40 : tabsOk 3 40 = true := by kernel_rfl
theorem tabs_4_40 : tabsOk 4 40 = true := by kernel_rfl
theorem tabs_5_40 : tabsOk 5 40 = true := by kernel_rfl
theorem tabs_6_40 : tabsOk 6 40 = true := by kernel_rfl
theorem tabs_40 (e : Nat) (h0 : 2 ≤ e) (h1 : e ≤ 6) : tabsOk e 40 = true := by
  obtain rfl | rfl | rfl | rfl | rfl : e = 2 ∨ e = 3 ∨ e = 4 ∨ e = 5 ∨ e = 6 := by omega
  · exact tabs_2_40
  · exact tabs_3_40
  · exact tabs_4_40
  · exact tabs_5_40
  · exact tabs_6_40
end Go.Proofs.Ytpmkkidljmedaaa.X
namespace Go.Proofs.Ytpmkkidljmedaaa.Pure
open Go.RowKit Go.Proofs.Ytpmkkidljmedaaa.X Go.Proofs.YtpmkkidljmedaaaW.PrintWords Go.Proofs.YtpmkkidljmedaaaW.PrintLast Go.Proofs.YtpmkkidljmedaaaW.PrintMore
set_option linter.unusedVariables false

theorem map_range' {α : Type} (f : Nat → α) (i d : Nat) : (List.range' i (d + 1)).map f = f i :: (List.range' (i + 1) d).map f := by
  rw [List.range'_succ, List.map_cons]
section
variable {l t : List CxN} {n e : Nat}
theorem all_loop (hl : ∀ x ∈ l, Le 2147483648 x) (ht : ∀ x ∈ t, Le 1099511627776 x) (he : e ≤ 6) (hn : n = 2 ^ e) (hln : l.length = n) (htn : t.length = n) (inv : Bool) : ∀ (d i K : Nat) (acc : List CxN), n - i = d → i ≤ n → d + 10 < K → acc.length ≤ i →
    dft_All.l0 K l inv t acc n i = some (acc ++ (List.range' i d).map (binV l t n inv), 0) := by
  have h64 : n ≤ 64 := by
    have : 2 ^ e ≤ 2 ^ 6 := Nat.pow_le_pow_right (by omega) he
    omega
  intro d
  induction d with
  | zero =>
    intro i K acc hd hi hK ha
    obtain ⟨K, rfl⟩ : ∃ j, K = j + 1 := ⟨K - 1, by omega⟩
    rw [dft_All.l0, if_neg (by omega)]
    simp
  | succ d ih =>
    intro i K acc hd hi hK ha
    obtain ⟨K, rfl⟩ : ∃ j, K = j + 1 := ⟨K - 1, by omega⟩
    have e2 : ((i : Int) + 1) = ((i + 1 : Nat) : Int) := by norm_cast
    rw [dft_All.l0, if_pos (by omega), prog_bin hl ht he hn hln htn i (by omega) inv, Option.bind_some, if_pos (by omega), HM.wrap64_id _ (by omega) (by omega), e2,
      ih (i + 1) K _ (by omega) (by omega) (by omega) (by rw [List.length_append]; simp; omega), map_range', List.append_assoc]
    rfl
theorem refall_loop (hl : ∀ x ∈ l, Le 2147483648 x) (ht : ∀ x ∈ t, Le 1099511627776 x) (h64 : n ≤ 64) (hln : l.length = n) (htn : t.length = n) (inv : Bool) : ∀ (d i K : Nat) (acc : List CxN), n - i = d → i ≤ n → d + 110 < K → acc.length ≤ i →
    headroomref16_All.l0 K l inv t acc n i = some (acc ++ (List.range' i d).map (binV l t n inv)) := by
  intro d
  induction d with
  | zero =>
    intro i K acc hd hi hK ha
    obtain ⟨K, rfl⟩ : ∃ j, K = j + 1 := ⟨K - 1, by omega⟩
    rw [headroomref16_All.l0, if_neg (by omega)]
    simp
  | succ d ih =>
    intro i K acc hd hi hK ha
    obtain ⟨K, rfl⟩ : ∃ j, K = j + 1 := ⟨K - 1, by omega⟩
    have e2 : ((i : Int) + 1) = ((i + 1 : Nat) : Int) := by norm_cast
    rw [headroomref16_All.l0, if_pos (by omega), ref_bin hl ht hln htn h64 i (by omega) inv K (by omega), Option.bind_some, if_pos (by omega), HM.wrap64_id _ (by omega) (by omega), e2,
      ih (i + 1) K _ (by omega) (by omega) (by omega) (by rw [List.length_append]; simp; omega), map_range', List.append_assoc]
    rfl
end
theorem alive16 : headroomlaw16_alive.f 200 = some true := by kernel_rfl

/-- Where numbers may be, and what both tell. -/
theorem all_same (l : List CxN) (hl : l.length ≤ 70) (inv : Bool) : (∃ c : Int, c ≠ 0 ∧ headroomref16_May.f 200 l = some c ∧ dft_All.f 200 l inv = some ([], c)) ∨
    ∃ out : List CxN, headroomref16_May.f 200 l = some 0 ∧ dft_All.f 200 l inv = some (out, 0) ∧ headroomref16_All.f 200 l inv = some out ∧ out.length ≤ 64 := by
  unfold headroomref16_May.f dft_All.f dft_may.f headroomref16_All.f headroomref16_Roots.f
  rcases logs (l.length : Int) 200 (by omega) with ⟨h1, h2⟩ | ⟨e, he2, he6, hn, h1, h2⟩
  · exact .inl ⟨3, by omega, by rw [h2]; rfl, by rw [h1]; rfl⟩
  · rw [h1, h2]
    have hnn : l.length = 2 ^ e := by
      have : ((2 ^ e : Nat) : Int) = (l.length : Int) := by rw [hn]; norm_cast
      omega
    have h64 : l.length ≤ 64 := by
      have : 2 ^ e ≤ 2 ^ 6 := Nat.pow_le_pow_right (by omega) he6
      omega
    rw [Option.bind_some, Option.bind_some, Option.bind_some, if_neg (by omega), if_pos rfl, narrow_val l (by omega) 200 (by omega), scan_val l (by omega) 200 (by omega), Option.bind_some]
    cases hb : l.all narrowB with
    | false => exact .inl ⟨2, by omega, by simp, by simp⟩
    | true =>
      have hle : ∀ x ∈ l, Le 2147483648 x := fun x hx => narrowB_le (List.all_eq_true.1 hb x hx)
      obtain ⟨t, ht1, ht2, ht3, ht4⟩ := tabsOk_spec (tabs_40 e he2 he6)
      have ht : ∀ x ∈ t, Le 1099511627776 x := fun x hx => ht4 x hx
      refine .inr ⟨(List.range' 0 l.length).map (binV l t l.length inv), by simp, ?_, ?_, by simp; omega⟩
      · have hx := all_loop hle ht he6 hnn rfl (by omega) inv l.length 0 200 [] (by omega) (by omega) (by omega) (by simp)
        simp only [List.nil_append, Int.natCast_zero] at hx
        simp [ht1, hx]
      · have hx := refall_loop hle ht h64 rfl (by omega) inv l.length 0 200 [] (by omega) (by omega) (by omega) (by simp)
        simp only [List.nil_append, Int.natCast_zero] at hx
        simp [ht2, hx]
theorem DftAll : ∀ (l0 : List CxN) (a1 : Bool), l0.length ≤ maxLen → (∀ z ∈ l0, WfCx z) → ∃ k, headroomlaw16_DftAll.f k l0 a1 = some true := by
  intro l0 a1 hl hw
  refine ⟨200, ?_⟩
  unfold headroomlaw16_DftAll.f
  have hm0 : 0 ≤ mn (l0.length : Int) 70 := by unfold mn; split <;> omega
  have hm1 : mn (l0.length : Int) 70 ≤ l0.length := by unfold mn; split <;> omega
  have hm2 : mn (l0.length : Int) 70 ≤ 70 := by unfold mn; split <;> omega
  rw [if_pos hm0, if_pos hm1, Option.bind_some]
  have hlen : (l0.take (mn (l0.length : Int) 70).toNat).length ≤ 70 := by
    rw [List.length_take]
    omega
  generalize l0.take (mn (l0.length : Int) 70).toNat = l at hlen
  rcases all_same l hlen a1 with ⟨c, hc, h1, h2⟩ | ⟨out, h1, h2, h3, h4⟩
  · rw [h2, Option.bind_some, h1, Option.bind_some, if_neg hc, alive16, Option.bind_some, if_pos rfl, if_pos rfl]
    rfl
  · rw [h2, Option.bind_some, h1, Option.bind_some, if_pos rfl, alive16, Option.bind_some, if_pos rfl, if_pos rfl, h3, Option.bind_some, ref_same out 200 (by omega) (by omega)]
    rfl
end Go.Proofs.Ytpmkkidljmedaaa.Pure
namespace Go.Proofs.Ytpmkkidljmedaaa.dftAll
open Go.ChangeShapes Go.WideShapes Go.ChangeAt Go.RowKit Go.Proofs.Ytpmkkidljmedaaa.X Go.Proofs.YtpmkkidljmedaaaW.PrintWords
set_option linter.unusedVariables false
theorem own : ownKnob Try.prog.godebug = none := by kernel_rfl
theorem laidOut : laidOutB Try.prog = true := by kernel_rfl
set_option maxRecDepth 100000 in
theorem lifted (os : Os) (started : os.Started) (H : Type) (enc : TypeId × Value → H) :
    ReturnsInHanded {} Try.checked os 3 .any (Rows.dftAllSpec.pre6 enc Try.prog Try.f3 Rows.dftAllRow.domain false) (Rows.dftAllSpec.post enc Try.prog Try.f3 false true false false) := by
  refine returnsInHanded_of_change_sized (C := Try.checked) own started (by kernel_rfl) Try.func3
    (ChangeSpec.witness6 (enc := enc) (C := Try.checked) false ⟨#[], #[.slice none 0 0, .bool false], []⟩ 8 (by kernel_rfl) (by kernel_rfl) (by kernel_rfl) (by kernel_rfl)) ?_
  intro W base args ds gs before hval0 hW hcnd hsz0 _
  have hval : ∀ (j : Nat) t v, Try.f3.params[j]? = some t → args[j]? = some v → Value.okWide Try.prog W .any base t v := hval0
  have hW' := hW
  obtain ⟨p, q, hA0, hV, rfl, hfz, hnd⟩ := hW
  have hA : DataW.TrodAll enc Try.prog W 0 (fun _ => true) true Try.f3.params.toList args.toList ds p := hA0
  rw [Try.params3] at hA hval
  obtain ⟨v0, vs0, d0, ds0, p0, q0, hargs, rfl, rfl, h0, r0⟩ := trodAll_cons hA
  obtain ⟨v1, vs1, d1, ds1, p1, q1, rfl, rfl, rfl, h1, r1⟩ := trodAll_cons r0
  obtain ⟨rfl, rfl, rfl⟩ := trodAll_nil r1
  obtain rfl : args = #[v0, v1] := by cases args; simp_all
  obtain ⟨rfl, rfl⟩ := trodVars_none hV
  obtain ⟨a0, len0, cap0, rfl⟩ := okWide_slice Try.underlying22 (hval 0 22 v0 rfl rfl)
  have k0 := h0
  have lt0 : ∀ x ∈ p0, x.block < W.heap.size := by obtain ⟨m, hm⟩ := k0; exact DataW.trod_lt m _ _ _ hm
  obtain ⟨z0, rfl, y0, m0, c0, w0⟩ := open_cxs h0
  obtain ⟨a1, rfl, rfl, rfl⟩ := open_bool Try.underlying4 (hval 1 4 v1 rfl rfl) h1
  clear hA0 hval0 hsz0
  obtain ⟨k, hk⟩ := Pure.DftAll z0 a1 m0 w0
  refine (headroomlaw16_DftAll.calls k a0 cap0 z0 a1 true W c0 y0 hk).mono fun e W' ⟨he, bel⟩ => ?_
  subst he
  exact ⟨_, rfl, _, _, _, [], _, [], hW', trodAll_mk1 (shut_bool Try.underlying4 _), (trodAll_cons_mk (Below.trod laidOut (by kernel_rfl) (of_decide_eq_true (by kernel_rfl)) k0 bel lt0) (trodAll_cons_mk (shut_bool Try.underlying4 _) trodAll_mk0)), rfl, bel.frame _, fun h => by cases h⟩
theorem over : Rows.dftAllRow.holds Try.pinned (OpenSpec.ofChange Rows.dftAllSpec) :=
  OpenClaim.holds_of_wide 3 Try.f3 rfl rfl rfl rfl rfl rfl rfl ⟨rfl, rfl, rfl, rfl, rfl⟩ rfl rfl rfl rfl rfl (by kernel_rfl) Try.func3 (by kernel_rfl)
    (of_decide_eq_true (by kernel_rfl)) (by unfold Func.isWrapper; first | (rw [if_pos (by decide +kernel)]; kernel_rfl) | (rw [if_neg (by decide +kernel)]; exact ⟨rfl, rfl⟩))
    (fun os started H enc _ => lifted os started H enc)
theorem proved : Rows.DftAllSaid := over
end Go.Proofs.Ytpmkkidljmedaaa.dftAll
namespace Go.Proofs.Ytpmkkidljmedaaa
/-- The given statement. -/
theorem dftAll_holds : Rows.DftAllSaid := dftAll.proved
#print axioms dftAll_holds
end Go.Proofs.Ytpmkkidljmedaaa
