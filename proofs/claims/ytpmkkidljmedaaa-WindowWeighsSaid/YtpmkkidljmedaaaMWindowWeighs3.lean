/- Part 3 of 4 of the proof of the given statement WindowWeighs: for each function that it reaches, its answers as a plain Lean function, and that the machine's call comes to exactly these answers. No conditions but those in the statements. -/
import Derived.Test.YtpmkkidljmedaaaMWindowWeighs2
import Derived.KernelRfl
namespace Go.Proofs.Ytpmkkidljmedaaa.X
open Go.RowKit Go.Proofs.YtpmkkidljmedaaaW.PrintWords Go.Proofs.YtpmkkidljmedaaaW.PrintLast Go.Proofs.YtpmkkidljmedaaaW.PrintMore
attribute [local go_sem] max2_int min2_int max_two min_two max_three min_three max_four min_four   -- for this text's walks alone
set_option linter.unusedVariables false
set_option linter.unusedSimpArgs false

/-! ### headroomref01_Shift: function 48 -/
def headroomref01_Shift.j0 : Nat → Int → Int → Int → Int → Bool → Option (Int)
  | 0, _, _, _, _, _ => none
  | k + 1, x0, x1, x2, x7, x18 => if x18 = true then (some x7) else ((headroomref01_Pow.f k x1).bind fun t2 => ((headroomref01_Pow.f k (wrap64 (x1 - 1))).bind fun t3 => (if (wrap64 (x0 - (wrap64 (x7 * t2)))) > t3 then (some (wrap64 (x7 + 1))) else (if (wrap64 (x0 - (wrap64 (x7 * t2)))) = t3 then (if x2 = 1 then (some (wrap64 (x7 + 1))) else ((headroomref01_odd.f x7).bind fun t4 => (if t4 = true then (some (wrap64 (x7 + 1))) else (some x7)))) else (some x7)))))
def headroomref01_Shift.f (k : Nat) (a0 : Int) (a1 : Int) (a2 : Int) : Option (Int) := (headroomref01_Floor.f k a0 a1).bind fun t1 => (if a1 = 0 then (headroomref01_Shift.j0 k a0 a1 a2 t1 true) else (headroomref01_Shift.j0 k a0 a1 a2 t1 (a2 == 0)))
theorem headroomref01_Shift.mono_l : ∀ k, (∀ y0 y1 y2 y3 y4, LeO (headroomref01_Shift.j0 k y0 y1 y2 y3 y4) (headroomref01_Shift.j0 (k + 1) y0 y1 y2 y3 y4))
  | 0 => fun _ _ _ _ _ r h => by simp [headroomref01_Shift.j0] at h
  | k + 1 => by
    have ih0 := headroomref01_Shift.mono_l k
    · intro y0 y1 y2 y3 y4
      unfold headroomref01_Shift.j0
      repeat' first
      | (with_reducible exact ih0 _ _ _ _ _)
      | (with_reducible exact headroomref01_Floor.mono _ _ _)
      | (with_reducible exact headroomref01_Pow.mono _ _)
      | (with_reducible exact LeO.refl _)
      | (with_reducible exact LeO.none _)
      | (with_reducible refine LeO.ite ?_ ?_)
      | (with_reducible refine LeO.bind ?_ (fun _ => ?_))
      | exact ih0 _ _ _ _ _
      | exact headroomref01_Floor.mono _ _ _
      | exact headroomref01_Pow.mono _ _
      | exact LeO.none _
      | refine LeO.ite ?_ ?_
      | refine LeO.bind ?_ (fun _ => ?_)
theorem headroomref01_Shift.mono : ∀ a0 a1 a2 k, LeO (headroomref01_Shift.f k a0 a1 a2) (headroomref01_Shift.f (k + 1) a0 a1 a2) := by
  intro a0 a1 a2 k
  have ih0 := headroomref01_Shift.mono_l k
  unfold headroomref01_Shift.f
  repeat' first
      | (with_reducible exact ih0 _ _ _ _ _)
      | (with_reducible exact headroomref01_Floor.mono _ _ _)
      | (with_reducible exact headroomref01_Pow.mono _ _)
      | (with_reducible exact LeO.refl _)
      | (with_reducible exact LeO.none _)
      | (with_reducible refine LeO.ite ?_ ?_)
      | (with_reducible refine LeO.bind ?_ (fun _ => ?_))
      | exact ih0 _ _ _ _ _
      | exact headroomref01_Floor.mono _ _ _
      | exact headroomref01_Pow.mono _ _
      | exact LeO.none _
      | refine LeO.ite ?_ ?_
      | refine LeO.bind ?_ (fun _ => ?_)
set_option maxHeartbeats 8000000 in
set_option maxRecDepth 100000 in
theorem headroomref01_Shift.calls (k : Nat) (a0 : Int) (a1 : Int) (a2 : Int) (r : Int) (w : World) (h : headroomref01_Shift.f k a0 a1 a2 = some r) :
    Calls Try.prog 48 #[.int .i64 a0, .int .i64 a1, .int .i64 a2] w fun e w' => e = .returned (.int .i64 r) ∧ Drawn0 w w' := by
  have H : ((headroomref01_Floor.f k a0 a1).bind fun t1 => (if a1 = 0 then (headroomref01_Shift.j0 k a0 a1 a2 t1 true) else (headroomref01_Shift.j0 k a0 a1 a2 t1 (a2 == 0)))) = some r := h
  clear h
  replace H := Option.bind_eq_some_iff.mp H
  obtain ⟨t1, A40, H⟩ := H
  replace H : (if a1 = 0 then (headroomref01_Shift.j0 k a0 a1 a2 t1 true) else (headroomref01_Shift.j0 k a0 a1 a2 t1 (a2 == 0))) = some r := H
  have A4 := Aside0.mk A40
  clear A40
  have HC5 := Aside0.mk H
  clear H
  go_enter Try.func48, Try.ntmps48
  go_upto_region 2 with (first | ((with_reducible refine gate_callee (f := 83) rfl ?_); refine goesL_ (some 12) rfl rfl Try.func83 (by kernel_rfl) rfl #[.int .i64 a0, .int .i64 a1] rfl (by (try simp only [List.map_toArray, List.map_cons, List.map_nil]); first | done | rfl | (simp only [List.length_drop, List.length_take]; rfl)) ?_; (with_reducible refine (headroomref01_Floor.calls k a0 a1 t1 _ A4.out).mono ?_); rintro e w' ⟨rfl, ⟨nd, rfl⟩⟩; refine ⟨_, rfl, ?_⟩))
  (try simp only [Act.put, List.setIfInBounds_toArray, List.set_cons_zero, List.set_cons_succ])
  go_cut [18] (fun v18 wc => ∃ (kq : Nat) (x18_4 : Bool), v18 = .bool x18_4 ∧ Aside0 (headroomref01_Shift.j0 kq a0 a1 a2 t1 x18_4 = some r) ∧ Aside0 (kq ≤ k) ∧ Drawn0 w wc)
  case first =>
    have H := HC5.out
    clear HC5
    by_cases c6 : a1 = 0
    · rw [if_pos c6] at H
      have c6b0 : (a1 == 0) = true := beq_iff_eq.mpr c6
      have c6b1 : (a1 != 0) = false := bne_eq_false_iff_eq.mpr c6
      clear c6
      (first | rw [c6b0] | (simp only [i64_w, i32_w]; rw [c6b0]) | skip)
      have H' := Aside0.mk H
      clear H
      go_wp2
      go_meet
      case rel => exact ⟨_, (true), (by first | rfl | (simp; done) | (simp [*]; done)), H', ⟨by first | omega | exact Nat.le_refl _⟩, by repeat (first | exact Drawn0.refl _ | apply Drawn0.step)⟩
    · rw [if_neg c6] at H
      have c6b0 : (a1 == 0) = false := beq_eq_false_iff_ne.mpr c6
      have c6b1 : (a1 != 0) = true := bne_iff_ne.mpr c6
      (first | rw [c6b0] | (simp only [i64_w, i32_w]; rw [c6b0]) | skip)
      have H' := Aside0.mk H
      clear H
      go_wp2
      go_meet
      case rel => exact ⟨_, ((a2 == 0)), (by first | rfl | (simp; done) | (simp [*]; done)), H', ⟨by first | omega | exact Nat.le_refl _⟩, by repeat (first | exact Drawn0.refl _ | apply Drawn0.step)⟩
  case rest =>
    clear HC5
    try clear p2
    try clear c4
    try clear c6
    try clear c6b0
    try clear c6b1
    obtain ⟨kq, x18_4, rfl, HA, HJ4, ⟨mc4, rfl⟩⟩ := hcut
    cases kq with
    | zero => exact absurd HA.out (by simp [headroomref01_Shift.j0])
    | succ kj4 =>
      have H := HA.out
      clear HA
      simp only [headroomref01_Shift.j0] at H
      by_cases c7 : x18_4 = true
      · subst c7
        have H1 : (some t1) = some r := by rw [if_pos rfl] at H; exact H
        clear H
        have H := H1
        clear H1
        obtain rfl := Option.some.inj H
        go_wp2
        go_ret
        exact ⟨by first | rfl | (simp; done) | (simp [*]; done), by repeat (first | exact Drawn0.refl _ | apply Drawn0.step)⟩
      · replace c7 := Bool.eq_false_iff.mpr c7
        subst c7
        have H1 : ((headroomref01_Pow.f kj4 a1).bind fun t2 => ((headroomref01_Pow.f kj4 (wrap64 (a1 - 1))).bind fun t3 => (if (wrap64 (a0 - (wrap64 (t1 * t2)))) > t3 then (some (wrap64 (t1 + 1))) else (if (wrap64 (a0 - (wrap64 (t1 * t2)))) = t3 then (if a2 = 1 then (some (wrap64 (t1 + 1))) else ((headroomref01_odd.f t1).bind fun t4 => (if t4 = true then (some (wrap64 (t1 + 1))) else (some t1)))) else (some t1))))) = some r := by rw [if_neg (show ¬ (false = true) by decide)] at H; exact H
        clear H
        have H := H1
        clear H1
        replace H := Option.bind_eq_some_iff.mp H
        obtain ⟨t2, A80, H⟩ := H
        replace H : ((headroomref01_Pow.f kj4 (wrap64 (a1 - 1))).bind fun t3 => (if (wrap64 (a0 - (wrap64 (t1 * t2)))) > t3 then (some (wrap64 (t1 + 1))) else (if (wrap64 (a0 - (wrap64 (t1 * t2)))) = t3 then (if a2 = 1 then (some (wrap64 (t1 + 1))) else ((headroomref01_odd.f t1).bind fun t4 => (if t4 = true then (some (wrap64 (t1 + 1))) else (some t1)))) else (some t1)))) = some r := H
        have A8 := Aside0.mk A80
        clear A80
        replace H := Option.bind_eq_some_iff.mp H
        obtain ⟨t3, A90, H⟩ := H
        replace H : (if (wrap64 (a0 - (wrap64 (t1 * t2)))) > t3 then (some (wrap64 (t1 + 1))) else (if (wrap64 (a0 - (wrap64 (t1 * t2)))) = t3 then (if a2 = 1 then (some (wrap64 (t1 + 1))) else ((headroomref01_odd.f t1).bind fun t4 => (if t4 = true then (some (wrap64 (t1 + 1))) else (some t1)))) else (some t1))) = some r := H
        have A9 := Aside0.mk A90
        clear A90
        by_cases c10 : (wrap64 (a0 - (wrap64 (t1 * t2)))) > t3
        · rw [if_pos c10] at H
          have c10b0 : decide (t3 < (wrap64 (a0 - (wrap64 (t1 * t2))))) = true := decide_eq_true c10
          clear c10
          obtain rfl := Option.some.inj H
          go_wp2_with (first | ((with_reducible refine gate_callee (f := 56) rfl ?_); refine goesL_ (some 23) rfl rfl Try.func56 (by kernel_rfl) rfl #[.int .i64 a1] rfl (by (try simp only [List.map_toArray, List.map_cons, List.map_nil]); first | done | rfl | (simp only [List.length_drop, List.length_take]; rfl)) ?_; (with_reducible refine (headroomref01_Pow.calls kj4 a1 t2 _ A8.out).mono ?_); rintro e w' ⟨rfl, ⟨nd, rfl⟩⟩; refine ⟨_, rfl, ?_⟩) | ((with_reducible refine gate_callee (f := 56) rfl ?_); refine goesL_ (some 28) rfl rfl Try.func56 (by kernel_rfl) rfl #[.int .i64 (wrap64 (a1 - 1))] rfl (by (try simp only [List.map_toArray, List.map_cons, List.map_nil]); first | done | rfl | (simp only [List.length_drop, List.length_take]; rfl)) ?_; (with_reducible refine (headroomref01_Pow.calls kj4 (wrap64 (a1 - 1)) t3 _ A9.out).mono ?_); rintro e w' ⟨rfl, ⟨nd, rfl⟩⟩; refine ⟨_, rfl, ?_⟩))
          go_ret
          exact ⟨by first | rfl | (simp; done) | (simp [*]; done), by repeat (first | exact Drawn0.refl _ | apply Drawn0.step)⟩
        · rw [if_neg c10] at H
          have c10b0 : decide (t3 < (wrap64 (a0 - (wrap64 (t1 * t2))))) = false := decide_eq_false c10
          clear c10
          by_cases c11 : (wrap64 (a0 - (wrap64 (t1 * t2)))) = t3
          · rw [if_pos c11] at H
            have c11b0 : ((wrap64 (a0 - (wrap64 (t1 * t2)))) == t3) = true := beq_iff_eq.mpr c11
            have c11b1 : ((wrap64 (a0 - (wrap64 (t1 * t2)))) != t3) = false := bne_eq_false_iff_eq.mpr c11
            clear c11
            by_cases c12 : a2 = 1
            · rw [if_pos c12] at H
              have c12b0 : (a2 == 1) = true := beq_iff_eq.mpr c12
              have c12b1 : (a2 != 1) = false := bne_eq_false_iff_eq.mpr c12
              clear c12
              obtain rfl := Option.some.inj H
              go_wp2_with (first | ((with_reducible refine gate_callee (f := 56) rfl ?_); refine goesL_ (some 23) rfl rfl Try.func56 (by kernel_rfl) rfl #[.int .i64 a1] rfl (by (try simp only [List.map_toArray, List.map_cons, List.map_nil]); first | done | rfl | (simp only [List.length_drop, List.length_take]; rfl)) ?_; (with_reducible refine (headroomref01_Pow.calls kj4 a1 t2 _ A8.out).mono ?_); rintro e w' ⟨rfl, ⟨nd, rfl⟩⟩; refine ⟨_, rfl, ?_⟩) | ((with_reducible refine gate_callee (f := 56) rfl ?_); refine goesL_ (some 28) rfl rfl Try.func56 (by kernel_rfl) rfl #[.int .i64 (wrap64 (a1 - 1))] rfl (by (try simp only [List.map_toArray, List.map_cons, List.map_nil]); first | done | rfl | (simp only [List.length_drop, List.length_take]; rfl)) ?_; (with_reducible refine (headroomref01_Pow.calls kj4 (wrap64 (a1 - 1)) t3 _ A9.out).mono ?_); rintro e w' ⟨rfl, ⟨nd, rfl⟩⟩; refine ⟨_, rfl, ?_⟩))
              go_ret
              exact ⟨by first | rfl | (simp; done) | (simp [*]; done), by repeat (first | exact Drawn0.refl _ | apply Drawn0.step)⟩
            · rw [if_neg c12] at H
              have c12b0 : (a2 == 1) = false := beq_eq_false_iff_ne.mpr c12
              have c12b1 : (a2 != 1) = true := bne_iff_ne.mpr c12
              replace H := Option.bind_eq_some_iff.mp H
              obtain ⟨t4, A130, H⟩ := H
              replace H : (if t4 = true then (some (wrap64 (t1 + 1))) else (some t1)) = some r := H
              have A13 := Aside0.mk A130
              clear A130
              by_cases c14 : t4 = true
              · subst c14
                have H1 : (some (wrap64 (t1 + 1))) = some r := by rw [if_pos rfl] at H; exact H
                clear H
                have H := H1
                clear H1
                obtain rfl := Option.some.inj H
                go_wp2_with (first | ((with_reducible refine gate_callee (f := 56) rfl ?_); refine goesL_ (some 23) rfl rfl Try.func56 (by kernel_rfl) rfl #[.int .i64 a1] rfl (by (try simp only [List.map_toArray, List.map_cons, List.map_nil]); first | done | rfl | (simp only [List.length_drop, List.length_take]; rfl)) ?_; (with_reducible refine (headroomref01_Pow.calls kj4 a1 t2 _ A8.out).mono ?_); rintro e w' ⟨rfl, ⟨nd, rfl⟩⟩; refine ⟨_, rfl, ?_⟩) | ((with_reducible refine gate_callee (f := 56) rfl ?_); refine goesL_ (some 28) rfl rfl Try.func56 (by kernel_rfl) rfl #[.int .i64 (wrap64 (a1 - 1))] rfl (by (try simp only [List.map_toArray, List.map_cons, List.map_nil]); first | done | rfl | (simp only [List.length_drop, List.length_take]; rfl)) ?_; (with_reducible refine (headroomref01_Pow.calls kj4 (wrap64 (a1 - 1)) t3 _ A9.out).mono ?_); rintro e w' ⟨rfl, ⟨nd, rfl⟩⟩; refine ⟨_, rfl, ?_⟩) | (go_at_call 84; (with_reducible refine (headroomref01_odd.calls t1 true _ A13.out).mono ?_); rintro e w' ⟨rfl, ⟨nd, rfl⟩⟩))
                go_ret
                exact ⟨by first | rfl | (simp; done) | (simp [*]; done), by repeat (first | exact Drawn0.refl _ | apply Drawn0.step)⟩
              · replace c14 := Bool.eq_false_iff.mpr c14
                subst c14
                have H1 : (some t1) = some r := by rw [if_neg (show ¬ (false = true) by decide)] at H; exact H
                clear H
                have H := H1
                clear H1
                obtain rfl := Option.some.inj H
                go_wp2_with (first | ((with_reducible refine gate_callee (f := 56) rfl ?_); refine goesL_ (some 23) rfl rfl Try.func56 (by kernel_rfl) rfl #[.int .i64 a1] rfl (by (try simp only [List.map_toArray, List.map_cons, List.map_nil]); first | done | rfl | (simp only [List.length_drop, List.length_take]; rfl)) ?_; (with_reducible refine (headroomref01_Pow.calls kj4 a1 t2 _ A8.out).mono ?_); rintro e w' ⟨rfl, ⟨nd, rfl⟩⟩; refine ⟨_, rfl, ?_⟩) | ((with_reducible refine gate_callee (f := 56) rfl ?_); refine goesL_ (some 28) rfl rfl Try.func56 (by kernel_rfl) rfl #[.int .i64 (wrap64 (a1 - 1))] rfl (by (try simp only [List.map_toArray, List.map_cons, List.map_nil]); first | done | rfl | (simp only [List.length_drop, List.length_take]; rfl)) ?_; (with_reducible refine (headroomref01_Pow.calls kj4 (wrap64 (a1 - 1)) t3 _ A9.out).mono ?_); rintro e w' ⟨rfl, ⟨nd, rfl⟩⟩; refine ⟨_, rfl, ?_⟩) | (go_at_call 84; (with_reducible refine (headroomref01_odd.calls t1 false _ A13.out).mono ?_); rintro e w' ⟨rfl, ⟨nd, rfl⟩⟩))
                go_ret
                exact ⟨by first | rfl | (simp; done) | (simp [*]; done), by repeat (first | exact Drawn0.refl _ | apply Drawn0.step)⟩
          · rw [if_neg c11] at H
            have c11b0 : ((wrap64 (a0 - (wrap64 (t1 * t2)))) == t3) = false := beq_eq_false_iff_ne.mpr c11
            have c11b1 : ((wrap64 (a0 - (wrap64 (t1 * t2)))) != t3) = true := bne_iff_ne.mpr c11
            obtain rfl := Option.some.inj H
            go_wp2_with (first | ((with_reducible refine gate_callee (f := 56) rfl ?_); refine goesL_ (some 23) rfl rfl Try.func56 (by kernel_rfl) rfl #[.int .i64 a1] rfl (by (try simp only [List.map_toArray, List.map_cons, List.map_nil]); first | done | rfl | (simp only [List.length_drop, List.length_take]; rfl)) ?_; (with_reducible refine (headroomref01_Pow.calls kj4 a1 t2 _ A8.out).mono ?_); rintro e w' ⟨rfl, ⟨nd, rfl⟩⟩; refine ⟨_, rfl, ?_⟩) | ((with_reducible refine gate_callee (f := 56) rfl ?_); refine goesL_ (some 28) rfl rfl Try.func56 (by kernel_rfl) rfl #[.int .i64 (wrap64 (a1 - 1))] rfl (by (try simp only [List.map_toArray, List.map_cons, List.map_nil]); first | done | rfl | (simp only [List.length_drop, List.length_take]; rfl)) ?_; (with_reducible refine (headroomref01_Pow.calls kj4 (wrap64 (a1 - 1)) t3 _ A9.out).mono ?_); rintro e w' ⟨rfl, ⟨nd, rfl⟩⟩; refine ⟨_, rfl, ?_⟩))
            go_ret
            exact ⟨by first | rfl | (simp; done) | (simp [*]; done), by repeat (first | exact Drawn0.refl _ | apply Drawn0.step)⟩

end Go.Proofs.Ytpmkkidljmedaaa.X
namespace Go.Proofs.Ytpmkkidljmedaaa.X
open Go.RowKit Go.Proofs.YtpmkkidljmedaaaW.PrintWords Go.Proofs.YtpmkkidljmedaaaW.PrintLast Go.Proofs.YtpmkkidljmedaaaW.PrintMore
attribute [local go_sem] max2_int min2_int max_two min_two max_three min_three max_four min_four   -- for this text's walks alone
set_option linter.unusedVariables false
set_option linter.unusedSimpArgs false

/-! ### headroomref03_Shift: function 59 -/
def headroomref03_Shift.f (k : Nat) (a0_0 : Int) (a0_1 : Int) (a1 : Int) (a2 : Int) : Option (Int × Int) := (headroomref01_Shift.f k a0_0 a1 a2).bind fun t3 => ((headroomref01_Shift.f k a0_1 a1 a2).bind fun t4 => (some (t3, t4)))
theorem headroomref03_Shift.mono : ∀ a0 a1 a2 a3 k, LeO (headroomref03_Shift.f k a0 a1 a2 a3) (headroomref03_Shift.f (k + 1) a0 a1 a2 a3) := by
  intro a0 a1 a2 a3 k
  unfold headroomref03_Shift.f
  repeat' first
      | (with_reducible exact headroomref01_Shift.mono _ _ _ _)
      | (with_reducible exact LeO.refl _)
      | (with_reducible exact LeO.none _)
      | (with_reducible refine LeO.ite ?_ ?_)
      | (with_reducible refine LeO.bind ?_ (fun _ => ?_))
      | exact headroomref01_Shift.mono _ _ _ _
      | exact LeO.none _
      | refine LeO.ite ?_ ?_
      | refine LeO.bind ?_ (fun _ => ?_)
def headroomref03_Shift.T1 : Bool × List (List Nat × List Nat) := (true, [([], []), ([0], [0]), ([], []), ([], []), ([1, 2, 3], [1, 2, 3]), ([], []), ([5], [5]), ([], []), ([], []), ([6, 7, 8, 4], [6, 7, 8]), ([4, 9], [4, 9]), ([10, 9, 0, 1, 2, 3, 4, 5, 6, 7, 8, 9, 10], [10])])
def headroomref03_Shift.B1 : List Nat := [0, 1, 0, 0, 15, 0, 32, 0, 0, 511, 1023, 2047]
theorem headroomref03_Shift.tab1 : rtab .any (opsOf Try.f59 1) = headroomref03_Shift.T1 := by kernel_rfl
theorem headroomref03_Shift.bits1 : waitsOk headroomref03_Shift.T1.2 headroomref03_Shift.B1 = true := by kernel_rfl
set_option maxHeartbeats 8000000 in
set_option maxRecDepth 100000 in
theorem headroomref03_Shift.calls (k : Nat) (a0_0 : Int) (a0_1 : Int) (a1 : Int) (a2 : Int) (r1 : Int) (r2 : Int) (w : World) (h : headroomref03_Shift.f k a0_0 a0_1 a1 a2 = some (r1, r2)) :
    Calls Try.prog 59 #[.agg #[.int .i64 a0_0, .int .i64 a0_1], .int .i64 a1, .int .i64 a2] w fun e w' => e = .returned (.agg #[.int .i64 r1, .int .i64 r2]) ∧ Below w.heap.size w w' := by
  have hu41 := Try.underlying41
  have HB := Aside0.mk (Below.refl w.heap.size w)
  have H : ((headroomref01_Shift.f k a0_0 a1 a2).bind fun t3 => ((headroomref01_Shift.f k a0_1 a1 a2).bind fun t4 => (some (t3, t4)))) = some (r1, r2) := h
  clear h
  replace H := Option.bind_eq_some_iff.mp H
  obtain ⟨t3, A40, H⟩ := H
  replace H : ((headroomref01_Shift.f k a0_1 a1 a2).bind fun t4 => (some (t3, t4))) = some (r1, r2) := H
  have A4 := Aside0.mk A40
  clear A40
  replace H := Option.bind_eq_some_iff.mp H
  obtain ⟨t4, A50, H⟩ := H
  replace H : (some (t3, t4)) = some (r1, r2) := H
  have A5 := Aside0.mk A50
  clear A50
  simp only [Option.some.injEq, Prod.mk.injEq] at H
  obtain ⟨rfl, rfl⟩ := H
  go_enter Try.func59, Try.ntmps59
  try go_wp2_with (first | ((with_reducible refine gate_dst (N := 3) rfl ?_); refine box_event ?hg (N := 3) ?hd (cs := #[.int .i64 a0_0, .int .i64 a0_1]) (t := 41) ?hr ?_; (case hd => rfl); (case hg => rfl); (case hr => first | (go_simp; done) | (go_simp; rfl)); intro gb1 hg w6 hbox hb; have n0_ := Aside0.mk (below_step (by repeat (first | (with_reducible first | exact HB.out | apply below_alloc | apply pw_below_drewN | apply below_drew1) | exact HB.out)) hb); have n1_ := Aside0.mk (hbox); have n2_ := Aside0.mk ((by rw [hg]; exact (below_size (by repeat (first | (with_reducible first | exact HB.out | apply below_alloc | apply pw_below_drewN | apply below_drew1) | exact HB.out))) : w.heap.size ≤ gb1)); have n3_ := Aside0.mk ((by rw [hg]; exact (below_size (by repeat (first | (with_reducible first | exact HB.out | apply below_alloc | apply pw_below_drewN | apply below_drew1) | exact HB.out))) : w.heap.size ≤ gb1)); clear HB; have HB := n0_; have BK1 := n1_; have GW1 := n2_; have GE1 := n3_; clear n0_ n1_ n2_ n3_; clear hb hbox hg) | ((with_reducible refine gate_dst (N := 6) rfl ?_); refine box_event ?hg (N := 6) ?hd (cs := #[.int .i64 0, .int .i64 0]) (t := 41) ?hr ?_; (case hd => rfl); (case hg => rfl); (case hr => first | (go_simp; done) | (go_simp; rfl)); intro gb2 hg w7 hbox hb; have n0_ := Aside0.mk (blk_below (g := gb1) (o := .cells #[.int .i64 a0_0, .int .i64 a0_1] 41 (0, 0)) (by (with_reducible repeat (first | refine blk_drewN ?_ _ | refine blk_drew ?_ | refine blk_alloc ?_ _)); exact BK1.out) hb); have n1_ := Aside0.mk (below_step (by repeat (first | (with_reducible first | exact HB.out | apply below_alloc | apply pw_below_drewN | apply below_drew1 | refine below_set ?_ GE1.out) | exact HB.out)) hb); have n2_ := Aside0.mk (hbox); have n3_ := Aside0.mk ((by rw [hg]; exact (below_size (by repeat (first | (with_reducible first | exact HB.out | apply below_alloc | apply pw_below_drewN | apply below_drew1 | refine below_set ?_ GE1.out) | exact HB.out))) : w.heap.size ≤ gb2)); have n4_ := Aside0.mk ((by rw [hg]; exact (below_size (by repeat (first | (with_reducible first | exact HB.out | apply below_alloc | apply pw_below_drewN | apply below_drew1 | refine below_set ?_ GE1.out) | exact HB.out))) : w.heap.size ≤ gb2)); have n5_ := Aside0.mk ((by rw [hg]; exact Nat.ne_of_lt (blk_lt (g := gb1) (o := .cells #[.int .i64 a0_0, .int .i64 a0_1] 41 (0, 0)) (by (with_reducible repeat (first | refine blk_drewN ?_ _ | refine blk_drew ?_ | refine blk_alloc ?_ _)); exact BK1.out)) : gb1 ≠ gb2)); have n6_ := Aside0.mk ((by rw [hg]; exact Nat.ne_of_gt (blk_lt (g := gb1) (o := .cells #[.int .i64 a0_0, .int .i64 a0_1] 41 (0, 0)) (by (with_reducible repeat (first | refine blk_drewN ?_ _ | refine blk_drew ?_ | refine blk_alloc ?_ _)); exact BK1.out)) : gb2 ≠ gb1)); clear BK1; clear HB; have BK1 := n0_; have HB := n1_; have BK2 := n2_; have GW2 := n3_; have GE2 := n4_; have NB1_2 := n5_; have NB2_1 := n6_; clear n0_ n1_ n2_ n3_ n4_ n5_ n6_; clear hb hbox hg))
  have n0_ := Aside0.mk (blk_drew BK1.out)
  have n1_ := Aside0.mk (blk_drew BK2.out)
  have n2_ := Aside0.mk (below_drew1 HB.out)
  clear BK1
  clear BK2
  clear HB
  have BK1 := n0_
  have BK2 := n1_
  have HB := n2_
  clear n0_ n1_ n2_
  refine start_ (n := 12) (S := fun w' => w'.cell? ⟨gb1, 0, none⟩ = some (.int .i64 a0_0) ∧ w'.cell? ⟨gb1, 1, none⟩ = some (.int .i64 a0_1)) (ds := []) #[false, false, false, false, false, false, false, false, false, false, false, false] (by kernel_rfl) rfl rfl ⟨(blk_cell BK1.out 0).trans rfl, (blk_cell BK1.out 1).trans rfl⟩ (fun hHeld => ?_); refine with_tabW headroomref03_Shift.tab1 headroomref03_Shift.bits1 (fun HT_ HW_ => ?_)
  generalize w7.drew = w8 at BK1 BK2 HB hHeld ⊢
  refine pure_ (i := 0) (N := some 7) (v := ?_) (a' := ?_) #[true, false, false, false, false, false, false, false, false, false, false, false] rfl rfl (any_of HT_.out (by kernel_rfl)) (fun _ _ _ h => h) (Or.inl ⟨by rfl, ?_⟩) ?_ ?_
  rotate_left
  · intro w'
    go_simp
    with_reducible rfl
  rotate_left
  · simp only [Act.put, List.setIfInBounds_toArray, List.set_cons_zero, List.set_cons_succ, i64_w, i32_w]
    rfl
  refine pure_ (i := 2) (N := some 9) (v := ?_) (a' := ?_) #[true, false, true, false, false, false, false, false, false, false, false, false] rfl rfl (any_of HT_.out (by kernel_rfl)) (fun _ _ _ h => h) (Or.inl ⟨by rfl, ?_⟩) ?_ ?_
  rotate_left
  · intro w'
    go_simp
    with_reducible rfl
  rotate_left
  · simp only [Act.put, List.setIfInBounds_toArray, List.set_cons_zero, List.set_cons_succ, i64_w, i32_w]
    rfl
  refine pure_ (i := 3) (N := some 10) (v := ?_) (a' := ?_) #[true, false, true, true, false, false, false, false, false, false, false, false] rfl rfl (any_of HT_.out (by kernel_rfl)) (fun _ _ _ h => h) (Or.inl ⟨by rfl, ?_⟩) ?_ ?_
  rotate_left
  · intro w'
    go_simp
    with_reducible rfl
  rotate_left
  · simp only [Act.put, List.setIfInBounds_toArray, List.set_cons_zero, List.set_cons_succ, i64_w, i32_w]
    rfl
  refine pure_ (i := 5) (N := some 12) (v := ?_) (a' := ?_) #[true, false, true, true, false, true, false, false, false, false, false, false] rfl rfl (any_of HT_.out (by kernel_rfl)) (fun _ _ _ h => h) (Or.inl ⟨by rfl, ?_⟩) ?_ ?_
  rotate_left
  · intro w'
    go_simp
    with_reducible rfl
  rotate_left
  · simp only [Act.put, List.setIfInBounds_toArray, List.set_cons_zero, List.set_cons_succ, i64_w, i32_w]
    rfl
  refine pure_ (i := 7) (N := some 14) (v := ?_) (a' := ?_) #[true, false, true, true, false, true, false, true, false, false, false, false] rfl rfl (any_of HT_.out (by kernel_rfl)) (fun _ _ _ h => h) (Or.inl ⟨by rfl, ?_⟩) ?_ ?_
  rotate_left
  · intro w'
    go_simp
    with_reducible rfl
  rotate_left
  · simp only [Act.put, List.setIfInBounds_toArray, List.set_cons_zero, List.set_cons_succ, i64_w, i32_w]
    rfl
  refine pure_ (i := 8) (N := some 15) (v := ?_) (a' := ?_) #[true, false, true, true, false, true, false, true, true, false, false, false] rfl rfl (any_of HT_.out (by kernel_rfl)) (fun _ _ _ h => h) (Or.inl ⟨by rfl, ?_⟩) ?_ ?_
  rotate_left
  · intro w'
    go_simp
    with_reducible rfl
  rotate_left
  · simp only [Act.put, List.setIfInBounds_toArray, List.set_cons_zero, List.set_cons_succ, i64_w, i32_w]
    rfl
  refine take_ (i := 1) (N := some 8) (v := ?_) (a' := ?_) #[true, true, true, true, false, true, false, true, true, false, false, false] rfl rfl (take_ofW HT_.out HW_.out (by kernel_rfl)) (fun _ _ _ h => h) (Or.inl ⟨by rfl, ?_⟩) hHeld ?_ ?_
  rotate_left
  · rintro w' ⟨s0, s1⟩
    go_simp
    with_reducible rfl
  rotate_left
  · simp only [Act.put, List.setIfInBounds_toArray, List.set_cons_zero, List.set_cons_succ, i64_w, i32_w]
    rfl
  refine take_ (i := 6) (N := some 13) (v := ?_) (a' := ?_) #[true, true, true, true, false, true, true, true, true, false, false, false] rfl rfl (take_ofW HT_.out HW_.out (by kernel_rfl)) (fun _ _ _ h => h) (Or.inl ⟨by rfl, ?_⟩) hHeld ?_ ?_
  rotate_left
  · rintro w' ⟨s0, s1⟩
    go_simp
    with_reducible rfl
  rotate_left
  · simp only [Act.put, List.setIfInBounds_toArray, List.set_cons_zero, List.set_cons_succ, i64_w, i32_w]
    rfl
  refine one_ (i := 4) (N := some 11) #[true, true, true, true, true, true, true, true, true, false, false, false] rfl rfl (one_of HT_.out (by kernel_rfl)) (by decide) (fun K hK => ?_)
  refine goes_ Try.func48 (by kernel_rfl) rfl #[.int .i64 a0_0, .int .i64 a1, .int .i64 a2] (by rfl) rfl rfl (by (try simp only [List.map_toArray, List.map_cons, List.map_nil]); first | done | rfl | (simp only [List.length_drop, List.length_take]; rfl)) ?_
  with_reducible refine (headroomref01_Shift.calls k a0_0 a1 a2 t3 _ A4.out).mono ?_
  rintro e w' ⟨rfl, ⟨nd, rfl⟩⟩
  refine ⟨_, rfl, ?_⟩
  refine hK.out _ _ ⟨(blk_cell BK1.out 0).trans rfl, (blk_cell BK1.out 1).trans rfl⟩ (fun hHeld => ?_)
  clear hK K
  refine norm_ (a' := ?_) ?_ ?_
  rotate_left
  · show Act.put _ (some 11) _ = _
    simp only [Act.put, List.setIfInBounds_toArray, List.set_cons_zero, List.set_cons_succ, i64_w, i32_w]
    rfl
  refine one_ (i := 9) (N := some 16) #[true, true, true, true, true, true, true, true, true, true, false, false] rfl rfl (one_of HT_.out (by kernel_rfl)) (by decide) (fun K hK => ?_)
  refine goes_ Try.func48 (by kernel_rfl) rfl #[.int .i64 a0_1, .int .i64 a1, .int .i64 a2] (by rfl) rfl rfl (by (try simp only [List.map_toArray, List.map_cons, List.map_nil]); first | done | rfl | (simp only [List.length_drop, List.length_take]; rfl)) ?_
  with_reducible refine (headroomref01_Shift.calls k a0_1 a1 a2 t4 _ A5.out).mono ?_
  rintro e w' ⟨rfl, ⟨nd, rfl⟩⟩
  refine ⟨_, rfl, ?_⟩
  refine hK.out _ _ ⟨(blk_cell BK1.out 0).trans rfl, (blk_cell BK1.out 1).trans rfl⟩ (fun hHeld => ?_)
  clear hK K
  refine norm_ (a' := ?_) ?_ ?_
  rotate_left
  · show Act.put _ (some 16) _ = _
    simp only [Act.put, List.setIfInBounds_toArray, List.set_cons_zero, List.set_cons_succ, i64_w, i32_w]
    rfl
  refine pure_ (i := 10) (N := some 17) (v := ?_) (a' := ?_) #[true, true, true, true, true, true, true, true, true, true, true, false] rfl rfl (any_of HT_.out (by kernel_rfl)) (fun _ _ _ h => h) (Or.inl ⟨by rfl, ?_⟩) ?_ ?_
  rotate_left
  · intro w'
    go_simp
    with_reducible rfl
  rotate_left
  · simp only [Act.put, List.setIfInBounds_toArray, List.set_cons_zero, List.set_cons_succ, i64_w, i32_w]
    rfl
  refine one_ (i := 11) (N := none) #[true, true, true, true, true, true, true, true, true, true, true, true] rfl rfl (one_of HT_.out (by kernel_rfl)) (by decide) (fun K hK => ?_)
  have hs9 : w8.cell? ⟨gb2, 0, none⟩ = some (.int .i64 0) := (blk_cell BK2.out 0).trans rfl
  have hfs9 := blk_frozen BK2.out 0
  have hns9_0 := NB1_2.out
  have hms9_0 := NB2_1.out
  have hs10 : w8.cell? ⟨gb2, 1, none⟩ = some (.int .i64 0) := (blk_cell BK2.out 1).trans rfl
  have hfs10 := blk_frozen BK2.out 1
  have hns10_0 := NB1_2.out
  have hms10_0 := NB2_1.out
  refine skip_ (w1 := ?_) (by rfl) rfl ?_ ?_
  rotate_left
  · go_simp
    rfl
  refine hK.out _ _ ⟨((cell_far (p := ⟨gb2, _, none⟩) NB1_2.out _).trans (((cell_far (p := ⟨gb2, _, none⟩) NB1_2.out _).trans (hHeld.1)))), ((cell_far (p := ⟨gb2, _, none⟩) NB1_2.out _).trans (((cell_far (p := ⟨gb2, _, none⟩) NB1_2.out _).trans (hHeld.2))))⟩ (fun hHeld => ?_)
  clear hK K
  refine done_ (done_of HT_.out (by kernel_rfl)) ?_
  try go_wp2
  refine bodyPost_ret (results_cell_row rfl _ _ gb2 41 #[.int .i64 t3, .int .i64 t4] (0, 0) _ rfl (by (with_reducible repeat (first | refine blk_drewN ?_ _ | refine blk_drew ?_ | refine blk_alloc ?_ _)); refine blk_put (cs := #[.int .i64 t3, .int .i64 0]) ?_ 1 _ rfl; (with_reducible repeat (first | refine blk_drewN ?_ _ | refine blk_drew ?_ | refine blk_alloc ?_ _)); refine blk_put (cs := #[.int .i64 0, .int .i64 0]) ?_ 0 _ rfl; (with_reducible repeat (first | refine blk_drewN ?_ _ | refine blk_drew ?_ | refine blk_alloc ?_ _)); exact BK2.out) Try.underlying41 rfl (by kernel_rfl)) rfl ?_
  exact ⟨by first | rfl | (simp [errW_none, errW_some] <;> rfl) | (simp [*, errW_none, errW_some] <;> rfl), by repeat (first | (with_reducible first | exact HB.out | apply below_alloc | apply pw_below_drewN | apply below_drew1 | refine below_set ?_ GE1.out | refine below_set ?_ GE2.out) | exact HB.out)⟩

end Go.Proofs.Ytpmkkidljmedaaa.X
namespace Go.Proofs.Ytpmkkidljmedaaa.X
open Go.RowKit Go.Proofs.YtpmkkidljmedaaaW.PrintWords Go.Proofs.YtpmkkidljmedaaaW.PrintLast Go.Proofs.YtpmkkidljmedaaaW.PrintMore
attribute [local go_sem] max2_int min2_int max_two min_two max_three min_three max_four min_four   -- for this text's walks alone
set_option linter.unusedVariables false
set_option linter.unusedSimpArgs false

/-! ### headroomref03_Turn: function 68 -/
def headroomref03_Turn.j0 : Nat → Int → Int → Int → Option (Int × Int)
  | 0, _, _, _ => none
  | k + 1, x1, x2000, x2001 => if x1 = 1 then (some (wrap64 (-x2001), x2000)) else (if x1 = 2 then (some (wrap64 (-x2000), wrap64 (-x2001))) else (if x1 = 3 then (some (x2001, wrap64 (-x2000))) else (some (x2000, x2001))))
def headroomref03_Turn.f (k : Nat) (a0_0 : Int) (a0_1 : Int) (a1 : Int) : Option (Int × Int) := if (Int.tmod a1 4) < 0 then (headroomref03_Turn.j0 k (wrap64 ((Int.tmod a1 4) + 4)) a0_0 a0_1) else (headroomref03_Turn.j0 k (Int.tmod a1 4) a0_0 a0_1)
theorem headroomref03_Turn.mono_l : ∀ k, (∀ y0 y1 y2, LeO (headroomref03_Turn.j0 k y0 y1 y2) (headroomref03_Turn.j0 (k + 1) y0 y1 y2))
  | 0 => fun _ _ _ r h => by simp [headroomref03_Turn.j0] at h
  | k + 1 => by
    have ih0 := headroomref03_Turn.mono_l k
    · intro y0 y1 y2
      unfold headroomref03_Turn.j0
      repeat' first
      | (with_reducible exact ih0 _ _ _)
      | (with_reducible exact LeO.refl _)
      | (with_reducible exact LeO.none _)
      | (with_reducible refine LeO.ite ?_ ?_)
      | (with_reducible refine LeO.bind ?_ (fun _ => ?_))
      | exact ih0 _ _ _
      | exact LeO.none _
      | refine LeO.ite ?_ ?_
      | refine LeO.bind ?_ (fun _ => ?_)
theorem headroomref03_Turn.mono : ∀ a0 a1 a2 k, LeO (headroomref03_Turn.f k a0 a1 a2) (headroomref03_Turn.f (k + 1) a0 a1 a2) := by
  intro a0 a1 a2 k
  have ih0 := headroomref03_Turn.mono_l k
  unfold headroomref03_Turn.f
  repeat' first
      | (with_reducible exact ih0 _ _ _)
      | (with_reducible exact LeO.refl _)
      | (with_reducible exact LeO.none _)
      | (with_reducible refine LeO.ite ?_ ?_)
      | (with_reducible refine LeO.bind ?_ (fun _ => ?_))
      | exact ih0 _ _ _
      | exact LeO.none _
      | refine LeO.ite ?_ ?_
      | refine LeO.bind ?_ (fun _ => ?_)
set_option maxHeartbeats 8000000 in
set_option maxRecDepth 100000 in
theorem headroomref03_Turn.calls (k : Nat) (a0_0 : Int) (a0_1 : Int) (a1 : Int) (r1 : Int) (r2 : Int) (w : World) (h : headroomref03_Turn.f k a0_0 a0_1 a1 = some (r1, r2)) :
    Calls Try.prog 68 #[.agg #[.int .i64 a0_0, .int .i64 a0_1], .int .i64 a1] w fun e w' => e = .returned (.agg #[.int .i64 r1, .int .i64 r2]) ∧ Below w.heap.size w w' := by
  have hu41 := Try.underlying41
  have HB := Aside0.mk (Below.refl w.heap.size w)
  have H : (if (Int.tmod a1 4) < 0 then (headroomref03_Turn.j0 k (wrap64 ((Int.tmod a1 4) + 4)) a0_0 a0_1) else (headroomref03_Turn.j0 k (Int.tmod a1 4) a0_0 a0_1)) = some (r1, r2) := h
  clear h
  have HC3 := Aside0.mk H
  clear H
  go_enter Try.func68, Try.ntmps68
  go_upto_if 8 with (first | ((with_reducible refine gate_dst (N := 2) rfl ?_); refine box_event ?hg (N := 2) ?hd (cs := #[.int .i64 a0_0, .int .i64 a0_1]) (t := 41) ?hr ?_; (case hd => rfl); (case hg => rfl); (case hr => first | (go_simp; done) | (go_simp; rfl)); intro gb1 hg w4 hbox hb; have n0_ := Aside0.mk (below_step (by repeat (first | (with_reducible first | exact HB.out | apply below_alloc | apply pw_below_drewN | apply below_drew1) | exact HB.out)) hb); have n1_ := Aside0.mk (hbox); have n2_ := Aside0.mk ((by rw [hg]; exact (below_size (by repeat (first | (with_reducible first | exact HB.out | apply below_alloc | apply pw_below_drewN | apply below_drew1) | exact HB.out))) : w.heap.size ≤ gb1)); have n3_ := Aside0.mk ((by rw [hg]; exact (below_size (by repeat (first | (with_reducible first | exact HB.out | apply below_alloc | apply pw_below_drewN | apply below_drew1) | exact HB.out))) : w.heap.size ≤ gb1)); clear HB; have HB := n0_; have BK1 := n1_; have GW1 := n2_; have GE1 := n3_; clear n0_ n1_ n2_ n3_; clear hb hbox hg) | ((with_reducible refine gate_dst (N := 4) rfl ?_); refine box_event ?hg (N := 4) ?hd (cs := #[.int .i64 0, .int .i64 0]) (t := 41) ?hr ?_; (case hd => rfl); (case hg => rfl); (case hr => first | (go_simp; done) | (go_simp; rfl)); intro gb2 hg w5 hbox hb; have n0_ := Aside0.mk (blk_below (g := gb1) (o := .cells #[.int .i64 a0_0, .int .i64 a0_1] 41 (0, 0)) (by (with_reducible repeat (first | refine blk_drewN ?_ _ | refine blk_drew ?_ | refine blk_alloc ?_ _)); exact BK1.out) hb); have n1_ := Aside0.mk (below_step (by repeat (first | (with_reducible first | exact HB.out | apply below_alloc | apply pw_below_drewN | apply below_drew1 | refine below_set ?_ GE1.out) | exact HB.out)) hb); have n2_ := Aside0.mk (hbox); have n3_ := Aside0.mk ((by rw [hg]; exact (below_size (by repeat (first | (with_reducible first | exact HB.out | apply below_alloc | apply pw_below_drewN | apply below_drew1 | refine below_set ?_ GE1.out) | exact HB.out))) : w.heap.size ≤ gb2)); have n4_ := Aside0.mk ((by rw [hg]; exact (below_size (by repeat (first | (with_reducible first | exact HB.out | apply below_alloc | apply pw_below_drewN | apply below_drew1 | refine below_set ?_ GE1.out) | exact HB.out))) : w.heap.size ≤ gb2)); have n5_ := Aside0.mk ((by rw [hg]; exact Nat.ne_of_lt (blk_lt (g := gb1) (o := .cells #[.int .i64 a0_0, .int .i64 a0_1] 41 (0, 0)) (by (with_reducible repeat (first | refine blk_drewN ?_ _ | refine blk_drew ?_ | refine blk_alloc ?_ _)); exact BK1.out)) : gb1 ≠ gb2)); have n6_ := Aside0.mk ((by rw [hg]; exact Nat.ne_of_gt (blk_lt (g := gb1) (o := .cells #[.int .i64 a0_0, .int .i64 a0_1] 41 (0, 0)) (by (with_reducible repeat (first | refine blk_drewN ?_ _ | refine blk_drew ?_ | refine blk_alloc ?_ _)); exact BK1.out)) : gb2 ≠ gb1)); clear BK1; clear HB; have BK1 := n0_; have HB := n1_; have BK2 := n2_; have GW2 := n3_; have GE2 := n4_; have NB1_2 := n5_; have NB2_1 := n6_; clear n0_ n1_ n2_ n3_ n4_ n5_ n6_; clear hb hbox hg))
  (try simp only [Act.put, List.setIfInBounds_toArray, List.set_cons_zero, List.set_cons_succ])
  go_cut [1] (fun v1 wc => ∃ (kq : Nat) (x1_2 : Int), v1 = .int .i64 x1_2 ∧ Aside0 (headroomref03_Turn.j0 kq x1_2 a0_0 a0_1 = some (r1, r2)) ∧ Aside0 (kq ≤ k) ∧ Aside0 (wc.heap[gb1]? = some (.cells #[.int .i64 a0_0, .int .i64 a0_1] 41 (0, 0))) ∧ Aside0 (wc.heap[gb2]? = some (.cells #[.int .i64 0, .int .i64 0] 41 (0, 0))) ∧ Aside0 (Below w.heap.size w wc))
  case first =>
    have H := HC3.out
    clear HC3
    by_cases c6 : (Int.tmod a1 4) < 0
    · rw [if_pos c6] at H
      have c6b0 : decide ((Int.tmod a1 4) < 0) = true := decide_eq_true c6
      clear c6
      (first | rw [c6b0] | (simp only [i64_w, i32_w]; rw [c6b0]) | skip)
      have H' := Aside0.mk H
      clear H
      go_wp2
      go_meet
      case rel => exact ⟨_, (wrap64 ((Int.tmod a1 4) + 4)), (by first | rfl | (simp; done) | (simp [*]; done)), H', ⟨by first | omega | exact Nat.le_refl _⟩, ⟨by (with_reducible repeat (first | refine blk_drewN ?_ _ | refine blk_drew ?_ | refine blk_alloc ?_ _)); exact BK1.out⟩, ⟨by (with_reducible repeat (first | refine blk_drewN ?_ _ | refine blk_drew ?_ | refine blk_alloc ?_ _)); exact BK2.out⟩, ⟨by repeat (first | (with_reducible first | exact HB.out | apply below_alloc | apply pw_below_drewN | apply below_drew1 | refine below_set ?_ GE1.out | refine below_set ?_ GE2.out) | exact HB.out)⟩⟩
    · rw [if_neg c6] at H
      have c6b0 : decide ((Int.tmod a1 4) < 0) = false := decide_eq_false c6
      clear c6
      (first | rw [c6b0] | (simp only [i64_w, i32_w]; rw [c6b0]) | skip)
      have H' := Aside0.mk H
      clear H
      go_wp2
      go_meet
      case rel => exact ⟨_, (Int.tmod a1 4), (by first | rfl | (simp; done) | (simp [*]; done)), H', ⟨by first | omega | exact Nat.le_refl _⟩, ⟨by (with_reducible repeat (first | refine blk_drewN ?_ _ | refine blk_drew ?_ | refine blk_alloc ?_ _)); exact BK1.out⟩, ⟨by (with_reducible repeat (first | refine blk_drewN ?_ _ | refine blk_drew ?_ | refine blk_alloc ?_ _)); exact BK2.out⟩, ⟨by repeat (first | (with_reducible first | exact HB.out | apply below_alloc | apply pw_below_drewN | apply below_drew1 | refine below_set ?_ GE1.out | refine below_set ?_ GE2.out) | exact HB.out)⟩⟩
  case rest =>
    clear HC3
    try clear p2
    try clear c6
    try clear c6b0
    try clear p6
    obtain ⟨kq, x1_2, rfl, HA, HJ2, BK1, BK2, HB⟩ := hcut
    cases kq with
    | zero => exact absurd HA.out (by simp [headroomref03_Turn.j0])
    | succ kj2 =>
      have H := HA.out
      clear HA
      simp only [headroomref03_Turn.j0] at H
      by_cases c7 : x1_2 = 1
      · rw [if_pos c7] at H
        have c7b0 : (x1_2 == 1) = true := beq_iff_eq.mpr c7
        have c7b1 : (x1_2 != 1) = false := bne_eq_false_iff_eq.mpr c7
        clear c7
        simp only [Option.some.injEq, Prod.mk.injEq] at H
        obtain ⟨rfl, rfl⟩ := H
        have hnb8 := NB1_2.out
        have hnc8 := NB2_1.out
        have hcz9_0 : wc.cell? ⟨gb1, 0, none⟩ = some (.int .i64 a0_0) := (blk_cell BK1.out 0).trans rfl
        have hcz9_1 : wc.cell? ⟨gb1, 1, none⟩ = some (.int .i64 a0_1) := (blk_cell BK1.out 1).trans rfl
        have hfz9_0 := blk_frozen BK1.out 0
        have hfz9_1 := blk_frozen BK1.out 1
        have hcz10_0 : wc.cell? ⟨gb2, 0, none⟩ = some (.int .i64 0) := (blk_cell BK2.out 0).trans rfl
        have hcz10_1 : wc.cell? ⟨gb2, 1, none⟩ = some (.int .i64 0) := (blk_cell BK2.out 1).trans rfl
        have hfz10_0 := blk_frozen BK2.out 0
        have hfz10_1 := blk_frozen BK2.out 1
        go_wp2
        refine bodyPost_ret (results_cell_row rfl _ _ gb2 41 #[.int .i64 (wrap64 (-a0_1)), .int .i64 a0_0] (0, 0) _ rfl (by (with_reducible repeat (first | refine blk_drewN ?_ _ | refine blk_drew ?_ | refine blk_alloc ?_ _)); refine blk_put (cs := #[.int .i64 (wrap64 (-a0_1)), .int .i64 0]) ?_ 1 _ rfl; (with_reducible repeat (first | refine blk_drewN ?_ _ | refine blk_drew ?_ | refine blk_alloc ?_ _)); refine blk_put (cs := #[.int .i64 0, .int .i64 0]) ?_ 0 _ rfl; (with_reducible repeat (first | refine blk_drewN ?_ _ | refine blk_drew ?_ | refine blk_alloc ?_ _)); exact BK2.out) Try.underlying41 rfl (by kernel_rfl)) rfl ?_
        exact ⟨by first | rfl | (simp [errW_none, errW_some] <;> rfl) | (simp [*, errW_none, errW_some] <;> rfl), by repeat (first | (with_reducible first | exact HB.out | apply below_alloc | apply pw_below_drewN | apply below_drew1 | refine below_set ?_ GE1.out | refine below_set ?_ GE2.out) | exact HB.out)⟩
      · rw [if_neg c7] at H
        have c7b0 : (x1_2 == 1) = false := beq_eq_false_iff_ne.mpr c7
        have c7b1 : (x1_2 != 1) = true := bne_iff_ne.mpr c7
        by_cases c11 : x1_2 = 2
        · rw [if_pos c11] at H
          have c11b0 : (x1_2 == 2) = true := beq_iff_eq.mpr c11
          have c11b1 : (x1_2 != 2) = false := bne_eq_false_iff_eq.mpr c11
          clear c11
          simp only [Option.some.injEq, Prod.mk.injEq] at H
          obtain ⟨rfl, rfl⟩ := H
          have hnb12 := NB1_2.out
          have hnc12 := NB2_1.out
          have hcz13_0 : wc.cell? ⟨gb1, 0, none⟩ = some (.int .i64 a0_0) := (blk_cell BK1.out 0).trans rfl
          have hcz13_1 : wc.cell? ⟨gb1, 1, none⟩ = some (.int .i64 a0_1) := (blk_cell BK1.out 1).trans rfl
          have hfz13_0 := blk_frozen BK1.out 0
          have hfz13_1 := blk_frozen BK1.out 1
          have hcz14_0 : wc.cell? ⟨gb2, 0, none⟩ = some (.int .i64 0) := (blk_cell BK2.out 0).trans rfl
          have hcz14_1 : wc.cell? ⟨gb2, 1, none⟩ = some (.int .i64 0) := (blk_cell BK2.out 1).trans rfl
          have hfz14_0 := blk_frozen BK2.out 0
          have hfz14_1 := blk_frozen BK2.out 1
          go_wp2
          refine bodyPost_ret (results_cell_row rfl _ _ gb2 41 #[.int .i64 (wrap64 (-a0_0)), .int .i64 (wrap64 (-a0_1))] (0, 0) _ rfl (by (with_reducible repeat (first | refine blk_drewN ?_ _ | refine blk_drew ?_ | refine blk_alloc ?_ _)); refine blk_put (cs := #[.int .i64 (wrap64 (-a0_0)), .int .i64 0]) ?_ 1 _ rfl; (with_reducible repeat (first | refine blk_drewN ?_ _ | refine blk_drew ?_ | refine blk_alloc ?_ _)); refine blk_put (cs := #[.int .i64 0, .int .i64 0]) ?_ 0 _ rfl; (with_reducible repeat (first | refine blk_drewN ?_ _ | refine blk_drew ?_ | refine blk_alloc ?_ _)); exact BK2.out) Try.underlying41 rfl (by kernel_rfl)) rfl ?_
          exact ⟨by first | rfl | (simp [errW_none, errW_some] <;> rfl) | (simp [*, errW_none, errW_some] <;> rfl), by repeat (first | (with_reducible first | exact HB.out | apply below_alloc | apply pw_below_drewN | apply below_drew1 | refine below_set ?_ GE1.out | refine below_set ?_ GE2.out) | exact HB.out)⟩
        · rw [if_neg c11] at H
          have c11b0 : (x1_2 == 2) = false := beq_eq_false_iff_ne.mpr c11
          have c11b1 : (x1_2 != 2) = true := bne_iff_ne.mpr c11
          by_cases c15 : x1_2 = 3
          · rw [if_pos c15] at H
            have c15b0 : (x1_2 == 3) = true := beq_iff_eq.mpr c15
            have c15b1 : (x1_2 != 3) = false := bne_eq_false_iff_eq.mpr c15
            clear c15
            simp only [Option.some.injEq, Prod.mk.injEq] at H
            obtain ⟨rfl, rfl⟩ := H
            have hnb16 := NB1_2.out
            have hnc16 := NB2_1.out
            have hcz17_0 : wc.cell? ⟨gb1, 0, none⟩ = some (.int .i64 a0_0) := (blk_cell BK1.out 0).trans rfl
            have hcz17_1 : wc.cell? ⟨gb1, 1, none⟩ = some (.int .i64 a0_1) := (blk_cell BK1.out 1).trans rfl
            have hfz17_0 := blk_frozen BK1.out 0
            have hfz17_1 := blk_frozen BK1.out 1
            have hcz18_0 : wc.cell? ⟨gb2, 0, none⟩ = some (.int .i64 0) := (blk_cell BK2.out 0).trans rfl
            have hcz18_1 : wc.cell? ⟨gb2, 1, none⟩ = some (.int .i64 0) := (blk_cell BK2.out 1).trans rfl
            have hfz18_0 := blk_frozen BK2.out 0
            have hfz18_1 := blk_frozen BK2.out 1
            go_wp2
            refine bodyPost_ret (results_cell_row rfl _ _ gb2 41 #[.int .i64 a0_1, .int .i64 (wrap64 (-a0_0))] (0, 0) _ rfl (by (with_reducible repeat (first | refine blk_drewN ?_ _ | refine blk_drew ?_ | refine blk_alloc ?_ _)); refine blk_put (cs := #[.int .i64 a0_1, .int .i64 0]) ?_ 1 _ rfl; (with_reducible repeat (first | refine blk_drewN ?_ _ | refine blk_drew ?_ | refine blk_alloc ?_ _)); refine blk_put (cs := #[.int .i64 0, .int .i64 0]) ?_ 0 _ rfl; (with_reducible repeat (first | refine blk_drewN ?_ _ | refine blk_drew ?_ | refine blk_alloc ?_ _)); exact BK2.out) Try.underlying41 rfl (by kernel_rfl)) rfl ?_
            exact ⟨by first | rfl | (simp [errW_none, errW_some] <;> rfl) | (simp [*, errW_none, errW_some] <;> rfl), by repeat (first | (with_reducible first | exact HB.out | apply below_alloc | apply pw_below_drewN | apply below_drew1 | refine below_set ?_ GE1.out | refine below_set ?_ GE2.out) | exact HB.out)⟩
          · rw [if_neg c15] at H
            have c15b0 : (x1_2 == 3) = false := beq_eq_false_iff_ne.mpr c15
            have c15b1 : (x1_2 != 3) = true := bne_iff_ne.mpr c15
            simp only [Option.some.injEq, Prod.mk.injEq] at H
            obtain ⟨rfl, rfl⟩ := H
            have hnb19 := NB1_2.out
            have hnc19 := NB2_1.out
            have hcz20_0 : wc.cell? ⟨gb1, 0, none⟩ = some (.int .i64 a0_0) := (blk_cell BK1.out 0).trans rfl
            have hcz20_1 : wc.cell? ⟨gb1, 1, none⟩ = some (.int .i64 a0_1) := (blk_cell BK1.out 1).trans rfl
            have hfz20_0 := blk_frozen BK1.out 0
            have hfz20_1 := blk_frozen BK1.out 1
            have hcz21_0 : wc.cell? ⟨gb2, 0, none⟩ = some (.int .i64 0) := (blk_cell BK2.out 0).trans rfl
            have hcz21_1 : wc.cell? ⟨gb2, 1, none⟩ = some (.int .i64 0) := (blk_cell BK2.out 1).trans rfl
            have hfz21_0 := blk_frozen BK2.out 0
            have hfz21_1 := blk_frozen BK2.out 1
            go_wp2
            refine bodyPost_ret (results_cell_row rfl _ _ gb2 41 #[.int .i64 a0_0, .int .i64 a0_1] (0, 0) _ rfl (by (with_reducible repeat (first | refine blk_drewN ?_ _ | refine blk_drew ?_ | refine blk_alloc ?_ _)); refine blk_put (cs := #[.int .i64 a0_0, .int .i64 0]) ?_ 1 _ rfl; (with_reducible repeat (first | refine blk_drewN ?_ _ | refine blk_drew ?_ | refine blk_alloc ?_ _)); refine blk_put (cs := #[.int .i64 0, .int .i64 0]) ?_ 0 _ rfl; (with_reducible repeat (first | refine blk_drewN ?_ _ | refine blk_drew ?_ | refine blk_alloc ?_ _)); exact BK2.out) Try.underlying41 rfl (by kernel_rfl)) rfl ?_
            exact ⟨by first | rfl | (simp [errW_none, errW_some] <;> rfl) | (simp [*, errW_none, errW_some] <;> rfl), by repeat (first | (with_reducible first | exact HB.out | apply below_alloc | apply pw_below_drewN | apply below_drew1 | refine below_set ?_ GE1.out | refine below_set ?_ GE2.out) | exact HB.out)⟩

end Go.Proofs.Ytpmkkidljmedaaa.X
namespace Go.Proofs.Ytpmkkidljmedaaa.X
open Go.RowKit Go.Proofs.YtpmkkidljmedaaaW.PrintWords Go.Proofs.YtpmkkidljmedaaaW.PrintLast Go.Proofs.YtpmkkidljmedaaaW.PrintMore
attribute [local go_sem] max2_int min2_int max_two min_two max_three min_three max_four min_four   -- for this text's walks alone
set_option linter.unusedVariables false
set_option linter.unusedSimpArgs false

/-! ### headroomref03_Conj: function 91 -/
def headroomref03_Conj.f (a0_0 : Int) (a0_1 : Int) : Option (Int × Int) := some (a0_0, wrap64 (-a0_1))
set_option maxHeartbeats 8000000 in
set_option maxRecDepth 100000 in
theorem headroomref03_Conj.calls (a0_0 : Int) (a0_1 : Int) (r1 : Int) (r2 : Int) (w : World) (h : headroomref03_Conj.f a0_0 a0_1 = some (r1, r2)) :
    Calls Try.prog 91 #[.agg #[.int .i64 a0_0, .int .i64 a0_1]] w fun e w' => e = .returned (.agg #[.int .i64 r1, .int .i64 r2]) ∧ Below w.heap.size w w' := by
  have hu41 := Try.underlying41
  have HB := Aside0.mk (Below.refl w.heap.size w)
  have H : (some (a0_0, wrap64 (-a0_1))) = some (r1, r2) := h
  clear h
  simp only [Option.some.injEq, Prod.mk.injEq] at H
  obtain ⟨rfl, rfl⟩ := H
  go_enter Try.func91, Try.ntmps91
  go_wp2_with (first | ((with_reducible refine gate_dst (N := 1) rfl ?_); refine box_event ?hg (N := 1) ?hd (cs := #[.int .i64 a0_0, .int .i64 a0_1]) (t := 41) ?hr ?_; (case hd => rfl); (case hg => rfl); (case hr => first | (go_simp; done) | (go_simp; rfl)); intro gb1 hg w2 hbox hb; have n0_ := Aside0.mk (below_step (by repeat (first | (with_reducible first | exact HB.out | apply below_alloc | apply pw_below_drewN | apply below_drew1) | exact HB.out)) hb); have n1_ := Aside0.mk (hbox); have n2_ := Aside0.mk ((by rw [hg]; exact (below_size (by repeat (first | (with_reducible first | exact HB.out | apply below_alloc | apply pw_below_drewN | apply below_drew1) | exact HB.out))) : w.heap.size ≤ gb1)); have n3_ := Aside0.mk ((by rw [hg]; exact (below_size (by repeat (first | (with_reducible first | exact HB.out | apply below_alloc | apply pw_below_drewN | apply below_drew1) | exact HB.out))) : w.heap.size ≤ gb1)); clear HB; have HB := n0_; have BK1 := n1_; have GW1 := n2_; have GE1 := n3_; clear n0_ n1_ n2_ n3_; clear hb hbox hg) | ((with_reducible refine gate_dst (N := 2) rfl ?_); refine box_event ?hg (N := 2) ?hd (cs := #[.int .i64 0, .int .i64 0]) (t := 41) ?hr ?_; (case hd => rfl); (case hg => rfl); (case hr => first | (go_simp; done) | (go_simp; rfl)); intro gb2 hg w3 hbox hb; have n0_ := Aside0.mk (blk_below (g := gb1) (o := .cells #[.int .i64 a0_0, .int .i64 a0_1] 41 (0, 0)) (by (with_reducible repeat (first | refine blk_drewN ?_ _ | refine blk_drew ?_ | refine blk_alloc ?_ _)); exact BK1.out) hb); have n1_ := Aside0.mk (below_step (by repeat (first | (with_reducible first | exact HB.out | apply below_alloc | apply pw_below_drewN | apply below_drew1 | refine below_set ?_ GE1.out) | exact HB.out)) hb); have n2_ := Aside0.mk (hbox); have n3_ := Aside0.mk ((by rw [hg]; exact (below_size (by repeat (first | (with_reducible first | exact HB.out | apply below_alloc | apply pw_below_drewN | apply below_drew1 | refine below_set ?_ GE1.out) | exact HB.out))) : w.heap.size ≤ gb2)); have n4_ := Aside0.mk ((by rw [hg]; exact (below_size (by repeat (first | (with_reducible first | exact HB.out | apply below_alloc | apply pw_below_drewN | apply below_drew1 | refine below_set ?_ GE1.out) | exact HB.out))) : w.heap.size ≤ gb2)); have n5_ := Aside0.mk ((by rw [hg]; exact Nat.ne_of_lt (blk_lt (g := gb1) (o := .cells #[.int .i64 a0_0, .int .i64 a0_1] 41 (0, 0)) (by (with_reducible repeat (first | refine blk_drewN ?_ _ | refine blk_drew ?_ | refine blk_alloc ?_ _)); exact BK1.out)) : gb1 ≠ gb2)); have n6_ := Aside0.mk ((by rw [hg]; exact Nat.ne_of_gt (blk_lt (g := gb1) (o := .cells #[.int .i64 a0_0, .int .i64 a0_1] 41 (0, 0)) (by (with_reducible repeat (first | refine blk_drewN ?_ _ | refine blk_drew ?_ | refine blk_alloc ?_ _)); exact BK1.out)) : gb2 ≠ gb1)); clear BK1; clear HB; have BK1 := n0_; have HB := n1_; have BK2 := n2_; have GW2 := n3_; have GE2 := n4_; have NB1_2 := n5_; have NB2_1 := n6_; clear n0_ n1_ n2_ n3_ n4_ n5_ n6_; clear hb hbox hg; have hnb4 := NB1_2.out; have hnc4 := NB2_1.out; have hcz5_0 : w3.cell? ⟨gb1, 0, none⟩ = some (.int .i64 a0_0) := (blk_cell BK1.out 0).trans rfl; have hcz5_1 : w3.cell? ⟨gb1, 1, none⟩ = some (.int .i64 a0_1) := (blk_cell BK1.out 1).trans rfl; have hfz5_0 := blk_frozen BK1.out 0; have hfz5_1 := blk_frozen BK1.out 1; have hcz6_0 : w3.cell? ⟨gb2, 0, none⟩ = some (.int .i64 0) := (blk_cell BK2.out 0).trans rfl; have hcz6_1 : w3.cell? ⟨gb2, 1, none⟩ = some (.int .i64 0) := (blk_cell BK2.out 1).trans rfl; have hfz6_0 := blk_frozen BK2.out 0; have hfz6_1 := blk_frozen BK2.out 1))
  refine bodyPost_ret (results_cell_row rfl _ _ gb2 41 #[.int .i64 a0_0, .int .i64 (wrap64 (-a0_1))] (0, 0) _ rfl (by (with_reducible repeat (first | refine blk_drewN ?_ _ | refine blk_drew ?_ | refine blk_alloc ?_ _)); refine blk_put (cs := #[.int .i64 a0_0, .int .i64 0]) ?_ 1 _ rfl; (with_reducible repeat (first | refine blk_drewN ?_ _ | refine blk_drew ?_ | refine blk_alloc ?_ _)); refine blk_put (cs := #[.int .i64 0, .int .i64 0]) ?_ 0 _ rfl; (with_reducible repeat (first | refine blk_drewN ?_ _ | refine blk_drew ?_ | refine blk_alloc ?_ _)); exact BK2.out) Try.underlying41 rfl (by kernel_rfl)) rfl ?_
  exact ⟨by first | rfl | (simp [errW_none, errW_some] <;> rfl) | (simp [*, errW_none, errW_some] <;> rfl), by repeat (first | (with_reducible first | exact HB.out | apply below_alloc | apply pw_below_drewN | apply below_drew1 | refine below_set ?_ GE1.out | refine below_set ?_ GE2.out) | exact HB.out)⟩

end Go.Proofs.Ytpmkkidljmedaaa.X
namespace Go.Proofs.Ytpmkkidljmedaaa.X
open Go.RowKit Go.Proofs.YtpmkkidljmedaaaW.PrintWords Go.Proofs.YtpmkkidljmedaaaW.PrintLast Go.Proofs.YtpmkkidljmedaaaW.PrintMore
attribute [local go_sem] max2_int min2_int max_two min_two max_three min_three max_four min_four   -- for this text's walks alone
set_option linter.unusedVariables false
set_option linter.unusedSimpArgs false

/-! ### headroomref07_RootOf: function 93 -/
def headroomref07_RootOf.f (k : Nat) (l0_0 : List Int) (a0_1 : Int) (a1 : Int) (a2 : Int) (a3 : Int) : Option (Int × Int) := (headroomref01_Pow.f k a1).bind fun t3 => ((headroomref07_left.f a2 t3).bind fun t4 => ((headroomref07_left.f (wrap64 (4 * t4)) t3).bind fun t5 => ((headroomref07_point.f k l0_0 a0_1 a1 t5).bind fun bt6 => ((headroomref03_Shift.f k bt6.1 bt6.2 (wrap64 (56 - a3)) 1).bind fun bt8 => ((headroomref01_Div.f (wrap64 (4 * t4)) t3).bind fun t11 => ((headroomref03_Turn.f k bt8.1 bt8.2 t11).bind fun bt12 => ((headroomref03_Conj.f bt12.1 bt12.2).bind fun bt14 => (some (bt14.1, bt14.2)))))))))
theorem headroomref07_RootOf.mono : ∀ a0 a1 a2 a3 a4 k, LeO (headroomref07_RootOf.f k a0 a1 a2 a3 a4) (headroomref07_RootOf.f (k + 1) a0 a1 a2 a3 a4) := by
  intro a0 a1 a2 a3 a4 k
  unfold headroomref07_RootOf.f
  repeat' first
      | (with_reducible exact headroomref01_Pow.mono _ _)
      | (with_reducible exact headroomref03_Shift.mono _ _ _ _ _)
      | (with_reducible exact headroomref03_Turn.mono _ _ _ _)
      | (with_reducible exact headroomref07_point.mono _ _ _ _ _)
      | (with_reducible exact LeO.refl _)
      | (with_reducible exact LeO.none _)
      | (with_reducible refine LeO.ite ?_ ?_)
      | (with_reducible refine LeO.bind ?_ (fun _ => ?_))
      | exact headroomref01_Pow.mono _ _
      | exact headroomref03_Shift.mono _ _ _ _ _
      | exact headroomref03_Turn.mono _ _ _ _
      | exact headroomref07_point.mono _ _ _ _ _
      | exact LeO.none _
      | refine LeO.ite ?_ ?_
      | refine LeO.bind ?_ (fun _ => ?_)
def headroomref07_RootOf.T3 : Bool × List (List Nat × List Nat) := (true, [([], []), ([], []), ([], []), ([2], [2]), ([], []), ([3, 4], [3, 4]), ([0, 1, 5, 5], [0, 1, 5]), ([], []), ([7], [7]), ([6, 8, 6], [6, 8]), ([], []), ([10, 9, 9, 0, 1, 2, 3, 4, 5, 6, 7, 8, 9, 10], [9, 10])])
def headroomref07_RootOf.B3 : List Nat := [0, 0, 0, 4, 0, 28, 63, 0, 128, 511, 0, 2047]
theorem headroomref07_RootOf.tab3 : rtab .any (opsOf Try.f93 3) = headroomref07_RootOf.T3 := by kernel_rfl
theorem headroomref07_RootOf.bits3 : waitsOk headroomref07_RootOf.T3.2 headroomref07_RootOf.B3 = true := by kernel_rfl
def headroomref07_RootOf.T4 : Bool × List (List Nat × List Nat) := (true, [([], []), ([], []), ([1], [1]), ([], []), ([2, 3], [2, 3]), ([0, 4, 4], [0, 4]), ([5, 5], [5]), ([6, 6, 0, 1, 2, 3, 4, 5, 6], [6])])
def headroomref07_RootOf.B4 : List Nat := [0, 0, 2, 0, 14, 31, 63, 127]
theorem headroomref07_RootOf.tab4 : rtab .any (opsOf Try.f93 4) = headroomref07_RootOf.T4 := by kernel_rfl
theorem headroomref07_RootOf.bits4 : waitsOk headroomref07_RootOf.T4.2 headroomref07_RootOf.B4 = true := by kernel_rfl
set_option maxHeartbeats 8000000 in
set_option maxRecDepth 100000 in
theorem headroomref07_RootOf.calls (k : Nat) (A0_0 : Option Addr) (c0_0 : Nat) (l0_0 : List Int) (a0_1 : Int) (a1 : Int) (a2 : Int) (a3 : Int) (r1 : Int) (r2 : Int) (w : World) (hr0_0 : Kd.C (Kd.int .i64) w A0_0 l0_0.length l0_0) (hc0_0 : l0_0.length ≤ c0_0) (h : headroomref07_RootOf.f k l0_0 a0_1 a1 a2 a3 = some (r1, r2)) :
    Calls Try.prog 93 #[.agg #[.slice A0_0 l0_0.length c0_0, .int .i64 a0_1], .int .i64 a1, .int .i64 a2, .int .i64 a3] w fun e w' => e = .returned (.agg #[.int .i64 r1, .int .i64 r2]) ∧ Below w.heap.size w w' := by
  have hu120 := Try.underlying120
  have hu41 := Try.underlying41
  have HR0_0 := Aside0.mk hr0_0
  have HC0_0 := Aside0.mk hc0_0
  clear hr0_0 hc0_0
  have HB := Aside0.mk (Below.refl w.heap.size w)
  have H : ((headroomref01_Pow.f k a1).bind fun t3 => ((headroomref07_left.f a2 t3).bind fun t4 => ((headroomref07_left.f (wrap64 (4 * t4)) t3).bind fun t5 => ((headroomref07_point.f k l0_0 a0_1 a1 t5).bind fun bt6 => ((headroomref03_Shift.f k bt6.1 bt6.2 (wrap64 (56 - a3)) 1).bind fun bt8 => ((headroomref01_Div.f (wrap64 (4 * t4)) t3).bind fun t11 => ((headroomref03_Turn.f k bt8.1 bt8.2 t11).bind fun bt12 => ((headroomref03_Conj.f bt12.1 bt12.2).bind fun bt14 => (some (bt14.1, bt14.2)))))))))) = some (r1, r2) := h
  clear h
  replace H := Option.bind_eq_some_iff.mp H
  obtain ⟨t3, A50, H⟩ := H
  replace H : ((headroomref07_left.f a2 t3).bind fun t4 => ((headroomref07_left.f (wrap64 (4 * t4)) t3).bind fun t5 => ((headroomref07_point.f k l0_0 a0_1 a1 t5).bind fun bt6 => ((headroomref03_Shift.f k bt6.1 bt6.2 (wrap64 (56 - a3)) 1).bind fun bt8 => ((headroomref01_Div.f (wrap64 (4 * t4)) t3).bind fun t11 => ((headroomref03_Turn.f k bt8.1 bt8.2 t11).bind fun bt12 => ((headroomref03_Conj.f bt12.1 bt12.2).bind fun bt14 => (some (bt14.1, bt14.2))))))))) = some (r1, r2) := H
  have A5 := Aside0.mk A50
  clear A50
  replace H := Option.bind_eq_some_iff.mp H
  obtain ⟨t4, A60, H⟩ := H
  replace H : ((headroomref07_left.f (wrap64 (4 * t4)) t3).bind fun t5 => ((headroomref07_point.f k l0_0 a0_1 a1 t5).bind fun bt6 => ((headroomref03_Shift.f k bt6.1 bt6.2 (wrap64 (56 - a3)) 1).bind fun bt8 => ((headroomref01_Div.f (wrap64 (4 * t4)) t3).bind fun t11 => ((headroomref03_Turn.f k bt8.1 bt8.2 t11).bind fun bt12 => ((headroomref03_Conj.f bt12.1 bt12.2).bind fun bt14 => (some (bt14.1, bt14.2)))))))) = some (r1, r2) := H
  have A6 := Aside0.mk A60
  clear A60
  replace H := Option.bind_eq_some_iff.mp H
  obtain ⟨t5, A70, H⟩ := H
  replace H : ((headroomref07_point.f k l0_0 a0_1 a1 t5).bind fun bt6 => ((headroomref03_Shift.f k bt6.1 bt6.2 (wrap64 (56 - a3)) 1).bind fun bt8 => ((headroomref01_Div.f (wrap64 (4 * t4)) t3).bind fun t11 => ((headroomref03_Turn.f k bt8.1 bt8.2 t11).bind fun bt12 => ((headroomref03_Conj.f bt12.1 bt12.2).bind fun bt14 => (some (bt14.1, bt14.2))))))) = some (r1, r2) := H
  have A7 := Aside0.mk A70
  clear A70
  replace H := Option.bind_eq_some_iff.mp H
  obtain ⟨⟨t6, t7⟩, A80, H⟩ := H
  replace H : ((headroomref03_Shift.f k t6 t7 (wrap64 (56 - a3)) 1).bind fun bt8 => ((headroomref01_Div.f (wrap64 (4 * t4)) t3).bind fun t11 => ((headroomref03_Turn.f k bt8.1 bt8.2 t11).bind fun bt12 => ((headroomref03_Conj.f bt12.1 bt12.2).bind fun bt14 => (some (bt14.1, bt14.2)))))) = some (r1, r2) := H
  have A8 := Aside0.mk A80
  clear A80
  replace H := Option.bind_eq_some_iff.mp H
  obtain ⟨⟨t8, t9⟩, A90, H⟩ := H
  replace H : ((headroomref01_Div.f (wrap64 (4 * t4)) t3).bind fun t11 => ((headroomref03_Turn.f k t8 t9 t11).bind fun bt12 => ((headroomref03_Conj.f bt12.1 bt12.2).bind fun bt14 => (some (bt14.1, bt14.2))))) = some (r1, r2) := H
  have A9 := Aside0.mk A90
  clear A90
  replace H := Option.bind_eq_some_iff.mp H
  obtain ⟨t11, A100, H⟩ := H
  replace H : ((headroomref03_Turn.f k t8 t9 t11).bind fun bt12 => ((headroomref03_Conj.f bt12.1 bt12.2).bind fun bt14 => (some (bt14.1, bt14.2)))) = some (r1, r2) := H
  have A10 := Aside0.mk A100
  clear A100
  replace H := Option.bind_eq_some_iff.mp H
  obtain ⟨⟨t12, t13⟩, A110, H⟩ := H
  replace H : ((headroomref03_Conj.f t12 t13).bind fun bt14 => (some (bt14.1, bt14.2))) = some (r1, r2) := H
  have A11 := Aside0.mk A110
  clear A110
  replace H := Option.bind_eq_some_iff.mp H
  obtain ⟨⟨t14, t15⟩, A120, H⟩ := H
  replace H : (some (t14, t15)) = some (r1, r2) := H
  have A12 := Aside0.mk A120
  clear A120
  simp only [Option.some.injEq, Prod.mk.injEq] at H
  obtain ⟨rfl, rfl⟩ := H
  go_enter Try.func93, Try.ntmps93
  try go_wp2_with (first | ((with_reducible refine gate_dst (N := 4) rfl ?_); refine box_event ?hg (N := 4) ?hd (cs := #[.slice A0_0 l0_0.length c0_0, .int .i64 a0_1]) (t := 120) ?hr ?_; (case hd => rfl); (case hg => rfl); (case hr => first | (go_simp; done) | (go_simp; rfl)); intro gb1 hg w13 hbox hb; have n0_ := Aside0.mk (below_step (by repeat (first | (with_reducible first | exact HB.out | apply below_alloc | apply pw_below_drewN | apply below_drew1) | exact HB.out)) hb); have n1_ := Aside0.mk (hbox); have n2_ := Aside0.mk ((by rw [hg]; exact (below_size (by repeat (first | (with_reducible first | exact HB.out | apply below_alloc | apply pw_below_drewN | apply below_drew1) | exact HB.out))) : w.heap.size ≤ gb1)); have n3_ := Aside0.mk ((by rw [hg]; exact (below_size (by repeat (first | (with_reducible first | exact HB.out | apply below_alloc | apply pw_below_drewN | apply below_drew1) | exact HB.out))) : w.heap.size ≤ gb1)); clear HB; have HB := n0_; have BK1 := n1_; have GW1 := n2_; have GE1 := n3_; clear n0_ n1_ n2_ n3_; clear hb hbox hg) | ((with_reducible refine gate_dst (N := 8) rfl ?_); refine box_event ?hg (N := 8) ?hd (cs := #[.int .i64 0, .int .i64 0]) (t := 41) ?hr ?_; (case hd => rfl); (case hg => rfl); (case hr => first | (go_simp; done) | (go_simp; rfl)); intro gb2 hg w14 hbox hb; have n0_ := Aside0.mk (blk_below (g := gb1) (o := .cells #[.slice A0_0 l0_0.length c0_0, .int .i64 a0_1] 120 (0, 0)) (by (with_reducible repeat (first | refine blk_drewN ?_ _ | refine blk_drew ?_ | refine blk_alloc ?_ _)); exact BK1.out) hb); have n1_ := Aside0.mk (below_step (by repeat (first | (with_reducible first | exact HB.out | apply below_alloc | apply pw_below_drewN | apply below_drew1 | refine below_set ?_ GE1.out) | exact HB.out)) hb); have n2_ := Aside0.mk (hbox); have n3_ := Aside0.mk ((by rw [hg]; exact (below_size (by repeat (first | (with_reducible first | exact HB.out | apply below_alloc | apply pw_below_drewN | apply below_drew1 | refine below_set ?_ GE1.out) | exact HB.out))) : w.heap.size ≤ gb2)); have n4_ := Aside0.mk ((by rw [hg]; exact (below_size (by repeat (first | (with_reducible first | exact HB.out | apply below_alloc | apply pw_below_drewN | apply below_drew1 | refine below_set ?_ GE1.out) | exact HB.out))) : w.heap.size ≤ gb2)); have n5_ := Aside0.mk ((by rw [hg]; exact Nat.ne_of_lt (blk_lt (g := gb1) (o := .cells #[.slice A0_0 l0_0.length c0_0, .int .i64 a0_1] 120 (0, 0)) (by (with_reducible repeat (first | refine blk_drewN ?_ _ | refine blk_drew ?_ | refine blk_alloc ?_ _)); exact BK1.out)) : gb1 ≠ gb2)); have n6_ := Aside0.mk ((by rw [hg]; exact Nat.ne_of_gt (blk_lt (g := gb1) (o := .cells #[.slice A0_0 l0_0.length c0_0, .int .i64 a0_1] 120 (0, 0)) (by (with_reducible repeat (first | refine blk_drewN ?_ _ | refine blk_drew ?_ | refine blk_alloc ?_ _)); exact BK1.out)) : gb2 ≠ gb1)); clear BK1; clear HB; have BK1 := n0_; have HB := n1_; have BK2 := n2_; have GW2 := n3_; have GE2 := n4_; have NB1_2 := n5_; have NB2_1 := n6_; clear n0_ n1_ n2_ n3_ n4_ n5_ n6_; clear hb hbox hg) | ((with_reducible refine gate_callee (f := 56) rfl ?_); refine goesL_ (some 13) rfl rfl Try.func56 (by kernel_rfl) rfl #[.int .i64 a1] rfl (by (try simp only [List.map_toArray, List.map_cons, List.map_nil]); first | done | rfl | (simp only [List.length_drop, List.length_take]; rfl)) ?_; (with_reducible refine (headroomref01_Pow.calls k a1 t3 _ A5.out).mono ?_); rintro e w' ⟨rfl, ⟨nd, rfl⟩⟩; refine ⟨_, rfl, ?_⟩; (try (rw [drewN_self w14]; generalize hq_ : World.drewN w14 _ = w14; have n0_ : Aside0 (w14.heap[gb1]? = some (.cells #[.slice A0_0 l0_0.length c0_0, .int .i64 a0_1] 120 (0, 0))) := ⟨by rw [← hq_]; exact (by (with_reducible repeat (first | refine blk_drewN ?_ _ | refine blk_drew ?_ | refine blk_alloc ?_ _)); exact BK1.out)⟩; have n1_ : Aside0 (w14.heap[gb2]? = some (.cells #[.int .i64 0, .int .i64 0] 41 (0, 0))) := ⟨by rw [← hq_]; exact (by (with_reducible repeat (first | refine blk_drewN ?_ _ | refine blk_drew ?_ | refine blk_alloc ?_ _)); exact BK2.out)⟩; have n2_ : Aside0 (Below w.heap.size w w14) := ⟨by rw [← hq_]; exact (by repeat (first | (with_reducible first | exact HB.out | apply below_alloc | apply pw_below_drewN | apply below_drew1 | refine below_set ?_ GE1.out | refine below_set ?_ GE2.out) | exact HB.out))⟩; clear BK1 BK2 HB hq_; have BK1 := n0_; have BK2 := n1_; have HB := n2_; clear n0_ n1_ n2_))) | ((with_reducible refine gate_callee (f := 120) rfl ?_); refine goesL_ (some 16) rfl rfl Try.func120 (by kernel_rfl) rfl #[.int .i64 a2, .int .i64 t3] rfl (by (try simp only [List.map_toArray, List.map_cons, List.map_nil]); first | done | rfl | (simp only [List.length_drop, List.length_take]; rfl)) ?_; (with_reducible refine (headroomref07_left.calls a2 t3 t4 _ A6.out).mono ?_); rintro e w' ⟨rfl, ⟨nd, rfl⟩⟩; refine ⟨_, rfl, ?_⟩; (try (rw [drewN_self w14]; generalize hq_ : World.drewN w14 _ = w14; have n0_ : Aside0 (w14.heap[gb1]? = some (.cells #[.slice A0_0 l0_0.length c0_0, .int .i64 a0_1] 120 (0, 0))) := ⟨by rw [← hq_]; exact (by (with_reducible repeat (first | refine blk_drewN ?_ _ | refine blk_drew ?_ | refine blk_alloc ?_ _)); exact BK1.out)⟩; have n1_ : Aside0 (w14.heap[gb2]? = some (.cells #[.int .i64 0, .int .i64 0] 41 (0, 0))) := ⟨by rw [← hq_]; exact (by (with_reducible repeat (first | refine blk_drewN ?_ _ | refine blk_drew ?_ | refine blk_alloc ?_ _)); exact BK2.out)⟩; have n2_ : Aside0 (Below w.heap.size w w14) := ⟨by rw [← hq_]; exact (by repeat (first | (with_reducible first | exact HB.out | apply below_alloc | apply pw_below_drewN | apply below_drew1 | refine below_set ?_ GE1.out | refine below_set ?_ GE2.out) | exact HB.out))⟩; clear BK1 BK2 HB hq_; have BK1 := n0_; have BK2 := n1_; have HB := n2_; clear n0_ n1_ n2_))))
  have n0_ := Aside0.mk (blk_drew BK1.out)
  have n1_ := Aside0.mk (blk_drew BK2.out)
  have n2_ := Aside0.mk (below_drew1 HB.out)
  clear BK1
  clear BK2
  clear HB
  have BK1 := n0_
  have BK2 := n1_
  have HB := n2_
  clear n0_ n1_ n2_
  refine start_ (n := 12) (S := fun w' => w'.cell? ⟨gb1, 0, none⟩ = some (.slice A0_0 l0_0.length c0_0) ∧ w'.cell? ⟨gb1, 1, none⟩ = some (.int .i64 a0_1)) (ds := []) #[false, false, false, false, false, false, false, false, false, false, false, false] (by kernel_rfl) rfl rfl ⟨(blk_cell BK1.out 0).trans rfl, (blk_cell BK1.out 1).trans rfl⟩ (fun hHeld => ?_); refine with_tabW headroomref07_RootOf.tab3 headroomref07_RootOf.bits3 (fun HT_ HW_ => ?_)
  generalize w14.drew = w15 at BK1 BK2 HB hHeld ⊢
  refine pure_ (i := 1) (N := some 18) (v := ?_) (a' := ?_) #[false, true, false, false, false, false, false, false, false, false, false, false] rfl rfl (any_of HT_.out (by kernel_rfl)) (fun _ _ _ h => h) (Or.inl ⟨by rfl, ?_⟩) ?_ ?_
  rotate_left
  · intro w'
    go_simp
    with_reducible rfl
  rotate_left
  · simp only [Act.put, List.setIfInBounds_toArray, List.set_cons_zero, List.set_cons_succ, i64_w, i32_w]
    rfl
  refine pure_ (i := 2) (N := some 19) (v := ?_) (a' := ?_) #[false, true, true, false, false, false, false, false, false, false, false, false] rfl rfl (any_of HT_.out (by kernel_rfl)) (fun _ _ _ h => h) (Or.inl ⟨by rfl, ?_⟩) ?_ ?_
  rotate_left
  · intro w'
    go_simp
    with_reducible rfl
  rotate_left
  · simp only [Act.put, List.setIfInBounds_toArray, List.set_cons_zero, List.set_cons_succ, i64_w, i32_w]
    rfl
  refine pure_ (i := 3) (N := some 20) (v := ?_) (a' := ?_) #[false, true, true, true, false, false, false, false, false, false, false, false] rfl rfl (any_of HT_.out (by kernel_rfl)) (fun _ _ _ h => h) (Or.inl ⟨by rfl, ?_⟩) ?_ ?_
  rotate_left
  · intro w'
    go_simp
    with_reducible rfl
  rotate_left
  · simp only [Act.put, List.setIfInBounds_toArray, List.set_cons_zero, List.set_cons_succ, i64_w, i32_w]
    rfl
  refine pure_ (i := 4) (N := some 21) (v := ?_) (a' := ?_) #[false, true, true, true, true, false, false, false, false, false, false, false] rfl rfl (any_of HT_.out (by kernel_rfl)) (fun _ _ _ h => h) (Or.inl ⟨by rfl, ?_⟩) ?_ ?_
  rotate_left
  · intro w'
    go_simp
    with_reducible rfl
  rotate_left
  · simp only [Act.put, List.setIfInBounds_toArray, List.set_cons_zero, List.set_cons_succ, i64_w, i32_w]
    rfl
  refine pure_ (i := 7) (N := some 24) (v := ?_) (a' := ?_) #[false, true, true, true, true, false, false, true, false, false, false, false] rfl rfl (any_of HT_.out (by kernel_rfl)) (fun _ _ _ h => h) (Or.inl ⟨by rfl, ?_⟩) ?_ ?_
  rotate_left
  · intro w'
    go_simp
    with_reducible rfl
  rotate_left
  · simp only [Act.put, List.setIfInBounds_toArray, List.set_cons_zero, List.set_cons_succ, i64_w, i32_w]
    rfl
  refine pure_ (i := 8) (N := some 25) (v := ?_) (a' := ?_) #[false, true, true, true, true, false, false, true, true, false, false, false] rfl rfl (any_of HT_.out (by kernel_rfl)) (fun _ _ _ h => h) (Or.inl ⟨by rfl, ?_⟩) ?_ ?_
  rotate_left
  · intro w'
    go_simp
    with_reducible rfl
  rotate_left
  · simp only [Act.put, List.setIfInBounds_toArray, List.set_cons_zero, List.set_cons_succ, i64_w, i32_w]
    rfl
  refine take_ (i := 0) (N := some 17) (v := ?_) (a' := ?_) #[true, true, true, true, true, false, false, true, true, false, false, false] rfl rfl (take_ofW HT_.out HW_.out (by kernel_rfl)) (fun _ _ _ h => h) (Or.inl ⟨by rfl, ?_⟩) hHeld ?_ ?_
  rotate_left
  · rintro w' ⟨s0, s1⟩
    go_simp
    with_reducible rfl
  rotate_left
  · simp only [Act.put, List.setIfInBounds_toArray, List.set_cons_zero, List.set_cons_succ, i64_w, i32_w]
    rfl
  refine join_ (σ := Nat) 1 #[true, true, true, true, true, true, true, true, true, true, true, false] (fun s_ => [(22, .int .i64 t5), (23, .agg #[.int .i64 t6, .int .i64 t7]), (26, .agg #[.int .i64 t8, .int .i64 t9]), (11, .pointer (some ⟨s_, 0, none⟩))]) (fun s_ w' => (w'.cell? ⟨gb1, 0, none⟩ = some (.slice A0_0 l0_0.length c0_0) ∧ w'.cell? ⟨gb1, 1, none⟩ = some (.int .i64 a0_1)) ∧ (w'.heap[gb1]? = some (.cells #[.slice A0_0 l0_0.length c0_0, .int .i64 a0_1] 120 (0, 0))) ∧ (w'.heap[s_]? = some (.cells #[.int .i64 0, .int .i64 0] 41 (0, 0))) ∧ (w'.heap[gb2]? = some (.cells #[.int .i64 0, .int .i64 0] 41 (0, 0))) ∧ (w.heap.size ≤ s_) ∧ (w.heap.size ≤ s_) ∧ (gb1 ≠ s_) ∧ (s_ ≠ gb1) ∧ (gb2 ≠ s_) ∧ (s_ ≠ gb2) ∧ (Below w.heap.size w w')) ?_ ?_
  rotate_left
  · intro hCont
    refine two_ (i := 5) (j := 10) (Ni := some 22) (Nj := some 11) #[true, true, true, true, true, true, false, true, true, false, false, false] #[true, true, true, true, true, false, false, true, true, false, true, false] rfl rfl rfl rfl (two_of HT_.out (by kernel_rfl)) (by decide) (by decide) (fun K hK => ?_) (fun K hK => ?_)
    · skip
      refine goes_ Try.func120 (by kernel_rfl) rfl #[.int .i64 (wrap64 (4 * t4)), .int .i64 t3] (by rfl) rfl rfl (by (try simp only [List.map_toArray, List.map_cons, List.map_nil]); first | done | rfl | (simp only [List.length_drop, List.length_take]; rfl)) ?_
      with_reducible refine (headroomref07_left.calls (wrap64 (4 * t4)) t3 t5 _ A7.out).mono ?_
      rintro e w' ⟨rfl, ⟨nd, rfl⟩⟩
      refine ⟨_, rfl, ?_⟩
      refine hK.out _ _ ⟨(blk_cell BK1.out 0).trans rfl, (blk_cell BK1.out 1).trans rfl⟩ (fun hHeld => ?_)
      clear hK K
      refine norm_ (a' := ?_) ?_ ?_
      rotate_left
      · show Act.put _ (some 22) _ = _
        simp only [Act.put, List.setIfInBounds_toArray, List.set_cons_zero, List.set_cons_succ, i64_w, i32_w]
        rfl
      refine two_ (i := 6) (j := 10) (Ni := some 23) (Nj := some 11) #[true, true, true, true, true, true, true, true, true, false, false, false] #[true, true, true, true, true, true, false, true, true, false, true, false] rfl rfl rfl rfl (two_of HT_.out (by kernel_rfl)) (by decide) (by decide) (fun K hK => ?_) (fun K hK => ?_)
      · skip
        refine goes_ Try.func121 (by kernel_rfl) rfl #[.agg #[.slice A0_0 l0_0.length c0_0, .int .i64 a0_1], .int .i64 a1, .int .i64 t5] (by rfl) rfl rfl (by (try simp only [List.map_toArray, List.map_cons, List.map_nil]); first | done | rfl | (simp only [List.length_drop, List.length_take]; rfl)) ?_
        with_reducible refine (headroomref07_point.calls k _ _ l0_0 a0_1 a1 t5 t6 t7 _ ?side1 ?side2 A8.out).mono ?_
        (case side1 => repeat (first | exact (Kd.C_below HR0_0.out (by repeat (first | (with_reducible first | exact HB.out | apply below_alloc | apply pw_below_drewN | apply below_drew1 | refine below_set ?_ GE1.out | refine below_set ?_ GE2.out) | exact HB.out))) | (with_reducible refine Kd.C_alloc ?_ _) | (with_reducible refine Kd.C_drewN ?_ _) | (with_reducible refine Kd.C_drew ?_)))
        (case side2 => exact HC0_0.out)
        rintro e w16 ⟨rfl, hb⟩
        refine ⟨_, rfl, ?_⟩
        have n0_ := Aside0.mk (blk_below (g := gb1) (o := .cells #[.slice A0_0 l0_0.length c0_0, .int .i64 a0_1] 120 (0, 0)) (by (with_reducible repeat (first | refine blk_drewN ?_ _ | refine blk_drew ?_ | refine blk_alloc ?_ _)); exact BK1.out) hb)
        have n1_ := Aside0.mk (blk_below (g := gb2) (o := .cells #[.int .i64 0, .int .i64 0] 41 (0, 0)) (by (with_reducible repeat (first | refine blk_drewN ?_ _ | refine blk_drew ?_ | refine blk_alloc ?_ _)); exact BK2.out) hb)
        have n2_ := Aside0.mk (below_step (by repeat (first | (with_reducible first | exact HB.out | apply below_alloc | apply pw_below_drewN | apply below_drew1 | refine below_set ?_ GE1.out | refine below_set ?_ GE2.out) | exact HB.out)) hb)
        clear BK1
        clear BK2
        clear HB
        have BK1 := n0_
        have BK2 := n1_
        have HB := n2_
        clear n0_ n1_ n2_
        (try clear hb)
        (try clear hb2)
        (try clear hk)
        (try clear hi)
        refine hK.out _ _ ⟨(blk_cell BK1.out 0).trans rfl, (blk_cell BK1.out 1).trans rfl⟩ (fun hHeld => ?_)
        clear hK K
        refine norm_ (a' := ?_) ?_ ?_
        rotate_left
        · show Act.put _ (some 23) _ = _
          simp only [Act.put, List.setIfInBounds_toArray, List.set_cons_zero, List.set_cons_succ, i64_w, i32_w]
          rfl
        refine two_ (i := 9) (j := 10) (Ni := some 26) (Nj := some 11) #[true, true, true, true, true, true, true, true, true, true, false, false] #[true, true, true, true, true, true, true, true, true, false, true, false] rfl rfl rfl rfl (two_of HT_.out (by kernel_rfl)) (by decide) (by decide) (fun K hK => ?_) (fun K hK => ?_)
        · skip
          refine goes_ Try.func59 (by kernel_rfl) rfl #[.agg #[.int .i64 t6, .int .i64 t7], .int .i64 (wrap64 (56 - a3)), .int .i64 1] (by rfl) rfl rfl (by (try simp only [List.map_toArray, List.map_cons, List.map_nil]); first | done | rfl | (simp only [List.length_drop, List.length_take]; rfl)) ?_
          with_reducible refine (headroomref03_Shift.calls k t6 t7 (wrap64 (56 - a3)) 1 t8 t9 _ A9.out).mono ?_
          rintro e w17 ⟨rfl, hb⟩
          refine ⟨_, rfl, ?_⟩
          have n0_ := Aside0.mk (blk_below (g := gb1) (o := .cells #[.slice A0_0 l0_0.length c0_0, .int .i64 a0_1] 120 (0, 0)) (by (with_reducible repeat (first | refine blk_drewN ?_ _ | refine blk_drew ?_ | refine blk_alloc ?_ _)); exact BK1.out) hb)
          have n1_ := Aside0.mk (blk_below (g := gb2) (o := .cells #[.int .i64 0, .int .i64 0] 41 (0, 0)) (by (with_reducible repeat (first | refine blk_drewN ?_ _ | refine blk_drew ?_ | refine blk_alloc ?_ _)); exact BK2.out) hb)
          have n2_ := Aside0.mk (below_step (by repeat (first | (with_reducible first | exact HB.out | apply below_alloc | apply pw_below_drewN | apply below_drew1 | refine below_set ?_ GE1.out | refine below_set ?_ GE2.out) | exact HB.out)) hb)
          clear BK1
          clear BK2
          clear HB
          have BK1 := n0_
          have BK2 := n1_
          have HB := n2_
          clear n0_ n1_ n2_
          (try clear hb)
          (try clear hb2)
          (try clear hk)
          (try clear hi)
          refine hK.out _ _ ⟨(blk_cell BK1.out 0).trans rfl, (blk_cell BK1.out 1).trans rfl⟩ (fun hHeld => ?_)
          clear hK K
          refine norm_ (a' := ?_) ?_ ?_
          rotate_left
          · show Act.put _ (some 26) _ = _
            simp only [Act.put, List.setIfInBounds_toArray, List.set_cons_zero, List.set_cons_succ, i64_w, i32_w]
            rfl
          refine one_ (i := 10) (N := some 11) #[true, true, true, true, true, true, true, true, true, true, true, false] rfl rfl (one_of HT_.out (by kernel_rfl)) (by decide) (fun K hK => ?_)
          refine box_step ?hg (N := 11) ?hd (cs := #[.int .i64 0, .int .i64 0]) (t := 41) ?hr ?_; (case hd => rfl); (case hg => rfl); (case hr => first | (go_simp; done) | (go_simp; rfl))
          intro gb10 hg w18 hbox hb
          have n0_ := Aside0.mk (blk_below (g := gb1) (o := .cells #[.slice A0_0 l0_0.length c0_0, .int .i64 a0_1] 120 (0, 0)) (by (with_reducible repeat (first | refine blk_drewN ?_ _ | refine blk_drew ?_ | refine blk_alloc ?_ _)); exact BK1.out) hb)
          have n1_ := Aside0.mk (blk_below (g := gb2) (o := .cells #[.int .i64 0, .int .i64 0] 41 (0, 0)) (by (with_reducible repeat (first | refine blk_drewN ?_ _ | refine blk_drew ?_ | refine blk_alloc ?_ _)); exact BK2.out) hb)
          have n2_ := Aside0.mk (below_step (by repeat (first | (with_reducible first | exact HB.out | apply below_alloc | apply pw_below_drewN | apply below_drew1 | refine below_set ?_ GE1.out | refine below_set ?_ GE2.out) | exact HB.out)) hb)
          have n3_ := Aside0.mk (hbox)
          have n4_ := Aside0.mk ((by rw [hg]; exact (below_size (by repeat (first | (with_reducible first | exact HB.out | apply below_alloc | apply pw_below_drewN | apply below_drew1 | refine below_set ?_ GE1.out | refine below_set ?_ GE2.out) | exact HB.out))) : w.heap.size ≤ gb10))
          have n5_ := Aside0.mk ((by rw [hg]; exact (below_size (by repeat (first | (with_reducible first | exact HB.out | apply below_alloc | apply pw_below_drewN | apply below_drew1 | refine below_set ?_ GE1.out | refine below_set ?_ GE2.out) | exact HB.out))) : w.heap.size ≤ gb10))
          have n6_ := Aside0.mk ((by rw [hg]; exact Nat.ne_of_lt (blk_lt (g := gb1) (o := .cells #[.slice A0_0 l0_0.length c0_0, .int .i64 a0_1] 120 (0, 0)) (by (with_reducible repeat (first | refine blk_drewN ?_ _ | refine blk_drew ?_ | refine blk_alloc ?_ _)); exact BK1.out)) : gb1 ≠ gb10))
          have n7_ := Aside0.mk ((by rw [hg]; exact Nat.ne_of_gt (blk_lt (g := gb1) (o := .cells #[.slice A0_0 l0_0.length c0_0, .int .i64 a0_1] 120 (0, 0)) (by (with_reducible repeat (first | refine blk_drewN ?_ _ | refine blk_drew ?_ | refine blk_alloc ?_ _)); exact BK1.out)) : gb10 ≠ gb1))
          have n8_ := Aside0.mk ((by rw [hg]; exact Nat.ne_of_lt (blk_lt (g := gb2) (o := .cells #[.int .i64 0, .int .i64 0] 41 (0, 0)) (by (with_reducible repeat (first | refine blk_drewN ?_ _ | refine blk_drew ?_ | refine blk_alloc ?_ _)); exact BK2.out)) : gb2 ≠ gb10))
          have n9_ := Aside0.mk ((by rw [hg]; exact Nat.ne_of_gt (blk_lt (g := gb2) (o := .cells #[.int .i64 0, .int .i64 0] 41 (0, 0)) (by (with_reducible repeat (first | refine blk_drewN ?_ _ | refine blk_drew ?_ | refine blk_alloc ?_ _)); exact BK2.out)) : gb10 ≠ gb2))
          clear BK1
          clear BK2
          clear HB
          have BK1 := n0_
          have BK2 := n1_
          have HB := n2_
          have BK10 := n3_
          have GW10 := n4_
          have GE10 := n5_
          have NB1_10 := n6_
          have NB10_1 := n7_
          have NB2_10 := n8_
          have NB10_2 := n9_
          clear n0_ n1_ n2_ n3_ n4_ n5_ n6_ n7_ n8_ n9_
          clear hb hbox hg
          refine hK.out _ _ ⟨(blk_cell BK1.out 0).trans rfl, (blk_cell BK1.out 1).trans rfl⟩ (fun hHeld => ?_)
          clear hK K
          refine norm_ (a' := ?_) ?_ ?_
          rotate_left
          · show Act.put _ (some 11) _ = _
            simp only [Act.put, List.setIfInBounds_toArray, List.set_cons_zero, List.set_cons_succ, i64_w, i32_w]
            rfl
          exact norm_ (by simp only [putAll, Act.put, List.setIfInBounds_toArray, List.set_cons_zero, List.set_cons_succ]) (hCont (gb10) _ ⟨hHeld, (by (with_reducible repeat (first | refine blk_drewN ?_ _ | refine blk_drew ?_ | refine blk_alloc ?_ _)); exact BK1.out), (by (with_reducible repeat (first | refine blk_drewN ?_ _ | refine blk_drew ?_ | refine blk_alloc ?_ _)); exact BK10.out), (by (with_reducible repeat (first | refine blk_drewN ?_ _ | refine blk_drew ?_ | refine blk_alloc ?_ _)); exact BK2.out), GW10.out, GE10.out, NB1_10.out, NB10_1.out, NB2_10.out, NB10_2.out, (by repeat (first | (with_reducible first | exact HB.out | apply below_alloc | apply pw_below_drewN | apply below_drew1 | refine below_set ?_ GE1.out | refine below_set ?_ GE2.out | refine below_set ?_ GE10.out) | exact HB.out))⟩)
        · skip
          refine box_step ?hg (N := 11) ?hd (cs := #[.int .i64 0, .int .i64 0]) (t := 41) ?hr ?_; (case hd => rfl); (case hg => rfl); (case hr => first | (go_simp; done) | (go_simp; rfl))
          intro gb10 hg w17 hbox hb
          have n0_ := Aside0.mk (blk_below (g := gb1) (o := .cells #[.slice A0_0 l0_0.length c0_0, .int .i64 a0_1] 120 (0, 0)) (by (with_reducible repeat (first | refine blk_drewN ?_ _ | refine blk_drew ?_ | refine blk_alloc ?_ _)); exact BK1.out) hb)
          have n1_ := Aside0.mk (blk_below (g := gb2) (o := .cells #[.int .i64 0, .int .i64 0] 41 (0, 0)) (by (with_reducible repeat (first | refine blk_drewN ?_ _ | refine blk_drew ?_ | refine blk_alloc ?_ _)); exact BK2.out) hb)
          have n2_ := Aside0.mk (below_step (by repeat (first | (with_reducible first | exact HB.out | apply below_alloc | apply pw_below_drewN | apply below_drew1 | refine below_set ?_ GE1.out | refine below_set ?_ GE2.out) | exact HB.out)) hb)
          have n3_ := Aside0.mk (hbox)
          have n4_ := Aside0.mk ((by rw [hg]; exact (below_size (by repeat (first | (with_reducible first | exact HB.out | apply below_alloc | apply pw_below_drewN | apply below_drew1 | refine below_set ?_ GE1.out | refine below_set ?_ GE2.out) | exact HB.out))) : w.heap.size ≤ gb10))
          have n5_ := Aside0.mk ((by rw [hg]; exact (below_size (by repeat (first | (with_reducible first | exact HB.out | apply below_alloc | apply pw_below_drewN | apply below_drew1 | refine below_set ?_ GE1.out | refine below_set ?_ GE2.out) | exact HB.out))) : w.heap.size ≤ gb10))
          have n6_ := Aside0.mk ((by rw [hg]; exact Nat.ne_of_lt (blk_lt (g := gb1) (o := .cells #[.slice A0_0 l0_0.length c0_0, .int .i64 a0_1] 120 (0, 0)) (by (with_reducible repeat (first | refine blk_drewN ?_ _ | refine blk_drew ?_ | refine blk_alloc ?_ _)); exact BK1.out)) : gb1 ≠ gb10))
          have n7_ := Aside0.mk ((by rw [hg]; exact Nat.ne_of_gt (blk_lt (g := gb1) (o := .cells #[.slice A0_0 l0_0.length c0_0, .int .i64 a0_1] 120 (0, 0)) (by (with_reducible repeat (first | refine blk_drewN ?_ _ | refine blk_drew ?_ | refine blk_alloc ?_ _)); exact BK1.out)) : gb10 ≠ gb1))
          have n8_ := Aside0.mk ((by rw [hg]; exact Nat.ne_of_lt (blk_lt (g := gb2) (o := .cells #[.int .i64 0, .int .i64 0] 41 (0, 0)) (by (with_reducible repeat (first | refine blk_drewN ?_ _ | refine blk_drew ?_ | refine blk_alloc ?_ _)); exact BK2.out)) : gb2 ≠ gb10))
          have n9_ := Aside0.mk ((by rw [hg]; exact Nat.ne_of_gt (blk_lt (g := gb2) (o := .cells #[.int .i64 0, .int .i64 0] 41 (0, 0)) (by (with_reducible repeat (first | refine blk_drewN ?_ _ | refine blk_drew ?_ | refine blk_alloc ?_ _)); exact BK2.out)) : gb10 ≠ gb2))
          clear BK1
          clear BK2
          clear HB
          have BK1 := n0_
          have BK2 := n1_
          have HB := n2_
          have BK10 := n3_
          have GW10 := n4_
          have GE10 := n5_
          have NB1_10 := n6_
          have NB10_1 := n7_
          have NB2_10 := n8_
          have NB10_2 := n9_
          clear n0_ n1_ n2_ n3_ n4_ n5_ n6_ n7_ n8_ n9_
          clear hb hbox hg
          refine hK.out _ _ ⟨(blk_cell BK1.out 0).trans rfl, (blk_cell BK1.out 1).trans rfl⟩ (fun hHeld => ?_)
          clear hK K
          refine norm_ (a' := ?_) ?_ ?_
          rotate_left
          · show Act.put _ (some 11) _ = _
            simp only [Act.put, List.setIfInBounds_toArray, List.set_cons_zero, List.set_cons_succ, i64_w, i32_w]
            rfl
          refine one_ (i := 9) (N := some 26) #[true, true, true, true, true, true, true, true, true, true, true, false] rfl rfl (one_of HT_.out (by kernel_rfl)) (by decide) (fun K hK => ?_)
          refine goes_ Try.func59 (by kernel_rfl) rfl #[.agg #[.int .i64 t6, .int .i64 t7], .int .i64 (wrap64 (56 - a3)), .int .i64 1] (by rfl) rfl rfl (by (try simp only [List.map_toArray, List.map_cons, List.map_nil]); first | done | rfl | (simp only [List.length_drop, List.length_take]; rfl)) ?_
          with_reducible refine (headroomref03_Shift.calls k t6 t7 (wrap64 (56 - a3)) 1 t8 t9 _ A9.out).mono ?_
          rintro e w18 ⟨rfl, hb⟩
          refine ⟨_, rfl, ?_⟩
          have n0_ := Aside0.mk (blk_below (g := gb1) (o := .cells #[.slice A0_0 l0_0.length c0_0, .int .i64 a0_1] 120 (0, 0)) (by (with_reducible repeat (first | refine blk_drewN ?_ _ | refine blk_drew ?_ | refine blk_alloc ?_ _)); exact BK1.out) hb)
          have n1_ := Aside0.mk (blk_below (g := gb2) (o := .cells #[.int .i64 0, .int .i64 0] 41 (0, 0)) (by (with_reducible repeat (first | refine blk_drewN ?_ _ | refine blk_drew ?_ | refine blk_alloc ?_ _)); exact BK2.out) hb)
          have n2_ := Aside0.mk (blk_below (g := gb10) (o := .cells #[.int .i64 0, .int .i64 0] 41 (0, 0)) (by (with_reducible repeat (first | refine blk_drewN ?_ _ | refine blk_drew ?_ | refine blk_alloc ?_ _)); exact BK10.out) hb)
          have n3_ := Aside0.mk (below_step (by repeat (first | (with_reducible first | exact HB.out | apply below_alloc | apply pw_below_drewN | apply below_drew1 | refine below_set ?_ GE1.out | refine below_set ?_ GE2.out | refine below_set ?_ GE10.out) | exact HB.out)) hb)
          clear BK1
          clear BK2
          clear BK10
          clear HB
          have BK1 := n0_
          have BK2 := n1_
          have BK10 := n2_
          have HB := n3_
          clear n0_ n1_ n2_ n3_
          (try clear hb)
          (try clear hb2)
          (try clear hk)
          (try clear hi)
          refine hK.out _ _ ⟨(blk_cell BK1.out 0).trans rfl, (blk_cell BK1.out 1).trans rfl⟩ (fun hHeld => ?_)
          clear hK K
          refine norm_ (a' := ?_) ?_ ?_
          rotate_left
          · show Act.put _ (some 26) _ = _
            simp only [Act.put, List.setIfInBounds_toArray, List.set_cons_zero, List.set_cons_succ, i64_w, i32_w]
            rfl
          exact norm_ (by simp only [putAll, Act.put, List.setIfInBounds_toArray, List.set_cons_zero, List.set_cons_succ]) (hCont (gb10) _ ⟨hHeld, (by (with_reducible repeat (first | refine blk_drewN ?_ _ | refine blk_drew ?_ | refine blk_alloc ?_ _)); exact BK1.out), (by (with_reducible repeat (first | refine blk_drewN ?_ _ | refine blk_drew ?_ | refine blk_alloc ?_ _)); exact BK10.out), (by (with_reducible repeat (first | refine blk_drewN ?_ _ | refine blk_drew ?_ | refine blk_alloc ?_ _)); exact BK2.out), GW10.out, GE10.out, NB1_10.out, NB10_1.out, NB2_10.out, NB10_2.out, (by repeat (first | (with_reducible first | exact HB.out | apply below_alloc | apply pw_below_drewN | apply below_drew1 | refine below_set ?_ GE1.out | refine below_set ?_ GE2.out | refine below_set ?_ GE10.out) | exact HB.out))⟩)
      · skip
        refine box_step ?hg (N := 11) ?hd (cs := #[.int .i64 0, .int .i64 0]) (t := 41) ?hr ?_; (case hd => rfl); (case hg => rfl); (case hr => first | (go_simp; done) | (go_simp; rfl))
        intro gb10 hg w16 hbox hb
        have n0_ := Aside0.mk (blk_below (g := gb1) (o := .cells #[.slice A0_0 l0_0.length c0_0, .int .i64 a0_1] 120 (0, 0)) (by (with_reducible repeat (first | refine blk_drewN ?_ _ | refine blk_drew ?_ | refine blk_alloc ?_ _)); exact BK1.out) hb)
        have n1_ := Aside0.mk (blk_below (g := gb2) (o := .cells #[.int .i64 0, .int .i64 0] 41 (0, 0)) (by (with_reducible repeat (first | refine blk_drewN ?_ _ | refine blk_drew ?_ | refine blk_alloc ?_ _)); exact BK2.out) hb)
        have n2_ := Aside0.mk (below_step (by repeat (first | (with_reducible first | exact HB.out | apply below_alloc | apply pw_below_drewN | apply below_drew1 | refine below_set ?_ GE1.out | refine below_set ?_ GE2.out) | exact HB.out)) hb)
        have n3_ := Aside0.mk (hbox)
        have n4_ := Aside0.mk ((by rw [hg]; exact (below_size (by repeat (first | (with_reducible first | exact HB.out | apply below_alloc | apply pw_below_drewN | apply below_drew1 | refine below_set ?_ GE1.out | refine below_set ?_ GE2.out) | exact HB.out))) : w.heap.size ≤ gb10))
        have n5_ := Aside0.mk ((by rw [hg]; exact (below_size (by repeat (first | (with_reducible first | exact HB.out | apply below_alloc | apply pw_below_drewN | apply below_drew1 | refine below_set ?_ GE1.out | refine below_set ?_ GE2.out) | exact HB.out))) : w.heap.size ≤ gb10))
        have n6_ := Aside0.mk ((by rw [hg]; exact Nat.ne_of_lt (blk_lt (g := gb1) (o := .cells #[.slice A0_0 l0_0.length c0_0, .int .i64 a0_1] 120 (0, 0)) (by (with_reducible repeat (first | refine blk_drewN ?_ _ | refine blk_drew ?_ | refine blk_alloc ?_ _)); exact BK1.out)) : gb1 ≠ gb10))
        have n7_ := Aside0.mk ((by rw [hg]; exact Nat.ne_of_gt (blk_lt (g := gb1) (o := .cells #[.slice A0_0 l0_0.length c0_0, .int .i64 a0_1] 120 (0, 0)) (by (with_reducible repeat (first | refine blk_drewN ?_ _ | refine blk_drew ?_ | refine blk_alloc ?_ _)); exact BK1.out)) : gb10 ≠ gb1))
        have n8_ := Aside0.mk ((by rw [hg]; exact Nat.ne_of_lt (blk_lt (g := gb2) (o := .cells #[.int .i64 0, .int .i64 0] 41 (0, 0)) (by (with_reducible repeat (first | refine blk_drewN ?_ _ | refine blk_drew ?_ | refine blk_alloc ?_ _)); exact BK2.out)) : gb2 ≠ gb10))
        have n9_ := Aside0.mk ((by rw [hg]; exact Nat.ne_of_gt (blk_lt (g := gb2) (o := .cells #[.int .i64 0, .int .i64 0] 41 (0, 0)) (by (with_reducible repeat (first | refine blk_drewN ?_ _ | refine blk_drew ?_ | refine blk_alloc ?_ _)); exact BK2.out)) : gb10 ≠ gb2))
        clear BK1
        clear BK2
        clear HB
        have BK1 := n0_
        have BK2 := n1_
        have HB := n2_
        have BK10 := n3_
        have GW10 := n4_
        have GE10 := n5_
        have NB1_10 := n6_
        have NB10_1 := n7_
        have NB2_10 := n8_
        have NB10_2 := n9_
        clear n0_ n1_ n2_ n3_ n4_ n5_ n6_ n7_ n8_ n9_
        clear hb hbox hg
        refine hK.out _ _ ⟨(blk_cell BK1.out 0).trans rfl, (blk_cell BK1.out 1).trans rfl⟩ (fun hHeld => ?_)
        clear hK K
        refine norm_ (a' := ?_) ?_ ?_
        rotate_left
        · show Act.put _ (some 11) _ = _
          simp only [Act.put, List.setIfInBounds_toArray, List.set_cons_zero, List.set_cons_succ, i64_w, i32_w]
          rfl
        refine one_ (i := 6) (N := some 23) #[true, true, true, true, true, true, true, true, true, false, true, false] rfl rfl (one_of HT_.out (by kernel_rfl)) (by decide) (fun K hK => ?_)
        refine goes_ Try.func121 (by kernel_rfl) rfl #[.agg #[.slice A0_0 l0_0.length c0_0, .int .i64 a0_1], .int .i64 a1, .int .i64 t5] (by rfl) rfl rfl (by (try simp only [List.map_toArray, List.map_cons, List.map_nil]); first | done | rfl | (simp only [List.length_drop, List.length_take]; rfl)) ?_
        with_reducible refine (headroomref07_point.calls k _ _ l0_0 a0_1 a1 t5 t6 t7 _ ?side1 ?side2 A8.out).mono ?_
        (case side1 => repeat (first | exact (Kd.C_below HR0_0.out HB.out) | (with_reducible refine Kd.C_alloc ?_ _) | (with_reducible refine Kd.C_drewN ?_ _) | (with_reducible refine Kd.C_drew ?_)))
        (case side2 => exact HC0_0.out)
        rintro e w17 ⟨rfl, hb⟩
        refine ⟨_, rfl, ?_⟩
        have n0_ := Aside0.mk (blk_below (g := gb1) (o := .cells #[.slice A0_0 l0_0.length c0_0, .int .i64 a0_1] 120 (0, 0)) (by (with_reducible repeat (first | refine blk_drewN ?_ _ | refine blk_drew ?_ | refine blk_alloc ?_ _)); exact BK1.out) hb)
        have n1_ := Aside0.mk (blk_below (g := gb2) (o := .cells #[.int .i64 0, .int .i64 0] 41 (0, 0)) (by (with_reducible repeat (first | refine blk_drewN ?_ _ | refine blk_drew ?_ | refine blk_alloc ?_ _)); exact BK2.out) hb)
        have n2_ := Aside0.mk (blk_below (g := gb10) (o := .cells #[.int .i64 0, .int .i64 0] 41 (0, 0)) (by (with_reducible repeat (first | refine blk_drewN ?_ _ | refine blk_drew ?_ | refine blk_alloc ?_ _)); exact BK10.out) hb)
        have n3_ := Aside0.mk (below_step (by repeat (first | (with_reducible first | exact HB.out | apply below_alloc | apply pw_below_drewN | apply below_drew1 | refine below_set ?_ GE1.out | refine below_set ?_ GE2.out | refine below_set ?_ GE10.out) | exact HB.out)) hb)
        clear BK1
        clear BK2
        clear BK10
        clear HB
        have BK1 := n0_
        have BK2 := n1_
        have BK10 := n2_
        have HB := n3_
        clear n0_ n1_ n2_ n3_
        (try clear hb)
        (try clear hb2)
        (try clear hk)
        (try clear hi)
        refine hK.out _ _ ⟨(blk_cell BK1.out 0).trans rfl, (blk_cell BK1.out 1).trans rfl⟩ (fun hHeld => ?_)
        clear hK K
        refine norm_ (a' := ?_) ?_ ?_
        rotate_left
        · show Act.put _ (some 23) _ = _
          simp only [Act.put, List.setIfInBounds_toArray, List.set_cons_zero, List.set_cons_succ, i64_w, i32_w]
          rfl
        refine one_ (i := 9) (N := some 26) #[true, true, true, true, true, true, true, true, true, true, true, false] rfl rfl (one_of HT_.out (by kernel_rfl)) (by decide) (fun K hK => ?_)
        refine goes_ Try.func59 (by kernel_rfl) rfl #[.agg #[.int .i64 t6, .int .i64 t7], .int .i64 (wrap64 (56 - a3)), .int .i64 1] (by rfl) rfl rfl (by (try simp only [List.map_toArray, List.map_cons, List.map_nil]); first | done | rfl | (simp only [List.length_drop, List.length_take]; rfl)) ?_
        with_reducible refine (headroomref03_Shift.calls k t6 t7 (wrap64 (56 - a3)) 1 t8 t9 _ A9.out).mono ?_
        rintro e w18 ⟨rfl, hb⟩
        refine ⟨_, rfl, ?_⟩
        have n0_ := Aside0.mk (blk_below (g := gb1) (o := .cells #[.slice A0_0 l0_0.length c0_0, .int .i64 a0_1] 120 (0, 0)) (by (with_reducible repeat (first | refine blk_drewN ?_ _ | refine blk_drew ?_ | refine blk_alloc ?_ _)); exact BK1.out) hb)
        have n1_ := Aside0.mk (blk_below (g := gb2) (o := .cells #[.int .i64 0, .int .i64 0] 41 (0, 0)) (by (with_reducible repeat (first | refine blk_drewN ?_ _ | refine blk_drew ?_ | refine blk_alloc ?_ _)); exact BK2.out) hb)
        have n2_ := Aside0.mk (blk_below (g := gb10) (o := .cells #[.int .i64 0, .int .i64 0] 41 (0, 0)) (by (with_reducible repeat (first | refine blk_drewN ?_ _ | refine blk_drew ?_ | refine blk_alloc ?_ _)); exact BK10.out) hb)
        have n3_ := Aside0.mk (below_step (by repeat (first | (with_reducible first | exact HB.out | apply below_alloc | apply pw_below_drewN | apply below_drew1 | refine below_set ?_ GE1.out | refine below_set ?_ GE2.out | refine below_set ?_ GE10.out) | exact HB.out)) hb)
        clear BK1
        clear BK2
        clear BK10
        clear HB
        have BK1 := n0_
        have BK2 := n1_
        have BK10 := n2_
        have HB := n3_
        clear n0_ n1_ n2_ n3_
        (try clear hb)
        (try clear hb2)
        (try clear hk)
        (try clear hi)
        refine hK.out _ _ ⟨(blk_cell BK1.out 0).trans rfl, (blk_cell BK1.out 1).trans rfl⟩ (fun hHeld => ?_)
        clear hK K
        refine norm_ (a' := ?_) ?_ ?_
        rotate_left
        · show Act.put _ (some 26) _ = _
          simp only [Act.put, List.setIfInBounds_toArray, List.set_cons_zero, List.set_cons_succ, i64_w, i32_w]
          rfl
        exact norm_ (by simp only [putAll, Act.put, List.setIfInBounds_toArray, List.set_cons_zero, List.set_cons_succ]) (hCont (gb10) _ ⟨hHeld, (by (with_reducible repeat (first | refine blk_drewN ?_ _ | refine blk_drew ?_ | refine blk_alloc ?_ _)); exact BK1.out), (by (with_reducible repeat (first | refine blk_drewN ?_ _ | refine blk_drew ?_ | refine blk_alloc ?_ _)); exact BK10.out), (by (with_reducible repeat (first | refine blk_drewN ?_ _ | refine blk_drew ?_ | refine blk_alloc ?_ _)); exact BK2.out), GW10.out, GE10.out, NB1_10.out, NB10_1.out, NB2_10.out, NB10_2.out, (by repeat (first | (with_reducible first | exact HB.out | apply below_alloc | apply pw_below_drewN | apply below_drew1 | refine below_set ?_ GE1.out | refine below_set ?_ GE2.out | refine below_set ?_ GE10.out) | exact HB.out))⟩)
    · skip
      refine box_step ?hg (N := 11) ?hd (cs := #[.int .i64 0, .int .i64 0]) (t := 41) ?hr ?_; (case hd => rfl); (case hg => rfl); (case hr => first | (go_simp; done) | (go_simp; rfl))
      intro gb10 hg w16 hbox hb
      have n0_ := Aside0.mk (blk_below (g := gb1) (o := .cells #[.slice A0_0 l0_0.length c0_0, .int .i64 a0_1] 120 (0, 0)) (by (with_reducible repeat (first | refine blk_drewN ?_ _ | refine blk_drew ?_ | refine blk_alloc ?_ _)); exact BK1.out) hb)
      have n1_ := Aside0.mk (blk_below (g := gb2) (o := .cells #[.int .i64 0, .int .i64 0] 41 (0, 0)) (by (with_reducible repeat (first | refine blk_drewN ?_ _ | refine blk_drew ?_ | refine blk_alloc ?_ _)); exact BK2.out) hb)
      have n2_ := Aside0.mk (below_step (by repeat (first | (with_reducible first | exact HB.out | apply below_alloc | apply pw_below_drewN | apply below_drew1 | refine below_set ?_ GE1.out | refine below_set ?_ GE2.out) | exact HB.out)) hb)
      have n3_ := Aside0.mk (hbox)
      have n4_ := Aside0.mk ((by rw [hg]; exact (below_size (by repeat (first | (with_reducible first | exact HB.out | apply below_alloc | apply pw_below_drewN | apply below_drew1 | refine below_set ?_ GE1.out | refine below_set ?_ GE2.out) | exact HB.out))) : w.heap.size ≤ gb10))
      have n5_ := Aside0.mk ((by rw [hg]; exact (below_size (by repeat (first | (with_reducible first | exact HB.out | apply below_alloc | apply pw_below_drewN | apply below_drew1 | refine below_set ?_ GE1.out | refine below_set ?_ GE2.out) | exact HB.out))) : w.heap.size ≤ gb10))
      have n6_ := Aside0.mk ((by rw [hg]; exact Nat.ne_of_lt (blk_lt (g := gb1) (o := .cells #[.slice A0_0 l0_0.length c0_0, .int .i64 a0_1] 120 (0, 0)) (by (with_reducible repeat (first | refine blk_drewN ?_ _ | refine blk_drew ?_ | refine blk_alloc ?_ _)); exact BK1.out)) : gb1 ≠ gb10))
      have n7_ := Aside0.mk ((by rw [hg]; exact Nat.ne_of_gt (blk_lt (g := gb1) (o := .cells #[.slice A0_0 l0_0.length c0_0, .int .i64 a0_1] 120 (0, 0)) (by (with_reducible repeat (first | refine blk_drewN ?_ _ | refine blk_drew ?_ | refine blk_alloc ?_ _)); exact BK1.out)) : gb10 ≠ gb1))
      have n8_ := Aside0.mk ((by rw [hg]; exact Nat.ne_of_lt (blk_lt (g := gb2) (o := .cells #[.int .i64 0, .int .i64 0] 41 (0, 0)) (by (with_reducible repeat (first | refine blk_drewN ?_ _ | refine blk_drew ?_ | refine blk_alloc ?_ _)); exact BK2.out)) : gb2 ≠ gb10))
      have n9_ := Aside0.mk ((by rw [hg]; exact Nat.ne_of_gt (blk_lt (g := gb2) (o := .cells #[.int .i64 0, .int .i64 0] 41 (0, 0)) (by (with_reducible repeat (first | refine blk_drewN ?_ _ | refine blk_drew ?_ | refine blk_alloc ?_ _)); exact BK2.out)) : gb10 ≠ gb2))
      clear BK1
      clear BK2
      clear HB
      have BK1 := n0_
      have BK2 := n1_
      have HB := n2_
      have BK10 := n3_
      have GW10 := n4_
      have GE10 := n5_
      have NB1_10 := n6_
      have NB10_1 := n7_
      have NB2_10 := n8_
      have NB10_2 := n9_
      clear n0_ n1_ n2_ n3_ n4_ n5_ n6_ n7_ n8_ n9_
      clear hb hbox hg
      refine hK.out _ _ ⟨(blk_cell BK1.out 0).trans rfl, (blk_cell BK1.out 1).trans rfl⟩ (fun hHeld => ?_)
      clear hK K
      refine norm_ (a' := ?_) ?_ ?_
      rotate_left
      · show Act.put _ (some 11) _ = _
        simp only [Act.put, List.setIfInBounds_toArray, List.set_cons_zero, List.set_cons_succ, i64_w, i32_w]
        rfl
      refine one_ (i := 5) (N := some 22) #[true, true, true, true, true, true, false, true, true, false, true, false] rfl rfl (one_of HT_.out (by kernel_rfl)) (by decide) (fun K hK => ?_)
      refine goes_ Try.func120 (by kernel_rfl) rfl #[.int .i64 (wrap64 (4 * t4)), .int .i64 t3] (by rfl) rfl rfl (by (try simp only [List.map_toArray, List.map_cons, List.map_nil]); first | done | rfl | (simp only [List.length_drop, List.length_take]; rfl)) ?_
      with_reducible refine (headroomref07_left.calls (wrap64 (4 * t4)) t3 t5 _ A7.out).mono ?_
      rintro e w' ⟨rfl, ⟨nd, rfl⟩⟩
      refine ⟨_, rfl, ?_⟩
      refine hK.out _ _ ⟨(blk_cell BK1.out 0).trans rfl, (blk_cell BK1.out 1).trans rfl⟩ (fun hHeld => ?_)
      clear hK K
      refine norm_ (a' := ?_) ?_ ?_
      rotate_left
      · show Act.put _ (some 22) _ = _
        simp only [Act.put, List.setIfInBounds_toArray, List.set_cons_zero, List.set_cons_succ, i64_w, i32_w]
        rfl
      refine one_ (i := 6) (N := some 23) #[true, true, true, true, true, true, true, true, true, false, true, false] rfl rfl (one_of HT_.out (by kernel_rfl)) (by decide) (fun K hK => ?_)
      refine goes_ Try.func121 (by kernel_rfl) rfl #[.agg #[.slice A0_0 l0_0.length c0_0, .int .i64 a0_1], .int .i64 a1, .int .i64 t5] (by rfl) rfl rfl (by (try simp only [List.map_toArray, List.map_cons, List.map_nil]); first | done | rfl | (simp only [List.length_drop, List.length_take]; rfl)) ?_
      with_reducible refine (headroomref07_point.calls k _ _ l0_0 a0_1 a1 t5 t6 t7 _ ?side1 ?side2 A8.out).mono ?_
      (case side1 => repeat (first | exact (Kd.C_below HR0_0.out (by repeat (first | (with_reducible first | exact HB.out | apply below_alloc | apply pw_below_drewN | apply below_drew1 | refine below_set ?_ GE1.out | refine below_set ?_ GE2.out | refine below_set ?_ GE10.out) | exact HB.out))) | (with_reducible refine Kd.C_alloc ?_ _) | (with_reducible refine Kd.C_drewN ?_ _) | (with_reducible refine Kd.C_drew ?_)))
      (case side2 => exact HC0_0.out)
      rintro e w17 ⟨rfl, hb⟩
      refine ⟨_, rfl, ?_⟩
      have n0_ := Aside0.mk (blk_below (g := gb1) (o := .cells #[.slice A0_0 l0_0.length c0_0, .int .i64 a0_1] 120 (0, 0)) (by (with_reducible repeat (first | refine blk_drewN ?_ _ | refine blk_drew ?_ | refine blk_alloc ?_ _)); exact BK1.out) hb)
      have n1_ := Aside0.mk (blk_below (g := gb2) (o := .cells #[.int .i64 0, .int .i64 0] 41 (0, 0)) (by (with_reducible repeat (first | refine blk_drewN ?_ _ | refine blk_drew ?_ | refine blk_alloc ?_ _)); exact BK2.out) hb)
      have n2_ := Aside0.mk (blk_below (g := gb10) (o := .cells #[.int .i64 0, .int .i64 0] 41 (0, 0)) (by (with_reducible repeat (first | refine blk_drewN ?_ _ | refine blk_drew ?_ | refine blk_alloc ?_ _)); exact BK10.out) hb)
      have n3_ := Aside0.mk (below_step (by repeat (first | (with_reducible first | exact HB.out | apply below_alloc | apply pw_below_drewN | apply below_drew1 | refine below_set ?_ GE1.out | refine below_set ?_ GE2.out | refine below_set ?_ GE10.out) | exact HB.out)) hb)
      clear BK1
      clear BK2
      clear BK10
      clear HB
      have BK1 := n0_
      have BK2 := n1_
      have BK10 := n2_
      have HB := n3_
      clear n0_ n1_ n2_ n3_
      (try clear hb)
      (try clear hb2)
      (try clear hk)
      (try clear hi)
      refine hK.out _ _ ⟨(blk_cell BK1.out 0).trans rfl, (blk_cell BK1.out 1).trans rfl⟩ (fun hHeld => ?_)
      clear hK K
      refine norm_ (a' := ?_) ?_ ?_
      rotate_left
      · show Act.put _ (some 23) _ = _
        simp only [Act.put, List.setIfInBounds_toArray, List.set_cons_zero, List.set_cons_succ, i64_w, i32_w]
        rfl
      refine one_ (i := 9) (N := some 26) #[true, true, true, true, true, true, true, true, true, true, true, false] rfl rfl (one_of HT_.out (by kernel_rfl)) (by decide) (fun K hK => ?_)
      refine goes_ Try.func59 (by kernel_rfl) rfl #[.agg #[.int .i64 t6, .int .i64 t7], .int .i64 (wrap64 (56 - a3)), .int .i64 1] (by rfl) rfl rfl (by (try simp only [List.map_toArray, List.map_cons, List.map_nil]); first | done | rfl | (simp only [List.length_drop, List.length_take]; rfl)) ?_
      with_reducible refine (headroomref03_Shift.calls k t6 t7 (wrap64 (56 - a3)) 1 t8 t9 _ A9.out).mono ?_
      rintro e w18 ⟨rfl, hb⟩
      refine ⟨_, rfl, ?_⟩
      have n0_ := Aside0.mk (blk_below (g := gb1) (o := .cells #[.slice A0_0 l0_0.length c0_0, .int .i64 a0_1] 120 (0, 0)) (by (with_reducible repeat (first | refine blk_drewN ?_ _ | refine blk_drew ?_ | refine blk_alloc ?_ _)); exact BK1.out) hb)
      have n1_ := Aside0.mk (blk_below (g := gb2) (o := .cells #[.int .i64 0, .int .i64 0] 41 (0, 0)) (by (with_reducible repeat (first | refine blk_drewN ?_ _ | refine blk_drew ?_ | refine blk_alloc ?_ _)); exact BK2.out) hb)
      have n2_ := Aside0.mk (blk_below (g := gb10) (o := .cells #[.int .i64 0, .int .i64 0] 41 (0, 0)) (by (with_reducible repeat (first | refine blk_drewN ?_ _ | refine blk_drew ?_ | refine blk_alloc ?_ _)); exact BK10.out) hb)
      have n3_ := Aside0.mk (below_step (by repeat (first | (with_reducible first | exact HB.out | apply below_alloc | apply pw_below_drewN | apply below_drew1 | refine below_set ?_ GE1.out | refine below_set ?_ GE2.out | refine below_set ?_ GE10.out) | exact HB.out)) hb)
      clear BK1
      clear BK2
      clear BK10
      clear HB
      have BK1 := n0_
      have BK2 := n1_
      have BK10 := n2_
      have HB := n3_
      clear n0_ n1_ n2_ n3_
      (try clear hb)
      (try clear hb2)
      (try clear hk)
      (try clear hi)
      refine hK.out _ _ ⟨(blk_cell BK1.out 0).trans rfl, (blk_cell BK1.out 1).trans rfl⟩ (fun hHeld => ?_)
      clear hK K
      refine norm_ (a' := ?_) ?_ ?_
      rotate_left
      · show Act.put _ (some 26) _ = _
        simp only [Act.put, List.setIfInBounds_toArray, List.set_cons_zero, List.set_cons_succ, i64_w, i32_w]
        rfl
      exact norm_ (by simp only [putAll, Act.put, List.setIfInBounds_toArray, List.set_cons_zero, List.set_cons_succ]) (hCont (gb10) _ ⟨hHeld, (by (with_reducible repeat (first | refine blk_drewN ?_ _ | refine blk_drew ?_ | refine blk_alloc ?_ _)); exact BK1.out), (by (with_reducible repeat (first | refine blk_drewN ?_ _ | refine blk_drew ?_ | refine blk_alloc ?_ _)); exact BK10.out), (by (with_reducible repeat (first | refine blk_drewN ?_ _ | refine blk_drew ?_ | refine blk_alloc ?_ _)); exact BK2.out), GW10.out, GE10.out, NB1_10.out, NB10_1.out, NB2_10.out, NB10_2.out, (by repeat (first | (with_reducible first | exact HB.out | apply below_alloc | apply pw_below_drewN | apply below_drew1 | refine below_set ?_ GE1.out | refine below_set ?_ GE2.out | refine below_set ?_ GE10.out) | exact HB.out))⟩)
  rintro gb10 w19 ⟨hS_, h0_, h1_, h2_, h3_, h4_, h5_, h6_, h7_, h8_, h9_⟩
  have n0_ : Aside0 (w19.heap[gb1]? = some (.cells #[.slice A0_0 l0_0.length c0_0, .int .i64 a0_1] 120 (0, 0))) := ⟨h0_⟩
  have n1_ : Aside0 (w19.heap[gb10]? = some (.cells #[.int .i64 0, .int .i64 0] 41 (0, 0))) := ⟨h1_⟩
  have n2_ : Aside0 (w19.heap[gb2]? = some (.cells #[.int .i64 0, .int .i64 0] 41 (0, 0))) := ⟨h2_⟩
  have n3_ : Aside0 (w.heap.size ≤ gb10) := ⟨h3_⟩
  have n4_ : Aside0 (w.heap.size ≤ gb10) := ⟨h4_⟩
  have n5_ : Aside0 (gb1 ≠ gb10) := ⟨h5_⟩
  have n6_ : Aside0 (gb10 ≠ gb1) := ⟨h6_⟩
  have n7_ : Aside0 (gb2 ≠ gb10) := ⟨h7_⟩
  have n8_ : Aside0 (gb10 ≠ gb2) := ⟨h8_⟩
  have n9_ : Aside0 (Below w.heap.size w w19) := ⟨h9_⟩
  clear BK1
  clear BK2
  clear HB
  clear h0_ h1_ h2_ h3_ h4_ h5_ h6_ h7_ h8_ h9_
  have BK1 := n0_
  have BK10 := n1_
  have BK2 := n2_
  have GW10 := n3_
  have GE10 := n4_
  have NB1_10 := n5_
  have NB10_1 := n6_
  have NB2_10 := n7_
  have NB10_2 := n8_
  have HB := n9_
  clear n0_ n1_ n2_ n3_ n4_ n5_ n6_ n7_ n8_ n9_
  have hHeld : w19.cell? ⟨gb1, 0, none⟩ = some (.slice A0_0 l0_0.length c0_0) ∧ w19.cell? ⟨gb1, 1, none⟩ = some (.int .i64 a0_1) := hS_
  refine norm_ (a' := ?_) ?_ ?_
  rotate_left
  · simp only [putAll, Act.put, List.setIfInBounds_toArray, List.set_cons_zero, List.set_cons_succ]
    rfl
  refine one_ (i := 11) (N := none) #[true, true, true, true, true, true, true, true, true, true, true, true] rfl rfl (one_of HT_.out (by kernel_rfl)) (by decide) (fun K hK => ?_)
  have hs20 : w19.cell? ⟨gb10, 0, none⟩ = some (.int .i64 0) := (blk_cell BK10.out 0).trans rfl
  have hfs20 := blk_frozen BK10.out 0
  have hns20_0 := NB1_10.out
  have hns20_1 := NB2_10.out
  have hms20_0 := NB10_1.out
  have hms20_1 := NB10_2.out
  have hs21 : w19.cell? ⟨gb10, 1, none⟩ = some (.int .i64 0) := (blk_cell BK10.out 1).trans rfl
  have hfs21 := blk_frozen BK10.out 1
  have hns21_0 := NB1_10.out
  have hns21_1 := NB2_10.out
  have hms21_0 := NB10_1.out
  have hms21_1 := NB10_2.out
  refine skip_ (w1 := ?_) (by rfl) rfl ?_ ?_
  rotate_left
  · go_simp
    rfl
  refine hK.out _ _ ⟨((cell_far (p := ⟨gb10, _, none⟩) NB1_10.out _).trans (((cell_far (p := ⟨gb10, _, none⟩) NB1_10.out _).trans (hHeld.1)))), ((cell_far (p := ⟨gb10, _, none⟩) NB1_10.out _).trans (((cell_far (p := ⟨gb10, _, none⟩) NB1_10.out _).trans (hHeld.2))))⟩ (fun hHeld => ?_)
  clear hK K
  refine done_ (done_of HT_.out (by kernel_rfl)) ?_
  try go_wp2
  have n0_ : Aside0 (((w19.setCell ⟨gb10, 0, none⟩ (.int .i64 t8)).setCell ⟨gb10, 1, none⟩ (.int .i64 t9)).heap[gb1]? = some (.cells #[.slice A0_0 l0_0.length c0_0, .int .i64 a0_1] 120 (0, 0))) := ⟨by (with_reducible repeat (first | refine blk_drewN ?_ _ | refine blk_drew ?_ | refine blk_alloc ?_ _)); refine blk_far ?_ NB1_10.out _; (with_reducible repeat (first | refine blk_drewN ?_ _ | refine blk_drew ?_ | refine blk_alloc ?_ _)); refine blk_far ?_ NB1_10.out _; (with_reducible repeat (first | refine blk_drewN ?_ _ | refine blk_drew ?_ | refine blk_alloc ?_ _)); exact BK1.out⟩
  have n1_ : Aside0 (((w19.setCell ⟨gb10, 0, none⟩ (.int .i64 t8)).setCell ⟨gb10, 1, none⟩ (.int .i64 t9)).heap[gb2]? = some (.cells #[.int .i64 0, .int .i64 0] 41 (0, 0))) := ⟨by (with_reducible repeat (first | refine blk_drewN ?_ _ | refine blk_drew ?_ | refine blk_alloc ?_ _)); refine blk_far ?_ NB2_10.out _; (with_reducible repeat (first | refine blk_drewN ?_ _ | refine blk_drew ?_ | refine blk_alloc ?_ _)); refine blk_far ?_ NB2_10.out _; (with_reducible repeat (first | refine blk_drewN ?_ _ | refine blk_drew ?_ | refine blk_alloc ?_ _)); exact BK2.out⟩
  have n2_ : Aside0 (((w19.setCell ⟨gb10, 0, none⟩ (.int .i64 t8)).setCell ⟨gb10, 1, none⟩ (.int .i64 t9)).heap[gb10]? = some (.cells #[.int .i64 t8, .int .i64 t9] 41 (0, 0))) := ⟨by (with_reducible repeat (first | refine blk_drewN ?_ _ | refine blk_drew ?_ | refine blk_alloc ?_ _)); refine blk_put (cs := #[.int .i64 t8, .int .i64 0]) ?_ 1 _ rfl; (with_reducible repeat (first | refine blk_drewN ?_ _ | refine blk_drew ?_ | refine blk_alloc ?_ _)); refine blk_put (cs := #[.int .i64 0, .int .i64 0]) ?_ 0 _ rfl; (with_reducible repeat (first | refine blk_drewN ?_ _ | refine blk_drew ?_ | refine blk_alloc ?_ _)); exact BK10.out⟩
  have n3_ : Aside0 (Below w.heap.size w ((w19.setCell ⟨gb10, 0, none⟩ (.int .i64 t8)).setCell ⟨gb10, 1, none⟩ (.int .i64 t9))) := ⟨by repeat (first | (with_reducible first | exact HB.out | apply below_alloc | apply pw_below_drewN | apply below_drew1 | refine below_set ?_ GE1.out | refine below_set ?_ GE2.out | refine below_set ?_ GE10.out) | exact HB.out)⟩
  (try clear BK1)
  (try clear BK2)
  (try clear BK10)
  (try clear HB)
  generalize ((w19.setCell ⟨gb10, 0, none⟩ (.int .i64 t8)).setCell ⟨gb10, 1, none⟩ (.int .i64 t9)) = w22 at n0_ n1_ n2_ n3_ ⊢
  have BK1 := n0_
  have BK2 := n1_
  have BK10 := n2_
  have HB := n3_
  clear n0_ n1_ n2_ n3_
  have n0_ := Aside0.mk (blk_drew BK1.out)
  have n1_ := Aside0.mk (blk_drew BK2.out)
  have n2_ := Aside0.mk (blk_drew BK10.out)
  have n3_ := Aside0.mk (below_drew1 HB.out)
  clear BK1
  clear BK2
  clear BK10
  clear HB
  have BK1 := n0_
  have BK2 := n1_
  have BK10 := n2_
  have HB := n3_
  clear n0_ n1_ n2_ n3_
  refine start_ (n := 8) (S := fun w' => w'.cell? ⟨gb10, 0, none⟩ = some (.int .i64 t8) ∧ w'.cell? ⟨gb10, 1, none⟩ = some (.int .i64 t9)) (ds := []) #[false, false, false, false, false, false, false, false] (by kernel_rfl) rfl rfl ⟨(blk_cell BK10.out 0).trans rfl, (blk_cell BK10.out 1).trans rfl⟩ (fun hHeld => ?_); refine with_tabW headroomref07_RootOf.tab4 headroomref07_RootOf.bits4 (fun HT_ HW_ => ?_)
  generalize w22.drew = w23 at BK1 BK2 BK10 HB hHeld ⊢
  refine pure_ (i := 1) (N := some 28) (v := ?_) (a' := ?_) #[false, true, false, false, false, false, false, false] rfl rfl (any_of HT_.out (by kernel_rfl)) (fun _ _ _ h => h) (Or.inl ⟨by rfl, ?_⟩) ?_ ?_
  rotate_left
  · intro w'
    go_simp
    with_reducible rfl
  rotate_left
  · simp only [Act.put, List.setIfInBounds_toArray, List.set_cons_zero, List.set_cons_succ, i64_w, i32_w]
    rfl
  refine pure_ (i := 2) (N := some 29) (v := ?_) (a' := ?_) #[false, true, true, false, false, false, false, false] rfl rfl (any_of HT_.out (by kernel_rfl)) (fun _ _ _ h => h) (Or.inl ⟨by rfl, ?_⟩) ?_ ?_
  rotate_left
  · intro w'
    go_simp
    with_reducible rfl
  rotate_left
  · simp only [Act.put, List.setIfInBounds_toArray, List.set_cons_zero, List.set_cons_succ, i64_w, i32_w]
    rfl
  refine pure_ (i := 3) (N := some 30) (v := ?_) (a' := ?_) #[false, true, true, true, false, false, false, false] rfl rfl (any_of HT_.out (by kernel_rfl)) (fun _ _ _ h => h) (Or.inl ⟨by rfl, ?_⟩) ?_ ?_
  rotate_left
  · intro w'
    go_simp
    with_reducible rfl
  rotate_left
  · simp only [Act.put, List.setIfInBounds_toArray, List.set_cons_zero, List.set_cons_succ, i64_w, i32_w]
    rfl
  refine take_ (i := 0) (N := some 27) (v := ?_) (a' := ?_) #[true, true, true, true, false, false, false, false] rfl rfl (take_ofW HT_.out HW_.out (by kernel_rfl)) (fun _ _ _ h => h) (Or.inl ⟨by rfl, ?_⟩) hHeld ?_ ?_
  rotate_left
  · rintro w' ⟨s0, s1⟩
    go_simp
    with_reducible rfl
  rotate_left
  · simp only [Act.put, List.setIfInBounds_toArray, List.set_cons_zero, List.set_cons_succ, i64_w, i32_w]
    rfl
  refine one_ (i := 4) (N := some 31) #[true, true, true, true, true, false, false, false] rfl rfl (one_of HT_.out (by kernel_rfl)) (by decide) (fun K hK => ?_)
  refine goes_ Try.func114 (by kernel_rfl) rfl #[.int .i64 (wrap64 (4 * t4)), .int .i64 t3] (by rfl) rfl rfl (by (try simp only [List.map_toArray, List.map_cons, List.map_nil]); first | done | rfl | (simp only [List.length_drop, List.length_take]; rfl)) ?_
  with_reducible refine (headroomref01_Div.calls (wrap64 (4 * t4)) t3 t11 _ A10.out).mono ?_
  rintro e w' ⟨rfl, ⟨nd, rfl⟩⟩
  refine ⟨_, rfl, ?_⟩
  refine hK.out _ _ ⟨(blk_cell BK10.out 0).trans rfl, (blk_cell BK10.out 1).trans rfl⟩ (fun hHeld => ?_)
  clear hK K
  refine norm_ (a' := ?_) ?_ ?_
  rotate_left
  · show Act.put _ (some 31) _ = _
    simp only [Act.put, List.setIfInBounds_toArray, List.set_cons_zero, List.set_cons_succ, i64_w, i32_w]
    rfl
  refine one_ (i := 5) (N := some 32) #[true, true, true, true, true, true, false, false] rfl rfl (one_of HT_.out (by kernel_rfl)) (by decide) (fun K hK => ?_)
  refine goes_ Try.func68 (by kernel_rfl) rfl #[.agg #[.int .i64 t8, .int .i64 t9], .int .i64 t11] (by rfl) rfl rfl (by (try simp only [List.map_toArray, List.map_cons, List.map_nil]); first | done | rfl | (simp only [List.length_drop, List.length_take]; rfl)) ?_
  with_reducible refine (headroomref03_Turn.calls k t8 t9 t11 t12 t13 _ A11.out).mono ?_
  rintro e w24 ⟨rfl, hb⟩
  refine ⟨_, rfl, ?_⟩
  have n0_ := Aside0.mk (blk_below (g := gb1) (o := .cells #[.slice A0_0 l0_0.length c0_0, .int .i64 a0_1] 120 (0, 0)) (by (with_reducible repeat (first | refine blk_drewN ?_ _ | refine blk_drew ?_ | refine blk_alloc ?_ _)); exact BK1.out) hb)
  have n1_ := Aside0.mk (blk_below (g := gb2) (o := .cells #[.int .i64 0, .int .i64 0] 41 (0, 0)) (by (with_reducible repeat (first | refine blk_drewN ?_ _ | refine blk_drew ?_ | refine blk_alloc ?_ _)); exact BK2.out) hb)
  have n2_ := Aside0.mk (blk_below (g := gb10) (o := .cells #[.int .i64 t8, .int .i64 t9] 41 (0, 0)) (by (with_reducible repeat (first | refine blk_drewN ?_ _ | refine blk_drew ?_ | refine blk_alloc ?_ _)); exact BK10.out) hb)
  have n3_ := Aside0.mk (below_step (by repeat (first | (with_reducible first | exact HB.out | apply below_alloc | apply pw_below_drewN | apply below_drew1 | refine below_set ?_ GE1.out | refine below_set ?_ GE2.out | refine below_set ?_ GE10.out) | exact HB.out)) hb)
  clear BK1
  clear BK2
  clear BK10
  clear HB
  have BK1 := n0_
  have BK2 := n1_
  have BK10 := n2_
  have HB := n3_
  clear n0_ n1_ n2_ n3_
  (try clear hb)
  (try clear hb2)
  (try clear hk)
  (try clear hi)
  refine hK.out _ _ ⟨(blk_cell BK10.out 0).trans rfl, (blk_cell BK10.out 1).trans rfl⟩ (fun hHeld => ?_)
  clear hK K
  refine norm_ (a' := ?_) ?_ ?_
  rotate_left
  · show Act.put _ (some 32) _ = _
    simp only [Act.put, List.setIfInBounds_toArray, List.set_cons_zero, List.set_cons_succ, i64_w, i32_w]
    rfl
  refine one_ (i := 6) (N := some 33) #[true, true, true, true, true, true, true, false] rfl rfl (one_of HT_.out (by kernel_rfl)) (by decide) (fun K hK => ?_)
  refine goes_ Try.func91 (by kernel_rfl) rfl #[.agg #[.int .i64 t12, .int .i64 t13]] (by rfl) rfl rfl (by (try simp only [List.map_toArray, List.map_cons, List.map_nil]); first | done | rfl | (simp only [List.length_drop, List.length_take]; rfl)) ?_
  with_reducible refine (headroomref03_Conj.calls t12 t13 t14 t15 _ A12.out).mono ?_
  rintro e w25 ⟨rfl, hb⟩
  refine ⟨_, rfl, ?_⟩
  have n0_ := Aside0.mk (blk_below (g := gb1) (o := .cells #[.slice A0_0 l0_0.length c0_0, .int .i64 a0_1] 120 (0, 0)) (by (with_reducible repeat (first | refine blk_drewN ?_ _ | refine blk_drew ?_ | refine blk_alloc ?_ _)); exact BK1.out) hb)
  have n1_ := Aside0.mk (blk_below (g := gb2) (o := .cells #[.int .i64 0, .int .i64 0] 41 (0, 0)) (by (with_reducible repeat (first | refine blk_drewN ?_ _ | refine blk_drew ?_ | refine blk_alloc ?_ _)); exact BK2.out) hb)
  have n2_ := Aside0.mk (blk_below (g := gb10) (o := .cells #[.int .i64 t8, .int .i64 t9] 41 (0, 0)) (by (with_reducible repeat (first | refine blk_drewN ?_ _ | refine blk_drew ?_ | refine blk_alloc ?_ _)); exact BK10.out) hb)
  have n3_ := Aside0.mk (below_step (by repeat (first | (with_reducible first | exact HB.out | apply below_alloc | apply pw_below_drewN | apply below_drew1 | refine below_set ?_ GE1.out | refine below_set ?_ GE2.out | refine below_set ?_ GE10.out) | exact HB.out)) hb)
  clear BK1
  clear BK2
  clear BK10
  clear HB
  have BK1 := n0_
  have BK2 := n1_
  have BK10 := n2_
  have HB := n3_
  clear n0_ n1_ n2_ n3_
  (try clear hb)
  (try clear hb2)
  (try clear hk)
  (try clear hi)
  refine hK.out _ _ ⟨(blk_cell BK10.out 0).trans rfl, (blk_cell BK10.out 1).trans rfl⟩ (fun hHeld => ?_)
  clear hK K
  refine norm_ (a' := ?_) ?_ ?_
  rotate_left
  · show Act.put _ (some 33) _ = _
    simp only [Act.put, List.setIfInBounds_toArray, List.set_cons_zero, List.set_cons_succ, i64_w, i32_w]
    rfl
  refine one_ (i := 7) (N := none) #[true, true, true, true, true, true, true, true] rfl rfl (one_of HT_.out (by kernel_rfl)) (by decide) (fun K hK => ?_)
  have hs26 : w25.cell? ⟨gb2, 0, none⟩ = some (.int .i64 0) := (blk_cell BK2.out 0).trans rfl
  have hfs26 := blk_frozen BK2.out 0
  have hns26_0 := NB1_2.out
  have hns26_2 := NB10_2.out
  have hms26_0 := NB2_1.out
  have hms26_2 := NB2_10.out
  have hs27 : w25.cell? ⟨gb2, 1, none⟩ = some (.int .i64 0) := (blk_cell BK2.out 1).trans rfl
  have hfs27 := blk_frozen BK2.out 1
  have hns27_0 := NB1_2.out
  have hns27_2 := NB10_2.out
  have hms27_0 := NB2_1.out
  have hms27_2 := NB2_10.out
  refine skip_ (w1 := ?_) (by rfl) rfl ?_ ?_
  rotate_left
  · go_simp
    rfl
  refine hK.out _ _ ⟨((cell_far (p := ⟨gb2, _, none⟩) NB10_2.out _).trans (((cell_far (p := ⟨gb2, _, none⟩) NB10_2.out _).trans (hHeld.1)))), ((cell_far (p := ⟨gb2, _, none⟩) NB10_2.out _).trans (((cell_far (p := ⟨gb2, _, none⟩) NB10_2.out _).trans (hHeld.2))))⟩ (fun hHeld => ?_)
  clear hK K
  refine done_ (done_of HT_.out (by kernel_rfl)) ?_
  try go_wp2
  refine bodyPost_ret (results_cell_row rfl _ _ gb2 41 #[.int .i64 t14, .int .i64 t15] (0, 0) _ rfl (by (with_reducible repeat (first | refine blk_drewN ?_ _ | refine blk_drew ?_ | refine blk_alloc ?_ _)); refine blk_put (cs := #[.int .i64 t14, .int .i64 0]) ?_ 1 _ rfl; (with_reducible repeat (first | refine blk_drewN ?_ _ | refine blk_drew ?_ | refine blk_alloc ?_ _)); refine blk_put (cs := #[.int .i64 0, .int .i64 0]) ?_ 0 _ rfl; (with_reducible repeat (first | refine blk_drewN ?_ _ | refine blk_drew ?_ | refine blk_alloc ?_ _)); exact BK2.out) Try.underlying41 rfl (by kernel_rfl)) rfl ?_
  exact ⟨by first | rfl | (simp [errW_none, errW_some] <;> rfl) | (simp [*, errW_none, errW_some] <;> rfl), by repeat (first | (with_reducible first | exact HB.out | apply below_alloc | apply pw_below_drewN | apply below_drew1 | refine below_set ?_ GE1.out | refine below_set ?_ GE2.out | refine below_set ?_ GE10.out) | exact HB.out)⟩

end Go.Proofs.Ytpmkkidljmedaaa.X
namespace Go.Proofs.Ytpmkkidljmedaaa.X
open Go.RowKit Go.Proofs.YtpmkkidljmedaaaW.PrintWords Go.Proofs.YtpmkkidljmedaaaW.PrintLast Go.Proofs.YtpmkkidljmedaaaW.PrintMore
attribute [local go_sem] max2_int min2_int max_two min_two max_three min_three max_four min_four   -- for this text's walks alone
set_option linter.unusedVariables false
set_option linter.unusedSimpArgs false

/-! ### headroomref07_Table: function 64 -/
def headroomref07_Table.l0 : Nat → Int → Int → List (S41) → Int → List Int → Int → Option ((List (S41)))
  | 0, _, _, _, _, _, _ => none
  | k + 1, x0, x1, x5, x7, x9000, x9001 => (headroomref01_Pow.f k x0).bind fun t9 => (if x7 < t9 then ((headroomref07_RootOf.f k x9000 x9001 x0 x7 x1).bind fun bt10 => (if x5.length < 8796093022208 then (headroomref07_Table.l0 k x0 x1 (x5 ++ [(⟨bt10.1, bt10.2⟩ : S41)]) (wrap64 (x7 + 1)) x9000 x9001) else (none))) else (some x5))
def headroomref07_Table.f (k : Nat) (a0 : Int) (a1 : Int) : Option ((List (S41))) := (headroomref05_All.f k).bind fun bt4 => (headroomref07_Table.l0 k a0 a1 (([] : List (S41))) 0 bt4.1 bt4.2)
theorem headroomref07_Table.mono_l : ∀ k, (∀ y0 y1 y2 y3 y4 y5, LeO (headroomref07_Table.l0 k y0 y1 y2 y3 y4 y5) (headroomref07_Table.l0 (k + 1) y0 y1 y2 y3 y4 y5))
  | 0 => fun _ _ _ _ _ _ r h => by simp [headroomref07_Table.l0] at h
  | k + 1 => by
    have ih0 := headroomref07_Table.mono_l k
    · intro y0 y1 y2 y3 y4 y5
      unfold headroomref07_Table.l0
      repeat' first
      | (with_reducible exact ih0 _ _ _ _ _ _)
      | (with_reducible exact headroomref01_Pow.mono _ _)
      | (with_reducible exact headroomref05_All.mono _)
      | (with_reducible exact headroomref07_RootOf.mono _ _ _ _ _ _)
      | (with_reducible exact LeO.refl _)
      | (with_reducible exact LeO.none _)
      | (with_reducible refine LeO.ite ?_ ?_)
      | (with_reducible refine LeO.bind ?_ (fun _ => ?_))
      | exact ih0 _ _ _ _ _ _
      | exact headroomref01_Pow.mono _ _
      | exact headroomref05_All.mono _
      | exact headroomref07_RootOf.mono _ _ _ _ _ _
      | exact LeO.none _
      | refine LeO.ite ?_ ?_
      | refine LeO.bind ?_ (fun _ => ?_)
theorem headroomref07_Table.mono : ∀ a0 a1 k, LeO (headroomref07_Table.f k a0 a1) (headroomref07_Table.f (k + 1) a0 a1) := by
  intro a0 a1 k
  have ih0 := headroomref07_Table.mono_l k
  unfold headroomref07_Table.f
  repeat' first
      | (with_reducible exact ih0 _ _ _ _ _ _)
      | (with_reducible exact headroomref01_Pow.mono _ _)
      | (with_reducible exact headroomref05_All.mono _)
      | (with_reducible exact headroomref07_RootOf.mono _ _ _ _ _ _)
      | (with_reducible exact LeO.refl _)
      | (with_reducible exact LeO.none _)
      | (with_reducible refine LeO.ite ?_ ?_)
      | (with_reducible refine LeO.bind ?_ (fun _ => ?_))
      | exact ih0 _ _ _ _ _ _
      | exact headroomref01_Pow.mono _ _
      | exact headroomref05_All.mono _
      | exact headroomref07_RootOf.mono _ _ _ _ _ _
      | exact LeO.none _
      | refine LeO.ite ?_ ?_
      | refine LeO.bind ?_ (fun _ => ?_)
set_option maxHeartbeats 8000000 in
set_option maxRecDepth 100000 in
theorem headroomref07_Table.calls (k : Nat) (a0 : Int) (a1 : Int) (r : List (S41)) (w : World) (h : headroomref07_Table.f k a0 a1 = some r) :
    Calls Try.prog 64 #[.int .i64 a0, .int .i64 a1] w fun e w' => ∃ v0_ : Value, e = .returned (v0_) ∧ Kd.R k41 41 w' w.heap.size (fun _ => True) v0_ r ∧ Below w.heap.size w w' := by
  have hu120 := Try.underlying120
  have HB := Aside0.mk (Below.refl w.heap.size w)
  have H : ((headroomref05_All.f k).bind fun bt4 => (headroomref07_Table.l0 k a0 a1 (([] : List (S41))) 0 bt4.1 bt4.2)) = some r := h
  clear h
  obtain ⟨y1, hy1⟩ : ∃ y_ : List (S41), y_ = (([] : List (S41))) := ⟨_, rfl⟩
  replace H : ((headroomref05_All.f k).bind fun bt4 => (headroomref07_Table.l0 k a0 a1 y1 0 bt4.1 bt4.2)) = some r := by first | (rw [hy1]; with_reducible exact H) | (have H2_ := (Option.bind_some _ _).symm.trans H; rw [hy1]; with_reducible exact H2_) | (have H2_ := (Option.bind_some _ _).symm.trans H; with_reducible exact H2_) | with_reducible exact H | (rw [hy1]; exact H) | exact H
  have Ny1 := Aside0.mk hy1
  clear hy1
  replace H := Option.bind_eq_some_iff.mp H
  obtain ⟨⟨t4, t7⟩, A30, H⟩ := H
  replace H : (headroomref07_Table.l0 k a0 a1 y1 0 t4 t7) = some r := H
  have A3 := Aside0.mk A30
  clear A30
  have H' := Aside0.mk H
  clear H
  go_enter Try.func64, Try.ntmps64
  go_wp2_with (first | ((with_reducible refine gate_dst (N := 8) rfl ?_); refine Kd.R_lit k41 _ 41 ?hg (N := 8) ?hd (xs := ([] : List (S41))) (inner := []) (ok := fun _ => True) (okp := fun _ => True) ?hr ?hp (fun _ hk => hk) trivial (Below.refl _ _) (Nat.le_refl _) (by simp) ?_; (case hd => rfl); (case hg => rfl); (case hr => first | (go_simp; done) | (go_simp; rfl)); (case hp => exact (Reps.none _ _)); intro v2 w4 ho5 hb hg_ hnew_; clear hg_ hnew_; (first | rw [← Ny1.out] at ho5 | (simp only [Int.reduceToNat] at ho5; rw [← Ny1.out] at ho5)); have n0_ := Aside0.mk (Kd.R_lower ho5 (below_size (by repeat (first | (with_reducible first | exact HB.out | apply below_alloc | apply pw_below_drewN | apply below_drew1) | exact HB.out)))); have n1_ := Aside0.mk (below_step (by repeat (first | (with_reducible first | exact HB.out | apply below_alloc | apply pw_below_drewN | apply below_drew1) | exact HB.out)) hb); clear HB; have HO3 := n0_; have HB := n1_; clear n0_ n1_; clear hb ho5) | ((with_reducible refine gate_callee (f := 92) rfl ?_); refine goesL_ (some 9) rfl rfl Try.func92 (by kernel_rfl) rfl #[] rfl (by (try simp only [List.map_toArray, List.map_cons, List.map_nil]); first | done | rfl | (simp only [List.length_drop, List.length_take]; rfl)) ?_; (with_reducible refine (headroomref05_All.calls k  t4 t7 _ A3.out).mono ?_); rintro e w6 ⟨v5, rfl, ho0, hb⟩; refine ⟨_, rfl, ?_⟩; have n0_ := Aside0.mk (Kd.R_below (by (with_reducible repeat (first | apply Kd.R_alloc | apply Kd.R_drewN | apply Kd.R_drew)); exact HO3.out) hb); have n1_ := Aside0.mk (Kd.R_lower ho0 (below_size (by repeat (first | (with_reducible first | exact HB.out | apply below_alloc | apply pw_below_drewN | apply below_drew1) | exact HB.out)))); have n2_ := Aside0.mk (below_step (by repeat (first | (with_reducible first | exact HB.out | apply below_alloc | apply pw_below_drewN | apply below_drew1) | exact HB.out)) hb); clear HO3; clear HB; have HO3 := n0_; have HO6 := n1_; have HB := n2_; clear n0_ n1_ n2_; (try clear hb); (try clear hb2); (try clear hk); (try clear hi); (try clear ho0)) | ((with_reducible refine gate_dst (N := 6) rfl ?_); refine box_event ?hg (N := 6) ?hd (cs := #[.slice none 0 0, .int .i64 0]) (t := 120) ?hr ?_; (case hd => rfl); (case hg => rfl); (case hr => first | (go_simp; done) | (go_simp; rfl)); intro gb8 hg w7 hbox hb; have n0_ := Aside0.mk (Kd.R_below (by (with_reducible repeat (first | apply Kd.R_alloc | apply Kd.R_drewN | apply Kd.R_drew)); exact HO3.out) hb); have n1_ := Aside0.mk (Kd.R_below (by (with_reducible repeat (first | apply Kd.R_alloc | apply Kd.R_drewN | apply Kd.R_drew)); exact HO6.out) hb); have n2_ := Aside0.mk (below_step (by repeat (first | (with_reducible first | exact HB.out | apply below_alloc | apply pw_below_drewN | apply below_drew1) | exact HB.out)) hb); have n3_ := Aside0.mk (hbox); have n4_ := Aside0.mk ((by rw [hg]; exact (below_size (by repeat (first | (with_reducible first | exact HB.out | apply below_alloc | apply pw_below_drewN | apply below_drew1) | exact HB.out))) : w.heap.size ≤ gb8)); have n5_ := Aside0.mk ((by rw [hg]; exact (below_size (by repeat (first | (with_reducible first | exact HB.out | apply below_alloc | apply pw_below_drewN | apply below_drew1) | exact HB.out))) : w.heap.size ≤ gb8)); clear HO3; clear HO6; clear HB; have HO3 := n0_; have HO6 := n1_; have HB := n2_; have BK8 := n3_; have GW8 := n4_; have GE8 := n5_; clear n0_ n1_ n2_ n3_ n4_ n5_; clear hb hbox hg; obtain ⟨Ao8, co8, eo8⟩ := Kd.R_slice HO6.out; subst eo8; have hcz9_0 : w7.cell? ⟨gb8, 0, none⟩ = some (.slice none 0 0) := (blk_cell BK8.out 0).trans rfl; have hcz9_1 : w7.cell? ⟨gb8, 1, none⟩ = some (.int .i64 0) := (blk_cell BK8.out 1).trans rfl; have hfz9_0 := blk_frozen BK8.out 0; have hfz9_1 := blk_frozen BK8.out 1))
  go_loopg [5, 7] k (fun kq v5 v7 w' => ∃ (x5_1 : List (S41)) (x7_1 : Int), v7 = .int .i64 x7_1 ∧ Aside0 (headroomref07_Table.l0 kq a0 a1 x5_1 x7_1 t4 t7 = some r) ∧ Aside0 (kq ≤ k) ∧ Aside0 (Kd.R k41 41 w' w.heap.size (fun _ => True) v5 x5_1) ∧ Aside0 (Kd.R (Kd.int .i64) 3 w' w.heap.size (fun _ => True) (.slice Ao8 t4.length co8) t4) ∧ Aside0 (w'.heap[gb8]? = some (.cells #[(.slice Ao8 t4.length co8), .int .i64 t7] 120 (0, 0))) ∧ Aside0 (Below w.heap.size w w'))
  case atStart => exact ⟨(y1), (0), (by first | rfl | (simp; done) | (simp [*]; done)), H', ⟨Nat.le_refl _⟩, ⟨by (with_reducible repeat (first | apply Kd.R_alloc | apply Kd.R_drewN | apply Kd.R_drew)); exact Kd.R_mono (Kd.R_far (p := ⟨gb8, 1, none⟩) (Kd.R_far (p := ⟨gb8, 0, none⟩) (Kd.R_types HO3.out BK8.out (by decide)) (fun _ hk => hk.2) (.slice Ao8 t4.length co8)) (fun _ hk => hk.2) (.int .i64 t7)) (fun _ hk => trivial)⟩, ⟨by (with_reducible repeat (first | apply Kd.R_alloc | apply Kd.R_drewN | apply Kd.R_drew)); exact Kd.R_mono (Kd.R_far (p := ⟨gb8, 1, none⟩) (Kd.R_far (p := ⟨gb8, 0, none⟩) (Kd.R_types HO6.out BK8.out (by decide)) (fun _ hk => hk.2) (.slice Ao8 t4.length co8)) (fun _ hk => hk.2) (.int .i64 t7)) (fun _ hk => trivial)⟩, ⟨by (with_reducible repeat (first | refine blk_drewN ?_ _ | refine blk_drew ?_ | refine blk_alloc ?_ _)); refine blk_put (cs := #[.slice Ao8 t4.length co8, .int .i64 0]) ?_ 1 _ rfl; (with_reducible repeat (first | refine blk_drewN ?_ _ | refine blk_drew ?_ | refine blk_alloc ?_ _)); refine blk_put (cs := #[.slice none 0 0, .int .i64 0]) ?_ 0 _ rfl; (with_reducible repeat (first | refine blk_drewN ?_ _ | refine blk_drew ?_ | refine blk_alloc ?_ _)); exact BK8.out⟩, ⟨by repeat (first | (with_reducible first | exact HB.out | apply below_alloc | apply pw_below_drewN | apply below_drew1 | refine below_set ?_ GE8.out) | exact HB.out)⟩⟩
  case round =>
    clear H'
    try clear p2
    try clear c6
    try clear c9
    try clear hcz9_0
    try clear hcz9_1
    try clear hfz9_0
    try clear hfz9_1
    obtain ⟨x5_1, x7_1, rfl, HA, HK1, HO_5, HO_9000, BK8, HB⟩ := hrel
    cases gk with
    | zero => exact absurd HA.out (by simp [headroomref07_Table.l0])
    | succ k1 =>
      have H := HA.out
      clear HA
      simp only [headroomref07_Table.l0] at H
      replace H := Option.bind_eq_some_iff.mp H
      obtain ⟨t9, A100, H⟩ := H
      replace H : (if x7_1 < t9 then ((headroomref07_RootOf.f k1 t4 t7 a0 x7_1 a1).bind fun bt10 => (if x5_1.length < 8796093022208 then (headroomref07_Table.l0 k1 a0 a1 (x5_1 ++ [(⟨bt10.1, bt10.2⟩ : S41)]) (wrap64 (x7_1 + 1)) t4 t7) else (none))) else (some x5_1)) = some r := H
      have A10 := Aside0.mk A100
      clear A100
      by_cases c11 : x7_1 < t9
      · rw [if_pos c11] at H
        have c11b0 : decide (x7_1 < t9) = true := decide_eq_true c11
        clear c11
        replace H := Option.bind_eq_some_iff.mp H
        obtain ⟨⟨t10, t11⟩, A120, H⟩ := H
        replace H : (if x5_1.length < 8796093022208 then (headroomref07_Table.l0 k1 a0 a1 (x5_1 ++ [(⟨t10, t11⟩ : S41)]) (wrap64 (x7_1 + 1)) t4 t7) else (none)) = some r := H
        have A12 := Aside0.mk A120
        clear A120
        by_cases c13 : x5_1.length < 8796093022208
        · rw [if_pos c13] at H
          have LMc13 := Aside0.mk c13
          clear c13
          obtain ⟨y12, hy12⟩ : ∃ y_ : List (S41), y_ = (x5_1 ++ [(⟨t10, t11⟩ : S41)]) := ⟨_, rfl⟩
          replace H : (headroomref07_Table.l0 k1 a0 a1 y12 (wrap64 (x7_1 + 1)) t4 t7) = some r := by first | (rw [hy12]; with_reducible exact H) | (have H2_ := (Option.bind_some _ _).symm.trans H; rw [hy12]; with_reducible exact H2_) | (have H2_ := (Option.bind_some _ _).symm.trans H; with_reducible exact H2_) | with_reducible exact H | (rw [hy12]; exact H) | exact H
          have Ny12 := Aside0.mk hy12
          clear hy12
          have H' := Aside0.mk H
          clear H
          go_wp2_with (first | ((with_reducible refine gate_callee (f := 56) rfl ?_); refine goesL_ (some 12) rfl rfl Try.func56 (by kernel_rfl) rfl #[.int .i64 a0] rfl (by (try simp only [List.map_toArray, List.map_cons, List.map_nil]); first | done | rfl | (simp only [List.length_drop, List.length_take]; rfl)) ?_; (with_reducible refine (headroomref01_Pow.calls k1 a0 t9 _ A10.out).mono ?_); rintro e w' ⟨rfl, ⟨nd, rfl⟩⟩; refine ⟨_, rfl, ?_⟩; have hcz14_0 : wr.cell? ⟨gb8, 0, none⟩ = some (.slice Ao8 t4.length co8) := (blk_cell BK8.out 0).trans rfl; have hcz14_1 : wr.cell? ⟨gb8, 1, none⟩ = some (.int .i64 t7) := (blk_cell BK8.out 1).trans rfl; have hfz14_0 := blk_frozen BK8.out 0; have hfz14_1 := blk_frozen BK8.out 1) | ((with_reducible refine gate_callee (f := 93) rfl ?_); refine goesL_ (some 21) rfl rfl Try.func93 (by kernel_rfl) rfl #[.agg #[.slice Ao8 t4.length co8, .int .i64 t7], .int .i64 a0, .int .i64 x7_1, .int .i64 a1] rfl (by (try simp only [List.map_toArray, List.map_cons, List.map_nil]); first | done | rfl | (simp only [List.length_drop, List.length_take]; rfl)) ?_; (with_reducible refine (headroomref07_RootOf.calls k1 _ _ t4 t7 a0 x7_1 a1 t10 t11 _ ?side1 ?side2 A12.out).mono ?_); (case side1 => repeat (first | exact (Kd.R_reads' HO_9000.out).2.2 | (with_reducible refine Kd.C_alloc ?_ _) | (with_reducible refine Kd.C_drewN ?_ _) | (with_reducible refine Kd.C_drew ?_))); (case side2 => exact (Kd.R_reads' HO_9000.out).2.1); rintro e w15 ⟨rfl, hb⟩; refine ⟨_, rfl, ?_⟩; have n0_ := Aside0.mk (Kd.R_below (by (with_reducible repeat (first | apply Kd.R_alloc | apply Kd.R_drewN | apply Kd.R_drew)); exact HO_5.out) hb); have n1_ := Aside0.mk (Kd.R_below (by (with_reducible repeat (first | apply Kd.R_alloc | apply Kd.R_drewN | apply Kd.R_drew)); exact HO_9000.out) hb); have n2_ := Aside0.mk (blk_below (g := gb8) (o := .cells #[.slice Ao8 t4.length co8, .int .i64 t7] 120 (0, 0)) (by (with_reducible repeat (first | refine blk_drewN ?_ _ | refine blk_drew ?_ | refine blk_alloc ?_ _)); exact BK8.out) hb); have n3_ := Aside0.mk (below_step (by repeat (first | (with_reducible first | exact HB.out | apply below_alloc | apply pw_below_drewN | apply below_drew1 | refine below_set ?_ GE8.out) | exact HB.out)) hb); clear HO_5; clear HO_9000; clear BK8; clear HB; have HO_5 := n0_; have HO_9000 := n1_; have BK8 := n2_; have HB := n3_; clear n0_ n1_ n2_ n3_; (try clear hb); (try clear hb2); (try clear hk); (try clear hi)) | ((with_reducible refine gate_builtin (b := .append) (xs := #[.tmp 16, .tmp 22]) rfl ?_); at_builtin; refine Kd.R_append k41 (w0 := w) w.heap.size rfl (.tmp 16) (.tmp 22) 22 41 (.agg #[(.int .i64 0), (.int .i64 0)]) 16 rfl Try.underlying22 info41 rfl (by decide) (by omega) u5 x5_1 (⟨t10, t11⟩ : S41) [.int .i64 t10, .int .i64 t11] (fun _ => True) (fun _ => False) rfl rfl ?aP (fun _ hk => hk.elim) ?aF ?aO ?aB ?aS ?aL ?_; (case aP => exact k41_mkM _ _ _ (⟨t10, t11⟩ : S41)); (case aB => exact (by repeat (first | (with_reducible first | exact HB.out | apply below_alloc | apply pw_below_drewN | apply below_drew1 | refine below_set ?_ GE8.out) | exact HB.out))); (case aF => exact (fun _ _ => trivial)); (case aO => exact (by (with_reducible repeat (first | apply Kd.R_alloc | apply Kd.R_drewN | apply Kd.R_drew)); exact HO_5.out)); (case aS => exact (below_size (by repeat (first | (with_reducible first | exact HB.out | apply below_alloc | apply pw_below_drewN | apply below_drew1 | refine below_set ?_ GE8.out) | exact HB.out)))); (case aL => have := LMc13.out; omega); intro v13 w16 ho hb hg hat; rw [← Ny12.out] at ho; have n0_ := Aside0.mk (Kd.R_over' (by (with_reducible repeat (first | apply Kd.R_alloc | apply Kd.R_drewN | apply Kd.R_drew)); exact HO_9000.out) (Kd.R_typed (by (with_reducible repeat (first | apply Kd.R_alloc | apply Kd.R_drewN | apply Kd.R_drew)); exact HO_5.out)) (by decide) hg); have n1_ := Aside0.mk (blk_grown (g := gb8) (o := .cells #[.slice Ao8 t4.length co8, .int .i64 t7] 120 (0, 0)) (by (with_reducible repeat (first | refine blk_drewN ?_ _ | refine blk_drew ?_ | refine blk_alloc ?_ _)); exact BK8.out) hg (Kd.R_ne HO_5.out BK8.out (by decide))); have n2_ := Aside0.mk (hb); have n3_ := Aside0.mk (ho); clear HO_9000; clear BK8; clear HB; clear HO_5; have HO_9000 := n0_; have BK8 := n1_; have HB := n2_; have HO14 := n3_; clear n0_ n1_ n2_ n3_; clear ho hb hg hat))
          go_roundg k1
          case measure => have := HK1.out; omega
          case rel => exact ⟨(y12), (wrap64 (x7_1 + 1)), (by first | rfl | (simp; done) | (simp [*]; done)), H', ⟨by have := HK1.out; omega⟩, ⟨by (with_reducible repeat (first | apply Kd.R_alloc | apply Kd.R_drewN | apply Kd.R_drew)); exact HO14.out⟩, ⟨by (with_reducible repeat (first | apply Kd.R_alloc | apply Kd.R_drewN | apply Kd.R_drew)); exact HO_9000.out⟩, ⟨by (with_reducible repeat (first | refine blk_drewN ?_ _ | refine blk_drew ?_ | refine blk_alloc ?_ _)); exact BK8.out⟩, ⟨by repeat (first | (with_reducible first | exact HB.out | apply below_alloc | apply pw_below_drewN | apply below_drew1 | refine below_set ?_ GE8.out) | exact HB.out)⟩⟩
        · rw [if_neg c13] at H
          exact absurd H (by simp)
      · rw [if_neg c11] at H
        have c11b0 : decide (x7_1 < t9) = false := decide_eq_false c11
        clear c11
        obtain rfl := Option.some.inj H
        go_wp2_with (first | ((with_reducible refine gate_callee (f := 56) rfl ?_); refine goesL_ (some 12) rfl rfl Try.func56 (by kernel_rfl) rfl #[.int .i64 a0] rfl (by (try simp only [List.map_toArray, List.map_cons, List.map_nil]); first | done | rfl | (simp only [List.length_drop, List.length_take]; rfl)) ?_; (with_reducible refine (headroomref01_Pow.calls k1 a0 t9 _ A10.out).mono ?_); rintro e w' ⟨rfl, ⟨nd, rfl⟩⟩; refine ⟨_, rfl, ?_⟩))
        go_ret
        exact ⟨_, by first | rfl | (simp [errW_none, errW_some] <;> rfl) | (simp [*, errW_none, errW_some] <;> rfl), by (with_reducible repeat (first | apply Kd.R_alloc | apply Kd.R_drewN | apply Kd.R_drew)); exact HO_5.out, by repeat (first | (with_reducible first | exact HB.out | apply below_alloc | apply pw_below_drewN | apply below_drew1 | refine below_set ?_ GE8.out) | exact HB.out)⟩

end Go.Proofs.Ytpmkkidljmedaaa.X
namespace Go.Proofs.Ytpmkkidljmedaaa.X
open Go.RowKit Go.Proofs.YtpmkkidljmedaaaW.PrintWords Go.Proofs.YtpmkkidljmedaaaW.PrintLast Go.Proofs.YtpmkkidljmedaaaW.PrintMore
attribute [local go_sem] max2_int min2_int max_two min_two max_three min_three max_four min_four   -- for this text's walks alone
set_option linter.unusedVariables false
set_option linter.unusedSimpArgs false

/-! ### headroomref19_Weight: function 82 -/
def headroomref19_Weight.f (k : Nat) (l0 : List (S41)) (a1 : Int) (a2 : Int) (a3 : Int) : Option (Int) := (headroomref01_Pow.f k a2).bind fun t1 => (if 0 ≤ a3 then (if a3 < (l0.length : Int) then (if (l0.length : Int) = 0 then (none) else (if 0 ≤ (Int.tmod (wrap64 (2 * a3)) (l0.length : Int)) then (if (Int.tmod (wrap64 (2 * a3)) (l0.length : Int)) < (l0.length : Int) then (if a1 = 1 then ((headroomref01_Shift.f k (wrap64 (t1 - ((rd_T41 l0 a3).f0))) 1 1).bind fun t4 => (some t4)) else (if a1 = 2 then ((headroomref01_Div.f (wrap64 ((wrap64 (25 * t1)) - (wrap64 (21 * ((rd_T41 l0 a3).f0))))) 46).bind fun t5 => (some t5)) else (if a1 = 3 then ((headroomref01_Div.f (wrap64 ((wrap64 ((wrap64 (21 * t1)) - (wrap64 (25 * ((rd_T41 l0 a3).f0))))) + (wrap64 (4 * ((rd_T41 l0 (Int.tmod (wrap64 (2 * a3)) (l0.length : Int))).f0))))) 50).bind fun t6 => (some t6)) else (some t1)))) else (none)) else (none))) else (none)) else (none))
theorem headroomref19_Weight.mono : ∀ a0 a1 a2 a3 k, LeO (headroomref19_Weight.f k a0 a1 a2 a3) (headroomref19_Weight.f (k + 1) a0 a1 a2 a3) := by
  intro a0 a1 a2 a3 k
  unfold headroomref19_Weight.f
  repeat' first
      | (with_reducible exact headroomref01_Pow.mono _ _)
      | (with_reducible exact headroomref01_Shift.mono _ _ _ _)
      | (with_reducible exact LeO.refl _)
      | (with_reducible exact LeO.none _)
      | (with_reducible refine LeO.ite ?_ ?_)
      | (with_reducible refine LeO.bind ?_ (fun _ => ?_))
      | exact headroomref01_Pow.mono _ _
      | exact headroomref01_Shift.mono _ _ _ _
      | exact LeO.none _
      | refine LeO.ite ?_ ?_
      | refine LeO.bind ?_ (fun _ => ?_)
set_option maxHeartbeats 8000000 in
set_option maxRecDepth 100000 in
theorem headroomref19_Weight.calls (k : Nat) (A0 : Option Addr) (c0 : Nat) (l0 : List (S41)) (a1 : Int) (a2 : Int) (a3 : Int) (r : Int) (w : World) (hr0 : Kd.C k41 w A0 l0.length l0) (hc0 : l0.length ≤ c0) (h : headroomref19_Weight.f k l0 a1 a2 a3 = some r) :
    Calls Try.prog 82 #[.slice A0 l0.length c0, .int .i64 a1, .int .i64 a2, .int .i64 a3] w fun e w' => e = .returned (.int .i64 r) ∧ Drawn0 w w' := by
  have HR0 := Aside0.mk hr0
  have HC0 := Aside0.mk hc0
  clear hr0 hc0
  have H : ((headroomref01_Pow.f k a2).bind fun t1 => (if 0 ≤ a3 then (if a3 < (l0.length : Int) then (if (l0.length : Int) = 0 then (none) else (if 0 ≤ (Int.tmod (wrap64 (2 * a3)) (l0.length : Int)) then (if (Int.tmod (wrap64 (2 * a3)) (l0.length : Int)) < (l0.length : Int) then (if a1 = 1 then ((headroomref01_Shift.f k (wrap64 (t1 - ((rd_T41 l0 a3).f0))) 1 1).bind fun t4 => (some t4)) else (if a1 = 2 then ((headroomref01_Div.f (wrap64 ((wrap64 (25 * t1)) - (wrap64 (21 * ((rd_T41 l0 a3).f0))))) 46).bind fun t5 => (some t5)) else (if a1 = 3 then ((headroomref01_Div.f (wrap64 ((wrap64 ((wrap64 (21 * t1)) - (wrap64 (25 * ((rd_T41 l0 a3).f0))))) + (wrap64 (4 * ((rd_T41 l0 (Int.tmod (wrap64 (2 * a3)) (l0.length : Int))).f0))))) 50).bind fun t6 => (some t6)) else (some t1)))) else (none)) else (none))) else (none)) else (none))) = some r := h
  clear h
  replace H := Option.bind_eq_some_iff.mp H
  obtain ⟨t1, A50, H⟩ := H
  replace H : (if 0 ≤ a3 then (if a3 < (l0.length : Int) then (if (l0.length : Int) = 0 then (none) else (if 0 ≤ (Int.tmod (wrap64 (2 * a3)) (l0.length : Int)) then (if (Int.tmod (wrap64 (2 * a3)) (l0.length : Int)) < (l0.length : Int) then (if a1 = 1 then ((headroomref01_Shift.f k (wrap64 (t1 - ((rd_T41 l0 a3).f0))) 1 1).bind fun t4 => (some t4)) else (if a1 = 2 then ((headroomref01_Div.f (wrap64 ((wrap64 (25 * t1)) - (wrap64 (21 * ((rd_T41 l0 a3).f0))))) 46).bind fun t5 => (some t5)) else (if a1 = 3 then ((headroomref01_Div.f (wrap64 ((wrap64 ((wrap64 (21 * t1)) - (wrap64 (25 * ((rd_T41 l0 a3).f0))))) + (wrap64 (4 * ((rd_T41 l0 (Int.tmod (wrap64 (2 * a3)) (l0.length : Int))).f0))))) 50).bind fun t6 => (some t6)) else (some t1)))) else (none)) else (none))) else (none)) else (none)) = some r := H
  have A5 := Aside0.mk A50
  clear A50
  by_cases c6 : 0 ≤ a3
  · rw [if_pos c6] at H
    have c6b0 : decide (0 ≤ a3) = true := decide_eq_true c6
    clear c6
    by_cases c7 : a3 < (l0.length : Int)
    · rw [if_pos c7] at H
      have c7b0 : decide (a3 < (l0.length : Int)) = true := decide_eq_true c7
      clear c7
      by_cases c8 : (l0.length : Int) = 0
      · rw [if_pos c8] at H
        exact absurd H (by simp)
      · rw [if_neg c8] at H
        have c8b0 : ((l0.length : Int) == 0) = false := beq_eq_false_iff_ne.mpr c8
        have c8b1 : ((l0.length : Int) != 0) = true := bne_iff_ne.mpr c8
        have c8b2 : ¬ (l0 = []) := fun h_ => c8 (by rw [h_]; rfl)
        obtain ⟨ji9, hji9⟩ : ∃ j_ : Int, (Int.tmod (wrap64 (2 * a3)) (l0.length : Int)) = j_ := ⟨_, rfl⟩
        replace H : (if 0 ≤ (ji9) then (if (ji9) < (l0.length : Int) then (if a1 = 1 then ((headroomref01_Shift.f k (wrap64 (t1 - ((rd_T41 l0 a3).f0))) 1 1).bind fun t4 => (some t4)) else (if a1 = 2 then ((headroomref01_Div.f (wrap64 ((wrap64 (25 * t1)) - (wrap64 (21 * ((rd_T41 l0 a3).f0))))) 46).bind fun t5 => (some t5)) else (if a1 = 3 then ((headroomref01_Div.f (wrap64 ((wrap64 ((wrap64 (21 * t1)) - (wrap64 (25 * ((rd_T41 l0 a3).f0))))) + (wrap64 (4 * ((rd_T41 l0 (ji9)).f0))))) 50).bind fun t6 => (some t6)) else (some t1)))) else (none)) else (none)) = some r := by first | (rw [hji9] at H; exact H) | (simp only [hji9] at H ⊢; exact H)
        (try rw [hji9] at A5)
        by_cases c10 : 0 ≤ (ji9)
        · rw [if_pos c10] at H
          have c10b0 : decide (0 ≤ (ji9)) = true := decide_eq_true c10
          clear c10
          by_cases c11 : (ji9) < (l0.length : Int)
          · rw [if_pos c11] at H
            have c11b0 : decide ((ji9) < (l0.length : Int)) = true := decide_eq_true c11
            clear c11
            by_cases c12 : a1 = 1
            · rw [if_pos c12] at H
              have c12b0 : (a1 == 1) = true := beq_iff_eq.mpr c12
              have c12b1 : (a1 != 1) = false := bne_eq_false_iff_eq.mpr c12
              clear c12
              replace H := Option.bind_eq_some_iff.mp H
              obtain ⟨t4, A130, H⟩ := H
              replace H : (some t4) = some r := H
              have A13 := Aside0.mk A130
              clear A130
              obtain rfl := Option.some.inj H
              go_enter Try.func82, Try.ntmps82
              go_wp2_with (first | ((with_reducible refine gate_callee (f := 56) rfl ?_); refine goesL_ (some 13) rfl rfl Try.func56 (by kernel_rfl) rfl #[.int .i64 a2] rfl (by (try simp only [List.map_toArray, List.map_cons, List.map_nil]); first | done | rfl | (simp only [List.length_drop, List.length_take]; rfl)) ?_; (with_reducible refine (headroomref01_Pow.calls k a2 t1 _ A5.out).mono ?_); rintro e w' ⟨rfl, ⟨nd, rfl⟩⟩; refine ⟨_, rfl, ?_⟩; have p2 : 0 ≤ (a3 : Int) := of_decide_eq_true (by first | (with_reducible assumption) | assumption); have q2 : a3 < (l0.length : Int) := of_decide_eq_true (by first | (with_reducible assumption) | assumption); obtain ⟨ad2, e2, hx2_0, hx2_1⟩ := at_T41 HR0.out a3 p2 q2; cases e2; replace p2 := eq_true p2; replace q2 := eq_true q2; have p3 : 0 ≤ ((ji9) : Int) := of_decide_eq_true (by first | (with_reducible assumption) | assumption); have q3 : (ji9) < (l0.length : Int) := of_decide_eq_true (by first | (with_reducible assumption) | assumption); obtain ⟨ad3, e3, hx3_0, hx3_1⟩ := at_T41 HR0.out (ji9) p3 q3; obtain rfl : ad2 = ad3 := (by injection e3); replace p3 := eq_true p3; replace q3 := eq_true q3) | ((with_reducible refine gate_callee (f := 48) rfl ?_); refine goesL_ (some 34) rfl rfl Try.func48 (by kernel_rfl) rfl #[.int .i64 (wrap64 (t1 - ((rd_T41 l0 a3).f0))), .int .i64 1, .int .i64 1] rfl (by (try simp only [List.map_toArray, List.map_cons, List.map_nil]); first | done | rfl | (simp only [List.length_drop, List.length_take]; rfl)) ?_; (with_reducible refine (headroomref01_Shift.calls k (wrap64 (t1 - ((rd_T41 l0 a3).f0))) 1 1 t4 _ A13.out).mono ?_); rintro e w' ⟨rfl, ⟨nd, rfl⟩⟩; refine ⟨_, rfl, ?_⟩))
              go_ret
              exact ⟨by first | rfl | (simp; done) | (simp only [← hji9] <;> (first | rfl | simp)) | (simp [*]; done), by repeat (first | exact Drawn0.refl _ | apply Drawn0.step)⟩
            · rw [if_neg c12] at H
              have c12b0 : (a1 == 1) = false := beq_eq_false_iff_ne.mpr c12
              have c12b1 : (a1 != 1) = true := bne_iff_ne.mpr c12
              by_cases c14 : a1 = 2
              · rw [if_pos c14] at H
                have c14b0 : (a1 == 2) = true := beq_iff_eq.mpr c14
                have c14b1 : (a1 != 2) = false := bne_eq_false_iff_eq.mpr c14
                clear c14
                replace H := Option.bind_eq_some_iff.mp H
                obtain ⟨t5, A150, H⟩ := H
                replace H : (some t5) = some r := H
                have A15 := Aside0.mk A150
                clear A150
                obtain rfl := Option.some.inj H
                go_enter Try.func82, Try.ntmps82
                go_wp2_with (first | ((with_reducible refine gate_callee (f := 56) rfl ?_); refine goesL_ (some 13) rfl rfl Try.func56 (by kernel_rfl) rfl #[.int .i64 a2] rfl (by (try simp only [List.map_toArray, List.map_cons, List.map_nil]); first | done | rfl | (simp only [List.length_drop, List.length_take]; rfl)) ?_; (with_reducible refine (headroomref01_Pow.calls k a2 t1 _ A5.out).mono ?_); rintro e w' ⟨rfl, ⟨nd, rfl⟩⟩; refine ⟨_, rfl, ?_⟩; have p2 : 0 ≤ (a3 : Int) := of_decide_eq_true (by first | (with_reducible assumption) | assumption); have q2 : a3 < (l0.length : Int) := of_decide_eq_true (by first | (with_reducible assumption) | assumption); obtain ⟨ad2, e2, hx2_0, hx2_1⟩ := at_T41 HR0.out a3 p2 q2; cases e2; replace p2 := eq_true p2; replace q2 := eq_true q2; have p3 : 0 ≤ ((ji9) : Int) := of_decide_eq_true (by first | (with_reducible assumption) | assumption); have q3 : (ji9) < (l0.length : Int) := of_decide_eq_true (by first | (with_reducible assumption) | assumption); obtain ⟨ad3, e3, hx3_0, hx3_1⟩ := at_T41 HR0.out (ji9) p3 q3; obtain rfl : ad2 = ad3 := (by injection e3); replace p3 := eq_true p3; replace q3 := eq_true q3) | ((with_reducible refine gate_callee (f := 114) rfl ?_); refine goesL_ (some 42) rfl rfl Try.func114 (by kernel_rfl) rfl #[.int .i64 (wrap64 ((wrap64 (25 * t1)) - (wrap64 (21 * ((rd_T41 l0 a3).f0))))), .int .i64 46] rfl (by (try simp only [List.map_toArray, List.map_cons, List.map_nil]); first | done | rfl | (simp only [List.length_drop, List.length_take]; rfl)) ?_; (with_reducible refine (headroomref01_Div.calls (wrap64 ((wrap64 (25 * t1)) - (wrap64 (21 * ((rd_T41 l0 a3).f0))))) 46 t5 _ A15.out).mono ?_); rintro e w' ⟨rfl, ⟨nd, rfl⟩⟩; refine ⟨_, rfl, ?_⟩))
                go_ret
                exact ⟨by first | rfl | (simp; done) | (simp only [← hji9] <;> (first | rfl | simp)) | (simp [*]; done), by repeat (first | exact Drawn0.refl _ | apply Drawn0.step)⟩
              · rw [if_neg c14] at H
                have c14b0 : (a1 == 2) = false := beq_eq_false_iff_ne.mpr c14
                have c14b1 : (a1 != 2) = true := bne_iff_ne.mpr c14
                by_cases c16 : a1 = 3
                · rw [if_pos c16] at H
                  have c16b0 : (a1 == 3) = true := beq_iff_eq.mpr c16
                  have c16b1 : (a1 != 3) = false := bne_eq_false_iff_eq.mpr c16
                  clear c16
                  replace H := Option.bind_eq_some_iff.mp H
                  obtain ⟨t6, A170, H⟩ := H
                  replace H : (some t6) = some r := H
                  have A17 := Aside0.mk A170
                  clear A170
                  obtain rfl := Option.some.inj H
                  go_enter Try.func82, Try.ntmps82
                  go_wp2_with (first | ((with_reducible refine gate_callee (f := 56) rfl ?_); refine goesL_ (some 13) rfl rfl Try.func56 (by kernel_rfl) rfl #[.int .i64 a2] rfl (by (try simp only [List.map_toArray, List.map_cons, List.map_nil]); first | done | rfl | (simp only [List.length_drop, List.length_take]; rfl)) ?_; (with_reducible refine (headroomref01_Pow.calls k a2 t1 _ A5.out).mono ?_); rintro e w' ⟨rfl, ⟨nd, rfl⟩⟩; refine ⟨_, rfl, ?_⟩; have p2 : 0 ≤ (a3 : Int) := of_decide_eq_true (by first | (with_reducible assumption) | assumption); have q2 : a3 < (l0.length : Int) := of_decide_eq_true (by first | (with_reducible assumption) | assumption); obtain ⟨ad2, e2, hx2_0, hx2_1⟩ := at_T41 HR0.out a3 p2 q2; cases e2; replace p2 := eq_true p2; replace q2 := eq_true q2; have p3 : 0 ≤ ((ji9) : Int) := of_decide_eq_true (by first | (with_reducible assumption) | assumption); have q3 : (ji9) < (l0.length : Int) := of_decide_eq_true (by first | (with_reducible assumption) | assumption); obtain ⟨ad3, e3, hx3_0, hx3_1⟩ := at_T41 HR0.out (ji9) p3 q3; obtain rfl : ad2 = ad3 := (by injection e3); replace p3 := eq_true p3; replace q3 := eq_true q3) | ((with_reducible refine gate_callee (f := 114) rfl ?_); refine goesL_ (some 53) rfl rfl Try.func114 (by kernel_rfl) rfl #[.int .i64 (wrap64 ((wrap64 ((wrap64 (21 * t1)) - (wrap64 (25 * ((rd_T41 l0 a3).f0))))) + (wrap64 (4 * ((rd_T41 l0 (ji9)).f0))))), .int .i64 50] rfl (by (try simp only [List.map_toArray, List.map_cons, List.map_nil]); first | done | (simp only [hji9]; rfl) | rfl | (simp only [List.length_drop, List.length_take]; rfl)) ?_; (with_reducible refine (headroomref01_Div.calls (wrap64 ((wrap64 ((wrap64 (21 * t1)) - (wrap64 (25 * ((rd_T41 l0 a3).f0))))) + (wrap64 (4 * ((rd_T41 l0 (ji9)).f0))))) 50 t6 _ A17.out).mono ?_); rintro e w' ⟨rfl, ⟨nd, rfl⟩⟩; refine ⟨_, rfl, ?_⟩))
                  go_ret
                  exact ⟨by first | rfl | (simp; done) | (simp only [← hji9] <;> (first | rfl | simp)) | (simp [*]; done), by repeat (first | exact Drawn0.refl _ | apply Drawn0.step)⟩
                · rw [if_neg c16] at H
                  have c16b0 : (a1 == 3) = false := beq_eq_false_iff_ne.mpr c16
                  have c16b1 : (a1 != 3) = true := bne_iff_ne.mpr c16
                  obtain rfl := Option.some.inj H
                  go_enter Try.func82, Try.ntmps82
                  go_wp2_with (first | ((with_reducible refine gate_callee (f := 56) rfl ?_); refine goesL_ (some 13) rfl rfl Try.func56 (by kernel_rfl) rfl #[.int .i64 a2] rfl (by (try simp only [List.map_toArray, List.map_cons, List.map_nil]); first | done | rfl | (simp only [List.length_drop, List.length_take]; rfl)) ?_; (with_reducible refine (headroomref01_Pow.calls k a2 t1 _ A5.out).mono ?_); rintro e w' ⟨rfl, ⟨nd, rfl⟩⟩; refine ⟨_, rfl, ?_⟩; have p2 : 0 ≤ (a3 : Int) := of_decide_eq_true (by first | (with_reducible assumption) | assumption); have q2 : a3 < (l0.length : Int) := of_decide_eq_true (by first | (with_reducible assumption) | assumption); obtain ⟨ad2, e2, hx2_0, hx2_1⟩ := at_T41 HR0.out a3 p2 q2; cases e2; replace p2 := eq_true p2; replace q2 := eq_true q2; have p3 : 0 ≤ ((ji9) : Int) := of_decide_eq_true (by first | (with_reducible assumption) | assumption); have q3 : (ji9) < (l0.length : Int) := of_decide_eq_true (by first | (with_reducible assumption) | assumption); obtain ⟨ad3, e3, hx3_0, hx3_1⟩ := at_T41 HR0.out (ji9) p3 q3; obtain rfl : ad2 = ad3 := (by injection e3); replace p3 := eq_true p3; replace q3 := eq_true q3))
                  go_ret
                  exact ⟨by first | rfl | (simp; done) | (simp only [← hji9] <;> (first | rfl | simp)) | (simp [*]; done), by repeat (first | exact Drawn0.refl _ | apply Drawn0.step)⟩
          · rw [if_neg c11] at H
            exact absurd H (by simp)
        · rw [if_neg c10] at H
          exact absurd H (by simp)
    · rw [if_neg c7] at H
      exact absurd H (by simp)
  · rw [if_neg c6] at H
    exact absurd H (by simp)

end Go.Proofs.Ytpmkkidljmedaaa.X
namespace Go.Proofs.Ytpmkkidljmedaaa.X
open Go.RowKit Go.Proofs.YtpmkkidljmedaaaW.PrintWords Go.Proofs.YtpmkkidljmedaaaW.PrintLast Go.Proofs.YtpmkkidljmedaaaW.PrintMore
attribute [local go_sem] max2_int min2_int max_two min_two max_three min_three max_four min_four   -- for this text's walks alone
set_option linter.unusedVariables false
set_option linter.unusedSimpArgs false

/-! ### headroomref19_Table: function 47 -/
def headroomref19_Table.l0 : Nat → Int → Int → List Int → List (S41) → Int → Int → Option (List Int)
  | 0, _, _, _, _, _, _ => none
  | k + 1, x0, x2, x7, x8, x15, x16 => if x16 < x15 then ((headroomref19_Weight.f k x8 x0 x2 x16).bind fun t7 => (if x7.length < 17592186044416 then (headroomref19_Table.l0 k x0 x2 (x7 ++ [t7]) x8 x15 (wrap64 (x16 + 1))) else (none))) else (some x7)
def headroomref19_Table.f (k : Nat) (a0 : Int) (a1 : Int) (a2 : Int) : Option (List Int) := (headroomref07_Table.f k a1 a2).bind fun t4 => (headroomref19_Table.l0 k a0 a2 (([] : List Int)) t4 (t4.length : Int) 0)
theorem headroomref19_Table.mono_l : ∀ k, (∀ y0 y1 y2 y3 y4 y5, LeO (headroomref19_Table.l0 k y0 y1 y2 y3 y4 y5) (headroomref19_Table.l0 (k + 1) y0 y1 y2 y3 y4 y5))
  | 0 => fun _ _ _ _ _ _ r h => by simp [headroomref19_Table.l0] at h
  | k + 1 => by
    have ih0 := headroomref19_Table.mono_l k
    · intro y0 y1 y2 y3 y4 y5
      unfold headroomref19_Table.l0
      repeat' first
      | (with_reducible exact ih0 _ _ _ _ _ _)
      | (with_reducible exact headroomref07_Table.mono _ _ _)
      | (with_reducible exact headroomref19_Weight.mono _ _ _ _ _)
      | (with_reducible exact LeO.refl _)
      | (with_reducible exact LeO.none _)
      | (with_reducible refine LeO.ite ?_ ?_)
      | (with_reducible refine LeO.bind ?_ (fun _ => ?_))
      | exact ih0 _ _ _ _ _ _
      | exact headroomref07_Table.mono _ _ _
      | exact headroomref19_Weight.mono _ _ _ _ _
      | exact LeO.none _
      | refine LeO.ite ?_ ?_
      | refine LeO.bind ?_ (fun _ => ?_)
theorem headroomref19_Table.mono : ∀ a0 a1 a2 k, LeO (headroomref19_Table.f k a0 a1 a2) (headroomref19_Table.f (k + 1) a0 a1 a2) := by
  intro a0 a1 a2 k
  have ih0 := headroomref19_Table.mono_l k
  unfold headroomref19_Table.f
  repeat' first
      | (with_reducible exact ih0 _ _ _ _ _ _)
      | (with_reducible exact headroomref07_Table.mono _ _ _)
      | (with_reducible exact headroomref19_Weight.mono _ _ _ _ _)
      | (with_reducible exact LeO.refl _)
      | (with_reducible exact LeO.none _)
      | (with_reducible refine LeO.ite ?_ ?_)
      | (with_reducible refine LeO.bind ?_ (fun _ => ?_))
      | exact ih0 _ _ _ _ _ _
      | exact headroomref07_Table.mono _ _ _
      | exact headroomref19_Weight.mono _ _ _ _ _
      | exact LeO.none _
      | refine LeO.ite ?_ ?_
      | refine LeO.bind ?_ (fun _ => ?_)
set_option maxHeartbeats 8000000 in
set_option maxRecDepth 100000 in
theorem headroomref19_Table.calls (k : Nat) (a0 : Int) (a1 : Int) (a2 : Int) (r : List Int) (w : World) (h : headroomref19_Table.f k a0 a1 a2 = some r) :
    Calls Try.prog 47 #[.int .i64 a0, .int .i64 a1, .int .i64 a2] w fun e w' => ∃ v0_ : Value, e = .returned (v0_) ∧ Kd.R (Kd.int .i64) 3 w' w.heap.size (fun _ => True) v0_ r ∧ Below w.heap.size w w' := by
  have HB := Aside0.mk (Below.refl w.heap.size w)
  have H : ((headroomref07_Table.f k a1 a2).bind fun t4 => (headroomref19_Table.l0 k a0 a2 (([] : List Int)) t4 (t4.length : Int) 0)) = some r := h
  clear h
  obtain ⟨y1, hy1⟩ : ∃ y_ : List Int, y_ = (([] : List Int)) := ⟨_, rfl⟩
  replace H : ((headroomref07_Table.f k a1 a2).bind fun t4 => (headroomref19_Table.l0 k a0 a2 y1 t4 (t4.length : Int) 0)) = some r := by first | (rw [hy1]; with_reducible exact H) | (have H2_ := (Option.bind_some _ _).symm.trans H; rw [hy1]; with_reducible exact H2_) | (have H2_ := (Option.bind_some _ _).symm.trans H; with_reducible exact H2_) | with_reducible exact H | (rw [hy1]; exact H) | exact H
  have Ny1 := Aside0.mk hy1
  clear hy1
  replace H := Option.bind_eq_some_iff.mp H
  obtain ⟨t4, A40, H⟩ := H
  replace H : (headroomref19_Table.l0 k a0 a2 y1 t4 (t4.length : Int) 0) = some r := H
  have A4 := Aside0.mk A40
  clear A40
  have H' := Aside0.mk H
  clear H
  go_enter Try.func47, Try.ntmps47
  go_wp2_with (first | ((with_reducible refine gate_dst (N := 10) rfl ?_); refine Kd.R_lit (Kd.int .i64) _ 3 ?hg (N := 10) ?hd (xs := ([] : List Int)) (inner := []) (ok := fun _ => True) (okp := fun _ => True) ?hr ?hp (fun _ hk => hk) trivial (Below.refl _ _) (Nat.le_refl _) (by simp) ?_; (case hd => rfl); (case hg => rfl); (case hr => first | (go_simp; done) | (go_simp; rfl)); (case hp => exact (Reps.none _ _)); intro v2 w5 ho6 hb hg_ hnew_; clear hg_ hnew_; (first | rw [← Ny1.out] at ho6 | (simp only [Int.reduceToNat] at ho6; rw [← Ny1.out] at ho6)); have n0_ := Aside0.mk (Kd.R_lower ho6 (below_size (by repeat (first | (with_reducible first | exact HB.out | apply below_alloc | apply pw_below_drewN | apply below_drew1) | exact HB.out)))); have n1_ := Aside0.mk (below_step (by repeat (first | (with_reducible first | exact HB.out | apply below_alloc | apply pw_below_drewN | apply below_drew1) | exact HB.out)) hb); clear HB; have HO3 := n0_; have HB := n1_; clear n0_ n1_; clear hb ho6) | ((with_reducible refine gate_callee (f := 64) rfl ?_); refine goesL_ (some 13) rfl rfl Try.func64 (by kernel_rfl) rfl #[.int .i64 a1, .int .i64 a2] rfl (by (try simp only [List.map_toArray, List.map_cons, List.map_nil]); first | done | rfl | (simp only [List.length_drop, List.length_take]; rfl)) ?_; (with_reducible refine (headroomref07_Table.calls k a1 a2 t4 _ A4.out).mono ?_); rintro e w7 ⟨v5, rfl, ho0, hb⟩; refine ⟨_, rfl, ?_⟩; have n0_ := Aside0.mk (Kd.R_below (by (with_reducible repeat (first | apply Kd.R_alloc | apply Kd.R_drewN | apply Kd.R_drew)); exact HO3.out) hb); have n1_ := Aside0.mk (Kd.R_lower ho0 (below_size (by repeat (first | (with_reducible first | exact HB.out | apply below_alloc | apply pw_below_drewN | apply below_drew1) | exact HB.out)))); have n2_ := Aside0.mk (below_step (by repeat (first | (with_reducible first | exact HB.out | apply below_alloc | apply pw_below_drewN | apply below_drew1) | exact HB.out)) hb); clear HO3; clear HB; have HO3 := n0_; have HO6 := n1_; have HB := n2_; clear n0_ n1_ n2_; (try clear hb); (try clear hb2); (try clear hk); (try clear hi); (try clear ho0); obtain ⟨Ao8, co8, eo8⟩ := Kd.R_slice HO6.out; subst eo8))
  go_loopg [7, 16] k (fun kq v7 v16 w' => ∃ (x7_1 : List Int) (x16_1 : Int), v16 = .int .i64 x16_1 ∧ Aside0 (headroomref19_Table.l0 kq a0 a2 x7_1 t4 (t4.length : Int) x16_1 = some r) ∧ Aside0 (kq ≤ k) ∧ Aside0 (Kd.R (Kd.int .i64) 3 w' w.heap.size (fun _ => True) v7 x7_1) ∧ Aside0 (Kd.R k41 41 w' w.heap.size (fun _ => True) (.slice Ao8 t4.length co8) t4) ∧ Aside0 (Below w.heap.size w w'))
  case atStart => exact ⟨(y1), (0), (by first | rfl | (simp; done) | (simp [*]; done)), H', ⟨Nat.le_refl _⟩, ⟨by (with_reducible repeat (first | apply Kd.R_alloc | apply Kd.R_drewN | apply Kd.R_drew)); exact HO3.out⟩, ⟨by (with_reducible repeat (first | apply Kd.R_alloc | apply Kd.R_drewN | apply Kd.R_drew)); exact HO6.out⟩, ⟨by repeat (first | (with_reducible first | exact HB.out | apply below_alloc | apply pw_below_drewN | apply below_drew1) | exact HB.out)⟩⟩
  case round =>
    clear H'
    try clear p2
    try clear c4
    try clear c6
    obtain ⟨x7_1, x16_1, rfl, HA, HK1, HO_7, HO_8, HB⟩ := hrel
    cases gk with
    | zero => exact absurd HA.out (by simp [headroomref19_Table.l0])
    | succ k1 =>
      have H := HA.out
      clear HA
      simp only [headroomref19_Table.l0] at H
      by_cases c9 : x16_1 < (t4.length : Int)
      · rw [if_pos c9] at H
        have c9b0 : decide (x16_1 < (t4.length : Int)) = true := decide_eq_true c9
        clear c9
        replace H := Option.bind_eq_some_iff.mp H
        obtain ⟨t7, A100, H⟩ := H
        replace H : (if x7_1.length < 17592186044416 then (headroomref19_Table.l0 k1 a0 a2 (x7_1 ++ [t7]) t4 (t4.length : Int) (wrap64 (x16_1 + 1))) else (none)) = some r := H
        have A10 := Aside0.mk A100
        clear A100
        by_cases c11 : x7_1.length < 17592186044416
        · rw [if_pos c11] at H
          have LMc11 := Aside0.mk c11
          clear c11
          obtain ⟨y8, hy8⟩ : ∃ y_ : List Int, y_ = (x7_1 ++ [t7]) := ⟨_, rfl⟩
          replace H : (headroomref19_Table.l0 k1 a0 a2 y8 t4 (t4.length : Int) (wrap64 (x16_1 + 1))) = some r := by first | (rw [hy8]; with_reducible exact H) | (have H2_ := (Option.bind_some _ _).symm.trans H; rw [hy8]; with_reducible exact H2_) | (have H2_ := (Option.bind_some _ _).symm.trans H; with_reducible exact H2_) | with_reducible exact H | (rw [hy8]; exact H) | exact H
          have Ny8 := Aside0.mk hy8
          clear hy8
          have H' := Aside0.mk H
          clear H
          go_wp2_with (first | ((with_reducible refine gate_callee (f := 82) rfl ?_); refine goesL_ (some 24) rfl rfl Try.func82 (by kernel_rfl) rfl #[.slice Ao8 t4.length co8, .int .i64 a0, .int .i64 a2, .int .i64 x16_1] rfl (by (try simp only [List.map_toArray, List.map_cons, List.map_nil]); first | done | rfl | (simp only [List.length_drop, List.length_take]; rfl)) ?_; (with_reducible refine (headroomref19_Weight.calls k1 _ _ t4 a0 a2 x16_1 t7 _ ?side1 ?side2 A10.out).mono ?_); (case side1 => repeat (first | exact (Kd.R_reads' HO_8.out).2.2 | (with_reducible refine Kd.C_alloc ?_ _) | (with_reducible refine Kd.C_drewN ?_ _) | (with_reducible refine Kd.C_drew ?_))); (case side2 => exact (Kd.R_reads' HO_8.out).2.1); rintro e w' ⟨rfl, ⟨nd, rfl⟩⟩; refine ⟨_, rfl, ?_⟩) | ((with_reducible refine gate_builtin (b := .append) (xs := #[.tmp 19, .tmp 25]) rfl ?_); at_builtin; refine Kd.R_append (Kd.int .i64) (w0 := w) w.heap.size rfl (.tmp 19) (.tmp 25) 31 3 (.int .i64 0) 8 rfl Try.underlying31 info3 rfl (by decide) (by omega) u7 x7_1 t7 [.int .i64 t7] (fun _ => True) (fun _ => False) rfl rfl ?aP (fun _ hk => hk.elim) ?aF ?aO ?aB ?aS ?aL ?_; (case aP => exact rfl); (case aB => exact (by repeat (first | (with_reducible first | exact HB.out | apply below_alloc | apply pw_below_drewN | apply below_drew1) | exact HB.out))); (case aF => exact (fun _ _ => trivial)); (case aO => exact (by (with_reducible repeat (first | apply Kd.R_alloc | apply Kd.R_drewN | apply Kd.R_drew)); exact HO_7.out)); (case aS => exact (below_size (by repeat (first | (with_reducible first | exact HB.out | apply below_alloc | apply pw_below_drewN | apply below_drew1) | exact HB.out)))); (case aL => have := LMc11.out; omega); intro v9 w12 ho hb hg hat; rw [← Ny8.out] at ho; have n0_ := Aside0.mk (Kd.R_over' (by (with_reducible repeat (first | apply Kd.R_alloc | apply Kd.R_drewN | apply Kd.R_drew)); exact HO_8.out) (Kd.R_typed (by (with_reducible repeat (first | apply Kd.R_alloc | apply Kd.R_drewN | apply Kd.R_drew)); exact HO_7.out)) (by decide) hg); have n1_ := Aside0.mk (hb); have n2_ := Aside0.mk (ho); clear HO_8; clear HB; clear HO_7; have HO_8 := n0_; have HB := n1_; have HO10 := n2_; clear n0_ n1_ n2_; clear ho hb hg hat))
          go_roundg k1
          case measure => have := HK1.out; omega
          case rel => exact ⟨(y8), (wrap64 (x16_1 + 1)), (by first | rfl | (simp; done) | (simp [*]; done)), H', ⟨by have := HK1.out; omega⟩, ⟨by (with_reducible repeat (first | apply Kd.R_alloc | apply Kd.R_drewN | apply Kd.R_drew)); exact HO10.out⟩, ⟨by (with_reducible repeat (first | apply Kd.R_alloc | apply Kd.R_drewN | apply Kd.R_drew)); exact HO_8.out⟩, ⟨by repeat (first | (with_reducible first | exact HB.out | apply below_alloc | apply pw_below_drewN | apply below_drew1) | exact HB.out)⟩⟩
        · rw [if_neg c11] at H
          exact absurd H (by simp)
      · rw [if_neg c9] at H
        have c9b0 : decide (x16_1 < (t4.length : Int)) = false := decide_eq_false c9
        clear c9
        obtain rfl := Option.some.inj H
        go_wp2
        go_ret
        exact ⟨_, by first | rfl | (simp [errW_none, errW_some] <;> rfl) | (simp [*, errW_none, errW_some] <;> rfl), by (with_reducible repeat (first | apply Kd.R_alloc | apply Kd.R_drewN | apply Kd.R_drew)); exact HO_7.out, by repeat (first | (with_reducible first | exact HB.out | apply below_alloc | apply pw_below_drewN | apply below_drew1) | exact HB.out)⟩

end Go.Proofs.Ytpmkkidljmedaaa.X
namespace Go.Proofs.Ytpmkkidljmedaaa.X
open Go.RowKit Go.Proofs.YtpmkkidljmedaaaW.PrintWords Go.Proofs.YtpmkkidljmedaaaW.PrintLast Go.Proofs.YtpmkkidljmedaaaW.PrintMore
attribute [local go_sem] max2_int min2_int max_two min_two max_three min_three max_four min_four   -- for this text's walks alone
set_option linter.unusedVariables false
set_option linter.unusedSimpArgs false

/-! ### headroomref19_Apply: function 20 -/
def headroomref19_Apply.l0 : Nat → Int → Int → List Int → List Int → List Int → Int → Int → Option (List Int)
  | 0, _, _, _, _, _, _, _ => none
  | k + 1, x3, x9, x10, x11, x23, x24, x25 => if x25 < x24 then (if 0 ≤ x25 then (if x25 < (x23.length : Int) then (if x25 < (x10.length : Int) then ((headroomref01_Shift.f k (wrap64 ((rd x23 x25) * (rd x10 x25))) x9 x3).bind fun t11 => (if x11.length < 17592186044416 then (headroomref19_Apply.l0 k x3 x9 x10 (x11 ++ [t11]) x23 x24 (wrap64 (x25 + 1))) else (none))) else (none)) else (none)) else (none)) else (some x11)
def headroomref19_Apply.f (k : Nat) (l0 : List Int) (a1 : Int) (a2 : Int) (a3 : Int) : Option (List Int) := (headroomref07_Bits.f a2).bind fun t1 => ((headroomref08_Log.f k (l0.length : Int)).bind fun t2 => ((headroomref19_Table.f k a1 t2 t1).bind fun t3 => (headroomref19_Apply.l0 k a3 t1 t3 (([] : List Int)) l0 (l0.length : Int) 0)))
theorem headroomref19_Apply.mono_l : ∀ k, (∀ y0 y1 y2 y3 y4 y5 y6, LeO (headroomref19_Apply.l0 k y0 y1 y2 y3 y4 y5 y6) (headroomref19_Apply.l0 (k + 1) y0 y1 y2 y3 y4 y5 y6))
  | 0 => fun _ _ _ _ _ _ _ r h => by simp [headroomref19_Apply.l0] at h
  | k + 1 => by
    have ih0 := headroomref19_Apply.mono_l k
    · intro y0 y1 y2 y3 y4 y5 y6
      unfold headroomref19_Apply.l0
      repeat' first
      | (with_reducible exact ih0 _ _ _ _ _ _ _)
      | (with_reducible exact headroomref01_Shift.mono _ _ _ _)
      | (with_reducible exact headroomref08_Log.mono _ _)
      | (with_reducible exact headroomref19_Table.mono _ _ _ _)
      | (with_reducible exact LeO.refl _)
      | (with_reducible exact LeO.none _)
      | (with_reducible refine LeO.ite ?_ ?_)
      | (with_reducible refine LeO.bind ?_ (fun _ => ?_))
      | exact ih0 _ _ _ _ _ _ _
      | exact headroomref01_Shift.mono _ _ _ _
      | exact headroomref08_Log.mono _ _
      | exact headroomref19_Table.mono _ _ _ _
      | exact LeO.none _
      | refine LeO.ite ?_ ?_
      | refine LeO.bind ?_ (fun _ => ?_)
theorem headroomref19_Apply.mono : ∀ a0 a1 a2 a3 k, LeO (headroomref19_Apply.f k a0 a1 a2 a3) (headroomref19_Apply.f (k + 1) a0 a1 a2 a3) := by
  intro a0 a1 a2 a3 k
  have ih0 := headroomref19_Apply.mono_l k
  unfold headroomref19_Apply.f
  repeat' first
      | (with_reducible exact ih0 _ _ _ _ _ _ _)
      | (with_reducible exact headroomref01_Shift.mono _ _ _ _)
      | (with_reducible exact headroomref08_Log.mono _ _)
      | (with_reducible exact headroomref19_Table.mono _ _ _ _)
      | (with_reducible exact LeO.refl _)
      | (with_reducible exact LeO.none _)
      | (with_reducible refine LeO.ite ?_ ?_)
      | (with_reducible refine LeO.bind ?_ (fun _ => ?_))
      | exact ih0 _ _ _ _ _ _ _
      | exact headroomref01_Shift.mono _ _ _ _
      | exact headroomref08_Log.mono _ _
      | exact headroomref19_Table.mono _ _ _ _
      | exact LeO.none _
      | refine LeO.ite ?_ ?_
      | refine LeO.bind ?_ (fun _ => ?_)
set_option maxHeartbeats 8000000 in
set_option maxRecDepth 100000 in
theorem headroomref19_Apply.calls (k : Nat) (A0 : Option Addr) (c0 : Nat) (l0 : List Int) (a1 : Int) (a2 : Int) (a3 : Int) (r : List Int) (w : World) (hr0 : Kd.C (Kd.int .i64) w A0 l0.length l0) (hc0 : l0.length ≤ c0) (h : headroomref19_Apply.f k l0 a1 a2 a3 = some r) :
    Calls Try.prog 20 #[.slice A0 l0.length c0, .int .i64 a1, .int .i64 a2, .int .i64 a3] w fun e w' => ∃ v0_ : Value, e = .returned (v0_) ∧ Kd.R (Kd.int .i64) 3 w' w.heap.size (fun _ => True) v0_ r ∧ Below w.heap.size w w' := by
  have HR0 := Aside0.mk hr0
  have HC0 := Aside0.mk hc0
  clear hr0 hc0
  have HB := Aside0.mk (Below.refl w.heap.size w)
  have H : ((headroomref07_Bits.f a2).bind fun t1 => ((headroomref08_Log.f k (l0.length : Int)).bind fun t2 => ((headroomref19_Table.f k a1 t2 t1).bind fun t3 => (headroomref19_Apply.l0 k a3 t1 t3 (([] : List Int)) l0 (l0.length : Int) 0)))) = some r := h
  clear h
  replace H := Option.bind_eq_some_iff.mp H
  obtain ⟨t1, A50, H⟩ := H
  replace H : ((headroomref08_Log.f k (l0.length : Int)).bind fun t2 => ((headroomref19_Table.f k a1 t2 t1).bind fun t3 => (headroomref19_Apply.l0 k a3 t1 t3 (([] : List Int)) l0 (l0.length : Int) 0))) = some r := H
  have A5 := Aside0.mk A50
  clear A50
  replace H := Option.bind_eq_some_iff.mp H
  obtain ⟨t2, A60, H⟩ := H
  replace H : ((headroomref19_Table.f k a1 t2 t1).bind fun t3 => (headroomref19_Apply.l0 k a3 t1 t3 (([] : List Int)) l0 (l0.length : Int) 0)) = some r := H
  have A6 := Aside0.mk A60
  clear A60
  replace H := Option.bind_eq_some_iff.mp H
  obtain ⟨t3, A70, H⟩ := H
  replace H : (headroomref19_Apply.l0 k a3 t1 t3 (([] : List Int)) l0 (l0.length : Int) 0) = some r := H
  have A7 := Aside0.mk A70
  clear A70
  obtain ⟨y6, hy6⟩ : ∃ y_ : List Int, y_ = (([] : List Int)) := ⟨_, rfl⟩
  replace H : (headroomref19_Apply.l0 k a3 t1 t3 y6 l0 (l0.length : Int) 0) = some r := by first | (rw [hy6]; with_reducible exact H) | (have H2_ := (Option.bind_some _ _).symm.trans H; rw [hy6]; with_reducible exact H2_) | (have H2_ := (Option.bind_some _ _).symm.trans H; with_reducible exact H2_) | with_reducible exact H | (rw [hy6]; exact H) | exact H
  have Ny6 := Aside0.mk hy6
  clear hy6
  have H' := Aside0.mk H
  clear H
  go_enter Try.func20, Try.ntmps20
  go_wp2_with (first | ((with_reducible refine gate_callee (f := 30) rfl ?_); refine goesL_ (some 15) rfl rfl Try.func30 (by kernel_rfl) rfl #[.int .i64 a2] rfl (by (try simp only [List.map_toArray, List.map_cons, List.map_nil]); first | done | rfl | (simp only [List.length_drop, List.length_take]; rfl)) ?_; (with_reducible refine (headroomref07_Bits.calls a2 t1 _ A5.out).mono ?_); rintro e w' ⟨rfl, ⟨nd, rfl⟩⟩; refine ⟨_, rfl, ?_⟩) | ((with_reducible refine gate_callee (f := 24) rfl ?_); refine goesL_ (some 19) rfl rfl Try.func24 (by kernel_rfl) rfl #[.int .i64 (l0.length : Int)] rfl (by (try simp only [List.map_toArray, List.map_cons, List.map_nil]); first | done | rfl | (simp only [List.length_drop, List.length_take]; rfl)) ?_; (with_reducible refine (headroomref08_Log.calls k (l0.length : Int) t2 _ A6.out).mono ?_); rintro e w' ⟨rfl, ⟨nd, rfl⟩⟩; refine ⟨_, rfl, ?_⟩) | ((with_reducible refine gate_callee (f := 47) rfl ?_); refine goesL_ (some 21) rfl rfl Try.func47 (by kernel_rfl) rfl #[.int .i64 a1, .int .i64 t2, .int .i64 t1] rfl (by (try simp only [List.map_toArray, List.map_cons, List.map_nil]); first | done | rfl | (simp only [List.length_drop, List.length_take]; rfl)) ?_; (with_reducible refine (headroomref19_Table.calls k a1 t2 t1 t3 _ A7.out).mono ?_); rintro e w8 ⟨v4, rfl, ho0, hb⟩; refine ⟨_, rfl, ?_⟩; have n0_ := Aside0.mk (Kd.R_lower ho0 (below_size (by repeat (first | (with_reducible first | exact HB.out | apply below_alloc | apply pw_below_drewN | apply below_drew1) | exact HB.out)))); have n1_ := Aside0.mk (below_step (by repeat (first | (with_reducible first | exact HB.out | apply below_alloc | apply pw_below_drewN | apply below_drew1) | exact HB.out)) hb); clear HB; have HO5 := n0_; have HB := n1_; clear n0_ n1_; (try clear hb); (try clear hb2); (try clear hk); (try clear hi); (try clear ho0)) | ((with_reducible refine gate_dst (N := 22) rfl ?_); refine Kd.R_lit (Kd.int .i64) _ 3 ?hg (N := 22) ?hd (xs := ([] : List Int)) (inner := []) (ok := fun _ => True) (okp := fun _ => True) ?hr ?hp (fun _ hk => hk) trivial (Below.refl _ _) (Nat.le_refl _) (by simp) ?_; (case hd => rfl); (case hg => rfl); (case hr => first | (go_simp; done) | (go_simp; rfl)); (case hp => exact (Reps.none _ _)); intro v7 w9 ho10 hb hg_ hnew_; clear hg_ hnew_; (first | rw [← Ny6.out] at ho10 | (simp only [Int.reduceToNat] at ho10; rw [← Ny6.out] at ho10)); have n0_ := Aside0.mk (Kd.R_elder' (by (with_reducible repeat (first | apply Kd.R_alloc | apply Kd.R_drewN | apply Kd.R_drew)); exact HO5.out) (Kd.R_base ho10) hb); have n1_ := Aside0.mk (Kd.R_lower (Kd.R_new' ho10 (Kd.R_lt (by (with_reducible repeat (first | apply Kd.R_alloc | apply Kd.R_drewN | apply Kd.R_drew)); exact HO5.out))) (below_size (by repeat (first | (with_reducible first | exact HB.out | apply below_alloc | apply pw_below_drewN | apply below_drew1) | exact HB.out)))); have n2_ := Aside0.mk (below_step (by repeat (first | (with_reducible first | exact HB.out | apply below_alloc | apply pw_below_drewN | apply below_drew1) | exact HB.out)) hb); clear HO5; clear HB; have HO5 := n0_; have HO8 := n1_; have HB := n2_; clear n0_ n1_ n2_; clear hb ho10))
  go_loopg [11, 25] k (fun kq v11 v25 w' => ∃ (x11_1 : List Int) (x25_1 : Int), v25 = .int .i64 x25_1 ∧ Aside0 (headroomref19_Apply.l0 kq a3 t1 t3 x11_1 l0 (l0.length : Int) x25_1 = some r) ∧ Aside0 (kq ≤ k) ∧ Aside0 (Kd.R (Kd.int .i64) 3 w' w.heap.size (fun k_ => some k_ ≠ (v11 : Value).ownBlock) v4 t3) ∧ Aside0 (Kd.R (Kd.int .i64) 3 w' w.heap.size (fun k_ => some k_ ≠ (v4 : Value).ownBlock) v11 x11_1) ∧ Aside0 (Below w.heap.size w w'))
  case atStart => exact ⟨(y6), (0), (by first | rfl | (simp; done) | (simp [*]; done)), H', ⟨Nat.le_refl _⟩, ⟨by (with_reducible repeat (first | apply Kd.R_alloc | apply Kd.R_drewN | apply Kd.R_drew)); exact Kd.R_mono HO5.out (fun _ hk => hk.2)⟩, ⟨by (with_reducible repeat (first | apply Kd.R_alloc | apply Kd.R_drewN | apply Kd.R_drew)); exact Kd.R_mono HO8.out (fun _ hk => hk.2)⟩, ⟨by repeat (first | (with_reducible first | exact HB.out | apply below_alloc | apply pw_below_drewN | apply below_drew1) | exact HB.out)⟩⟩
  case round =>
    clear H'
    try clear c2
    try clear p2
    try clear c3
    try clear c4
    obtain ⟨x11_1, x25_1, rfl, HA, HK1, HO_10, HO_11, HB⟩ := hrel
    cases gk with
    | zero => exact absurd HA.out (by simp [headroomref19_Apply.l0])
    | succ k1 =>
      have H := HA.out
      clear HA
      simp only [headroomref19_Apply.l0] at H
      by_cases c11 : x25_1 < (l0.length : Int)
      · rw [if_pos c11] at H
        have c11b0 : decide (x25_1 < (l0.length : Int)) = true := decide_eq_true c11
        clear c11
        by_cases c12 : 0 ≤ x25_1
        · rw [if_pos c12] at H
          have c12b0 : decide (0 ≤ x25_1) = true := decide_eq_true c12
          clear c12
          by_cases c13 : x25_1 < (l0.length : Int)
          · rw [if_pos c13] at H
            have c13b0 : decide (x25_1 < (l0.length : Int)) = true := decide_eq_true c13
            clear c13
            by_cases c14 : x25_1 < (t3.length : Int)
            · rw [if_pos c14] at H
              have c14b0 : decide (x25_1 < (t3.length : Int)) = true := decide_eq_true c14
              clear c14
              replace H := Option.bind_eq_some_iff.mp H
              obtain ⟨t11, A150, H⟩ := H
              replace H : (if x11_1.length < 17592186044416 then (headroomref19_Apply.l0 k1 a3 t1 t3 (x11_1 ++ [t11]) l0 (l0.length : Int) (wrap64 (x25_1 + 1))) else (none)) = some r := H
              have A15 := Aside0.mk A150
              clear A150
              by_cases c16 : x11_1.length < 17592186044416
              · rw [if_pos c16] at H
                have LMc16 := Aside0.mk c16
                clear c16
                obtain ⟨y12, hy12⟩ : ∃ y_ : List Int, y_ = (x11_1 ++ [t11]) := ⟨_, rfl⟩
                replace H : (headroomref19_Apply.l0 k1 a3 t1 t3 y12 l0 (l0.length : Int) (wrap64 (x25_1 + 1))) = some r := by first | (rw [hy12]; with_reducible exact H) | (have H2_ := (Option.bind_some _ _).symm.trans H; rw [hy12]; with_reducible exact H2_) | (have H2_ := (Option.bind_some _ _).symm.trans H; with_reducible exact H2_) | with_reducible exact H | (rw [hy12]; exact H) | exact H
                have Ny12 := Aside0.mk hy12
                clear hy12
                have H' := Aside0.mk H
                clear H
                have p9 : 0 ≤ (x25_1 : Int) := of_decide_eq_true (by first | (with_reducible assumption) | assumption)
                have q9 : x25_1 < (l0.length : Int) := of_decide_eq_true (by first | (with_reducible assumption) | assumption)
                obtain ⟨ad9, e9, hx9_0⟩ := Kd.at_int HR0.out x25_1 p9 q9
                cases e9
                replace hx9_0 := (HB.out.cell (World.block_lt_of_cell? w _ hx9_0)).trans hx9_0
                replace p9 := eq_true p9
                replace q9 := eq_true q9
                obtain ⟨Ao17, co17, eo17⟩ := Kd.R_slice HO_10.out
                subst eo17
                have p10 : 0 ≤ (x25_1 : Int) := of_decide_eq_true (by first | (with_reducible assumption) | assumption)
                have q10 : x25_1 < (t3.length : Int) := of_decide_eq_true (by first | (with_reducible assumption) | assumption)
                obtain ⟨ad10, e10, hx10_0⟩ := Kd.at_int (Kd.R_reads' HO_10.out).2.2 x25_1 p10 q10
                cases e10
                replace p10 := eq_true p10
                replace q10 := eq_true q10
                go_wp2_with (first | ((with_reducible refine gate_callee (f := 48) rfl ?_); refine goesL_ (some 39) rfl rfl Try.func48 (by kernel_rfl) rfl #[.int .i64 (wrap64 ((rd l0 x25_1) * (rd t3 x25_1))), .int .i64 t1, .int .i64 a3] rfl (by (try simp only [List.map_toArray, List.map_cons, List.map_nil]); first | done | rfl | (simp only [List.length_drop, List.length_take]; rfl)) ?_; (with_reducible refine (headroomref01_Shift.calls k1 (wrap64 ((rd l0 x25_1) * (rd t3 x25_1))) t1 a3 t11 _ A15.out).mono ?_); rintro e w' ⟨rfl, ⟨nd, rfl⟩⟩; refine ⟨_, rfl, ?_⟩) | ((with_reducible refine gate_builtin (b := .append) (xs := #[.tmp 30, .tmp 40]) rfl ?_); at_builtin; refine Kd.R_append (Kd.int .i64) (w0 := w) w.heap.size rfl (.tmp 30) (.tmp 40) 31 3 (.int .i64 0) 8 rfl Try.underlying31 info3 rfl (by decide) (by omega) u11 x11_1 t11 [.int .i64 t11] (fun k_ => some k_ ≠ (.slice (some ad10) t3.length co17 : Value).ownBlock) (fun _ => False) rfl rfl ?aP (fun _ hk => hk.elim) ?aF ?aO ?aB ?aS ?aL ?_; (case aP => exact rfl); (case aB => exact (by repeat (first | (with_reducible first | exact HB.out | apply below_alloc | apply pw_below_drewN | apply below_drew1) | exact HB.out))); (case aF => exact (fun k_ hk => Kd.fresh' (Kd.R_lt (by (with_reducible repeat (first | apply Kd.R_alloc | apply Kd.R_drewN | apply Kd.R_drew)); exact HO_10.out)) k_ hk)); (case aO => exact (by (with_reducible repeat (first | apply Kd.R_alloc | apply Kd.R_drewN | apply Kd.R_drew)); exact HO_11.out)); (case aS => exact (below_size (by repeat (first | (with_reducible first | exact HB.out | apply below_alloc | apply pw_below_drewN | apply below_drew1) | exact HB.out)))); (case aL => have := LMc16.out; omega); intro v13 w18 ho hb hg hat; rw [← Ny12.out] at ho; have n0_ := Aside0.mk (Kd.R_after (ok := (fun _ => True)) (by (with_reducible repeat (first | apply Kd.R_alloc | apply Kd.R_drewN | apply Kd.R_drew)); exact Kd.R_mono HO_10.out (fun _ hk => ⟨trivial, hk⟩)) hg hat); have n1_ := Aside0.mk (hb); have n2_ := Aside0.mk (ho); clear HO_10; clear HB; clear HO_11; have HO_10 := n0_; have HB := n1_; have HO14 := n2_; clear n0_ n1_ n2_; clear ho hb hg hat))
                go_roundg k1
                case measure => have := HK1.out; omega
                case rel => exact ⟨(y12), (wrap64 (x25_1 + 1)), (by first | rfl | (simp; done) | (simp [*]; done)), H', ⟨by have := HK1.out; omega⟩, ⟨by (with_reducible repeat (first | apply Kd.R_alloc | apply Kd.R_drewN | apply Kd.R_drew)); exact Kd.R_mono HO_10.out (fun _ hk => hk.2)⟩, ⟨by (with_reducible repeat (first | apply Kd.R_alloc | apply Kd.R_drewN | apply Kd.R_drew)); exact HO14.out⟩, ⟨by repeat (first | (with_reducible first | exact HB.out | apply below_alloc | apply pw_below_drewN | apply below_drew1) | exact HB.out)⟩⟩
              · rw [if_neg c16] at H
                exact absurd H (by simp)
            · rw [if_neg c14] at H
              exact absurd H (by simp)
          · rw [if_neg c13] at H
            exact absurd H (by simp)
        · rw [if_neg c12] at H
          exact absurd H (by simp)
      · rw [if_neg c11] at H
        have c11b0 : decide (x25_1 < (l0.length : Int)) = false := decide_eq_false c11
        clear c11
        obtain rfl := Option.some.inj H
        go_wp2
        go_ret
        exact ⟨_, by first | rfl | (simp [errW_none, errW_some] <;> rfl) | (simp [*, errW_none, errW_some] <;> rfl), by (with_reducible repeat (first | apply Kd.R_alloc | apply Kd.R_drewN | apply Kd.R_drew)); exact Kd.R_mono HO_11.out (fun _ hk => trivial), by repeat (first | (with_reducible first | exact HB.out | apply below_alloc | apply pw_below_drewN | apply below_drew1) | exact HB.out)⟩

end Go.Proofs.Ytpmkkidljmedaaa.X
namespace Go.Proofs.Ytpmkkidljmedaaa.X
open Go.RowKit Go.Proofs.YtpmkkidljmedaaaW.PrintWords Go.Proofs.YtpmkkidljmedaaaW.PrintLast Go.Proofs.YtpmkkidljmedaaaW.PrintMore
attribute [local go_sem] max2_int min2_int max_two min_two max_three min_three max_four min_four   -- for this text's walks alone
set_option linter.unusedVariables false
set_option linter.unusedSimpArgs false

/-! ### headroomlaw19_WindowWeighs: function 4 -/
def headroomlaw19_WindowWeighs.f (k : Nat) (l0 : List Int) (a1 : Int) (a2 : Int) (a3 : Int) : Option (Bool) := if 0 ≤ (mn (l0.length : Int) 70) then (if (mn (l0.length : Int) 70) ≤ (l0.length : Int) then ((window_Apply.f (l0.take ((mn (l0.length : Int) 70) : Int).toNat) a1 a2 a3).bind fun bt2 => ((headroomref19_Why.f k (l0.take ((mn (l0.length : Int) 70) : Int).toNat) a1 a2 a3).bind fun t6 => (if t6 = 0 then ((headroomlaw19_alive.f k).bind fun t7 => (if t7 = true then (if bt2.2 = 0 then ((headroomref19_Apply.f k (l0.take ((mn (l0.length : Int) 70) : Int).toNat) a1 a2 a3).bind fun t8 => ((headroomref04_Same.f k bt2.1 t8).bind fun t11 => (some t11))) else (some false)) else (some false))) else ((headroomlaw19_alive.f k).bind fun t12 => (if t12 = true then (if bt2.2 = t6 then (some ((bt2.1.length : Int) == 0)) else (some false)) else (some false)))))) else (none)) else (none)
theorem headroomlaw19_WindowWeighs.mono : ∀ a0 a1 a2 a3 k, LeO (headroomlaw19_WindowWeighs.f k a0 a1 a2 a3) (headroomlaw19_WindowWeighs.f (k + 1) a0 a1 a2 a3) := by
  intro a0 a1 a2 a3 k
  unfold headroomlaw19_WindowWeighs.f
  repeat' first
      | (with_reducible exact headroomlaw19_alive.mono _)
      | (with_reducible exact headroomref04_Same.mono _ _ _)
      | (with_reducible exact headroomref19_Apply.mono _ _ _ _ _)
      | (with_reducible exact headroomref19_Why.mono _ _ _ _ _)
      | (with_reducible exact LeO.refl _)
      | (with_reducible exact LeO.none _)
      | (with_reducible refine LeO.ite ?_ ?_)
      | (with_reducible refine LeO.bind ?_ (fun _ => ?_))
      | exact headroomlaw19_alive.mono _
      | exact headroomref04_Same.mono _ _ _
      | exact headroomref19_Apply.mono _ _ _ _ _
      | exact headroomref19_Why.mono _ _ _ _ _
      | exact LeO.none _
      | refine LeO.ite ?_ ?_
      | refine LeO.bind ?_ (fun _ => ?_)
set_option maxHeartbeats 8000000 in
set_option maxRecDepth 100000 in
theorem headroomlaw19_WindowWeighs.calls (k : Nat) (A0 : Option Addr) (c0 : Nat) (l0 : List Int) (a1 : Int) (a2 : Int) (a3 : Int) (r : Bool) (w : World) (hr0 : Kd.C (Kd.int .i64) w A0 l0.length l0) (hc0 : l0.length ≤ c0) (h : headroomlaw19_WindowWeighs.f k l0 a1 a2 a3 = some r) :
    Calls Try.prog 4 #[.slice A0 l0.length c0, .int .i64 a1, .int .i64 a2, .int .i64 a3] w fun e w' => e = .returned (.bool r) ∧ Below w.heap.size w w' := by
  have HR0 := Aside0.mk hr0
  have HC0 := Aside0.mk hc0
  clear hr0 hc0
  have HB := Aside0.mk (Below.refl w.heap.size w)
  have H : (if 0 ≤ (mn (l0.length : Int) 70) then (if (mn (l0.length : Int) 70) ≤ (l0.length : Int) then ((window_Apply.f (l0.take ((mn (l0.length : Int) 70) : Int).toNat) a1 a2 a3).bind fun bt2 => ((headroomref19_Why.f k (l0.take ((mn (l0.length : Int) 70) : Int).toNat) a1 a2 a3).bind fun t6 => (if t6 = 0 then ((headroomlaw19_alive.f k).bind fun t7 => (if t7 = true then (if bt2.2 = 0 then ((headroomref19_Apply.f k (l0.take ((mn (l0.length : Int) 70) : Int).toNat) a1 a2 a3).bind fun t8 => ((headroomref04_Same.f k bt2.1 t8).bind fun t11 => (some t11))) else (some false)) else (some false))) else ((headroomlaw19_alive.f k).bind fun t12 => (if t12 = true then (if bt2.2 = t6 then (some ((bt2.1.length : Int) == 0)) else (some false)) else (some false)))))) else (none)) else (none)) = some r := h
  clear h
  obtain ⟨ji5, hji5⟩ : ∃ j_ : Int, (mn (l0.length : Int) 70) = j_ := ⟨_, rfl⟩
  replace H : (if 0 ≤ (ji5) then (if (ji5) ≤ (l0.length : Int) then ((window_Apply.f (l0.take ((ji5) : Int).toNat) a1 a2 a3).bind fun bt2 => ((headroomref19_Why.f k (l0.take ((ji5) : Int).toNat) a1 a2 a3).bind fun t6 => (if t6 = 0 then ((headroomlaw19_alive.f k).bind fun t7 => (if t7 = true then (if bt2.2 = 0 then ((headroomref19_Apply.f k (l0.take ((ji5) : Int).toNat) a1 a2 a3).bind fun t8 => ((headroomref04_Same.f k bt2.1 t8).bind fun t11 => (some t11))) else (some false)) else (some false))) else ((headroomlaw19_alive.f k).bind fun t12 => (if t12 = true then (if bt2.2 = t6 then (some ((bt2.1.length : Int) == 0)) else (some false)) else (some false)))))) else (none)) else (none)) = some r := by first | (rw [hji5] at H; exact H) | (simp only [hji5] at H ⊢; exact H)
  (try (have hji5h : ji5 ≤ 70 := by (rw [← hji5]; unfold mn; (repeat' split) <;> omega)))
  (try (have hji5g : ji5 ≤ 64 := by omega))
  (try (have hji5l : 0 ≤ ji5 := by (rw [← hji5]; unfold mn; (repeat' split) <;> omega)))
  (try (have hji5m : 0 ≤ ji5 := by omega))
  have hji5_ : (if 70 < (l0.length : Int) then 70 else (l0.length : Int)) = ji5 := hji5
  by_cases c6 : 0 ≤ (ji5)
  · rw [if_pos c6] at H
    have c6b0 := eq_true c6
    have c6b1 : decide (0 ≤ (ji5)) = true := decide_eq_true c6
    clear c6
    by_cases c7 : (ji5) ≤ (l0.length : Int)
    · rw [if_pos c7] at H
      have c7b0 := eq_true c7
      have c7b1 : decide ((ji5) ≤ (l0.length : Int)) = true := decide_eq_true c7
      clear c7
      replace H := Option.bind_eq_some_iff.mp H
      obtain ⟨⟨t2, t3⟩, A80, H⟩ := H
      replace H : ((headroomref19_Why.f k (l0.take ((ji5) : Int).toNat) a1 a2 a3).bind fun t6 => (if t6 = 0 then ((headroomlaw19_alive.f k).bind fun t7 => (if t7 = true then (if t3 = 0 then ((headroomref19_Apply.f k (l0.take ((ji5) : Int).toNat) a1 a2 a3).bind fun t8 => ((headroomref04_Same.f k t2 t8).bind fun t11 => (some t11))) else (some false)) else (some false))) else ((headroomlaw19_alive.f k).bind fun t12 => (if t12 = true then (if t3 = t6 then (some ((t2.length : Int) == 0)) else (some false)) else (some false))))) = some r := H
      have A8 := Aside0.mk A80
      clear A80
      replace H := Option.bind_eq_some_iff.mp H
      obtain ⟨t6, A90, H⟩ := H
      replace H : (if t6 = 0 then ((headroomlaw19_alive.f k).bind fun t7 => (if t7 = true then (if t3 = 0 then ((headroomref19_Apply.f k (l0.take ((ji5) : Int).toNat) a1 a2 a3).bind fun t8 => ((headroomref04_Same.f k t2 t8).bind fun t11 => (some t11))) else (some false)) else (some false))) else ((headroomlaw19_alive.f k).bind fun t12 => (if t12 = true then (if t3 = t6 then (some ((t2.length : Int) == 0)) else (some false)) else (some false)))) = some r := H
      have A9 := Aside0.mk A90
      clear A90
      by_cases c10 : t6 = 0
      · rw [if_pos c10] at H
        have c10b0 : (t6 == 0) = true := beq_iff_eq.mpr c10
        have c10b1 : (t6 != 0) = false := bne_eq_false_iff_eq.mpr c10
        clear c10
        replace H := Option.bind_eq_some_iff.mp H
        obtain ⟨t7, A110, H⟩ := H
        replace H : (if t7 = true then (if t3 = 0 then ((headroomref19_Apply.f k (l0.take ((ji5) : Int).toNat) a1 a2 a3).bind fun t8 => ((headroomref04_Same.f k t2 t8).bind fun t11 => (some t11))) else (some false)) else (some false)) = some r := H
        have A11 := Aside0.mk A110
        clear A110
        by_cases c12 : t7 = true
        · subst c12
          have H1 : (if t3 = 0 then ((headroomref19_Apply.f k (l0.take ((ji5) : Int).toNat) a1 a2 a3).bind fun t8 => ((headroomref04_Same.f k t2 t8).bind fun t11 => (some t11))) else (some false)) = some r := by rw [if_pos rfl] at H; exact H
          clear H
          have H := H1
          clear H1
          by_cases c13 : t3 = 0
          · rw [if_pos c13] at H
            have c13b0 : (t3 == 0) = true := beq_iff_eq.mpr c13
            have c13b1 : (t3 != 0) = false := bne_eq_false_iff_eq.mpr c13
            clear c13
            replace H := Option.bind_eq_some_iff.mp H
            obtain ⟨t8, A140, H⟩ := H
            replace H : ((headroomref04_Same.f k t2 t8).bind fun t11 => (some t11)) = some r := H
            have A14 := Aside0.mk A140
            clear A140
            replace H := Option.bind_eq_some_iff.mp H
            obtain ⟨t11, A150, H⟩ := H
            replace H : (some t11) = some r := H
            have A15 := Aside0.mk A150
            clear A150
            obtain rfl := Option.some.inj H
            obtain ⟨i016, hi016, _, hsz16, _⟩ := info_parts info3
            obtain ⟨hcut16, hA16, hC16⟩ := print_take_of (P := Try.prog) (Value.int .i64) 0 31 3 .i64 Try.underlying31 hi016 hsz16 A0 c0 l0 (ji5) (of_decide_eq_true (by first | (with_reducible assumption) | assumption)) (of_decide_eq_true (by first | (with_reducible assumption) | assumption)) HC0.out
            have HR1 := Aside0.mk (Kd.C_of_reads (h1 := fun _ => rfl) (hA16 _ (Kd.reads_of_C HR0.out)))
            have HC1 := Aside0.mk hC16
            clear hA16 hC16 hi016 hsz16
            go_enter Try.func4, Try.ntmps4
            go_wp2_with (first | ((with_reducible refine gate_callee (f := 16) rfl ?_); refine goesL_ (some 22) rfl rfl Try.func16 (by kernel_rfl) rfl #[.slice A0 (l0.take ((ji5) : Int).toNat).length c0, .int .i64 a1, .int .i64 a2, .int .i64 a3] rfl (by (try simp only [List.map_toArray, List.map_cons, List.map_nil]); first | done | (rw [show (l0.take ((ji5) : Int).toNat).length = (ji5).toNat from (by rw [List.length_take]; have h_ : ((ji5) : Int) ≤ (l0.length : Int) := of_decide_eq_true (by first | (with_reducible assumption) | assumption); omega)] <;> rfl) | (simp only [hji5]; rfl) | rfl | (simp only [List.length_drop, List.length_take]; rfl)) ?_; (with_reducible refine (window_Apply.calls _ _ (l0.take ((ji5) : Int).toNat) a1 a2 a3 t2 t3 _ ?side1 ?side2 A8.out).mono ?_); (case side1 => repeat (first | exact HR1.out | (with_reducible refine Kd.C_alloc ?_ _) | (with_reducible refine Kd.C_drewN ?_ _) | (with_reducible refine Kd.C_drew ?_))); (case side2 => exact HC1.out); rintro e w17 ⟨v4, rfl, ho0, hb⟩; refine ⟨_, rfl, ?_⟩; have n0_ := Aside0.mk (Kd.R_lower ho0 (below_size (by repeat (first | (with_reducible first | exact HB.out | apply below_alloc | apply pw_below_drewN | apply below_drew1) | exact HB.out)))); have n1_ := Aside0.mk (below_step (by repeat (first | (with_reducible first | exact HB.out | apply below_alloc | apply pw_below_drewN | apply below_drew1) | exact HB.out)) hb); clear HB; have HO5 := n0_; have HB := n1_; clear n0_ n1_; (try clear hb); (try clear hb2); (try clear hk); (try clear hi); (try clear ho0)) | ((with_reducible refine gate_callee (f := 17) rfl ?_); refine goesL_ (some 29) rfl rfl Try.func17 (by kernel_rfl) rfl #[.slice A0 (l0.take ((ji5) : Int).toNat).length c0, .int .i64 a1, .int .i64 a2, .int .i64 a3] rfl (by (try simp only [List.map_toArray, List.map_cons, List.map_nil]); first | done | (rw [show (l0.take ((ji5) : Int).toNat).length = (ji5).toNat from (by rw [List.length_take]; have h_ : ((ji5) : Int) ≤ (l0.length : Int) := of_decide_eq_true (by first | (with_reducible assumption) | assumption); omega)] <;> rfl) | (simp only [hji5]; rfl) | rfl | (simp only [List.length_drop, List.length_take]; rfl)) ?_; (with_reducible refine (headroomref19_Why.calls k _ _ (l0.take ((ji5) : Int).toNat) a1 a2 a3 t6 _ ?side1 ?side2 A9.out).mono ?_); (case side1 => repeat (first | exact (Kd.C_below HR1.out HB.out) | (with_reducible refine Kd.C_alloc ?_ _) | (with_reducible refine Kd.C_drewN ?_ _) | (with_reducible refine Kd.C_drew ?_))); (case side2 => exact HC1.out); rintro e w' ⟨rfl, ⟨nd, rfl⟩⟩; refine ⟨_, rfl, ?_⟩) | ((with_reducible refine gate_callee (f := 18) rfl ?_); refine goesL_ (some 43) rfl rfl Try.func18 (by kernel_rfl) rfl #[] rfl (by (try simp only [List.map_toArray, List.map_cons, List.map_nil]); first | done | rfl | (simp only [List.length_drop, List.length_take]; rfl)) ?_; (with_reducible refine (headroomlaw19_alive.calls k  true _ A11.out).mono ?_); rintro e w18 ⟨rfl, hb⟩; refine ⟨_, rfl, ?_⟩; have n0_ := Aside0.mk (Kd.R_below (by (with_reducible repeat (first | apply Kd.R_alloc | apply Kd.R_drewN | apply Kd.R_drew)); exact HO5.out) hb); have n1_ := Aside0.mk (below_step (by repeat (first | (with_reducible first | exact HB.out | apply below_alloc | apply pw_below_drewN | apply below_drew1) | exact HB.out)) hb); clear HO5; clear HB; have HO5 := n0_; have HB := n1_; clear n0_ n1_; (try clear hb); (try clear hb2); (try clear hk); (try clear hi)) | (go_at_call 20; (with_reducible refine (calls_len (by rw [List.length_take]; have h_ : ((ji5) : Int) ≤ (l0.length : Int) := of_decide_eq_true (by first | (with_reducible assumption) | assumption); omega) (headroomref19_Apply.calls k _ _ (l0.take ((ji5) : Int).toNat) a1 a2 a3 t8 _ ?side1 ?side2 A14.out)).mono ?_); (case side1 => repeat (first | exact (Kd.C_below HR1.out HB.out) | (with_reducible refine Kd.C_alloc ?_ _) | (with_reducible refine Kd.C_drewN ?_ _) | (with_reducible refine Kd.C_drew ?_))); (case side2 => exact HC1.out); rintro e w19 ⟨v9, rfl, ho0, hb⟩; have n0_ := Aside0.mk (Kd.R_elder' (by (with_reducible repeat (first | apply Kd.R_alloc | apply Kd.R_drewN | apply Kd.R_drew)); exact HO5.out) (Kd.R_base ho0) hb); have n1_ := Aside0.mk (Kd.R_lower (Kd.R_new' ho0 (Kd.R_lt (by (with_reducible repeat (first | apply Kd.R_alloc | apply Kd.R_drewN | apply Kd.R_drew)); exact HO5.out))) (below_size (by repeat (first | (with_reducible first | exact HB.out | apply below_alloc | apply pw_below_drewN | apply below_drew1) | exact HB.out)))); have n2_ := Aside0.mk (below_step (by repeat (first | (with_reducible first | exact HB.out | apply below_alloc | apply pw_below_drewN | apply below_drew1) | exact HB.out)) hb); clear HO5; clear HB; have HO5 := n0_; have HO10 := n1_; have HB := n2_; clear n0_ n1_ n2_; (try clear hb); (try clear hb2); (try clear hk); (try clear hi); (try clear ho0); obtain ⟨Ao20, co20, eo20⟩ := Kd.R_slice HO5.out; subst eo20; obtain ⟨Ao21, co21, eo21⟩ := Kd.R_slice HO10.out; subst eo21) | (go_at_call 19; (with_reducible refine (headroomref04_Same.calls k _ _ t2 _ _ t8 t11 _ ?side1 ?side2 ?side3 ?side4 A15.out).mono ?_); (case side1 => repeat (first | exact (Kd.R_reads' HO5.out).2.2 | (with_reducible refine Kd.C_alloc ?_ _) | (with_reducible refine Kd.C_drewN ?_ _) | (with_reducible refine Kd.C_drew ?_))); (case side2 => exact (Kd.R_reads' HO5.out).2.1); (case side3 => repeat (first | exact (Kd.R_reads' HO10.out).2.2 | (with_reducible refine Kd.C_alloc ?_ _) | (with_reducible refine Kd.C_drewN ?_ _) | (with_reducible refine Kd.C_drew ?_))); (case side4 => exact (Kd.R_reads' HO10.out).2.1); rintro e w' ⟨rfl, ⟨nd, rfl⟩⟩))
            go_ret
            exact ⟨by first | rfl | (simp [errW_none, errW_some] <;> rfl) | (simp only [← hji5]; first | rfl | (simp [errW_none, errW_some] <;> rfl)) | (simp [*, errW_none, errW_some] <;> rfl), by repeat (first | (with_reducible first | exact HB.out | apply below_alloc | apply pw_below_drewN | apply below_drew1) | exact HB.out)⟩
          · rw [if_neg c13] at H
            have c13b0 : (t3 == 0) = false := beq_eq_false_iff_ne.mpr c13
            have c13b1 : (t3 != 0) = true := bne_iff_ne.mpr c13
            obtain rfl := Option.some.inj H
            obtain ⟨i022, hi022, _, hsz22, _⟩ := info_parts info3
            obtain ⟨hcut22, hA22, hC22⟩ := print_take_of (P := Try.prog) (Value.int .i64) 0 31 3 .i64 Try.underlying31 hi022 hsz22 A0 c0 l0 (ji5) (of_decide_eq_true (by first | (with_reducible assumption) | assumption)) (of_decide_eq_true (by first | (with_reducible assumption) | assumption)) HC0.out
            have HR1 := Aside0.mk (Kd.C_of_reads (h1 := fun _ => rfl) (hA22 _ (Kd.reads_of_C HR0.out)))
            have HC1 := Aside0.mk hC22
            clear hA22 hC22 hi022 hsz22
            go_enter Try.func4, Try.ntmps4
            go_wp2_with (first | ((with_reducible refine gate_callee (f := 16) rfl ?_); refine goesL_ (some 22) rfl rfl Try.func16 (by kernel_rfl) rfl #[.slice A0 (l0.take ((ji5) : Int).toNat).length c0, .int .i64 a1, .int .i64 a2, .int .i64 a3] rfl (by (try simp only [List.map_toArray, List.map_cons, List.map_nil]); first | done | (rw [show (l0.take ((ji5) : Int).toNat).length = (ji5).toNat from (by rw [List.length_take]; have h_ : ((ji5) : Int) ≤ (l0.length : Int) := of_decide_eq_true (by first | (with_reducible assumption) | assumption); omega)] <;> rfl) | (simp only [hji5]; rfl) | rfl | (simp only [List.length_drop, List.length_take]; rfl)) ?_; (with_reducible refine (window_Apply.calls _ _ (l0.take ((ji5) : Int).toNat) a1 a2 a3 t2 t3 _ ?side1 ?side2 A8.out).mono ?_); (case side1 => repeat (first | exact HR1.out | (with_reducible refine Kd.C_alloc ?_ _) | (with_reducible refine Kd.C_drewN ?_ _) | (with_reducible refine Kd.C_drew ?_))); (case side2 => exact HC1.out); rintro e w23 ⟨v4, rfl, ho0, hb⟩; refine ⟨_, rfl, ?_⟩; have n0_ := Aside0.mk (Kd.R_lower ho0 (below_size (by repeat (first | (with_reducible first | exact HB.out | apply below_alloc | apply pw_below_drewN | apply below_drew1) | exact HB.out)))); have n1_ := Aside0.mk (below_step (by repeat (first | (with_reducible first | exact HB.out | apply below_alloc | apply pw_below_drewN | apply below_drew1) | exact HB.out)) hb); clear HB; have HO5 := n0_; have HB := n1_; clear n0_ n1_; (try clear hb); (try clear hb2); (try clear hk); (try clear hi); (try clear ho0)) | ((with_reducible refine gate_callee (f := 17) rfl ?_); refine goesL_ (some 29) rfl rfl Try.func17 (by kernel_rfl) rfl #[.slice A0 (l0.take ((ji5) : Int).toNat).length c0, .int .i64 a1, .int .i64 a2, .int .i64 a3] rfl (by (try simp only [List.map_toArray, List.map_cons, List.map_nil]); first | done | (rw [show (l0.take ((ji5) : Int).toNat).length = (ji5).toNat from (by rw [List.length_take]; have h_ : ((ji5) : Int) ≤ (l0.length : Int) := of_decide_eq_true (by first | (with_reducible assumption) | assumption); omega)] <;> rfl) | (simp only [hji5]; rfl) | rfl | (simp only [List.length_drop, List.length_take]; rfl)) ?_; (with_reducible refine (headroomref19_Why.calls k _ _ (l0.take ((ji5) : Int).toNat) a1 a2 a3 t6 _ ?side1 ?side2 A9.out).mono ?_); (case side1 => repeat (first | exact (Kd.C_below HR1.out HB.out) | (with_reducible refine Kd.C_alloc ?_ _) | (with_reducible refine Kd.C_drewN ?_ _) | (with_reducible refine Kd.C_drew ?_))); (case side2 => exact HC1.out); rintro e w' ⟨rfl, ⟨nd, rfl⟩⟩; refine ⟨_, rfl, ?_⟩) | ((with_reducible refine gate_callee (f := 18) rfl ?_); refine goesL_ (some 43) rfl rfl Try.func18 (by kernel_rfl) rfl #[] rfl (by (try simp only [List.map_toArray, List.map_cons, List.map_nil]); first | done | rfl | (simp only [List.length_drop, List.length_take]; rfl)) ?_; (with_reducible refine (headroomlaw19_alive.calls k  true _ A11.out).mono ?_); rintro e w24 ⟨rfl, hb⟩; refine ⟨_, rfl, ?_⟩; have n0_ := Aside0.mk (Kd.R_below (by (with_reducible repeat (first | apply Kd.R_alloc | apply Kd.R_drewN | apply Kd.R_drew)); exact HO5.out) hb); have n1_ := Aside0.mk (below_step (by repeat (first | (with_reducible first | exact HB.out | apply below_alloc | apply pw_below_drewN | apply below_drew1) | exact HB.out)) hb); clear HO5; clear HB; have HO5 := n0_; have HB := n1_; clear n0_ n1_; (try clear hb); (try clear hb2); (try clear hk); (try clear hi)))
            go_ret
            exact ⟨by first | rfl | (simp [errW_none, errW_some] <;> rfl) | (simp only [← hji5]; first | rfl | (simp [errW_none, errW_some] <;> rfl)) | (simp [*, errW_none, errW_some] <;> rfl), by repeat (first | (with_reducible first | exact HB.out | apply below_alloc | apply pw_below_drewN | apply below_drew1) | exact HB.out)⟩
        · replace c12 := Bool.eq_false_iff.mpr c12
          subst c12
          have H1 : (some false) = some r := by rw [if_neg (show ¬ (false = true) by decide)] at H; exact H
          clear H
          have H := H1
          clear H1
          obtain rfl := Option.some.inj H
          obtain ⟨i025, hi025, _, hsz25, _⟩ := info_parts info3
          obtain ⟨hcut25, hA25, hC25⟩ := print_take_of (P := Try.prog) (Value.int .i64) 0 31 3 .i64 Try.underlying31 hi025 hsz25 A0 c0 l0 (ji5) (of_decide_eq_true (by first | (with_reducible assumption) | assumption)) (of_decide_eq_true (by first | (with_reducible assumption) | assumption)) HC0.out
          have HR1 := Aside0.mk (Kd.C_of_reads (h1 := fun _ => rfl) (hA25 _ (Kd.reads_of_C HR0.out)))
          have HC1 := Aside0.mk hC25
          clear hA25 hC25 hi025 hsz25
          go_enter Try.func4, Try.ntmps4
          go_wp2_with (first | ((with_reducible refine gate_callee (f := 16) rfl ?_); refine goesL_ (some 22) rfl rfl Try.func16 (by kernel_rfl) rfl #[.slice A0 (l0.take ((ji5) : Int).toNat).length c0, .int .i64 a1, .int .i64 a2, .int .i64 a3] rfl (by (try simp only [List.map_toArray, List.map_cons, List.map_nil]); first | done | (rw [show (l0.take ((ji5) : Int).toNat).length = (ji5).toNat from (by rw [List.length_take]; have h_ : ((ji5) : Int) ≤ (l0.length : Int) := of_decide_eq_true (by first | (with_reducible assumption) | assumption); omega)] <;> rfl) | (simp only [hji5]; rfl) | rfl | (simp only [List.length_drop, List.length_take]; rfl)) ?_; (with_reducible refine (window_Apply.calls _ _ (l0.take ((ji5) : Int).toNat) a1 a2 a3 t2 t3 _ ?side1 ?side2 A8.out).mono ?_); (case side1 => repeat (first | exact HR1.out | (with_reducible refine Kd.C_alloc ?_ _) | (with_reducible refine Kd.C_drewN ?_ _) | (with_reducible refine Kd.C_drew ?_))); (case side2 => exact HC1.out); rintro e w26 ⟨v4, rfl, ho0, hb⟩; refine ⟨_, rfl, ?_⟩; have n0_ := Aside0.mk (Kd.R_lower ho0 (below_size (by repeat (first | (with_reducible first | exact HB.out | apply below_alloc | apply pw_below_drewN | apply below_drew1) | exact HB.out)))); have n1_ := Aside0.mk (below_step (by repeat (first | (with_reducible first | exact HB.out | apply below_alloc | apply pw_below_drewN | apply below_drew1) | exact HB.out)) hb); clear HB; have HO5 := n0_; have HB := n1_; clear n0_ n1_; (try clear hb); (try clear hb2); (try clear hk); (try clear hi); (try clear ho0)) | ((with_reducible refine gate_callee (f := 17) rfl ?_); refine goesL_ (some 29) rfl rfl Try.func17 (by kernel_rfl) rfl #[.slice A0 (l0.take ((ji5) : Int).toNat).length c0, .int .i64 a1, .int .i64 a2, .int .i64 a3] rfl (by (try simp only [List.map_toArray, List.map_cons, List.map_nil]); first | done | (rw [show (l0.take ((ji5) : Int).toNat).length = (ji5).toNat from (by rw [List.length_take]; have h_ : ((ji5) : Int) ≤ (l0.length : Int) := of_decide_eq_true (by first | (with_reducible assumption) | assumption); omega)] <;> rfl) | (simp only [hji5]; rfl) | rfl | (simp only [List.length_drop, List.length_take]; rfl)) ?_; (with_reducible refine (headroomref19_Why.calls k _ _ (l0.take ((ji5) : Int).toNat) a1 a2 a3 t6 _ ?side1 ?side2 A9.out).mono ?_); (case side1 => repeat (first | exact (Kd.C_below HR1.out HB.out) | (with_reducible refine Kd.C_alloc ?_ _) | (with_reducible refine Kd.C_drewN ?_ _) | (with_reducible refine Kd.C_drew ?_))); (case side2 => exact HC1.out); rintro e w' ⟨rfl, ⟨nd, rfl⟩⟩; refine ⟨_, rfl, ?_⟩) | ((with_reducible refine gate_callee (f := 18) rfl ?_); refine goesL_ (some 43) rfl rfl Try.func18 (by kernel_rfl) rfl #[] rfl (by (try simp only [List.map_toArray, List.map_cons, List.map_nil]); first | done | rfl | (simp only [List.length_drop, List.length_take]; rfl)) ?_; (with_reducible refine (headroomlaw19_alive.calls k  false _ A11.out).mono ?_); rintro e w27 ⟨rfl, hb⟩; refine ⟨_, rfl, ?_⟩; have n0_ := Aside0.mk (Kd.R_below (by (with_reducible repeat (first | apply Kd.R_alloc | apply Kd.R_drewN | apply Kd.R_drew)); exact HO5.out) hb); have n1_ := Aside0.mk (below_step (by repeat (first | (with_reducible first | exact HB.out | apply below_alloc | apply pw_below_drewN | apply below_drew1) | exact HB.out)) hb); clear HO5; clear HB; have HO5 := n0_; have HB := n1_; clear n0_ n1_; (try clear hb); (try clear hb2); (try clear hk); (try clear hi)))
          go_ret
          exact ⟨by first | rfl | (simp [errW_none, errW_some] <;> rfl) | (simp only [← hji5]; first | rfl | (simp [errW_none, errW_some] <;> rfl)) | (simp [*, errW_none, errW_some] <;> rfl), by repeat (first | (with_reducible first | exact HB.out | apply below_alloc | apply pw_below_drewN | apply below_drew1) | exact HB.out)⟩
      · rw [if_neg c10] at H
        have c10b0 : (t6 == 0) = false := beq_eq_false_iff_ne.mpr c10
        have c10b1 : (t6 != 0) = true := bne_iff_ne.mpr c10
        replace H := Option.bind_eq_some_iff.mp H
        obtain ⟨t12, A280, H⟩ := H
        replace H : (if t12 = true then (if t3 = t6 then (some ((t2.length : Int) == 0)) else (some false)) else (some false)) = some r := H
        have A28 := Aside0.mk A280
        clear A280
        by_cases c29 : t12 = true
        · subst c29
          have H1 : (if t3 = t6 then (some ((t2.length : Int) == 0)) else (some false)) = some r := by rw [if_pos rfl] at H; exact H
          clear H
          have H := H1
          clear H1
          by_cases c30 : t3 = t6
          · rw [if_pos c30] at H
            have c30b0 : (t3 == t6) = true := beq_iff_eq.mpr c30
            have c30b1 : (t3 != t6) = false := bne_eq_false_iff_eq.mpr c30
            clear c30
            obtain rfl := Option.some.inj H
            obtain ⟨i031, hi031, _, hsz31, _⟩ := info_parts info3
            obtain ⟨hcut31, hA31, hC31⟩ := print_take_of (P := Try.prog) (Value.int .i64) 0 31 3 .i64 Try.underlying31 hi031 hsz31 A0 c0 l0 (ji5) (of_decide_eq_true (by first | (with_reducible assumption) | assumption)) (of_decide_eq_true (by first | (with_reducible assumption) | assumption)) HC0.out
            have HR1 := Aside0.mk (Kd.C_of_reads (h1 := fun _ => rfl) (hA31 _ (Kd.reads_of_C HR0.out)))
            have HC1 := Aside0.mk hC31
            clear hA31 hC31 hi031 hsz31
            go_enter Try.func4, Try.ntmps4
            go_wp2_with (first | ((with_reducible refine gate_callee (f := 16) rfl ?_); refine goesL_ (some 22) rfl rfl Try.func16 (by kernel_rfl) rfl #[.slice A0 (l0.take ((ji5) : Int).toNat).length c0, .int .i64 a1, .int .i64 a2, .int .i64 a3] rfl (by (try simp only [List.map_toArray, List.map_cons, List.map_nil]); first | done | (rw [show (l0.take ((ji5) : Int).toNat).length = (ji5).toNat from (by rw [List.length_take]; have h_ : ((ji5) : Int) ≤ (l0.length : Int) := of_decide_eq_true (by first | (with_reducible assumption) | assumption); omega)] <;> rfl) | (simp only [hji5]; rfl) | rfl | (simp only [List.length_drop, List.length_take]; rfl)) ?_; (with_reducible refine (window_Apply.calls _ _ (l0.take ((ji5) : Int).toNat) a1 a2 a3 t2 t3 _ ?side1 ?side2 A8.out).mono ?_); (case side1 => repeat (first | exact HR1.out | (with_reducible refine Kd.C_alloc ?_ _) | (with_reducible refine Kd.C_drewN ?_ _) | (with_reducible refine Kd.C_drew ?_))); (case side2 => exact HC1.out); rintro e w32 ⟨v4, rfl, ho0, hb⟩; refine ⟨_, rfl, ?_⟩; have n0_ := Aside0.mk (Kd.R_lower ho0 (below_size (by repeat (first | (with_reducible first | exact HB.out | apply below_alloc | apply pw_below_drewN | apply below_drew1) | exact HB.out)))); have n1_ := Aside0.mk (below_step (by repeat (first | (with_reducible first | exact HB.out | apply below_alloc | apply pw_below_drewN | apply below_drew1) | exact HB.out)) hb); clear HB; have HO5 := n0_; have HB := n1_; clear n0_ n1_; (try clear hb); (try clear hb2); (try clear hk); (try clear hi); (try clear ho0)) | ((with_reducible refine gate_callee (f := 17) rfl ?_); refine goesL_ (some 29) rfl rfl Try.func17 (by kernel_rfl) rfl #[.slice A0 (l0.take ((ji5) : Int).toNat).length c0, .int .i64 a1, .int .i64 a2, .int .i64 a3] rfl (by (try simp only [List.map_toArray, List.map_cons, List.map_nil]); first | done | (rw [show (l0.take ((ji5) : Int).toNat).length = (ji5).toNat from (by rw [List.length_take]; have h_ : ((ji5) : Int) ≤ (l0.length : Int) := of_decide_eq_true (by first | (with_reducible assumption) | assumption); omega)] <;> rfl) | (simp only [hji5]; rfl) | rfl | (simp only [List.length_drop, List.length_take]; rfl)) ?_; (with_reducible refine (headroomref19_Why.calls k _ _ (l0.take ((ji5) : Int).toNat) a1 a2 a3 t6 _ ?side1 ?side2 A9.out).mono ?_); (case side1 => repeat (first | exact (Kd.C_below HR1.out HB.out) | (with_reducible refine Kd.C_alloc ?_ _) | (with_reducible refine Kd.C_drewN ?_ _) | (with_reducible refine Kd.C_drew ?_))); (case side2 => exact HC1.out); rintro e w' ⟨rfl, ⟨nd, rfl⟩⟩; refine ⟨_, rfl, ?_⟩) | ((with_reducible refine gate_callee (f := 18) rfl ?_); refine goesL_ (some 32) rfl rfl Try.func18 (by kernel_rfl) rfl #[] rfl (by (try simp only [List.map_toArray, List.map_cons, List.map_nil]); first | done | rfl | (simp only [List.length_drop, List.length_take]; rfl)) ?_; (with_reducible refine (headroomlaw19_alive.calls k  true _ A28.out).mono ?_); rintro e w33 ⟨rfl, hb⟩; refine ⟨_, rfl, ?_⟩; have n0_ := Aside0.mk (Kd.R_below (by (with_reducible repeat (first | apply Kd.R_alloc | apply Kd.R_drewN | apply Kd.R_drew)); exact HO5.out) hb); have n1_ := Aside0.mk (below_step (by repeat (first | (with_reducible first | exact HB.out | apply below_alloc | apply pw_below_drewN | apply below_drew1) | exact HB.out)) hb); clear HO5; clear HB; have HO5 := n0_; have HB := n1_; clear n0_ n1_; (try clear hb); (try clear hb2); (try clear hk); (try clear hi); obtain ⟨Ao34, co34, eo34⟩ := Kd.R_slice HO5.out; subst eo34))
            go_ret
            exact ⟨by first | rfl | (simp [errW_none, errW_some] <;> rfl) | (simp only [← hji5]; first | rfl | (simp [errW_none, errW_some] <;> rfl)) | (simp [*, errW_none, errW_some] <;> rfl), by repeat (first | (with_reducible first | exact HB.out | apply below_alloc | apply pw_below_drewN | apply below_drew1) | exact HB.out)⟩
          · rw [if_neg c30] at H
            have c30b0 : (t3 == t6) = false := beq_eq_false_iff_ne.mpr c30
            have c30b1 : (t3 != t6) = true := bne_iff_ne.mpr c30
            obtain rfl := Option.some.inj H
            obtain ⟨i035, hi035, _, hsz35, _⟩ := info_parts info3
            obtain ⟨hcut35, hA35, hC35⟩ := print_take_of (P := Try.prog) (Value.int .i64) 0 31 3 .i64 Try.underlying31 hi035 hsz35 A0 c0 l0 (ji5) (of_decide_eq_true (by first | (with_reducible assumption) | assumption)) (of_decide_eq_true (by first | (with_reducible assumption) | assumption)) HC0.out
            have HR1 := Aside0.mk (Kd.C_of_reads (h1 := fun _ => rfl) (hA35 _ (Kd.reads_of_C HR0.out)))
            have HC1 := Aside0.mk hC35
            clear hA35 hC35 hi035 hsz35
            go_enter Try.func4, Try.ntmps4
            go_wp2_with (first | ((with_reducible refine gate_callee (f := 16) rfl ?_); refine goesL_ (some 22) rfl rfl Try.func16 (by kernel_rfl) rfl #[.slice A0 (l0.take ((ji5) : Int).toNat).length c0, .int .i64 a1, .int .i64 a2, .int .i64 a3] rfl (by (try simp only [List.map_toArray, List.map_cons, List.map_nil]); first | done | (rw [show (l0.take ((ji5) : Int).toNat).length = (ji5).toNat from (by rw [List.length_take]; have h_ : ((ji5) : Int) ≤ (l0.length : Int) := of_decide_eq_true (by first | (with_reducible assumption) | assumption); omega)] <;> rfl) | (simp only [hji5]; rfl) | rfl | (simp only [List.length_drop, List.length_take]; rfl)) ?_; (with_reducible refine (window_Apply.calls _ _ (l0.take ((ji5) : Int).toNat) a1 a2 a3 t2 t3 _ ?side1 ?side2 A8.out).mono ?_); (case side1 => repeat (first | exact HR1.out | (with_reducible refine Kd.C_alloc ?_ _) | (with_reducible refine Kd.C_drewN ?_ _) | (with_reducible refine Kd.C_drew ?_))); (case side2 => exact HC1.out); rintro e w36 ⟨v4, rfl, ho0, hb⟩; refine ⟨_, rfl, ?_⟩; have n0_ := Aside0.mk (Kd.R_lower ho0 (below_size (by repeat (first | (with_reducible first | exact HB.out | apply below_alloc | apply pw_below_drewN | apply below_drew1) | exact HB.out)))); have n1_ := Aside0.mk (below_step (by repeat (first | (with_reducible first | exact HB.out | apply below_alloc | apply pw_below_drewN | apply below_drew1) | exact HB.out)) hb); clear HB; have HO5 := n0_; have HB := n1_; clear n0_ n1_; (try clear hb); (try clear hb2); (try clear hk); (try clear hi); (try clear ho0)) | ((with_reducible refine gate_callee (f := 17) rfl ?_); refine goesL_ (some 29) rfl rfl Try.func17 (by kernel_rfl) rfl #[.slice A0 (l0.take ((ji5) : Int).toNat).length c0, .int .i64 a1, .int .i64 a2, .int .i64 a3] rfl (by (try simp only [List.map_toArray, List.map_cons, List.map_nil]); first | done | (rw [show (l0.take ((ji5) : Int).toNat).length = (ji5).toNat from (by rw [List.length_take]; have h_ : ((ji5) : Int) ≤ (l0.length : Int) := of_decide_eq_true (by first | (with_reducible assumption) | assumption); omega)] <;> rfl) | (simp only [hji5]; rfl) | rfl | (simp only [List.length_drop, List.length_take]; rfl)) ?_; (with_reducible refine (headroomref19_Why.calls k _ _ (l0.take ((ji5) : Int).toNat) a1 a2 a3 t6 _ ?side1 ?side2 A9.out).mono ?_); (case side1 => repeat (first | exact (Kd.C_below HR1.out HB.out) | (with_reducible refine Kd.C_alloc ?_ _) | (with_reducible refine Kd.C_drewN ?_ _) | (with_reducible refine Kd.C_drew ?_))); (case side2 => exact HC1.out); rintro e w' ⟨rfl, ⟨nd, rfl⟩⟩; refine ⟨_, rfl, ?_⟩) | ((with_reducible refine gate_callee (f := 18) rfl ?_); refine goesL_ (some 32) rfl rfl Try.func18 (by kernel_rfl) rfl #[] rfl (by (try simp only [List.map_toArray, List.map_cons, List.map_nil]); first | done | rfl | (simp only [List.length_drop, List.length_take]; rfl)) ?_; (with_reducible refine (headroomlaw19_alive.calls k  true _ A28.out).mono ?_); rintro e w37 ⟨rfl, hb⟩; refine ⟨_, rfl, ?_⟩; have n0_ := Aside0.mk (Kd.R_below (by (with_reducible repeat (first | apply Kd.R_alloc | apply Kd.R_drewN | apply Kd.R_drew)); exact HO5.out) hb); have n1_ := Aside0.mk (below_step (by repeat (first | (with_reducible first | exact HB.out | apply below_alloc | apply pw_below_drewN | apply below_drew1) | exact HB.out)) hb); clear HO5; clear HB; have HO5 := n0_; have HB := n1_; clear n0_ n1_; (try clear hb); (try clear hb2); (try clear hk); (try clear hi)))
            go_ret
            exact ⟨by first | rfl | (simp [errW_none, errW_some] <;> rfl) | (simp only [← hji5]; first | rfl | (simp [errW_none, errW_some] <;> rfl)) | (simp [*, errW_none, errW_some] <;> rfl), by repeat (first | (with_reducible first | exact HB.out | apply below_alloc | apply pw_below_drewN | apply below_drew1) | exact HB.out)⟩
        · replace c29 := Bool.eq_false_iff.mpr c29
          subst c29
          have H1 : (some false) = some r := by rw [if_neg (show ¬ (false = true) by decide)] at H; exact H
          clear H
          have H := H1
          clear H1
          obtain rfl := Option.some.inj H
          obtain ⟨i038, hi038, _, hsz38, _⟩ := info_parts info3
          obtain ⟨hcut38, hA38, hC38⟩ := print_take_of (P := Try.prog) (Value.int .i64) 0 31 3 .i64 Try.underlying31 hi038 hsz38 A0 c0 l0 (ji5) (of_decide_eq_true (by first | (with_reducible assumption) | assumption)) (of_decide_eq_true (by first | (with_reducible assumption) | assumption)) HC0.out
          have HR1 := Aside0.mk (Kd.C_of_reads (h1 := fun _ => rfl) (hA38 _ (Kd.reads_of_C HR0.out)))
          have HC1 := Aside0.mk hC38
          clear hA38 hC38 hi038 hsz38
          go_enter Try.func4, Try.ntmps4
          go_wp2_with (first | ((with_reducible refine gate_callee (f := 16) rfl ?_); refine goesL_ (some 22) rfl rfl Try.func16 (by kernel_rfl) rfl #[.slice A0 (l0.take ((ji5) : Int).toNat).length c0, .int .i64 a1, .int .i64 a2, .int .i64 a3] rfl (by (try simp only [List.map_toArray, List.map_cons, List.map_nil]); first | done | (rw [show (l0.take ((ji5) : Int).toNat).length = (ji5).toNat from (by rw [List.length_take]; have h_ : ((ji5) : Int) ≤ (l0.length : Int) := of_decide_eq_true (by first | (with_reducible assumption) | assumption); omega)] <;> rfl) | (simp only [hji5]; rfl) | rfl | (simp only [List.length_drop, List.length_take]; rfl)) ?_; (with_reducible refine (window_Apply.calls _ _ (l0.take ((ji5) : Int).toNat) a1 a2 a3 t2 t3 _ ?side1 ?side2 A8.out).mono ?_); (case side1 => repeat (first | exact HR1.out | (with_reducible refine Kd.C_alloc ?_ _) | (with_reducible refine Kd.C_drewN ?_ _) | (with_reducible refine Kd.C_drew ?_))); (case side2 => exact HC1.out); rintro e w39 ⟨v4, rfl, ho0, hb⟩; refine ⟨_, rfl, ?_⟩; have n0_ := Aside0.mk (Kd.R_lower ho0 (below_size (by repeat (first | (with_reducible first | exact HB.out | apply below_alloc | apply pw_below_drewN | apply below_drew1) | exact HB.out)))); have n1_ := Aside0.mk (below_step (by repeat (first | (with_reducible first | exact HB.out | apply below_alloc | apply pw_below_drewN | apply below_drew1) | exact HB.out)) hb); clear HB; have HO5 := n0_; have HB := n1_; clear n0_ n1_; (try clear hb); (try clear hb2); (try clear hk); (try clear hi); (try clear ho0)) | ((with_reducible refine gate_callee (f := 17) rfl ?_); refine goesL_ (some 29) rfl rfl Try.func17 (by kernel_rfl) rfl #[.slice A0 (l0.take ((ji5) : Int).toNat).length c0, .int .i64 a1, .int .i64 a2, .int .i64 a3] rfl (by (try simp only [List.map_toArray, List.map_cons, List.map_nil]); first | done | (rw [show (l0.take ((ji5) : Int).toNat).length = (ji5).toNat from (by rw [List.length_take]; have h_ : ((ji5) : Int) ≤ (l0.length : Int) := of_decide_eq_true (by first | (with_reducible assumption) | assumption); omega)] <;> rfl) | (simp only [hji5]; rfl) | rfl | (simp only [List.length_drop, List.length_take]; rfl)) ?_; (with_reducible refine (headroomref19_Why.calls k _ _ (l0.take ((ji5) : Int).toNat) a1 a2 a3 t6 _ ?side1 ?side2 A9.out).mono ?_); (case side1 => repeat (first | exact (Kd.C_below HR1.out HB.out) | (with_reducible refine Kd.C_alloc ?_ _) | (with_reducible refine Kd.C_drewN ?_ _) | (with_reducible refine Kd.C_drew ?_))); (case side2 => exact HC1.out); rintro e w' ⟨rfl, ⟨nd, rfl⟩⟩; refine ⟨_, rfl, ?_⟩) | ((with_reducible refine gate_callee (f := 18) rfl ?_); refine goesL_ (some 32) rfl rfl Try.func18 (by kernel_rfl) rfl #[] rfl (by (try simp only [List.map_toArray, List.map_cons, List.map_nil]); first | done | rfl | (simp only [List.length_drop, List.length_take]; rfl)) ?_; (with_reducible refine (headroomlaw19_alive.calls k  false _ A28.out).mono ?_); rintro e w40 ⟨rfl, hb⟩; refine ⟨_, rfl, ?_⟩; have n0_ := Aside0.mk (Kd.R_below (by (with_reducible repeat (first | apply Kd.R_alloc | apply Kd.R_drewN | apply Kd.R_drew)); exact HO5.out) hb); have n1_ := Aside0.mk (below_step (by repeat (first | (with_reducible first | exact HB.out | apply below_alloc | apply pw_below_drewN | apply below_drew1) | exact HB.out)) hb); clear HO5; clear HB; have HO5 := n0_; have HB := n1_; clear n0_ n1_; (try clear hb); (try clear hb2); (try clear hk); (try clear hi)))
          go_ret
          exact ⟨by first | rfl | (simp [errW_none, errW_some] <;> rfl) | (simp only [← hji5]; first | rfl | (simp [errW_none, errW_some] <;> rfl)) | (simp [*, errW_none, errW_some] <;> rfl), by repeat (first | (with_reducible first | exact HB.out | apply below_alloc | apply pw_below_drewN | apply below_drew1) | exact HB.out)⟩
    · rw [if_neg c7] at H
      exact absurd H (by simp)
  · rw [if_neg c6] at H
    exact absurd H (by simp)

/-- THE ONE PURE STATEMENT of headroomlaw19_WindowWeighs: yours. -/
def headroomlaw19_WindowWeighs.Pure : Prop := ∀ (l0 : List Int) (a1 : Int) (a2 : Int) (a3 : Int), l0.length ≤ maxLen → l0.length * 8 ≤ 140737488351232 → (∀ x ∈ l0, (Lit.int .i64 x).wf = true) → (Lit.int .i64 a1).wf = true → (Lit.int .i64 a2).wf = true → (Lit.int .i64 a3).wf = true → ∃ k, headroomlaw19_WindowWeighs.f k l0 a1 a2 a3 = some true
theorem headroomlaw19_WindowWeighs.walk (P : headroomlaw19_WindowWeighs.Pure) (a0 : Option Addr) (len0 cap0 : Nat) (z0 : List Int) (a1 : Int) (a2 : Int) (a3 : Int) (w : World) (w0 : (a0 = none ∧ len0 = 0 ∧ cap0 = 0 ∧ z0 = []) ∨ ∃ x, a0 = some x ∧ len0 ≤ cap0 ∧ cap0 ≤ maxLen ∧ z0.length = cap0 ∧ (∀ i, i < z0.length → w.cell? (x.add i) = some (.int .i64 (z0.getD i 0))) ∧ ∀ n ∈ z0, (Lit.int .i64 n).wf = true) (y0 : len0 * 8 ≤ 140737488351232) (w1 : (Lit.int .i64 a1).wf = true) (w2 : (Lit.int .i64 a2).wf = true) (w3 : (Lit.int .i64 a3).wf = true) :
    Calls Try.prog 4 #[.slice a0 len0 cap0, .int .i64 a1, .int .i64 a2, .int .i64 a3] w fun e w' => e = .returned (.bool true) ∧ Below w.heap.size w w' := by
  obtain ⟨l0, rfl, hr0, hm0, hw0, hc0⟩ := ReadsInt.ofRowC w0
  obtain ⟨k, h⟩ := P l0 a1 a2 a3 hm0 y0 hw0 w1 w2 w3
  refine (headroomlaw19_WindowWeighs.calls k _ _ l0 a1 a2 a3 true w (Kd.C_of_reads (d := (0 : Int)) (h1 := fun _ => rfl) hr0) hc0 h).mono ?_
  rintro e w' ⟨rfl, hd⟩
  exact ⟨rfl, hd⟩

end Go.Proofs.Ytpmkkidljmedaaa.X
namespace Go.Proofs.Ytpmkkidljmedaaa.X
open Go.RowKit Go.Proofs.YtpmkkidljmedaaaW.PrintWords Go.Proofs.YtpmkkidljmedaaaW.PrintLast Go.Proofs.YtpmkkidljmedaaaW.PrintMore
set_option linter.unusedVariables false

def sameCxs : List CxN → List CxN → Bool
  | [], [] => true
  | x :: a, y :: b => (x.f0 == y.f0) && (x.f1 == y.f1) && sameCxs a b
  | _, _ => false
theorem sameCxs_eq : ∀ a b : List CxN, sameCxs a b = true → a = b
  | [], [], _ => rfl
  | x :: a, y :: b, h => by
    simp only [sameCxs, Bool.and_eq_true, beq_iff_eq] at h
    obtain ⟨⟨h0, h1⟩, h2⟩ := h
    rw [sameCxs_eq a b h2]
    cases x; cases y
    simp only at h0 h1
    rw [h0, h1]
  | [], _ :: _, h => by simp [sameCxs] at h
  | _ :: _, [], h => by simp [sameCxs] at h
def cxLe (m : Int) (x : CxN) : Bool := decide (-m ≤ x.f0) && decide (x.f0 ≤ m) && decide (-m ≤ x.f1) && decide (x.f1 ≤ m)
/-- Both tables come, are this list, as long as it should be, and no part is greater than 1. -/
def tabsOk (log bits : Int) (lit : List CxN) : Bool := match roots_Table.f log bits, headroomref07_Table.f 200 log bits with
  | some (a, e), some b => (e == 0) && sameCxs a lit && sameCxs b lit && (lit.length == 2 ^ log.toNat) && lit.all (cxLe (2 ^ bits.toNat))
  | _, _ => false
theorem tabsOk_spec {e : Nat} {bits : Int} {lit : List CxN} (h : tabsOk e bits lit = true) : roots_Table.f e bits = some (lit, 0) ∧ headroomref07_Table.f 200 e bits = some lit ∧ lit.length = 2 ^ e ∧ ∀ x ∈ lit, -(2 ^ bits.toNat) ≤ x.f0 ∧ x.f0 ≤ 2 ^ bits.toNat ∧ -(2 ^ bits.toNat) ≤ x.f1 ∧ x.f1 ≤ 2 ^ bits.toNat := by
  unfold tabsOk at h
  split at h
  · rename_i a er b h1 h2
    simp only [Bool.and_eq_true, beq_iff_eq, Int.toNat_natCast] at h
    obtain ⟨⟨⟨⟨rfl, hs⟩, hb⟩, hl⟩, ha⟩ := h
    have e1 := sameCxs_eq _ _ hs
    have e2 := sameCxs_eq _ _ hb
    subst e1
    subst e2
    refine ⟨h1, h2, hl, fun x hx => ?_⟩
    have := List.all_eq_true.1 ha x hx
    simp only [cxLe, Bool.and_eq_true, decide_eq_true_eq] at this
    omega
  · cases h
end Go.Proofs.Ytpmkkidljmedaaa.X
namespace Go.Proofs.Ytpmkkidljmedaaa.X
open Go.RowKit Go.Proofs.YtpmkkidljmedaaaW.PrintWords Go.Proofs.YtpmkkidljmedaaaW.PrintLast Go.Proofs.YtpmkkidljmedaaaW.PrintMore
/-- The roots of the lengths 4 to 64. -/
def lit13 : Nat → List CxN
  | 2 => [⟨8192, 0⟩, ⟨0, -8192⟩, ⟨-8192, 0⟩, ⟨0, 8192⟩]
  | 3 => [⟨8192, 0⟩, ⟨5793, -5793⟩, ⟨0, -8192⟩, ⟨-5793, -5793⟩, ⟨-8192, 0⟩, ⟨-5793, 5793⟩, ⟨0, 8192⟩, ⟨5793, 5793⟩]
  | 4 => [⟨8192, 0⟩, ⟨7568, -3135⟩, ⟨5793, -5793⟩, ⟨3135, -7568⟩, ⟨0, -8192⟩, ⟨-3135, -7568⟩, ⟨-5793, -5793⟩, ⟨-7568, -3135⟩,
    ⟨-8192, 0⟩, ⟨-7568, 3135⟩, ⟨-5793, 5793⟩, ⟨-3135, 7568⟩, ⟨0, 8192⟩, ⟨3135, 7568⟩, ⟨5793, 5793⟩, ⟨7568, 3135⟩]
  | 5 => [⟨8192, 0⟩, ⟨8035, -1598⟩, ⟨7568, -3135⟩, ⟨6811, -4551⟩, ⟨5793, -5793⟩, ⟨4551, -6811⟩, ⟨3135, -7568⟩, ⟨1598, -8035⟩,
    ⟨0, -8192⟩, ⟨-1598, -8035⟩, ⟨-3135, -7568⟩, ⟨-4551, -6811⟩, ⟨-5793, -5793⟩, ⟨-6811, -4551⟩, ⟨-7568, -3135⟩, ⟨-8035, -1598⟩,
    ⟨-8192, 0⟩, ⟨-8035, 1598⟩, ⟨-7568, 3135⟩, ⟨-6811, 4551⟩, ⟨-5793, 5793⟩, ⟨-4551, 6811⟩, ⟨-3135, 7568⟩, ⟨-1598, 8035⟩,
    ⟨0, 8192⟩, ⟨1598, 8035⟩, ⟨3135, 7568⟩, ⟨4551, 6811⟩, ⟨5793, 5793⟩, ⟨6811, 4551⟩, ⟨7568, 3135⟩, ⟨8035, 1598⟩]
  | 6 => [⟨8192, 0⟩, ⟨8153, -803⟩, ⟨8035, -1598⟩, ⟨7839, -2378⟩, ⟨7568, -3135⟩, ⟨7225, -3862⟩, ⟨6811, -4551⟩, ⟨6333, -5197⟩,
    ⟨5793, -5793⟩, ⟨5197, -6333⟩, ⟨4551, -6811⟩, ⟨3862, -7225⟩, ⟨3135, -7568⟩, ⟨2378, -7839⟩, ⟨1598, -8035⟩, ⟨803, -8153⟩,
    ⟨0, -8192⟩, ⟨-803, -8153⟩, ⟨-1598, -8035⟩, ⟨-2378, -7839⟩, ⟨-3135, -7568⟩, ⟨-3862, -7225⟩, ⟨-4551, -6811⟩, ⟨-5197, -6333⟩,
    ⟨-5793, -5793⟩, ⟨-6333, -5197⟩, ⟨-6811, -4551⟩, ⟨-7225, -3862⟩, ⟨-7568, -3135⟩, ⟨-7839, -2378⟩, ⟨-8035, -1598⟩, ⟨-8153, -803⟩,
    ⟨-8192, 0⟩, ⟨-8153, 803⟩, ⟨-8035, 1598⟩, ⟨-7839, 2378⟩, ⟨-7568, 3135⟩, ⟨-7225, 3862⟩, ⟨-6811, 4551⟩, ⟨-6333, 5197⟩,
    ⟨-5793, 5793⟩, ⟨-5197, 6333⟩, ⟨-4551, 6811⟩, ⟨-3862, 7225⟩, ⟨-3135, 7568⟩, ⟨-2378, 7839⟩, ⟨-1598, 8035⟩, ⟨-803, 8153⟩,
    ⟨0, 8192⟩, ⟨803, 8153⟩, ⟨1598, 8035⟩, ⟨2378, 7839⟩, ⟨3135, 7568⟩, ⟨3862, 7225⟩, ⟨4551, 6811⟩, ⟨5197, 6333⟩,
    ⟨5793, 5793⟩, ⟨6333, 5197⟩, ⟨6811, 4551⟩, ⟨7225, 3862⟩, ⟨7568, 3135⟩, ⟨7839, 2378⟩, ⟨8035, 1598⟩, ⟨8153, 803⟩]
  | _ => []
theorem tabs_2_13 : tabsOk 2 13 (lit13 2) = true := by kernel_rfl
theorem tabs_3_13 : tabsOk 3 13 (lit13 3) = true := by kernel_rfl
theorem tabs_4_13 : tabsOk 4 13 (lit13 4) = true := by kernel_rfl
theorem tabs_5_13 : tabsOk 5 13 (lit13 5) = true := by kernel_rfl
theorem tabs_6_13 : tabsOk 6 13 (lit13 6) = true := by kernel_rfl
theorem tabs_13 (e : Nat) (h0 : 2 ≤ e) (h1 : e ≤ 6) : tabsOk e 13 (lit13 e) = true := by
  obtain rfl | rfl | rfl | rfl | rfl : e = 2 ∨ e = 3 ∨ e = 4 ∨ e = 5 ∨ e = 6 := by omega
  · exact tabs_2_13
  · exact tabs_3_13
  · exact tabs_4_13
  · exact tabs_5_13
  · exact tabs_6_13
end Go.Proofs.Ytpmkkidljmedaaa.X
namespace Go.Proofs.Ytpmkkidljmedaaa.X
open Go.RowKit Go.Proofs.YtpmkkidljmedaaaW.PrintWords Go.Proofs.YtpmkkidljmedaaaW.PrintLast Go.Proofs.YtpmkkidljmedaaaW.PrintMore
/-- The roots of the lengths 4 to 64. -/
def lit29 : Nat → List CxN
  | 2 => [⟨536870912, 0⟩, ⟨0, -536870912⟩, ⟨-536870912, 0⟩, ⟨0, 536870912⟩]
  | 3 => [⟨536870912, 0⟩, ⟨379625062, -379625062⟩, ⟨0, -536870912⟩, ⟨-379625062, -379625062⟩, ⟨-536870912, 0⟩, ⟨-379625062, 379625062⟩, ⟨0, 536870912⟩, ⟨379625062, 379625062⟩]
  | 4 => [⟨536870912, 0⟩, ⟨496004047, -205451603⟩, ⟨379625062, -379625062⟩, ⟨205451603, -496004047⟩, ⟨0, -536870912⟩, ⟨-205451603, -496004047⟩, ⟨-379625062, -379625062⟩, ⟨-496004047, -205451603⟩,
    ⟨-536870912, 0⟩, ⟨-496004047, 205451603⟩, ⟨-379625062, 379625062⟩, ⟨-205451603, 496004047⟩, ⟨0, 536870912⟩, ⟨205451603, 496004047⟩, ⟨379625062, 379625062⟩, ⟨496004047, 205451603⟩]
  | 5 => [⟨536870912, 0⟩, ⟨526555088, -104738319⟩, ⟨496004047, -205451603⟩, ⟨446391849, -298269498⟩, ⟨379625062, -379625062⟩, ⟨298269498, -446391849⟩, ⟨205451603, -496004047⟩, ⟨104738319, -526555088⟩,
    ⟨0, -536870912⟩, ⟨-104738319, -526555088⟩, ⟨-205451603, -496004047⟩, ⟨-298269498, -446391849⟩, ⟨-379625062, -379625062⟩, ⟨-446391849, -298269498⟩, ⟨-496004047, -205451603⟩, ⟨-526555088, -104738319⟩,
    ⟨-536870912, 0⟩, ⟨-526555088, 104738319⟩, ⟨-496004047, 205451603⟩, ⟨-446391849, 298269498⟩, ⟨-379625062, 379625062⟩, ⟨-298269498, 446391849⟩, ⟨-205451603, 496004047⟩, ⟨-104738319, 526555088⟩,
    ⟨0, 536870912⟩, ⟨104738319, 526555088⟩, ⟨205451603, 496004047⟩, ⟨298269498, 446391849⟩, ⟨379625062, 379625062⟩, ⟨446391849, 298269498⟩, ⟨496004047, 205451603⟩, ⟨526555088, 104738319⟩]
  | 6 => [⟨536870912, 0⟩, ⟨534285732, -52622552⟩, ⟨526555088, -104738319⟩, ⟨513753431, -155845399⟩, ⟨496004047, -205451603⟩, ⟨473477874, -253079196⟩, ⟨446391849, -298269498⟩, ⟨415006827, -340587301⟩,
    ⟨379625062, -379625062⟩, ⟨340587301, -415006827⟩, ⟨298269498, -446391849⟩, ⟨253079196, -473477874⟩, ⟨205451603, -496004047⟩, ⟨155845399, -513753431⟩, ⟨104738319, -526555088⟩, ⟨52622552, -534285732⟩,
    ⟨0, -536870912⟩, ⟨-52622552, -534285732⟩, ⟨-104738319, -526555088⟩, ⟨-155845399, -513753431⟩, ⟨-205451603, -496004047⟩, ⟨-253079196, -473477874⟩, ⟨-298269498, -446391849⟩, ⟨-340587301, -415006827⟩,
    ⟨-379625062, -379625062⟩, ⟨-415006827, -340587301⟩, ⟨-446391849, -298269498⟩, ⟨-473477874, -253079196⟩, ⟨-496004047, -205451603⟩, ⟨-513753431, -155845399⟩, ⟨-526555088, -104738319⟩, ⟨-534285732, -52622552⟩,
    ⟨-536870912, 0⟩, ⟨-534285732, 52622552⟩, ⟨-526555088, 104738319⟩, ⟨-513753431, 155845399⟩, ⟨-496004047, 205451603⟩, ⟨-473477874, 253079196⟩, ⟨-446391849, 298269498⟩, ⟨-415006827, 340587301⟩,
    ⟨-379625062, 379625062⟩, ⟨-340587301, 415006827⟩, ⟨-298269498, 446391849⟩, ⟨-253079196, 473477874⟩, ⟨-205451603, 496004047⟩, ⟨-155845399, 513753431⟩, ⟨-104738319, 526555088⟩, ⟨-52622552, 534285732⟩,
    ⟨0, 536870912⟩, ⟨52622552, 534285732⟩, ⟨104738319, 526555088⟩, ⟨155845399, 513753431⟩, ⟨205451603, 496004047⟩, ⟨253079196, 473477874⟩, ⟨298269498, 446391849⟩, ⟨340587301, 415006827⟩,
    ⟨379625062, 379625062⟩, ⟨415006827, 340587301⟩, ⟨446391849, 298269498⟩, ⟨473477874, 253079196⟩, ⟨496004047, 205451603⟩, ⟨513753431, 155845399⟩, ⟨526555088, 104738319⟩, ⟨534285732, 52622552⟩]
  | _ => []
theorem tabs_2_29 : tabsOk 2 29 (lit29 2) = true := by kernel_rfl
theorem tabs_3_29 : tabsOk 3 29 (lit29 3) = true := by kernel_rfl
theorem tabs_4_29 : tabsOk 4 29 (lit29 4) = true := by kernel_rfl
theorem tabs_5_29 : tabsOk 5 29 (lit29 5) = true := by kernel_rfl
theorem tabs_6_29 : tabsOk 6 29 (lit29 6) = true := by kernel_rfl
theorem tabs_29 (e : Nat) (h0 : 2 ≤ e) (h1 : e ≤ 6) : tabsOk e 29 (lit29 e) = true := by
  obtain rfl | rfl | rfl | rfl | rfl : e = 2 ∨ e = 3 ∨ e = 4 ∨ e = 5 ∨ e = 6 := by omega
  · exact tabs_2_29
  · exact tabs_3_29
  · exact tabs_4_29
  · exact tabs_5_29
  · exact tabs_6_29
end Go.Proofs.Ytpmkkidljmedaaa.X
namespace Go.Proofs.Ytpmkkidljmedaaa.X
open Go.RowKit Go.Proofs.YtpmkkidljmedaaaW.PrintWords Go.Proofs.YtpmkkidljmedaaaW.PrintLast Go.Proofs.YtpmkkidljmedaaaW.PrintMore
set_option linter.unusedVariables false
/-- The roots that a window in bits is made of. -/
def litW (b e : Nat) : List CxN := if b = 13 then lit13 e else lit29 e
theorem tabs_W (b e : Nat) (hb : b = 13 ∨ b = 29) (h0 : 2 ≤ e) (h1 : e ≤ 6) : tabsOk e b (litW b e) = true := by
  rcases hb with rfl | rfl
  · exact tabs_13 e h0 h1
  · exact tabs_29 e h0 h1
def winOk (k b e : Nat) : Bool := match weightsTo k (2 ^ b) (litW b e) (2 ^ e), headroomref19_Table.l0 200 k b [] (litW b e) ((2 ^ e : Nat) : Int) 0 with
  | some a, some c => (a == c) && (a.length == 2 ^ e) && a.all (fun x => decide (0 ≤ x) && decide (x ≤ 2 ^ b)) && (k != 0 || a.all (fun x => x == 2 ^ b))
  | _, _ => false
def winAll (b : Nat) : Bool := (List.range 4).all fun k => (List.range 5).all fun e => winOk k b (e + 2)
theorem winAll_13 : winAll 13 = true := by kernel_rfl
theorem winAll_29 : winAll 29 = true := by kernel_rfl
theorem win_spec (k b e : Nat) (hk : k ≤ 3) (hb : b = 13 ∨ b = 29) (h0 : 2 ≤ e) (h1 : e ≤ 6) : ∃ a : List Int, weightsTo k (2 ^ b) (litW b e) (2 ^ e) = some a ∧ headroomref19_Table.l0 200 k b [] (litW b e) ((2 ^ e : Nat) : Int) 0 = some a ∧ a.length = 2 ^ e ∧ (∀ x ∈ a, 0 ≤ x ∧ x ≤ 2 ^ b) ∧ (k = 0 → ∀ x ∈ a, x = 2 ^ b) := by
  have h : winOk k b e = true := by
    have ha : winAll b = true := by
      rcases hb with rfl | rfl
      · exact winAll_13
      · exact winAll_29
    have h2 := List.all_eq_true.1 (List.all_eq_true.1 ha k (List.mem_range.2 (by omega))) (e - 2) (List.mem_range.2 (by omega))
    rwa [show e - 2 + 2 = e by omega] at h2
  unfold winOk at h
  split at h
  · rename_i a c h2 h3
    simp only [Bool.and_eq_true, Bool.or_eq_true, beq_iff_eq, bne_iff_ne, List.all_eq_true, decide_eq_true_eq] at h
    obtain ⟨⟨⟨rfl, hl⟩, hb⟩, hz⟩ := h
    exact ⟨a, h2, h3, hl, hb, fun hk x hx => (hz.resolve_left (fun h => h hk)) x hx⟩
  · cases h
/-- In no bits, too, there are windows. -/
def winNone (e : Nat) : Bool := match roots_Table.f e 0 with
  | some (t, er) => (er == 0) && decide (t.length ≤ 64) && (List.range 4).all fun k => (weightsTo k 1 t t.length).isSome
  | none => false
theorem winNone_2 : winNone 2 = true := by kernel_rfl
theorem winNone_3 : winNone 3 = true := by kernel_rfl
theorem winNone_4 : winNone 4 = true := by kernel_rfl
theorem winNone_5 : winNone 5 = true := by kernel_rfl
theorem winNone_6 : winNone 6 = true := by kernel_rfl
theorem none_spec (kind : Int) (e : Nat) (h0 : 2 ≤ e) (h1 : e ≤ 6) : ∃ r, window_Table.f kind e 0 = some r := by
  have h : winNone e = true := by
    obtain rfl | rfl | rfl | rfl | rfl : e = 2 ∨ e = 3 ∨ e = 4 ∨ e = 5 ∨ e = 6 := by omega
    · exact winNone_2
    · exact winNone_3
    · exact winNone_4
    · exact winNone_5
    · exact winNone_6
  unfold winNone at h
  split at h
  · rename_i t er ht
    simp only [Bool.and_eq_true, beq_iff_eq, decide_eq_true_eq, List.all_eq_true, List.mem_range] at h
    obtain ⟨⟨rfl, hl⟩, hk⟩ := h
    unfold window_Table.f
    rw [ht, Option.bind_some]
    by_cases c : 0 ≤ kind ∧ kind ≤ 3
    · have h3 := hk kind.toNat (by omega)
      rw [Int.toNat_of_nonneg c.1] at h3
      obtain ⟨r, hr⟩ := Option.isSome_iff_exists.1 h3
      rw [if_pos ⟨c.1, c.2, rfl⟩, if_pos ⟨hl, by omega, by omega⟩]
      exact ⟨(r, 0), by show Option.map _ (weightsTo kind 1 t t.length) = _; rw [hr]; rfl⟩
    · rw [if_neg (by omega)]
      exact ⟨_, rfl⟩
  · cases h
end Go.Proofs.Ytpmkkidljmedaaa.X
namespace Go.Proofs.Ytpmkkidljmedaaa.X
open Go.RowKit Go.Proofs.YtpmkkidljmedaaaW.PrintWords Go.Proofs.YtpmkkidljmedaaaW.PrintLast Go.Proofs.YtpmkkidljmedaaaW.PrintMore
attribute [local go_sem] max2_int min2_int max_two min_two max_three min_three max_four min_four   -- for this text's walks alone
set_option linter.unusedVariables false
set_option linter.unusedSimpArgs false

theorem eqA41 (d : Nat) (w : World) (x0 y0 : Int) (x1 y1 : Int) :
    (Op.equalIn (d + 2) 41 (.agg #[.int .i64 x0, .int .i64 x1]) (.agg #[.int .i64 y0, .int .i64 y1])).run Try.prog w = .ok (x0 == y0 && (x1 == y1)) w := by
  refine eqA_of Try.underlying41 (by kernel_rfl) ?_
  refine eqf_cons (by rfl) (by go_simp; rfl) (by go_simp; rfl) (by go_simp) ?_
  exact eqf_last (by rfl) (by go_simp; rfl) (by go_simp; rfl) (by go_simp)
end Go.Proofs.Ytpmkkidljmedaaa.X
namespace Go.Proofs.Ytpmkkidljmedaaa.X
open Go.RowKit Go.Proofs.YtpmkkidljmedaaaW.PrintWords Go.Proofs.YtpmkkidljmedaaaW.PrintLast Go.Proofs.YtpmkkidljmedaaaW.PrintMore
attribute [local go_sem] max2_int min2_int max_two min_two max_three min_three max_four min_four   -- for this text's walks alone
set_option linter.unusedVariables false
set_option linter.unusedSimpArgs false

attribute [local go_sem high] eqA41
/-! ### headroomref03_Same: function 14 -/
def headroomref03_Same.l0 : Nat → List (S41) → List (S41) → Int → Int → Option (Bool)
  | 0, _, _, _, _ => none
  | k + 1, x0, x1, x12, x13 => if x13 < x12 then (if 0 ≤ x13 then (if x13 < (x0.length : Int) then (if x13 < (x1.length : Int) then (if (!(((rd_T41 x0 x13).f0) == ((rd_T41 x1 x13).f0)) || (!(((rd_T41 x0 x13).f1) == ((rd_T41 x1 x13).f1)))) = true then (some false) else (headroomref03_Same.l0 k x0 x1 x12 (wrap64 (x13 + 1)))) else (none)) else (none)) else (none)) else (some true)
def headroomref03_Same.f (k : Nat) (l0 : List (S41)) (l1 : List (S41)) : Option (Bool) := if (l0.length : Int) = (l1.length : Int) then (headroomref03_Same.l0 k l0 l1 (l0.length : Int) 0) else (some false)
theorem headroomref03_Same.mono_l : ∀ k, (∀ y0 y1 y2 y3, LeO (headroomref03_Same.l0 k y0 y1 y2 y3) (headroomref03_Same.l0 (k + 1) y0 y1 y2 y3))
  | 0 => fun _ _ _ _ r h => by simp [headroomref03_Same.l0] at h
  | k + 1 => by
    have ih0 := headroomref03_Same.mono_l k
    · intro y0 y1 y2 y3
      unfold headroomref03_Same.l0
      repeat' first
      | (with_reducible exact ih0 _ _ _ _)
      | (with_reducible exact LeO.refl _)
      | (with_reducible exact LeO.none _)
      | (with_reducible refine LeO.ite ?_ ?_)
      | (with_reducible refine LeO.bind ?_ (fun _ => ?_))
      | exact ih0 _ _ _ _
      | exact LeO.none _
      | refine LeO.ite ?_ ?_
      | refine LeO.bind ?_ (fun _ => ?_)
theorem headroomref03_Same.mono : ∀ a0 a1 k, LeO (headroomref03_Same.f k a0 a1) (headroomref03_Same.f (k + 1) a0 a1) := by
  intro a0 a1 k
  have ih0 := headroomref03_Same.mono_l k
  unfold headroomref03_Same.f
  repeat' first
      | (with_reducible exact ih0 _ _ _ _)
      | (with_reducible exact LeO.refl _)
      | (with_reducible exact LeO.none _)
      | (with_reducible refine LeO.ite ?_ ?_)
      | (with_reducible refine LeO.bind ?_ (fun _ => ?_))
      | exact ih0 _ _ _ _
      | exact LeO.none _
      | refine LeO.ite ?_ ?_
      | refine LeO.bind ?_ (fun _ => ?_)
set_option maxHeartbeats 8000000 in
set_option maxRecDepth 100000 in
theorem headroomref03_Same.calls (k : Nat) (A0 : Option Addr) (c0 : Nat) (l0 : List (S41)) (A1 : Option Addr) (c1 : Nat) (l1 : List (S41)) (r : Bool) (w : World) (hr0 : Kd.C k41 w A0 l0.length l0) (hc0 : l0.length ≤ c0) (hr1 : Kd.C k41 w A1 l1.length l1) (hc1 : l1.length ≤ c1) (h : headroomref03_Same.f k l0 l1 = some r) :
    Calls Try.prog 14 #[.slice A0 l0.length c0, .slice A1 l1.length c1] w fun e w' => e = .returned (.bool r) ∧ Drawn0 w w' := by
  have hu41 := Try.underlying41
  have HR0 := Aside0.mk hr0
  have HC0 := Aside0.mk hc0
  clear hr0 hc0
  have HR1 := Aside0.mk hr1
  have HC1 := Aside0.mk hc1
  clear hr1 hc1
  have H : (if (l0.length : Int) = (l1.length : Int) then (headroomref03_Same.l0 k l0 l1 (l0.length : Int) 0) else (some false)) = some r := h
  clear h
  by_cases c3 : (l0.length : Int) = (l1.length : Int)
  · rw [if_pos c3] at H
    have c3b0 : ((l0.length : Int) == (l1.length : Int)) = true := beq_iff_eq.mpr c3
    have c3b1 : ((l0.length : Int) != (l1.length : Int)) = false := bne_eq_false_iff_eq.mpr c3
    have c3b2 : (l0.length == l1.length) = true := by first | simpa using c3 | (simp at c3 ⊢; omega)
    clear c3
    have H' := Aside0.mk H
    clear H
    go_enter Try.func14, Try.ntmps14
    go_wp2
    repeat (go_quiet (fail); try go_wp2)
    go_loopg [13] k (fun kq v13 w' => ∃ (x13_1 : Int), v13 = .int .i64 x13_1 ∧ Aside0 (headroomref03_Same.l0 kq l0 l1 (l0.length : Int) x13_1 = some r) ∧ Aside0 (kq ≤ k) ∧ Drawn0 w w')
    case atStart => exact ⟨(0), (by first | rfl | (simp; done) | (simp [*]; done)), H', ⟨Nat.le_refl _⟩, by repeat (first | exact Drawn0.refl _ | apply Drawn0.step)⟩
    case round =>
      clear H'
      try clear c1
      try clear p2
      try clear c3
      try clear c3b0
      try clear c3b1
      try clear c3b2
      obtain ⟨x13_1, rfl, HA, HK1, ⟨m1, rfl⟩⟩ := hrel
      cases gk with
      | zero => exact absurd HA.out (by simp [headroomref03_Same.l0])
      | succ k1 =>
        have H := HA.out
        clear HA
        simp only [headroomref03_Same.l0] at H
        by_cases c4 : x13_1 < (l0.length : Int)
        · rw [if_pos c4] at H
          have c4b0 : decide (x13_1 < (l0.length : Int)) = true := decide_eq_true c4
          clear c4
          by_cases c5 : 0 ≤ x13_1
          · rw [if_pos c5] at H
            have c5b0 : decide (0 ≤ x13_1) = true := decide_eq_true c5
            clear c5
            by_cases c6 : x13_1 < (l0.length : Int)
            · rw [if_pos c6] at H
              have c6b0 : decide (x13_1 < (l0.length : Int)) = true := decide_eq_true c6
              clear c6
              by_cases c7 : x13_1 < (l1.length : Int)
              · rw [if_pos c7] at H
                have c7b0 : decide (x13_1 < (l1.length : Int)) = true := decide_eq_true c7
                clear c7
                by_cases c8 : (!(((rd_T41 l0 x13_1).f0) == ((rd_T41 l1 x13_1).f0)) || (!(((rd_T41 l0 x13_1).f1) == ((rd_T41 l1 x13_1).f1)))) = true
                · rw [if_pos c8] at H
                  have c8b0 : (!(((rd_T41 l0 x13_1).f0) == ((rd_T41 l1 x13_1).f0)) || (!(((rd_T41 l0 x13_1).f1) == ((rd_T41 l1 x13_1).f1)))) = true := c8
                  clear c8
                  obtain rfl := Option.some.inj H
                  have p1 : 0 ≤ (x13_1 : Int) := of_decide_eq_true (by first | (with_reducible assumption) | assumption)
                  have q1 : x13_1 < (l0.length : Int) := of_decide_eq_true (by first | (with_reducible assumption) | assumption)
                  obtain ⟨ad1, e1, hx1_0, hx1_1⟩ := at_T41 HR0.out x13_1 p1 q1
                  cases e1
                  replace p1 := eq_true p1
                  replace q1 := eq_true q1
                  have p2 : 0 ≤ (x13_1 : Int) := of_decide_eq_true (by first | (with_reducible assumption) | assumption)
                  have q2 : x13_1 < (l1.length : Int) := of_decide_eq_true (by first | (with_reducible assumption) | assumption)
                  obtain ⟨ad2, e2, hx2_0, hx2_1⟩ := at_T41 HR1.out x13_1 p2 q2
                  cases e2
                  replace p2 := eq_true p2
                  replace q2 := eq_true q2
                  go_wp2
                  repeat (go_quiet (fail); try go_wp2)
                  go_ret
                  exact ⟨by first | rfl | (simp; done) | (simp [*]; done), by repeat (first | exact Drawn0.refl _ | apply Drawn0.step)⟩
                · rw [if_neg c8] at H
                  have c8b0 : (!(((rd_T41 l0 x13_1).f0) == ((rd_T41 l1 x13_1).f0)) || (!(((rd_T41 l0 x13_1).f1) == ((rd_T41 l1 x13_1).f1)))) = false := by simpa using c8
                  clear c8
                  have H' := Aside0.mk H
                  clear H
                  have p1 : 0 ≤ (x13_1 : Int) := of_decide_eq_true (by first | (with_reducible assumption) | assumption)
                  have q1 : x13_1 < (l0.length : Int) := of_decide_eq_true (by first | (with_reducible assumption) | assumption)
                  obtain ⟨ad1, e1, hx1_0, hx1_1⟩ := at_T41 HR0.out x13_1 p1 q1
                  cases e1
                  replace p1 := eq_true p1
                  replace q1 := eq_true q1
                  have p2 : 0 ≤ (x13_1 : Int) := of_decide_eq_true (by first | (with_reducible assumption) | assumption)
                  have q2 : x13_1 < (l1.length : Int) := of_decide_eq_true (by first | (with_reducible assumption) | assumption)
                  obtain ⟨ad2, e2, hx2_0, hx2_1⟩ := at_T41 HR1.out x13_1 p2 q2
                  cases e2
                  replace p2 := eq_true p2
                  replace q2 := eq_true q2
                  go_wp2
                  repeat (go_quiet (fail); try go_wp2)
                  go_roundg k1
                  case measure => have := HK1.out; omega
                  case rel => exact ⟨(wrap64 (x13_1 + 1)), (by first | rfl | (simp; done) | (simp [*]; done)), H', ⟨by have := HK1.out; omega⟩, by repeat (first | exact Drawn0.refl _ | apply Drawn0.step)⟩
              · rw [if_neg c7] at H
                exact absurd H (by simp)
            · rw [if_neg c6] at H
              exact absurd H (by simp)
          · rw [if_neg c5] at H
            exact absurd H (by simp)
        · rw [if_neg c4] at H
          have c4b0 : decide (x13_1 < (l0.length : Int)) = false := decide_eq_false c4
          clear c4
          obtain rfl := Option.some.inj H
          go_wp2
          repeat (go_quiet (fail); try go_wp2)
          go_ret
          exact ⟨by first | rfl | (simp; done) | (simp [*]; done), by repeat (first | exact Drawn0.refl _ | apply Drawn0.step)⟩
  · rw [if_neg c3] at H
    have c3b0 : ((l0.length : Int) == (l1.length : Int)) = false := beq_eq_false_iff_ne.mpr c3
    have c3b1 : ((l0.length : Int) != (l1.length : Int)) = true := bne_iff_ne.mpr c3
    have c3b2 : (l0.length == l1.length) = false := by first | simpa using c3 | (simp at c3 ⊢; omega)
    obtain rfl := Option.some.inj H
    go_enter Try.func14, Try.ntmps14
    go_wp2
    repeat (go_quiet (fail); try go_wp2)
    go_ret
    exact ⟨by first | rfl | (simp; done) | (simp [*]; done), by repeat (first | exact Drawn0.refl _ | apply Drawn0.step)⟩

end Go.Proofs.Ytpmkkidljmedaaa.X
namespace Go.Proofs.Ytpmkkidljmedaaa.X
open Go.RowKit Go.Proofs.YtpmkkidljmedaaaW.PrintWords Go.Proofs.YtpmkkidljmedaaaW.PrintLast Go.Proofs.YtpmkkidljmedaaaW.PrintMore
set_option linter.unusedVariables false

theorem pow_loop (n : Nat) (hn : n ≤ 62) : ∀ (d i k : Nat), n - i = d → i ≤ n → d < k → headroomref01_Pow.l0 k n (2 ^ i) i = some (2 ^ n) := by
  intro d
  induction d with
  | zero =>
    intro i k hd hi hk
    obtain rfl : i = n := by omega
    cases k with
    | zero => omega
    | succ k => simp [headroomref01_Pow.l0]
  | succ d ih =>
    intro i k hd hi hk
    cases k with
    | zero => omega
    | succ k =>
      have h1 := HM.pow_lt62 (i := i + 1) (by omega)
      have h2 := HM.pow_pos (i + 1)
      have e : (2 : Int) * 2 ^ i = 2 ^ (i + 1) := by rw [Int.pow_succ, Int.mul_comm]
      have e2 : ((i : Int) + 1) = ((i + 1 : Nat) : Int) := by norm_cast
      rw [headroomref01_Pow.l0, if_pos (by omega), e, HM.wrap64_id _ (by omega) (by omega), HM.wrap64_id _ (by omega) (by omega), e2]
      exact ih (i + 1) k (by omega) (by omega) (by omega)
theorem ref_pow (n k : Nat) (hn : n ≤ 62) (hk : n < k) : headroomref01_Pow.f k n = some (2 ^ n) := by
  have := pow_loop n hn n 0 k (by omega) (by omega) (by omega)
  simpa [headroomref01_Pow.f] using this
theorem ref_pow' (x : Int) (k : Nat) (h0 : 0 ≤ x) (h1 : x ≤ 62) (hk : x < k) : headroomref01_Pow.f k x = some (2 ^ x.toNat) := by
  have := ref_pow x.toNat k (by omega) (by omega)
  rwa [Int.toNat_of_nonneg h0] at this

/-- Is it one of 64 bits? -/
def In64 (x : Int) : Prop := -9223372036854775808 ≤ x ∧ x < 9223372036854775808
theorem ref_half (x : Int) (h : In64 x) : headroomref01_half.f x = some (x / 2) := by
  unfold headroomref01_half.f
  obtain ⟨h0, h1⟩ := h
  have ht : Int.tmod x 2 = x % 2 ∨ (Int.tmod x 2 = x % 2 - 2 ∧ x < 0 ∧ x % 2 = 1) := by
    rcases Int.le_total 0 x with h | h
    · exact .inl (Int.tmod_eq_emod_of_nonneg h)
    · have e := Int.tmod_eq_emod (a := x) (b := 2)
      split at e <;> omega
  have hd : (Int.tdiv x 2 = x / 2 ∧ (0 ≤ x ∨ x % 2 = 0)) ∨ (Int.tdiv x 2 = x / 2 + 1 ∧ x < 0 ∧ x % 2 = 1) := by
    rcases Int.le_total 0 x with h | h
    · exact .inl ⟨Int.tdiv_eq_ediv_of_nonneg h, .inl h⟩
    · have e := Int.tdiv_eq_ediv (a := x) (b := 2)
      have s2 : Int.sign 2 = 1 := by decide
      split at e <;> omega
  revert ht hd
  generalize Int.tmod x 2 = r
  generalize Int.tdiv x 2 = q
  intro ht hd
  by_cases c : r = 0
  · have : q = x / 2 := by omega
    rw [if_pos c, this, HM.wrap64_id _ (by omega) (by omega)]
  · rw [if_neg c]
    by_cases c1 : x > 0
    · have : q = x / 2 := by omega
      rw [if_pos c1, this, HM.wrap64_id _ (by omega) (by omega)]
    · have : q = x / 2 + 1 := by omega
      rw [if_neg c1, this, HM.wrap64_id (x / 2 + 1) (by omega) (by omega), show x / 2 + 1 - 1 = x / 2 by omega, HM.wrap64_id _ (by omega) (by omega)]
theorem In64.half {x : Int} (h : In64 x) : In64 (x / 2) := by unfold In64 at *; omega
theorem floor_loop (n : Nat) (hn : n ≤ 1000) : ∀ (d i k : Nat) (x : Int), In64 x → n - i = d → i ≤ n → d < k → headroomref01_Floor.l0 k x n i = some (x / 2 ^ d) := by
  intro d
  induction d with
  | zero =>
    intro i k x hx hd hi hk
    obtain rfl : i = n := by omega
    cases k with
    | zero => omega
    | succ k => simp [headroomref01_Floor.l0]
  | succ d ih =>
    intro i k x hx hd hi hk
    cases k with
    | zero => omega
    | succ k =>
      have e2 : ((i : Int) + 1) = ((i + 1 : Nat) : Int) := by norm_cast
      rw [headroomref01_Floor.l0, if_pos (by omega), ref_half x hx, Option.bind_some, HM.wrap64_id _ (by omega) (by omega), e2, ih (i + 1) k _ hx.half (by omega) (by omega) (by omega)]
      congr 1
      rw [Int.ediv_ediv_of_nonneg (by omega), Int.pow_succ, Int.mul_comm]
theorem ref_floor (x : Int) (n k : Nat) (hx : In64 x) (hn : n ≤ 1000) (hk : n < k) : headroomref01_Floor.f k x n = some (x / 2 ^ n) := by
  have := floor_loop n hn n 0 k x hx (by omega) (by omega) (by omega)
  simpa [headroomref01_Floor.f] using this
theorem ref_floor' (x s : Int) (k : Nat) (hx : In64 x) (h0 : 0 ≤ s) (hn : s ≤ 1000) (hk : s < k) : headroomref01_Floor.f k x s = some (x / 2 ^ s.toNat) := by
  have := ref_floor x s.toNat k hx (by omega) (by omega)
  rwa [Int.toNat_of_nonneg h0] at this

/-- A list's element is as Lean's own. -/
theorem rd_cx (l : List S41) (i : Nat) (h : i < l.length) : rd_T41 l i = l[i] := by
  simp [rd_T41, List.getD, h]
/-- The same list is the same. -/
theorem same_loop (l : List S41) (hl : l.length ≤ 9223372036854775807) : ∀ (d i k : Nat), l.length - i = d → i ≤ l.length → d < k → headroomref03_Same.l0 k l l l.length i = some true := by
  intro d
  induction d with
  | zero =>
    intro i k hd hi hk
    cases k with
    | zero => omega
    | succ k => rw [headroomref03_Same.l0, if_neg (by omega)]
  | succ d ih =>
    intro i k hd hi hk
    cases k with
    | zero => omega
    | succ k =>
      have e2 : ((i : Int) + 1) = ((i + 1 : Nat) : Int) := by norm_cast
      rw [headroomref03_Same.l0, if_pos (by omega), if_pos (by omega), if_pos (by omega), if_pos (by omega), if_neg (by simp), HM.wrap64_id _ (by omega) (by omega), e2]
      exact ih (i + 1) k (by omega) (by omega) (by omega)
theorem ref_same (l : List S41) (k : Nat) (hl : l.length ≤ 9223372036854775807) (hk : l.length < k) : headroomref03_Same.f k l l = some true := by
  unfold headroomref03_Same.f
  rw [if_pos rfl]
  exact same_loop l hl l.length 0 k (by omega) (by omega) (by omega)

/-- The document's rounding and the program's are the same. -/
theorem ref_shift (x s m : Int) (k : Nat) (hx : In64 x) (h0 : 0 ≤ s) (h1 : s ≤ 62) (hm0 : 0 ≤ m) (hm1 : m ≤ 2) (hk : 64 < k) :
    headroomref01_Shift.f k x s m = (round_Shift.f x s m).bind fun r => some r.1 := by
  unfold headroomref01_Shift.f round_Shift.f
  rw [ref_floor' x s k hx h0 (by omega) (by omega), Option.bind_some]
  rw [if_neg (show ¬s < 0 by omega), if_neg (show ¬s > 62 by omega), if_neg (show ¬m < 0 by omega), if_neg (show ¬m ≥ 3 by omega)]
  obtain ⟨k, rfl⟩ : ∃ j, k = j + 1 := ⟨k - 1, by omega⟩
  by_cases c : s = 0
  · subst c
    simp [headroomref01_Shift.j0]
  · rw [if_neg c, if_neg c]
    by_cases cm : m = 0
    · subst cm
      simp [headroomref01_Shift.j0, upB]
    · have hb : (m == 0) = false := by simp [cm]
      rw [hb, headroomref01_Shift.j0, if_neg (by simp), ref_pow' s k h0 h1 (by omega)]
      rw [HM.wrap64_id (s - 1) (by omega) (by omega), Option.bind_some, ref_pow' (s - 1) k (by omega) (by omega) (by omega), Option.bind_some]
      have hp := HM.pow_pos s.toNat
      have hl := HM.pow_lt62 (i := s.toNat) (by omega)
      have hdm := Int.mul_ediv_add_emod x (2 ^ s.toNat)
      have hr0 := Int.emod_nonneg x (show (2 : Int) ^ s.toNat ≠ 0 by omega)
      have hr1 := Int.emod_lt_of_pos x hp
      have e1 : (s - 1).toNat = s.toNat - 1 := by omega
      have hq : In64 (x / 2 ^ s.toNat * 2 ^ s.toNat) := by
        unfold In64 at *
        have e63 : -(2 ^ (63 - s.toNat) : Int) * 2 ^ s.toNat = -9223372036854775808 := by
          rw [Int.neg_mul, ← Int.pow_add, show 63 - s.toNat + s.toNat = 63 by omega]
          decide
        have h1 : -(2 ^ (63 - s.toNat) : Int) ≤ x / 2 ^ s.toNat := Int.le_ediv_of_mul_le hp (by rw [e63]; exact hx.1)
        have h2 := Int.mul_le_mul_of_nonneg_right h1 (Int.le_of_lt hp)
        rw [e63] at h2
        refine ⟨h2, ?_⟩
        rw [Int.mul_comm]
        omega
      have hsub : x - x / 2 ^ s.toNat * 2 ^ s.toNat = x % 2 ^ s.toNat := by
        rw [Int.mul_comm]
        omega
      unfold In64 at hq hx
      rw [HM.wrap64_id _ hq.1 hq.2, hsub, HM.wrap64_id (x % 2 ^ s.toNat) (by omega) (by omega), e1]
      have ho : (Int.tmod (x / 2 ^ s.toNat) 2 != 0) = (x / 2 ^ s.toNat % 2 == 1) := by
        generalize x / 2 ^ s.toNat = q
        have e := Int.tmod_eq_emod (a := q) (b := 2)
        have s2 : Int.sign 2 = 1 := by decide
        rcases Int.emod_two_eq q with h | h
        · rw [h, e]
          have h' : ¬q % 2 = 1 := by omega
          split
          · simp [h]
          · rename_i hn
            exact absurd (.inr (Int.dvd_of_emod_eq_zero h)) hn
        · rw [h, e]
          split
          · simp [h]
          · simp [h]
      unfold upB
      rw [if_neg cm]
      by_cases cg : x % 2 ^ s.toNat > 2 ^ (s.toNat - 1)
      · rw [if_pos cg]
        by_cases c1 : m = 1
        · rw [if_pos c1, if_pos (decide_eq_true (by omega))]
          rfl
        · rw [if_neg c1, decide_eq_true (show 2 ^ (s.toNat - 1) < x % 2 ^ s.toNat by omega)]
          simp
      · rw [if_neg cg]
        by_cases ce : x % 2 ^ s.toNat = 2 ^ (s.toNat - 1)
        · rw [if_pos ce]
          by_cases c1 : m = 1
          · rw [if_pos c1, if_pos c1, if_pos (decide_eq_true (by omega))]
            rfl
          · rw [if_neg c1, if_neg c1]
            unfold headroomref01_odd.f
            rw [Option.bind_some, ho]
            by_cases hx1 : x / 2 ^ s.toNat % 2 = 1 <;> simp [ce, hx1]
        · rw [if_neg ce]
          by_cases c1 : m = 1
          · rw [if_pos c1, decide_eq_false (by omega)]
            simp
          · rw [if_neg c1, decide_eq_false (by omega), decide_eq_false ce]
            simp
end Go.Proofs.Ytpmkkidljmedaaa.X
