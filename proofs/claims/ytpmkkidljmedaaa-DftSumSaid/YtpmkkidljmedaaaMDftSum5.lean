/- Part 5 of 5 of the proof of the given statement DftSum: the last functions, the plain law, and the statement. No conditions but those in the statements. -/
import Derived.Test.YtpmkkidljmedaaaMDftSum4
import Derived.KernelRfl
import Derived.Test.YtpmkkidljmedaaaRows
import Derived.WalkKit
import Derived.ProofKit
import Derived.OpenShut
import Derived.ShutString
import Derived.ChangeOld
import Derived.Below
import Derived.SizedLaws
import Derived.Test.YtpmkkidljmedaaaVDftSum
namespace Go.Proofs.Ytpmkkidljmedaaa.X
open Go.RowKit Go.Proofs.YtpmkkidljmedaaaW.PrintWords Go.Proofs.YtpmkkidljmedaaaW.PrintLast Go.Proofs.YtpmkkidljmedaaaW.PrintMore
attribute [local go_sem] max2_int min2_int max_two min_two max_three min_three max_four min_four   -- for this text's walks alone
set_option linter.unusedVariables false
set_option linter.unusedSimpArgs false

/-! ### headroomlaw16_DftAll: function 3 -/
def headroomlaw16_DftAll.f (k : Nat) (l0 : List (S41)) (a1 : Bool) : Option (Bool) := if 0 ≤ (mn (l0.length : Int) 70) then (if (mn (l0.length : Int) 70) ≤ (l0.length : Int) then ((some (l0.take ((mn (l0.length : Int) 70) : Int).toNat : List (S41))).bind fun y1 => ((dft_All.f k y1 a1).bind fun bt5 => ((headroomref16_May.f k y1).bind fun t9 => (if t9 = 0 then ((headroomlaw16_alive.f k).bind fun t10 => (if t10 = true then (if bt5.2 = 0 then ((headroomref16_All.f k y1 a1).bind fun t11 => ((headroomref03_Same.f k bt5.1 t11).bind fun t14 => (some t14))) else (some false)) else (some false))) else ((headroomlaw16_alive.f k).bind fun t15 => (if t15 = true then (if bt5.2 = t9 then (some ((bt5.1.length : Int) == 0)) else (some false)) else (some false))))))) else (none)) else (none)
theorem headroomlaw16_DftAll.mono : ∀ a0 a1 k, LeO (headroomlaw16_DftAll.f k a0 a1) (headroomlaw16_DftAll.f (k + 1) a0 a1) := by
  intro a0 a1 k
  unfold headroomlaw16_DftAll.f
  repeat' first
      | (with_reducible exact dft_All.mono _ _ _)
      | (with_reducible exact headroomlaw16_alive.mono _)
      | (with_reducible exact headroomref03_Same.mono _ _ _)
      | (with_reducible exact headroomref16_All.mono _ _ _)
      | (with_reducible exact headroomref16_May.mono _ _)
      | (with_reducible exact LeO.refl _)
      | (with_reducible exact LeO.none _)
      | (with_reducible refine LeO.ite ?_ ?_)
      | (with_reducible refine LeO.bind ?_ (fun _ => ?_))
      | exact dft_All.mono _ _ _
      | exact headroomlaw16_alive.mono _
      | exact headroomref03_Same.mono _ _ _
      | exact headroomref16_All.mono _ _ _
      | exact headroomref16_May.mono _ _
      | exact LeO.none _
      | refine LeO.ite ?_ ?_
      | refine LeO.bind ?_ (fun _ => ?_)
set_option maxHeartbeats 8000000 in
set_option maxRecDepth 100000 in
theorem headroomlaw16_DftAll.calls (k : Nat) (A0 : Option Addr) (c0 : Nat) (l0 : List (S41)) (a1 : Bool) (r : Bool) (w : World) (hr0 : Kd.C k41 w A0 l0.length l0) (hc0 : l0.length ≤ c0) (h : headroomlaw16_DftAll.f k l0 a1 = some r) :
    Calls Try.prog 3 #[.slice A0 l0.length c0, .bool a1] w fun e w' => e = .returned (.bool r) ∧ Below w.heap.size w w' := by
  have HR0 := Aside0.mk hr0
  have HC0 := Aside0.mk hc0
  clear hr0 hc0
  have HB := Aside0.mk (Below.refl w.heap.size w)
  have H : (if 0 ≤ (mn (l0.length : Int) 70) then (if (mn (l0.length : Int) 70) ≤ (l0.length : Int) then ((some (l0.take ((mn (l0.length : Int) 70) : Int).toNat : List (S41))).bind fun y1 => ((dft_All.f k y1 a1).bind fun bt5 => ((headroomref16_May.f k y1).bind fun t9 => (if t9 = 0 then ((headroomlaw16_alive.f k).bind fun t10 => (if t10 = true then (if bt5.2 = 0 then ((headroomref16_All.f k y1 a1).bind fun t11 => ((headroomref03_Same.f k bt5.1 t11).bind fun t14 => (some t14))) else (some false)) else (some false))) else ((headroomlaw16_alive.f k).bind fun t15 => (if t15 = true then (if bt5.2 = t9 then (some ((bt5.1.length : Int) == 0)) else (some false)) else (some false))))))) else (none)) else (none)) = some r := h
  clear h
  obtain ⟨ji3, hji3⟩ : ∃ j_ : Int, (mn (l0.length : Int) 70) = j_ := ⟨_, rfl⟩
  replace H : (if 0 ≤ (ji3) then (if (ji3) ≤ (l0.length : Int) then ((some (l0.take ((ji3) : Int).toNat : List (S41))).bind fun y1 => ((dft_All.f k y1 a1).bind fun bt5 => ((headroomref16_May.f k y1).bind fun t9 => (if t9 = 0 then ((headroomlaw16_alive.f k).bind fun t10 => (if t10 = true then (if bt5.2 = 0 then ((headroomref16_All.f k y1 a1).bind fun t11 => ((headroomref03_Same.f k bt5.1 t11).bind fun t14 => (some t14))) else (some false)) else (some false))) else ((headroomlaw16_alive.f k).bind fun t15 => (if t15 = true then (if bt5.2 = t9 then (some ((bt5.1.length : Int) == 0)) else (some false)) else (some false))))))) else (none)) else (none)) = some r := by first | (rw [hji3] at H; exact H) | (simp only [hji3] at H ⊢; exact H)
  (try (have hji3h : ji3 ≤ 70 := by (rw [← hji3]; unfold mn; (repeat' split) <;> omega)))
  (try (have hji3g : ji3 ≤ 64 := by omega))
  (try (have hji3l : 0 ≤ ji3 := by (rw [← hji3]; unfold mn; (repeat' split) <;> omega)))
  (try (have hji3m : 0 ≤ ji3 := by omega))
  have hji3_ : (if 70 < (l0.length : Int) then 70 else (l0.length : Int)) = ji3 := hji3
  by_cases c4 : 0 ≤ (ji3)
  · rw [if_pos c4] at H
    have c4b0 := eq_true c4
    have c4b1 : decide (0 ≤ (ji3)) = true := decide_eq_true c4
    clear c4
    by_cases c5 : (ji3) ≤ (l0.length : Int)
    · rw [if_pos c5] at H
      have c5b0 := eq_true c5
      have c5b1 : decide ((ji3) ≤ (l0.length : Int)) = true := decide_eq_true c5
      clear c5
      obtain ⟨y1, hy1⟩ : ∃ y_ : List (S41), y_ = (l0.take ((ji3) : Int).toNat) := ⟨_, rfl⟩
      replace H : ((dft_All.f k y1 a1).bind fun bt5 => ((headroomref16_May.f k y1).bind fun t9 => (if t9 = 0 then ((headroomlaw16_alive.f k).bind fun t10 => (if t10 = true then (if bt5.2 = 0 then ((headroomref16_All.f k y1 a1).bind fun t11 => ((headroomref03_Same.f k bt5.1 t11).bind fun t14 => (some t14))) else (some false)) else (some false))) else ((headroomlaw16_alive.f k).bind fun t15 => (if t15 = true then (if bt5.2 = t9 then (some ((bt5.1.length : Int) == 0)) else (some false)) else (some false)))))) = some r := by first | (rw [hy1]; with_reducible exact H) | (have H2_ := (Option.bind_some _ _).symm.trans H; rw [hy1]; with_reducible exact H2_) | (have H2_ := (Option.bind_some _ _).symm.trans H; with_reducible exact H2_) | with_reducible exact H | (rw [hy1]; exact H) | exact H
      have Ny1 := Aside0.mk hy1
      clear hy1
      replace H := Option.bind_eq_some_iff.mp H
      obtain ⟨⟨t5, t6⟩, A60, H⟩ := H
      replace H : ((headroomref16_May.f k y1).bind fun t9 => (if t9 = 0 then ((headroomlaw16_alive.f k).bind fun t10 => (if t10 = true then (if t6 = 0 then ((headroomref16_All.f k y1 a1).bind fun t11 => ((headroomref03_Same.f k t5 t11).bind fun t14 => (some t14))) else (some false)) else (some false))) else ((headroomlaw16_alive.f k).bind fun t15 => (if t15 = true then (if t6 = t9 then (some ((t5.length : Int) == 0)) else (some false)) else (some false))))) = some r := H
      have A6 := Aside0.mk A60
      clear A60
      replace H := Option.bind_eq_some_iff.mp H
      obtain ⟨t9, A70, H⟩ := H
      replace H : (if t9 = 0 then ((headroomlaw16_alive.f k).bind fun t10 => (if t10 = true then (if t6 = 0 then ((headroomref16_All.f k y1 a1).bind fun t11 => ((headroomref03_Same.f k t5 t11).bind fun t14 => (some t14))) else (some false)) else (some false))) else ((headroomlaw16_alive.f k).bind fun t15 => (if t15 = true then (if t6 = t9 then (some ((t5.length : Int) == 0)) else (some false)) else (some false)))) = some r := H
      have A7 := Aside0.mk A70
      clear A70
      by_cases c8 : t9 = 0
      · rw [if_pos c8] at H
        have c8b0 : (t9 == 0) = true := beq_iff_eq.mpr c8
        have c8b1 : (t9 != 0) = false := bne_eq_false_iff_eq.mpr c8
        clear c8
        replace H := Option.bind_eq_some_iff.mp H
        obtain ⟨t10, A90, H⟩ := H
        replace H : (if t10 = true then (if t6 = 0 then ((headroomref16_All.f k y1 a1).bind fun t11 => ((headroomref03_Same.f k t5 t11).bind fun t14 => (some t14))) else (some false)) else (some false)) = some r := H
        have A9 := Aside0.mk A90
        clear A90
        by_cases c10 : t10 = true
        · subst c10
          have H1 : (if t6 = 0 then ((headroomref16_All.f k y1 a1).bind fun t11 => ((headroomref03_Same.f k t5 t11).bind fun t14 => (some t14))) else (some false)) = some r := by rw [if_pos rfl] at H; exact H
          clear H
          have H := H1
          clear H1
          by_cases c11 : t6 = 0
          · rw [if_pos c11] at H
            have c11b0 : (t6 == 0) = true := beq_iff_eq.mpr c11
            have c11b1 : (t6 != 0) = false := bne_eq_false_iff_eq.mpr c11
            clear c11
            replace H := Option.bind_eq_some_iff.mp H
            obtain ⟨t11, A120, H⟩ := H
            replace H : ((headroomref03_Same.f k t5 t11).bind fun t14 => (some t14)) = some r := H
            have A12 := Aside0.mk A120
            clear A120
            replace H := Option.bind_eq_some_iff.mp H
            obtain ⟨t14, A130, H⟩ := H
            replace H : (some t14) = some r := H
            have A13 := Aside0.mk A130
            clear A130
            obtain rfl := Option.some.inj H
            have q14 : ((ji3) : Int) ≤ ((l0.length : Int) : Int) := of_decide_eq_true (by first | (with_reducible assumption) | assumption)
            obtain ⟨i014, hi014, _, hsz14, _⟩ := info_parts info41
            have hroom14 : l0.length ≤ c0 := HC0.out
            have hC14 : Kd.C k41 _ A0 l0.length l0 := HR0.out
            have hcut14 := cut_to (P := Try.prog) 22 41 .i64 Try.underlying22 hi014 A0 l0.length c0 (ji3) (of_decide_eq_true (by first | (with_reducible assumption) | assumption)) q14 hroom14
            have hr14 := Kd.C_take (m := ((ji3) : Int).toNat) hC14 (by omega)
            have hy14 : y1.length = ((ji3) : Int).toNat := (by rw [Ny1.out, List.length_take]; omega)
            rw [← Ny1.out] at hr14
            rw [← hy14] at hcut14
            have HR4 := Aside0.mk hr14
            have HC4 := Aside0.mk (show y1.length ≤ c0 from by omega)
            clear hr14 hC14 hroom14 hi014 hsz14
            have KY14 := Aside0.mk hy14
            clear hy14
            replace q14 := eq_true q14
            go_enter Try.func3, Try.ntmps3
            go_wp2_with (first | ((with_reducible refine gate_callee (f := 11) rfl ?_); refine goesL_ (some 16) rfl rfl Try.func11 (by kernel_rfl) rfl #[.slice A0 y1.length c0, .bool a1] rfl (by (try simp only [List.map_toArray, List.map_cons, List.map_nil]); first | done | rfl | (simp only [List.length_drop, List.length_take]; rfl)) ?_; (with_reducible refine (dft_All.calls k _ _ y1 a1 t5 t6 _ ?side1 ?side2 A6.out).mono ?_); (case side1 => repeat (first | exact HR4.out | (with_reducible refine Kd.C_alloc ?_ _) | (with_reducible refine Kd.C_drewN ?_ _) | (with_reducible refine Kd.C_drew ?_))); (case side2 => exact HC4.out); rintro e w15 ⟨v7, rfl, ho0, hb⟩; refine ⟨_, rfl, ?_⟩; have n0_ := Aside0.mk (Kd.R_lower ho0 (below_size (by repeat (first | (with_reducible first | exact HB.out | apply below_alloc | apply pw_below_drewN | apply below_drew1) | exact HB.out)))); have n1_ := Aside0.mk (below_step (by repeat (first | (with_reducible first | exact HB.out | apply below_alloc | apply pw_below_drewN | apply below_drew1) | exact HB.out)) hb); clear HB; have HO8 := n0_; have HB := n1_; clear n0_ n1_; (try clear hb); (try clear hb2); (try clear hk); (try clear hi); (try clear ho0)) | ((with_reducible refine gate_callee (f := 12) rfl ?_); refine goesL_ (some 20) rfl rfl Try.func12 (by kernel_rfl) rfl #[.slice A0 y1.length c0] rfl (by (try simp only [List.map_toArray, List.map_cons, List.map_nil]); first | done | rfl | (simp only [List.length_drop, List.length_take]; rfl)) ?_; (with_reducible refine (headroomref16_May.calls k _ _ y1 t9 _ ?side1 ?side2 A7.out).mono ?_); (case side1 => repeat (first | exact (Kd.C_below HR4.out HB.out) | (with_reducible refine Kd.C_alloc ?_ _) | (with_reducible refine Kd.C_drewN ?_ _) | (with_reducible refine Kd.C_drew ?_))); (case side2 => exact HC4.out); rintro e w16 ⟨rfl, hb⟩; refine ⟨_, rfl, ?_⟩; have n0_ := Aside0.mk (Kd.R_below (by (with_reducible repeat (first | apply Kd.R_alloc | apply Kd.R_drewN | apply Kd.R_drew)); exact HO8.out) hb); have n1_ := Aside0.mk (below_step (by repeat (first | (with_reducible first | exact HB.out | apply below_alloc | apply pw_below_drewN | apply below_drew1) | exact HB.out)) hb); clear HO8; clear HB; have HO8 := n0_; have HB := n1_; clear n0_ n1_; (try clear hb); (try clear hb2); (try clear hk); (try clear hi)) | ((with_reducible refine gate_callee (f := 13) rfl ?_); refine goesL_ (some 34) rfl rfl Try.func13 (by kernel_rfl) rfl #[] rfl (by (try simp only [List.map_toArray, List.map_cons, List.map_nil]); first | done | rfl | (simp only [List.length_drop, List.length_take]; rfl)) ?_; (with_reducible refine (headroomlaw16_alive.calls k  true _ A9.out).mono ?_); rintro e w17 ⟨rfl, hb⟩; refine ⟨_, rfl, ?_⟩; have n0_ := Aside0.mk (Kd.R_below (by (with_reducible repeat (first | apply Kd.R_alloc | apply Kd.R_drewN | apply Kd.R_drew)); exact HO8.out) hb); have n1_ := Aside0.mk (below_step (by repeat (first | (with_reducible first | exact HB.out | apply below_alloc | apply pw_below_drewN | apply below_drew1) | exact HB.out)) hb); clear HO8; clear HB; have HO8 := n0_; have HB := n1_; clear n0_ n1_; (try clear hb); (try clear hb2); (try clear hk); (try clear hi)) | (go_at_call 15; (with_reducible refine (headroomref16_All.calls k _ _ y1 a1 t11 _ ?side1 ?side2 A12.out).mono ?_); (case side1 => repeat (first | exact (Kd.C_below HR4.out HB.out) | (with_reducible refine Kd.C_alloc ?_ _) | (with_reducible refine Kd.C_drewN ?_ _) | (with_reducible refine Kd.C_drew ?_))); (case side2 => exact HC4.out); rintro e w18 ⟨v12, rfl, ho0, hb⟩; have n0_ := Aside0.mk (Kd.R_elder' (by (with_reducible repeat (first | apply Kd.R_alloc | apply Kd.R_drewN | apply Kd.R_drew)); exact HO8.out) (Kd.R_base ho0) hb); have n1_ := Aside0.mk (Kd.R_lower (Kd.R_new' ho0 (Kd.R_lt (by (with_reducible repeat (first | apply Kd.R_alloc | apply Kd.R_drewN | apply Kd.R_drew)); exact HO8.out))) (below_size (by repeat (first | (with_reducible first | exact HB.out | apply below_alloc | apply pw_below_drewN | apply below_drew1) | exact HB.out)))); have n2_ := Aside0.mk (below_step (by repeat (first | (with_reducible first | exact HB.out | apply below_alloc | apply pw_below_drewN | apply below_drew1) | exact HB.out)) hb); clear HO8; clear HB; have HO8 := n0_; have HO13 := n1_; have HB := n2_; clear n0_ n1_ n2_; (try clear hb); (try clear hb2); (try clear hk); (try clear hi); (try clear ho0); obtain ⟨Ao19, co19, eo19⟩ := Kd.R_slice HO8.out; subst eo19; obtain ⟨Ao20, co20, eo20⟩ := Kd.R_slice HO13.out; subst eo20) | (go_at_call 14; (with_reducible refine (headroomref03_Same.calls k _ _ t5 _ _ t11 t14 _ ?side1 ?side2 ?side3 ?side4 A13.out).mono ?_); (case side1 => repeat (first | exact (Kd.R_reads' HO8.out).2.2 | (with_reducible refine Kd.C_alloc ?_ _) | (with_reducible refine Kd.C_drewN ?_ _) | (with_reducible refine Kd.C_drew ?_))); (case side2 => exact (Kd.R_reads' HO8.out).2.1); (case side3 => repeat (first | exact (Kd.R_reads' HO13.out).2.2 | (with_reducible refine Kd.C_alloc ?_ _) | (with_reducible refine Kd.C_drewN ?_ _) | (with_reducible refine Kd.C_drew ?_))); (case side4 => exact (Kd.R_reads' HO13.out).2.1); rintro e w' ⟨rfl, ⟨nd, rfl⟩⟩))
            go_ret
            exact ⟨by first | rfl | (simp [errW_none, errW_some] <;> rfl) | (simp only [← hji3]; first | rfl | (simp [errW_none, errW_some] <;> rfl)) | (simp [*, errW_none, errW_some] <;> rfl), by repeat (first | (with_reducible first | exact HB.out | apply below_alloc | apply pw_below_drewN | apply below_drew1) | exact HB.out)⟩
          · rw [if_neg c11] at H
            have c11b0 : (t6 == 0) = false := beq_eq_false_iff_ne.mpr c11
            have c11b1 : (t6 != 0) = true := bne_iff_ne.mpr c11
            obtain rfl := Option.some.inj H
            have q21 : ((ji3) : Int) ≤ ((l0.length : Int) : Int) := of_decide_eq_true (by first | (with_reducible assumption) | assumption)
            obtain ⟨i021, hi021, _, hsz21, _⟩ := info_parts info41
            have hroom21 : l0.length ≤ c0 := HC0.out
            have hC21 : Kd.C k41 _ A0 l0.length l0 := HR0.out
            have hcut21 := cut_to (P := Try.prog) 22 41 .i64 Try.underlying22 hi021 A0 l0.length c0 (ji3) (of_decide_eq_true (by first | (with_reducible assumption) | assumption)) q21 hroom21
            have hr21 := Kd.C_take (m := ((ji3) : Int).toNat) hC21 (by omega)
            have hy21 : y1.length = ((ji3) : Int).toNat := (by rw [Ny1.out, List.length_take]; omega)
            rw [← Ny1.out] at hr21
            rw [← hy21] at hcut21
            have HR4 := Aside0.mk hr21
            have HC4 := Aside0.mk (show y1.length ≤ c0 from by omega)
            clear hr21 hC21 hroom21 hi021 hsz21
            have KY21 := Aside0.mk hy21
            clear hy21
            replace q21 := eq_true q21
            go_enter Try.func3, Try.ntmps3
            go_wp2_with (first | ((with_reducible refine gate_callee (f := 11) rfl ?_); refine goesL_ (some 16) rfl rfl Try.func11 (by kernel_rfl) rfl #[.slice A0 y1.length c0, .bool a1] rfl (by (try simp only [List.map_toArray, List.map_cons, List.map_nil]); first | done | rfl | (simp only [List.length_drop, List.length_take]; rfl)) ?_; (with_reducible refine (dft_All.calls k _ _ y1 a1 t5 t6 _ ?side1 ?side2 A6.out).mono ?_); (case side1 => repeat (first | exact HR4.out | (with_reducible refine Kd.C_alloc ?_ _) | (with_reducible refine Kd.C_drewN ?_ _) | (with_reducible refine Kd.C_drew ?_))); (case side2 => exact HC4.out); rintro e w22 ⟨v7, rfl, ho0, hb⟩; refine ⟨_, rfl, ?_⟩; have n0_ := Aside0.mk (Kd.R_lower ho0 (below_size (by repeat (first | (with_reducible first | exact HB.out | apply below_alloc | apply pw_below_drewN | apply below_drew1) | exact HB.out)))); have n1_ := Aside0.mk (below_step (by repeat (first | (with_reducible first | exact HB.out | apply below_alloc | apply pw_below_drewN | apply below_drew1) | exact HB.out)) hb); clear HB; have HO8 := n0_; have HB := n1_; clear n0_ n1_; (try clear hb); (try clear hb2); (try clear hk); (try clear hi); (try clear ho0)) | ((with_reducible refine gate_callee (f := 12) rfl ?_); refine goesL_ (some 20) rfl rfl Try.func12 (by kernel_rfl) rfl #[.slice A0 y1.length c0] rfl (by (try simp only [List.map_toArray, List.map_cons, List.map_nil]); first | done | rfl | (simp only [List.length_drop, List.length_take]; rfl)) ?_; (with_reducible refine (headroomref16_May.calls k _ _ y1 t9 _ ?side1 ?side2 A7.out).mono ?_); (case side1 => repeat (first | exact (Kd.C_below HR4.out HB.out) | (with_reducible refine Kd.C_alloc ?_ _) | (with_reducible refine Kd.C_drewN ?_ _) | (with_reducible refine Kd.C_drew ?_))); (case side2 => exact HC4.out); rintro e w23 ⟨rfl, hb⟩; refine ⟨_, rfl, ?_⟩; have n0_ := Aside0.mk (Kd.R_below (by (with_reducible repeat (first | apply Kd.R_alloc | apply Kd.R_drewN | apply Kd.R_drew)); exact HO8.out) hb); have n1_ := Aside0.mk (below_step (by repeat (first | (with_reducible first | exact HB.out | apply below_alloc | apply pw_below_drewN | apply below_drew1) | exact HB.out)) hb); clear HO8; clear HB; have HO8 := n0_; have HB := n1_; clear n0_ n1_; (try clear hb); (try clear hb2); (try clear hk); (try clear hi)) | ((with_reducible refine gate_callee (f := 13) rfl ?_); refine goesL_ (some 34) rfl rfl Try.func13 (by kernel_rfl) rfl #[] rfl (by (try simp only [List.map_toArray, List.map_cons, List.map_nil]); first | done | rfl | (simp only [List.length_drop, List.length_take]; rfl)) ?_; (with_reducible refine (headroomlaw16_alive.calls k  true _ A9.out).mono ?_); rintro e w24 ⟨rfl, hb⟩; refine ⟨_, rfl, ?_⟩; have n0_ := Aside0.mk (Kd.R_below (by (with_reducible repeat (first | apply Kd.R_alloc | apply Kd.R_drewN | apply Kd.R_drew)); exact HO8.out) hb); have n1_ := Aside0.mk (below_step (by repeat (first | (with_reducible first | exact HB.out | apply below_alloc | apply pw_below_drewN | apply below_drew1) | exact HB.out)) hb); clear HO8; clear HB; have HO8 := n0_; have HB := n1_; clear n0_ n1_; (try clear hb); (try clear hb2); (try clear hk); (try clear hi)))
            go_ret
            exact ⟨by first | rfl | (simp [errW_none, errW_some] <;> rfl) | (simp only [← hji3]; first | rfl | (simp [errW_none, errW_some] <;> rfl)) | (simp [*, errW_none, errW_some] <;> rfl), by repeat (first | (with_reducible first | exact HB.out | apply below_alloc | apply pw_below_drewN | apply below_drew1) | exact HB.out)⟩
        · replace c10 := Bool.eq_false_iff.mpr c10
          subst c10
          have H1 : (some false) = some r := by rw [if_neg (show ¬ (false = true) by decide)] at H; exact H
          clear H
          have H := H1
          clear H1
          obtain rfl := Option.some.inj H
          have q25 : ((ji3) : Int) ≤ ((l0.length : Int) : Int) := of_decide_eq_true (by first | (with_reducible assumption) | assumption)
          obtain ⟨i025, hi025, _, hsz25, _⟩ := info_parts info41
          have hroom25 : l0.length ≤ c0 := HC0.out
          have hC25 : Kd.C k41 _ A0 l0.length l0 := HR0.out
          have hcut25 := cut_to (P := Try.prog) 22 41 .i64 Try.underlying22 hi025 A0 l0.length c0 (ji3) (of_decide_eq_true (by first | (with_reducible assumption) | assumption)) q25 hroom25
          have hr25 := Kd.C_take (m := ((ji3) : Int).toNat) hC25 (by omega)
          have hy25 : y1.length = ((ji3) : Int).toNat := (by rw [Ny1.out, List.length_take]; omega)
          rw [← Ny1.out] at hr25
          rw [← hy25] at hcut25
          have HR4 := Aside0.mk hr25
          have HC4 := Aside0.mk (show y1.length ≤ c0 from by omega)
          clear hr25 hC25 hroom25 hi025 hsz25
          have KY25 := Aside0.mk hy25
          clear hy25
          replace q25 := eq_true q25
          go_enter Try.func3, Try.ntmps3
          go_wp2_with (first | ((with_reducible refine gate_callee (f := 11) rfl ?_); refine goesL_ (some 16) rfl rfl Try.func11 (by kernel_rfl) rfl #[.slice A0 y1.length c0, .bool a1] rfl (by (try simp only [List.map_toArray, List.map_cons, List.map_nil]); first | done | rfl | (simp only [List.length_drop, List.length_take]; rfl)) ?_; (with_reducible refine (dft_All.calls k _ _ y1 a1 t5 t6 _ ?side1 ?side2 A6.out).mono ?_); (case side1 => repeat (first | exact HR4.out | (with_reducible refine Kd.C_alloc ?_ _) | (with_reducible refine Kd.C_drewN ?_ _) | (with_reducible refine Kd.C_drew ?_))); (case side2 => exact HC4.out); rintro e w26 ⟨v7, rfl, ho0, hb⟩; refine ⟨_, rfl, ?_⟩; have n0_ := Aside0.mk (Kd.R_lower ho0 (below_size (by repeat (first | (with_reducible first | exact HB.out | apply below_alloc | apply pw_below_drewN | apply below_drew1) | exact HB.out)))); have n1_ := Aside0.mk (below_step (by repeat (first | (with_reducible first | exact HB.out | apply below_alloc | apply pw_below_drewN | apply below_drew1) | exact HB.out)) hb); clear HB; have HO8 := n0_; have HB := n1_; clear n0_ n1_; (try clear hb); (try clear hb2); (try clear hk); (try clear hi); (try clear ho0)) | ((with_reducible refine gate_callee (f := 12) rfl ?_); refine goesL_ (some 20) rfl rfl Try.func12 (by kernel_rfl) rfl #[.slice A0 y1.length c0] rfl (by (try simp only [List.map_toArray, List.map_cons, List.map_nil]); first | done | rfl | (simp only [List.length_drop, List.length_take]; rfl)) ?_; (with_reducible refine (headroomref16_May.calls k _ _ y1 t9 _ ?side1 ?side2 A7.out).mono ?_); (case side1 => repeat (first | exact (Kd.C_below HR4.out HB.out) | (with_reducible refine Kd.C_alloc ?_ _) | (with_reducible refine Kd.C_drewN ?_ _) | (with_reducible refine Kd.C_drew ?_))); (case side2 => exact HC4.out); rintro e w27 ⟨rfl, hb⟩; refine ⟨_, rfl, ?_⟩; have n0_ := Aside0.mk (Kd.R_below (by (with_reducible repeat (first | apply Kd.R_alloc | apply Kd.R_drewN | apply Kd.R_drew)); exact HO8.out) hb); have n1_ := Aside0.mk (below_step (by repeat (first | (with_reducible first | exact HB.out | apply below_alloc | apply pw_below_drewN | apply below_drew1) | exact HB.out)) hb); clear HO8; clear HB; have HO8 := n0_; have HB := n1_; clear n0_ n1_; (try clear hb); (try clear hb2); (try clear hk); (try clear hi)) | ((with_reducible refine gate_callee (f := 13) rfl ?_); refine goesL_ (some 34) rfl rfl Try.func13 (by kernel_rfl) rfl #[] rfl (by (try simp only [List.map_toArray, List.map_cons, List.map_nil]); first | done | rfl | (simp only [List.length_drop, List.length_take]; rfl)) ?_; (with_reducible refine (headroomlaw16_alive.calls k  false _ A9.out).mono ?_); rintro e w28 ⟨rfl, hb⟩; refine ⟨_, rfl, ?_⟩; have n0_ := Aside0.mk (Kd.R_below (by (with_reducible repeat (first | apply Kd.R_alloc | apply Kd.R_drewN | apply Kd.R_drew)); exact HO8.out) hb); have n1_ := Aside0.mk (below_step (by repeat (first | (with_reducible first | exact HB.out | apply below_alloc | apply pw_below_drewN | apply below_drew1) | exact HB.out)) hb); clear HO8; clear HB; have HO8 := n0_; have HB := n1_; clear n0_ n1_; (try clear hb); (try clear hb2); (try clear hk); (try clear hi)))
          go_ret
          exact ⟨by first | rfl | (simp [errW_none, errW_some] <;> rfl) | (simp only [← hji3]; first | rfl | (simp [errW_none, errW_some] <;> rfl)) | (simp [*, errW_none, errW_some] <;> rfl), by repeat (first | (with_reducible first | exact HB.out | apply below_alloc | apply pw_below_drewN | apply below_drew1) | exact HB.out)⟩
      · rw [if_neg c8] at H
        have c8b0 : (t9 == 0) = false := beq_eq_false_iff_ne.mpr c8
        have c8b1 : (t9 != 0) = true := bne_iff_ne.mpr c8
        replace H := Option.bind_eq_some_iff.mp H
        obtain ⟨t15, A290, H⟩ := H
        replace H : (if t15 = true then (if t6 = t9 then (some ((t5.length : Int) == 0)) else (some false)) else (some false)) = some r := H
        have A29 := Aside0.mk A290
        clear A290
        by_cases c30 : t15 = true
        · subst c30
          have H1 : (if t6 = t9 then (some ((t5.length : Int) == 0)) else (some false)) = some r := by rw [if_pos rfl] at H; exact H
          clear H
          have H := H1
          clear H1
          by_cases c31 : t6 = t9
          · rw [if_pos c31] at H
            have c31b0 : (t6 == t9) = true := beq_iff_eq.mpr c31
            have c31b1 : (t6 != t9) = false := bne_eq_false_iff_eq.mpr c31
            clear c31
            obtain rfl := Option.some.inj H
            have q32 : ((ji3) : Int) ≤ ((l0.length : Int) : Int) := of_decide_eq_true (by first | (with_reducible assumption) | assumption)
            obtain ⟨i032, hi032, _, hsz32, _⟩ := info_parts info41
            have hroom32 : l0.length ≤ c0 := HC0.out
            have hC32 : Kd.C k41 _ A0 l0.length l0 := HR0.out
            have hcut32 := cut_to (P := Try.prog) 22 41 .i64 Try.underlying22 hi032 A0 l0.length c0 (ji3) (of_decide_eq_true (by first | (with_reducible assumption) | assumption)) q32 hroom32
            have hr32 := Kd.C_take (m := ((ji3) : Int).toNat) hC32 (by omega)
            have hy32 : y1.length = ((ji3) : Int).toNat := (by rw [Ny1.out, List.length_take]; omega)
            rw [← Ny1.out] at hr32
            rw [← hy32] at hcut32
            have HR4 := Aside0.mk hr32
            have HC4 := Aside0.mk (show y1.length ≤ c0 from by omega)
            clear hr32 hC32 hroom32 hi032 hsz32
            have KY32 := Aside0.mk hy32
            clear hy32
            replace q32 := eq_true q32
            go_enter Try.func3, Try.ntmps3
            go_wp2_with (first | ((with_reducible refine gate_callee (f := 11) rfl ?_); refine goesL_ (some 16) rfl rfl Try.func11 (by kernel_rfl) rfl #[.slice A0 y1.length c0, .bool a1] rfl (by (try simp only [List.map_toArray, List.map_cons, List.map_nil]); first | done | rfl | (simp only [List.length_drop, List.length_take]; rfl)) ?_; (with_reducible refine (dft_All.calls k _ _ y1 a1 t5 t6 _ ?side1 ?side2 A6.out).mono ?_); (case side1 => repeat (first | exact HR4.out | (with_reducible refine Kd.C_alloc ?_ _) | (with_reducible refine Kd.C_drewN ?_ _) | (with_reducible refine Kd.C_drew ?_))); (case side2 => exact HC4.out); rintro e w33 ⟨v7, rfl, ho0, hb⟩; refine ⟨_, rfl, ?_⟩; have n0_ := Aside0.mk (Kd.R_lower ho0 (below_size (by repeat (first | (with_reducible first | exact HB.out | apply below_alloc | apply pw_below_drewN | apply below_drew1) | exact HB.out)))); have n1_ := Aside0.mk (below_step (by repeat (first | (with_reducible first | exact HB.out | apply below_alloc | apply pw_below_drewN | apply below_drew1) | exact HB.out)) hb); clear HB; have HO8 := n0_; have HB := n1_; clear n0_ n1_; (try clear hb); (try clear hb2); (try clear hk); (try clear hi); (try clear ho0)) | ((with_reducible refine gate_callee (f := 12) rfl ?_); refine goesL_ (some 20) rfl rfl Try.func12 (by kernel_rfl) rfl #[.slice A0 y1.length c0] rfl (by (try simp only [List.map_toArray, List.map_cons, List.map_nil]); first | done | rfl | (simp only [List.length_drop, List.length_take]; rfl)) ?_; (with_reducible refine (headroomref16_May.calls k _ _ y1 t9 _ ?side1 ?side2 A7.out).mono ?_); (case side1 => repeat (first | exact (Kd.C_below HR4.out HB.out) | (with_reducible refine Kd.C_alloc ?_ _) | (with_reducible refine Kd.C_drewN ?_ _) | (with_reducible refine Kd.C_drew ?_))); (case side2 => exact HC4.out); rintro e w34 ⟨rfl, hb⟩; refine ⟨_, rfl, ?_⟩; have n0_ := Aside0.mk (Kd.R_below (by (with_reducible repeat (first | apply Kd.R_alloc | apply Kd.R_drewN | apply Kd.R_drew)); exact HO8.out) hb); have n1_ := Aside0.mk (below_step (by repeat (first | (with_reducible first | exact HB.out | apply below_alloc | apply pw_below_drewN | apply below_drew1) | exact HB.out)) hb); clear HO8; clear HB; have HO8 := n0_; have HB := n1_; clear n0_ n1_; (try clear hb); (try clear hb2); (try clear hk); (try clear hi)) | ((with_reducible refine gate_callee (f := 13) rfl ?_); refine goesL_ (some 23) rfl rfl Try.func13 (by kernel_rfl) rfl #[] rfl (by (try simp only [List.map_toArray, List.map_cons, List.map_nil]); first | done | rfl | (simp only [List.length_drop, List.length_take]; rfl)) ?_; (with_reducible refine (headroomlaw16_alive.calls k  true _ A29.out).mono ?_); rintro e w35 ⟨rfl, hb⟩; refine ⟨_, rfl, ?_⟩; have n0_ := Aside0.mk (Kd.R_below (by (with_reducible repeat (first | apply Kd.R_alloc | apply Kd.R_drewN | apply Kd.R_drew)); exact HO8.out) hb); have n1_ := Aside0.mk (below_step (by repeat (first | (with_reducible first | exact HB.out | apply below_alloc | apply pw_below_drewN | apply below_drew1) | exact HB.out)) hb); clear HO8; clear HB; have HO8 := n0_; have HB := n1_; clear n0_ n1_; (try clear hb); (try clear hb2); (try clear hk); (try clear hi); obtain ⟨Ao36, co36, eo36⟩ := Kd.R_slice HO8.out; subst eo36))
            go_ret
            exact ⟨by first | rfl | (simp [errW_none, errW_some] <;> rfl) | (simp only [← hji3]; first | rfl | (simp [errW_none, errW_some] <;> rfl)) | (simp [*, errW_none, errW_some] <;> rfl), by repeat (first | (with_reducible first | exact HB.out | apply below_alloc | apply pw_below_drewN | apply below_drew1) | exact HB.out)⟩
          · rw [if_neg c31] at H
            have c31b0 : (t6 == t9) = false := beq_eq_false_iff_ne.mpr c31
            have c31b1 : (t6 != t9) = true := bne_iff_ne.mpr c31
            obtain rfl := Option.some.inj H
            have q37 : ((ji3) : Int) ≤ ((l0.length : Int) : Int) := of_decide_eq_true (by first | (with_reducible assumption) | assumption)
            obtain ⟨i037, hi037, _, hsz37, _⟩ := info_parts info41
            have hroom37 : l0.length ≤ c0 := HC0.out
            have hC37 : Kd.C k41 _ A0 l0.length l0 := HR0.out
            have hcut37 := cut_to (P := Try.prog) 22 41 .i64 Try.underlying22 hi037 A0 l0.length c0 (ji3) (of_decide_eq_true (by first | (with_reducible assumption) | assumption)) q37 hroom37
            have hr37 := Kd.C_take (m := ((ji3) : Int).toNat) hC37 (by omega)
            have hy37 : y1.length = ((ji3) : Int).toNat := (by rw [Ny1.out, List.length_take]; omega)
            rw [← Ny1.out] at hr37
            rw [← hy37] at hcut37
            have HR4 := Aside0.mk hr37
            have HC4 := Aside0.mk (show y1.length ≤ c0 from by omega)
            clear hr37 hC37 hroom37 hi037 hsz37
            have KY37 := Aside0.mk hy37
            clear hy37
            replace q37 := eq_true q37
            go_enter Try.func3, Try.ntmps3
            go_wp2_with (first | ((with_reducible refine gate_callee (f := 11) rfl ?_); refine goesL_ (some 16) rfl rfl Try.func11 (by kernel_rfl) rfl #[.slice A0 y1.length c0, .bool a1] rfl (by (try simp only [List.map_toArray, List.map_cons, List.map_nil]); first | done | rfl | (simp only [List.length_drop, List.length_take]; rfl)) ?_; (with_reducible refine (dft_All.calls k _ _ y1 a1 t5 t6 _ ?side1 ?side2 A6.out).mono ?_); (case side1 => repeat (first | exact HR4.out | (with_reducible refine Kd.C_alloc ?_ _) | (with_reducible refine Kd.C_drewN ?_ _) | (with_reducible refine Kd.C_drew ?_))); (case side2 => exact HC4.out); rintro e w38 ⟨v7, rfl, ho0, hb⟩; refine ⟨_, rfl, ?_⟩; have n0_ := Aside0.mk (Kd.R_lower ho0 (below_size (by repeat (first | (with_reducible first | exact HB.out | apply below_alloc | apply pw_below_drewN | apply below_drew1) | exact HB.out)))); have n1_ := Aside0.mk (below_step (by repeat (first | (with_reducible first | exact HB.out | apply below_alloc | apply pw_below_drewN | apply below_drew1) | exact HB.out)) hb); clear HB; have HO8 := n0_; have HB := n1_; clear n0_ n1_; (try clear hb); (try clear hb2); (try clear hk); (try clear hi); (try clear ho0)) | ((with_reducible refine gate_callee (f := 12) rfl ?_); refine goesL_ (some 20) rfl rfl Try.func12 (by kernel_rfl) rfl #[.slice A0 y1.length c0] rfl (by (try simp only [List.map_toArray, List.map_cons, List.map_nil]); first | done | rfl | (simp only [List.length_drop, List.length_take]; rfl)) ?_; (with_reducible refine (headroomref16_May.calls k _ _ y1 t9 _ ?side1 ?side2 A7.out).mono ?_); (case side1 => repeat (first | exact (Kd.C_below HR4.out HB.out) | (with_reducible refine Kd.C_alloc ?_ _) | (with_reducible refine Kd.C_drewN ?_ _) | (with_reducible refine Kd.C_drew ?_))); (case side2 => exact HC4.out); rintro e w39 ⟨rfl, hb⟩; refine ⟨_, rfl, ?_⟩; have n0_ := Aside0.mk (Kd.R_below (by (with_reducible repeat (first | apply Kd.R_alloc | apply Kd.R_drewN | apply Kd.R_drew)); exact HO8.out) hb); have n1_ := Aside0.mk (below_step (by repeat (first | (with_reducible first | exact HB.out | apply below_alloc | apply pw_below_drewN | apply below_drew1) | exact HB.out)) hb); clear HO8; clear HB; have HO8 := n0_; have HB := n1_; clear n0_ n1_; (try clear hb); (try clear hb2); (try clear hk); (try clear hi)) | ((with_reducible refine gate_callee (f := 13) rfl ?_); refine goesL_ (some 23) rfl rfl Try.func13 (by kernel_rfl) rfl #[] rfl (by (try simp only [List.map_toArray, List.map_cons, List.map_nil]); first | done | rfl | (simp only [List.length_drop, List.length_take]; rfl)) ?_; (with_reducible refine (headroomlaw16_alive.calls k  true _ A29.out).mono ?_); rintro e w40 ⟨rfl, hb⟩; refine ⟨_, rfl, ?_⟩; have n0_ := Aside0.mk (Kd.R_below (by (with_reducible repeat (first | apply Kd.R_alloc | apply Kd.R_drewN | apply Kd.R_drew)); exact HO8.out) hb); have n1_ := Aside0.mk (below_step (by repeat (first | (with_reducible first | exact HB.out | apply below_alloc | apply pw_below_drewN | apply below_drew1) | exact HB.out)) hb); clear HO8; clear HB; have HO8 := n0_; have HB := n1_; clear n0_ n1_; (try clear hb); (try clear hb2); (try clear hk); (try clear hi)))
            go_ret
            exact ⟨by first | rfl | (simp [errW_none, errW_some] <;> rfl) | (simp only [← hji3]; first | rfl | (simp [errW_none, errW_some] <;> rfl)) | (simp [*, errW_none, errW_some] <;> rfl), by repeat (first | (with_reducible first | exact HB.out | apply below_alloc | apply pw_below_drewN | apply below_drew1) | exact HB.out)⟩
        · replace c30 := Bool.eq_false_iff.mpr c30
          subst c30
          have H1 : (some false) = some r := by rw [if_neg (show ¬ (false = true) by decide)] at H; exact H
          clear H
          have H := H1
          clear H1
          obtain rfl := Option.some.inj H
          have q41 : ((ji3) : Int) ≤ ((l0.length : Int) : Int) := of_decide_eq_true (by first | (with_reducible assumption) | assumption)
          obtain ⟨i041, hi041, _, hsz41, _⟩ := info_parts info41
          have hroom41 : l0.length ≤ c0 := HC0.out
          have hC41 : Kd.C k41 _ A0 l0.length l0 := HR0.out
          have hcut41 := cut_to (P := Try.prog) 22 41 .i64 Try.underlying22 hi041 A0 l0.length c0 (ji3) (of_decide_eq_true (by first | (with_reducible assumption) | assumption)) q41 hroom41
          have hr41 := Kd.C_take (m := ((ji3) : Int).toNat) hC41 (by omega)
          have hy41 : y1.length = ((ji3) : Int).toNat := (by rw [Ny1.out, List.length_take]; omega)
          rw [← Ny1.out] at hr41
          rw [← hy41] at hcut41
          have HR4 := Aside0.mk hr41
          have HC4 := Aside0.mk (show y1.length ≤ c0 from by omega)
          clear hr41 hC41 hroom41 hi041 hsz41
          have KY41 := Aside0.mk hy41
          clear hy41
          replace q41 := eq_true q41
          go_enter Try.func3, Try.ntmps3
          go_wp2_with (first | ((with_reducible refine gate_callee (f := 11) rfl ?_); refine goesL_ (some 16) rfl rfl Try.func11 (by kernel_rfl) rfl #[.slice A0 y1.length c0, .bool a1] rfl (by (try simp only [List.map_toArray, List.map_cons, List.map_nil]); first | done | rfl | (simp only [List.length_drop, List.length_take]; rfl)) ?_; (with_reducible refine (dft_All.calls k _ _ y1 a1 t5 t6 _ ?side1 ?side2 A6.out).mono ?_); (case side1 => repeat (first | exact HR4.out | (with_reducible refine Kd.C_alloc ?_ _) | (with_reducible refine Kd.C_drewN ?_ _) | (with_reducible refine Kd.C_drew ?_))); (case side2 => exact HC4.out); rintro e w42 ⟨v7, rfl, ho0, hb⟩; refine ⟨_, rfl, ?_⟩; have n0_ := Aside0.mk (Kd.R_lower ho0 (below_size (by repeat (first | (with_reducible first | exact HB.out | apply below_alloc | apply pw_below_drewN | apply below_drew1) | exact HB.out)))); have n1_ := Aside0.mk (below_step (by repeat (first | (with_reducible first | exact HB.out | apply below_alloc | apply pw_below_drewN | apply below_drew1) | exact HB.out)) hb); clear HB; have HO8 := n0_; have HB := n1_; clear n0_ n1_; (try clear hb); (try clear hb2); (try clear hk); (try clear hi); (try clear ho0)) | ((with_reducible refine gate_callee (f := 12) rfl ?_); refine goesL_ (some 20) rfl rfl Try.func12 (by kernel_rfl) rfl #[.slice A0 y1.length c0] rfl (by (try simp only [List.map_toArray, List.map_cons, List.map_nil]); first | done | rfl | (simp only [List.length_drop, List.length_take]; rfl)) ?_; (with_reducible refine (headroomref16_May.calls k _ _ y1 t9 _ ?side1 ?side2 A7.out).mono ?_); (case side1 => repeat (first | exact (Kd.C_below HR4.out HB.out) | (with_reducible refine Kd.C_alloc ?_ _) | (with_reducible refine Kd.C_drewN ?_ _) | (with_reducible refine Kd.C_drew ?_))); (case side2 => exact HC4.out); rintro e w43 ⟨rfl, hb⟩; refine ⟨_, rfl, ?_⟩; have n0_ := Aside0.mk (Kd.R_below (by (with_reducible repeat (first | apply Kd.R_alloc | apply Kd.R_drewN | apply Kd.R_drew)); exact HO8.out) hb); have n1_ := Aside0.mk (below_step (by repeat (first | (with_reducible first | exact HB.out | apply below_alloc | apply pw_below_drewN | apply below_drew1) | exact HB.out)) hb); clear HO8; clear HB; have HO8 := n0_; have HB := n1_; clear n0_ n1_; (try clear hb); (try clear hb2); (try clear hk); (try clear hi)) | ((with_reducible refine gate_callee (f := 13) rfl ?_); refine goesL_ (some 23) rfl rfl Try.func13 (by kernel_rfl) rfl #[] rfl (by (try simp only [List.map_toArray, List.map_cons, List.map_nil]); first | done | rfl | (simp only [List.length_drop, List.length_take]; rfl)) ?_; (with_reducible refine (headroomlaw16_alive.calls k  false _ A29.out).mono ?_); rintro e w44 ⟨rfl, hb⟩; refine ⟨_, rfl, ?_⟩; have n0_ := Aside0.mk (Kd.R_below (by (with_reducible repeat (first | apply Kd.R_alloc | apply Kd.R_drewN | apply Kd.R_drew)); exact HO8.out) hb); have n1_ := Aside0.mk (below_step (by repeat (first | (with_reducible first | exact HB.out | apply below_alloc | apply pw_below_drewN | apply below_drew1) | exact HB.out)) hb); clear HO8; clear HB; have HO8 := n0_; have HB := n1_; clear n0_ n1_; (try clear hb); (try clear hb2); (try clear hk); (try clear hi)))
          go_ret
          exact ⟨by first | rfl | (simp [errW_none, errW_some] <;> rfl) | (simp only [← hji3]; first | rfl | (simp [errW_none, errW_some] <;> rfl)) | (simp [*, errW_none, errW_some] <;> rfl), by repeat (first | (with_reducible first | exact HB.out | apply below_alloc | apply pw_below_drewN | apply below_drew1) | exact HB.out)⟩
    · rw [if_neg c5] at H
      exact absurd H (by simp)
  · rw [if_neg c4] at H
    exact absurd H (by simp)

end Go.Proofs.Ytpmkkidljmedaaa.X
namespace Go.Proofs.Ytpmkkidljmedaaa.X
open Go.RowKit Go.Proofs.YtpmkkidljmedaaaW.PrintWords Go.Proofs.YtpmkkidljmedaaaW.PrintLast Go.Proofs.YtpmkkidljmedaaaW.PrintMore
set_option linter.unusedVariables false

theorem pow_loop (n : Nat) (hn : n ≤ 62) : ∀ (d i k : Nat), n - i = d → i ≤ n → d < k → headroomref01_Pow.l0 k n (2 ^ i) i = some (2 ^ n) := by
  intro d
  induction d with
  | zero =>
    intro i k hd hi hk
    obtain rfl : i = n := by omega
    cases k with
    | zero => omega
    | succ k => simp [headroomref01_Pow.l0]
  | succ d ih =>
    intro i k hd hi hk
    cases k with
    | zero => omega
    | succ k =>
      have h1 := HM.pow_lt62 (i := i + 1) (by omega)
      have h2 := HM.pow_pos (i + 1)
      have e : (2 : Int) * 2 ^ i = 2 ^ (i + 1) := by rw [Int.pow_succ, Int.mul_comm]
      have e2 : ((i : Int) + 1) = ((i + 1 : Nat) : Int) := by norm_cast
      rw [headroomref01_Pow.l0, if_pos (by omega), e, HM.wrap64_id _ (by omega) (by omega), HM.wrap64_id _ (by omega) (by omega), e2]
      exact ih (i + 1) k (by omega) (by omega) (by omega)
theorem ref_pow (n k : Nat) (hn : n ≤ 62) (hk : n < k) : headroomref01_Pow.f k n = some (2 ^ n) := by
  have := pow_loop n hn n 0 k (by omega) (by omega) (by omega)
  simpa [headroomref01_Pow.f] using this
theorem ref_pow' (x : Int) (k : Nat) (h0 : 0 ≤ x) (h1 : x ≤ 62) (hk : x < k) : headroomref01_Pow.f k x = some (2 ^ x.toNat) := by
  have := ref_pow x.toNat k (by omega) (by omega)
  rwa [Int.toNat_of_nonneg h0] at this

/-- Is it one of 64 bits? -/
def In64 (x : Int) : Prop := -9223372036854775808 ≤ x ∧ x < 9223372036854775808
theorem ref_half (x : Int) (h : In64 x) : headroomref01_half.f x = some (x / 2) := by
  unfold headroomref01_half.f
  obtain ⟨h0, h1⟩ := h
  have ht : Int.tmod x 2 = x % 2 ∨ (Int.tmod x 2 = x % 2 - 2 ∧ x < 0 ∧ x % 2 = 1) := by
    rcases Int.le_total 0 x with h | h
    · exact .inl (Int.tmod_eq_emod_of_nonneg h)
    · have e := Int.tmod_eq_emod (a := x) (b := 2)
      split at e <;> omega
  have hd : (Int.tdiv x 2 = x / 2 ∧ (0 ≤ x ∨ x % 2 = 0)) ∨ (Int.tdiv x 2 = x / 2 + 1 ∧ x < 0 ∧ x % 2 = 1) := by
    rcases Int.le_total 0 x with h | h
    · exact .inl ⟨Int.tdiv_eq_ediv_of_nonneg h, .inl h⟩
    · have e := Int.tdiv_eq_ediv (a := x) (b := 2)
      have s2 : Int.sign 2 = 1 := by decide
      split at e <;> omega
  revert ht hd
  generalize Int.tmod x 2 = r
  generalize Int.tdiv x 2 = q
  intro ht hd
  by_cases c : r = 0
  · have : q = x / 2 := by omega
    rw [if_pos c, this, HM.wrap64_id _ (by omega) (by omega)]
  · rw [if_neg c]
    by_cases c1 : x > 0
    · have : q = x / 2 := by omega
      rw [if_pos c1, this, HM.wrap64_id _ (by omega) (by omega)]
    · have : q = x / 2 + 1 := by omega
      rw [if_neg c1, this, HM.wrap64_id (x / 2 + 1) (by omega) (by omega), show x / 2 + 1 - 1 = x / 2 by omega, HM.wrap64_id _ (by omega) (by omega)]
theorem In64.half {x : Int} (h : In64 x) : In64 (x / 2) := by unfold In64 at *; omega
theorem floor_loop (n : Nat) (hn : n ≤ 1000) : ∀ (d i k : Nat) (x : Int), In64 x → n - i = d → i ≤ n → d < k → headroomref01_Floor.l0 k x n i = some (x / 2 ^ d) := by
  intro d
  induction d with
  | zero =>
    intro i k x hx hd hi hk
    obtain rfl : i = n := by omega
    cases k with
    | zero => omega
    | succ k => simp [headroomref01_Floor.l0]
  | succ d ih =>
    intro i k x hx hd hi hk
    cases k with
    | zero => omega
    | succ k =>
      have e2 : ((i : Int) + 1) = ((i + 1 : Nat) : Int) := by norm_cast
      rw [headroomref01_Floor.l0, if_pos (by omega), ref_half x hx, Option.bind_some, HM.wrap64_id _ (by omega) (by omega), e2, ih (i + 1) k _ hx.half (by omega) (by omega) (by omega)]
      congr 1
      rw [Int.ediv_ediv_of_nonneg (by omega), Int.pow_succ, Int.mul_comm]
theorem ref_floor (x : Int) (n k : Nat) (hx : In64 x) (hn : n ≤ 1000) (hk : n < k) : headroomref01_Floor.f k x n = some (x / 2 ^ n) := by
  have := floor_loop n hn n 0 k x hx (by omega) (by omega) (by omega)
  simpa [headroomref01_Floor.f] using this
theorem ref_floor' (x s : Int) (k : Nat) (hx : In64 x) (h0 : 0 ≤ s) (hn : s ≤ 1000) (hk : s < k) : headroomref01_Floor.f k x s = some (x / 2 ^ s.toNat) := by
  have := ref_floor x s.toNat k hx (by omega) (by omega)
  rwa [Int.toNat_of_nonneg h0] at this

/-- A list's element is as Lean's own. -/
theorem rd_cx (l : List S41) (i : Nat) (h : i < l.length) : rd_T41 l i = l[i] := by
  simp [rd_T41, List.getD, h]
/-- The same list is the same. -/
theorem same_loop (l : List S41) (hl : l.length ≤ 9223372036854775807) : ∀ (d i k : Nat), l.length - i = d → i ≤ l.length → d < k → headroomref03_Same.l0 k l l l.length i = some true := by
  intro d
  induction d with
  | zero =>
    intro i k hd hi hk
    cases k with
    | zero => omega
    | succ k => rw [headroomref03_Same.l0, if_neg (by omega)]
  | succ d ih =>
    intro i k hd hi hk
    cases k with
    | zero => omega
    | succ k =>
      have e2 : ((i : Int) + 1) = ((i + 1 : Nat) : Int) := by norm_cast
      rw [headroomref03_Same.l0, if_pos (by omega), if_pos (by omega), if_pos (by omega), if_pos (by omega), if_neg (by simp), HM.wrap64_id _ (by omega) (by omega), e2]
      exact ih (i + 1) k (by omega) (by omega) (by omega)
theorem ref_same (l : List S41) (k : Nat) (hl : l.length ≤ 9223372036854775807) (hk : l.length < k) : headroomref03_Same.f k l l = some true := by
  unfold headroomref03_Same.f
  rw [if_pos rfl]
  exact same_loop l hl l.length 0 k (by omega) (by omega) (by omega)

/-- The document's rounding and the program's are the same. -/
theorem ref_shift (x s m : Int) (k : Nat) (hx : In64 x) (h0 : 0 ≤ s) (h1 : s ≤ 62) (hm0 : 0 ≤ m) (hm1 : m ≤ 2) (hk : 64 < k) :
    headroomref01_Shift.f k x s m = (round_Shift.f x s m).bind fun r => some r.1 := by
  unfold headroomref01_Shift.f round_Shift.f
  rw [ref_floor' x s k hx h0 (by omega) (by omega), Option.bind_some]
  rw [if_neg (show ¬s < 0 by omega), if_neg (show ¬s > 62 by omega), if_neg (show ¬m < 0 by omega), if_neg (show ¬m ≥ 3 by omega)]
  obtain ⟨k, rfl⟩ : ∃ j, k = j + 1 := ⟨k - 1, by omega⟩
  by_cases c : s = 0
  · subst c
    simp [headroomref01_Shift.j0]
  · rw [if_neg c, if_neg c]
    by_cases cm : m = 0
    · subst cm
      simp [headroomref01_Shift.j0, upB]
    · have hb : (m == 0) = false := by simp [cm]
      rw [hb, headroomref01_Shift.j0, if_neg (by simp), ref_pow' s k h0 h1 (by omega)]
      rw [HM.wrap64_id (s - 1) (by omega) (by omega), Option.bind_some, ref_pow' (s - 1) k (by omega) (by omega) (by omega), Option.bind_some]
      have hp := HM.pow_pos s.toNat
      have hl := HM.pow_lt62 (i := s.toNat) (by omega)
      have hdm := Int.mul_ediv_add_emod x (2 ^ s.toNat)
      have hr0 := Int.emod_nonneg x (show (2 : Int) ^ s.toNat ≠ 0 by omega)
      have hr1 := Int.emod_lt_of_pos x hp
      have e1 : (s - 1).toNat = s.toNat - 1 := by omega
      have hq : In64 (x / 2 ^ s.toNat * 2 ^ s.toNat) := by
        unfold In64 at *
        have e63 : -(2 ^ (63 - s.toNat) : Int) * 2 ^ s.toNat = -9223372036854775808 := by
          rw [Int.neg_mul, ← Int.pow_add, show 63 - s.toNat + s.toNat = 63 by omega]
          decide
        have h1 : -(2 ^ (63 - s.toNat) : Int) ≤ x / 2 ^ s.toNat := Int.le_ediv_of_mul_le hp (by rw [e63]; exact hx.1)
        have h2 := Int.mul_le_mul_of_nonneg_right h1 (Int.le_of_lt hp)
        rw [e63] at h2
        refine ⟨h2, ?_⟩
        rw [Int.mul_comm]
        omega
      have hsub : x - x / 2 ^ s.toNat * 2 ^ s.toNat = x % 2 ^ s.toNat := by
        rw [Int.mul_comm]
        omega
      unfold In64 at hq hx
      rw [HM.wrap64_id _ hq.1 hq.2, hsub, HM.wrap64_id (x % 2 ^ s.toNat) (by omega) (by omega), e1]
      have ho : (Int.tmod (x / 2 ^ s.toNat) 2 != 0) = (x / 2 ^ s.toNat % 2 == 1) := by
        generalize x / 2 ^ s.toNat = q
        have e := Int.tmod_eq_emod (a := q) (b := 2)
        have s2 : Int.sign 2 = 1 := by decide
        rcases Int.emod_two_eq q with h | h
        · rw [h, e]
          have h' : ¬q % 2 = 1 := by omega
          split
          · simp [h]
          · rename_i hn
            exact absurd (.inr (Int.dvd_of_emod_eq_zero h)) hn
        · rw [h, e]
          split
          · simp [h]
          · simp [h]
      unfold upB
      rw [if_neg cm]
      by_cases cg : x % 2 ^ s.toNat > 2 ^ (s.toNat - 1)
      · rw [if_pos cg]
        by_cases c1 : m = 1
        · rw [if_pos c1, if_pos (decide_eq_true (by omega))]
          rfl
        · rw [if_neg c1, decide_eq_true (show 2 ^ (s.toNat - 1) < x % 2 ^ s.toNat by omega)]
          simp
      · rw [if_neg cg]
        by_cases ce : x % 2 ^ s.toNat = 2 ^ (s.toNat - 1)
        · rw [if_pos ce]
          by_cases c1 : m = 1
          · rw [if_pos c1, if_pos c1, if_pos (decide_eq_true (by omega))]
            rfl
          · rw [if_neg c1, if_neg c1]
            unfold headroomref01_odd.f
            rw [Option.bind_some, ho]
            by_cases hx1 : x / 2 ^ s.toNat % 2 = 1 <;> simp [ce, hx1]
        · rw [if_neg ce]
          by_cases c1 : m = 1
          · rw [if_pos c1, decide_eq_false (by omega)]
            simp
          · rw [if_neg c1, decide_eq_false (by omega), decide_eq_false ce]
            simp
end Go.Proofs.Ytpmkkidljmedaaa.X
namespace Go.Proofs.Ytpmkkidljmedaaa.X
open Go.RowKit Go.Proofs.YtpmkkidljmedaaaW.PrintWords Go.Proofs.YtpmkkidljmedaaaW.PrintLast Go.Proofs.YtpmkkidljmedaaaW.PrintMore
set_option linter.unusedVariables false

/-- Are both parts so great at most? -/
def Le (m : Int) (x : CxN) : Prop := -m ≤ x.f0 ∧ x.f0 ≤ m ∧ -m ≤ x.f1 ∧ x.f1 ≤ m

theorem norm_spec (a b : Int) (k : Nat) (hk : 30 < k) (ha : -4611686018427387904 ≤ a ∧ a ≤ 4611686018427387904) (hb : -4611686018427387904 ≤ b ∧ b ≤ 4611686018427387904) :
    headroomref16_norm.f k a b = some ((a * 1048576 + b) / 1048576, (a * 1048576 + b) % 1048576) := by
  unfold headroomref16_norm.f
  have e : (2 : Int) ^ (20 : Int).toNat = 1048576 := by decide
  have h1 := ref_floor' b 20 k ⟨by omega, by omega⟩ (by omega) (by omega) (by omega)
  have h2 := ref_pow' 20 k (by omega) (by omega) (by omega)
  rw [e] at h1 h2
  rw [h1, Option.bind_some, h2, Option.bind_some, HM.wrap64_id (a + b / 1048576) (by omega) (by omega), HM.wrap64_id (b / 1048576 * 1048576) (by omega) (by omega), HM.wrap64_id _ (by omega) (by omega)]
  congr 1
  rw [Prod.mk.injEq]
  constructor <;> omega

theorem times_spec (a b : Int) (k : Nat) (hk : 30 < k) (ha : -2147483648 ≤ a ∧ a ≤ 2147483648) (hb : -1099511627776 ≤ b ∧ b ≤ 1099511627776) :
    headroomref16_times.f k a b = some (a * b / 1048576, a * b % 1048576) := by
  unfold headroomref16_times.f
  have e : (2 : Int) ^ (20 : Int).toNat = 1048576 := by decide
  have h1 := ref_floor' b 20 k ⟨by omega, by omega⟩ (by omega) (by omega) (by omega)
  have h2 := ref_pow' 20 k (by omega) (by omega) (by omega)
  rw [e] at h1 h2
  have m1 := HM.mul_bound 2147483648 1048576 a (b / 1048576) (by omega) (by omega) (by omega) (by omega) (by omega) (by omega)
  have m2 := HM.mul_bound 2147483648 1048576 a (b - b / 1048576 * 1048576) (by omega) (by omega) (by omega) (by omega) (by omega) (by omega)
  rw [h1, Option.bind_some, h2, Option.bind_some, HM.wrap64_id (b / 1048576 * 1048576) (by omega) (by omega), HM.wrap64_id (b - b / 1048576 * 1048576) (by omega) (by omega),
    HM.wrap64_id (a * (b / 1048576)) (by omega) (by omega), HM.wrap64_id _ (by omega) (by omega), norm_spec _ _ k hk (by omega) (by omega), Option.bind_some]
  have ev : a * (b / 1048576) * 1048576 + a * (b - b / 1048576 * 1048576) = a * b := by
    rw [Int.mul_sub, Int.mul_assoc]
    omega
  rw [ev]

theorem add_spec (u v : Int) (k : Nat) (hk : 30 < k) (hu : -604462909807314587353088 ≤ u ∧ u ≤ 604462909807314587353088) (hv : -604462909807314587353088 ≤ v ∧ v ≤ 604462909807314587353088) :
    headroomref16_add.f k (u / 1048576) (u % 1048576) (v / 1048576) (v % 1048576) = some ((u + v) / 1048576, (u + v) % 1048576) := by
  unfold headroomref16_add.f
  rw [HM.wrap64_id _ (by omega) (by omega), HM.wrap64_id _ (by omega) (by omega), norm_spec _ _ k hk (by omega) (by omega), Option.bind_some]
  have e : (u / 1048576 + v / 1048576) * 1048576 + (u % 1048576 + v % 1048576) = u + v := by omega
  rw [e]
theorem less_spec (u v : Int) (k : Nat) (hk : 30 < k) (hu : -604462909807314587353088 ≤ u ∧ u ≤ 604462909807314587353088) (hv : -604462909807314587353088 ≤ v ∧ v ≤ 604462909807314587353088) :
    headroomref16_less.f k (u / 1048576) (u % 1048576) (v / 1048576) (v % 1048576) = some ((u - v) / 1048576, (u - v) % 1048576) := by
  unfold headroomref16_less.f
  rw [HM.wrap64_id _ (by omega) (by omega), HM.wrap64_id _ (by omega) (by omega), norm_spec _ _ k hk (by omega) (by omega), Option.bind_some]
  have e : (u / 1048576 - v / 1048576) * 1048576 + (u % 1048576 - v % 1048576) = u - v := by omega
  rw [e]
theorem down_spec (u : Int) (k : Nat) (hk : 30 < k) (hu : -604462909807314587353088 ≤ u ∧ u ≤ 604462909807314587353088) :
    headroomref16_down.f k (u / 1048576) (u % 1048576) = some (u / 4294967296) := by
  unfold headroomref16_down.f
  have e : (2 : Int) ^ (12 : Int).toNat = 4096 := by decide
  have h1 := ref_floor' (u / 1048576) 12 k ⟨by omega, by omega⟩ (by omega) (by omega) (by omega)
  rw [e] at h1
  rw [h1, Option.bind_some]
  congr 1
  omega

/-- A list's number, 0 beyond. -/
def cxAt (l : List CxN) (i : Nat) : CxN := l.getD i ⟨0, 0⟩
theorem rd_at (l : List CxN) (i : Nat) : rd_T41 l (i : Int) = cxAt l i := by
  unfold rd_T41 cxAt
  rw [Int.toNat_natCast]
  rfl
theorem Le.at {m : Int} (hm : 0 ≤ m) {l : List CxN} (h : ∀ x ∈ l, Le m x) (i : Nat) : Le m (cxAt l i) := by
  unfold cxAt
  rw [List.getD_eq_getElem?_getD]
  by_cases c : i < l.length
  · rw [List.getElem?_eq_getElem c]
    exact h _ (List.getElem_mem c)
  · rw [List.getElem?_eq_none (by omega)]
    unfold Le
    simp only [Option.getD_none]
    omega
/-- The root that number j is turned by in bin k. -/
def turnBy (t : List CxN) (n k : Nat) (inv : Bool) (j : Nat) : CxN := if inv = true then ⟨(cxAt t (j * k % n)).f0, -(cxAt t (j * k % n)).f1⟩ else cxAt t (j * k % n)
theorem Le.turnBy {m : Int} (hm : 0 ≤ m) {t : List CxN} (h : ∀ x ∈ t, Le m x) (n k : Nat) (inv : Bool) (j : Nat) : Le m (turnBy t n k inv j) := by
  have := Le.at hm h (j * k % n)
  unfold X.turnBy
  unfold Le at *
  split <;> (try dsimp only) <;> omega
def vre (l t : List CxN) (n k : Nat) (inv : Bool) : Nat → Int
  | 0 => 0
  | j + 1 => vre l t n k inv j + ((cxAt l j).f0 * (turnBy t n k inv j).f0 - (cxAt l j).f1 * (turnBy t n k inv j).f1)
def vim (l t : List CxN) (n k : Nat) (inv : Bool) : Nat → Int
  | 0 => 0
  | j + 1 => vim l t n k inv j + ((cxAt l j).f0 * (turnBy t n k inv j).f1 + (cxAt l j).f1 * (turnBy t n k inv j).f0)
/-- A bin. -/
def binV (l t : List CxN) (n : Nat) (inv : Bool) (k : Nat) : CxN := ⟨vre l t n k inv n / 4294967296, vim l t n k inv n / 4294967296⟩

theorem prod_bound (a b : Int) (ha : -2147483648 ≤ a ∧ a ≤ 2147483648) (hb : -1099511627776 ≤ b ∧ b ≤ 1099511627776) : -2361183241434822606848 ≤ a * b ∧ a * b ≤ 2361183241434822606848 := by
  have := HM.mul_bound 2147483648 1099511627776 a b (by omega) (by omega) (by omega) (by omega) (by omega) (by omega)
  omega
theorem v_bound {l t : List CxN} {n : Nat} (hl : ∀ x ∈ l, Le 2147483648 x) (ht : ∀ x ∈ t, Le 1099511627776 x) (k : Nat) (inv : Bool) (j : Nat) : -(4722366482869645213696 * (j : Int)) ≤ vre l t n k inv j ∧ vre l t n k inv j ≤ 4722366482869645213696 * j ∧ -(4722366482869645213696 * (j : Int)) ≤ vim l t n k inv j ∧ vim l t n k inv j ≤ 4722366482869645213696 * j := by
  induction j with
  | zero => simp [vre, vim]
  | succ j ih =>
    have hx := Le.at (by omega) hl j
    have hr := Le.turnBy (by omega) ht n k inv j
    unfold Le at hx hr
    have p1 := prod_bound (cxAt l j).f0 (turnBy t n k inv j).f0 (by omega) (by omega)
    have p2 := prod_bound (cxAt l j).f1 (turnBy t n k inv j).f1 (by omega) (by omega)
    have p3 := prod_bound (cxAt l j).f0 (turnBy t n k inv j).f1 (by omega) (by omega)
    have p4 := prod_bound (cxAt l j).f1 (turnBy t n k inv j).f0 (by omega) (by omega)
    simp only [vre, vim]
    push_cast
    omega
/-- The document's bin. -/
theorem refbin_loop {l t : List CxN} {n : Nat} (hl : ∀ x ∈ l, Le 2147483648 x) (ht : ∀ x ∈ t, Le 1099511627776 x) (hln : l.length = n) (htn : t.length = n) (hn : n ≤ 64) (k : Nat) (hk : k < n) (inv : Bool) : ∀ (d j K : Nat), n - j = d → j ≤ n → d + 40 < K →
    headroomref16_Bin.l0 K t k inv n l n j (vre l t n k inv j / 1048576) (vre l t n k inv j % 1048576) (vim l t n k inv j / 1048576) (vim l t n k inv j % 1048576) = some (vre l t n k inv n / 4294967296, vim l t n k inv n / 4294967296) := by
  intro d
  induction d with
  | zero =>
    intro j K hd hj hK
    obtain rfl : j = n := by omega
    obtain ⟨K, rfl⟩ : ∃ K', K = K' + 1 := ⟨K - 1, by omega⟩
    have hb := v_bound (n := j) hl ht k inv j
    rw [headroomref16_Bin.l0, if_neg (by omega), down_spec _ K (by omega) (by omega), Option.bind_some, down_spec _ K (by omega) (by omega), Option.bind_some]
  | succ d ih =>
    intro j K hd hj hK
    obtain ⟨K, rfl⟩ : ∃ K', K = K' + 1 := ⟨K - 1, by omega⟩
    have hb := v_bound (n := n) hl ht k inv j
    have hx := Le.at (by omega) hl j
    have hr := Le.turnBy (by omega) ht n k inv j
    have hjk : j * k < 64 * 64 := Nat.mul_lt_mul_of_lt_of_le (by omega) (by omega) (by omega)
    have hmod : Int.tmod (wrap64 ((j : Int) * (k : Int))) (n : Int) = ((j * k % n : Nat) : Int) := by
      rw [HM.wrap64_id _ (by rw [← Int.natCast_mul]; omega) (by rw [← Int.natCast_mul]; omega), ← Int.natCast_mul, Int.tmod_eq_emod_of_nonneg (by omega), ← Int.natCast_emod]
    have hlt : j * k % n < n := Nat.mod_lt _ (by omega)
    have hroot : headroomref10_Root.f t (Int.tmod (wrap64 ((j : Int) * (k : Int))) (n : Int)) inv = some ((turnBy t n k inv j).f0, (turnBy t n k inv j).f1) := by
      rw [hmod]
      unfold headroomref10_Root.f turnBy
      have hc := Le.at (by omega) ht (j * k % n)
      unfold Le at hc
      cases inv
      · rw [if_neg (by simp), if_pos (by omega), if_pos (by omega), rd_at]
        simp
      · rw [if_pos rfl, if_pos (by omega), if_pos (by omega), rd_at]
        unfold headroomref03_Conj.f
        rw [Option.bind_some, HM.wrap64_id _ (by omega) (by omega)]
        simp
    have e2 : ((j : Int) + 1) = ((j + 1 : Nat) : Int) := by norm_cast
    unfold Le at hx hr
    have p1 := prod_bound (cxAt l j).f0 (turnBy t n k inv j).f0 (by omega) (by omega)
    have p2 := prod_bound (cxAt l j).f1 (turnBy t n k inv j).f1 (by omega) (by omega)
    have p3 := prod_bound (cxAt l j).f0 (turnBy t n k inv j).f1 (by omega) (by omega)
    have p4 := prod_bound (cxAt l j).f1 (turnBy t n k inv j).f0 (by omega) (by omega)
    rw [headroomref16_Bin.l0, if_pos (by omega), if_pos (by omega), if_pos (by omega), if_neg (by omega), hroot, Option.bind_some, rd_at]
    simp only
    rw [times_spec (cxAt l j).f0 (turnBy t n k inv j).f0 K (by omega) (by omega) (by omega), Option.bind_some,
      add_spec _ _ K (by omega) (by omega) (by omega), Option.bind_some,
      times_spec (cxAt l j).f1 (turnBy t n k inv j).f1 K (by omega) (by omega) (by omega), Option.bind_some,
      less_spec _ _ K (by omega) (by omega) (by omega), Option.bind_some,
      times_spec (cxAt l j).f0 (turnBy t n k inv j).f1 K (by omega) (by omega) (by omega), Option.bind_some,
      add_spec _ _ K (by omega) (by omega) (by omega), Option.bind_some,
      times_spec (cxAt l j).f1 (turnBy t n k inv j).f0 K (by omega) (by omega) (by omega), Option.bind_some,
      add_spec _ _ K (by omega) (by omega) (by omega), Option.bind_some, HM.wrap64_id _ (by omega) (by omega), e2]
    have q1 : vre l t n k inv j + (cxAt l j).f0 * (turnBy t n k inv j).f0 - (cxAt l j).f1 * (turnBy t n k inv j).f1 = vre l t n k inv (j + 1) := by
      simp only [vre]
      omega
    have q2 : vim l t n k inv j + (cxAt l j).f0 * (turnBy t n k inv j).f1 + (cxAt l j).f1 * (turnBy t n k inv j).f0 = vim l t n k inv (j + 1) := by
      simp only [vim]
      omega
    rw [q1, q2]
    exact ih (j + 1) K (by omega) (by omega) (by omega)
theorem ref_bin {l t : List CxN} {n : Nat} (hl : ∀ x ∈ l, Le 2147483648 x) (ht : ∀ x ∈ t, Le 1099511627776 x) (hln : l.length = n) (htn : t.length = n) (hn : n ≤ 64) (k : Nat) (hk : k < n) (inv : Bool) (K : Nat) (hK : n + 40 < K) : headroomref16_Bin.f K l t k inv = some ((binV l t n inv k).f0, (binV l t n inv k).f1) := by
  unfold headroomref16_Bin.f
  have := refbin_loop hl ht hln htn hn k hk inv n 0 K (by omega) (by omega) (by omega)
  rw [hln]
  simpa [vre, vim, binV] using this

/-- The program's two parts of a sum. -/
theorem addHi_val (hi a b : Int) (h0 : -4611686018427387904 ≤ hi + a / 65536 * b ∧ hi + a / 65536 * b ≤ 4611686018427387904) (h1 : -72057594037927936 ≤ a / 65536 * b ∧ a / 65536 * b ≤ 72057594037927936) : addHi hi a b = hi + a / 65536 * b := by
  unfold addHi
  rw [HM.wrap64_id (a / 65536 * b) (by omega) (by omega), HM.wrap64_id _ (by omega) (by omega)]
theorem addLo_val (lo a b : Int) (h0 : -9223372036854775808 ≤ lo + a % 65536 * b ∧ lo + a % 65536 * b < 9223372036854775808) (h1 : -72057594037927936 ≤ a % 65536 * b ∧ a % 65536 * b ≤ 72057594037927936) : addLo lo a b = lo + a % 65536 * b := by
  unfold addLo
  rw [HM.wrap64_id (a % 65536 * b) (by omega) (by omega), HM.wrap64_id _ (by omega) (by omega)]
/-- One of 80 bits, and how great its parts may be after so many products. -/
def SumOk (m : Nat) (hi lo v : Int) : Prop := hi * 65536 + lo = v ∧ -(36028797018963968 * (m : Int)) ≤ hi ∧ hi ≤ 36028797018963968 * m ∧ -(72056494526300160 * (m : Int)) ≤ lo ∧ lo ≤ 72056494526300160 * m
theorem SumOk.add {m : Nat} {hi lo v a b : Int} (h : SumOk m hi lo v) (hm : m < 128) (ha : -2147483648 ≤ a ∧ a ≤ 2147483648) (hb : -1099511627776 ≤ b ∧ b ≤ 1099511627776) : SumOk (m + 1) (addHi hi a b) (addLo lo a b) (v + a * b) := by
  obtain ⟨h1, h2, h3, h4, h5⟩ := h
  have m1 := HM.mul_bound 32768 1099511627776 (a / 65536) b (by omega) (by omega) (by omega) (by omega) (by omega) (by omega)
  have m2 := HM.mul_bound 65535 1099511627776 (a % 65536) b (by omega) (by omega) (by omega) (by omega) (by omega) (by omega)
  have e : a / 65536 * b * 65536 + a % 65536 * b = a * b := by
    have := Int.mul_ediv_add_emod a 65536
    calc a / 65536 * b * 65536 + a % 65536 * b = (65536 * (a / 65536) + a % 65536) * b := by rw [Int.add_mul, Int.mul_right_comm, Int.mul_comm (a / 65536) 65536]
      _ = a * b := by rw [this]
  rw [addHi_val hi a b (by omega) (by omega), addLo_val lo a b (by omega) (by omega)]
  unfold SumOk
  push_cast
  omega
theorem SumOk.down {m : Nat} {hi lo v : Int} (h : SumOk m hi lo v) (hm : m ≤ 128) : sumDown hi lo = v / 4294967296 := by
  obtain ⟨h1, h2, h3, h4, h5⟩ := h
  unfold sumDown
  rw [HM.wrap64_id _ (by omega) (by omega)]
  omega
theorem binTo_val {l t : List CxN} {n : Nat} (hl : ∀ x ∈ l, Le 2147483648 x) (ht : ∀ x ∈ t, Le 1099511627776 x) {e : Nat} (he : e ≤ 6) (hn : n = 2 ^ e) (hln : l.length = n) (htn : t.length = n) (k : Nat) (hk : k < n) (inv : Bool) : ∀ j, j ≤ n → ∃ s : Sums, binTo l t k inv j = some s ∧ SumOk (2 * j) s.1 s.2.1 (vre l t n k inv j) ∧ SumOk (2 * j) s.2.2.1 s.2.2.2 (vim l t n k inv j) := by
  intro j
  induction j with
  | zero => intro _; exact ⟨(0, 0, 0, 0), rfl, by simp [SumOk, vre], by simp [SumOk, vim]⟩
  | succ j ih =>
    intro hj
    obtain ⟨s, hs, h1, h2⟩ := ih (by omega)
    have h64 : n ≤ 64 := by
      have : 2 ^ e ≤ 2 ^ 6 := Nat.pow_le_pow_right (by omega) he
      omega
    have hx := Le.at (by omega) hl j
    have hr := Le.turnBy (by omega) ht n k inv j
    have hjk : j * k < 64 * 64 := Nat.mul_lt_mul_of_lt_of_le (by omega) (by omega) (by omega)
    have hnE : (n : Int) = 2 ^ e := by rw [hn]; norm_cast
    have hmod : bits .and .i64 (wrap64 ((j : Int) * (k : Int))) ((n : Int) - 1) = ((j * k % n : Nat) : Int) := by
      rw [HM.wrap64_id _ (by rw [← Int.natCast_mul]; omega) (by rw [← Int.natCast_mul]; omega), ← Int.natCast_mul, hnE, HM.and_mask _ e (by omega), ← hnE, ← Int.natCast_emod]
    have hlt : j * k % n < n := Nat.mod_lt _ (by omega)
    have hroot : binRoot t l.length k inv j = some (turnBy t n k inv j) := by
      have hc := Le.at (by omega) ht (j * k % n)
      unfold Le at hc
      unfold binRoot
      rw [hln, hmod, if_pos ⟨by omega, by omega⟩, rd_at]
      unfold turnBy
      cases inv
      · simp
      · rw [if_pos rfl, if_pos rfl]
        unfold cx_Conj.f
        rw [if_pos (by unfold cxIn; simp; omega)]
        rfl
    unfold Le at hx hr
    refine ⟨binStep (cxAt l j) (turnBy t n k inv j) s, ?_, ?_, ?_⟩
    · rw [binTo, hs, Option.bind_some, hroot, Option.bind_some, rd_at]
    · have g1 := h1.add (a := (cxAt l j).f0) (b := (turnBy t n k inv j).f0) (by omega) (by omega) (by omega)
      have g2 := g1.add (a := wrap64 (-(cxAt l j).f1)) (b := (turnBy t n k inv j).f1) (by omega) (by rw [HM.wrap64_id _ (by omega) (by omega)]; omega) (by omega)
      rw [show vre l t n k inv j + (cxAt l j).f0 * (turnBy t n k inv j).f0 + wrap64 (-(cxAt l j).f1) * (turnBy t n k inv j).f1 = vre l t n k inv (j + 1) by
        rw [HM.wrap64_id _ (by omega) (by omega), Int.neg_mul]; simp only [vre]; omega] at g2
      exact g2
    · have g1 := h2.add (a := (cxAt l j).f0) (b := (turnBy t n k inv j).f1) (by omega) (by omega) (by omega)
      have g2 := g1.add (a := (cxAt l j).f1) (b := (turnBy t n k inv j).f0) (by omega) (by omega) (by omega)
      rw [show vim l t n k inv j + (cxAt l j).f0 * (turnBy t n k inv j).f1 + (cxAt l j).f1 * (turnBy t n k inv j).f0 = vim l t n k inv (j + 1) by
        simp only [vim]; omega] at g2
      exact g2
theorem prog_bin {l t : List CxN} {n : Nat} (hl : ∀ x ∈ l, Le 2147483648 x) (ht : ∀ x ∈ t, Le 1099511627776 x) {e : Nat} (he : e ≤ 6) (hn : n = 2 ^ e) (hln : l.length = n) (htn : t.length = n) (k : Nat) (hk : k < n) (inv : Bool) : dft_bin.f l t k inv = some ((binV l t n inv k).f0, (binV l t n inv k).f1) := by
  obtain ⟨s, hs, h1, h2⟩ := binTo_val hl ht he hn hln htn k hk inv n (Nat.le_refl n)
  have h64 : n ≤ 64 := by
    have : 2 ^ e ≤ 2 ^ 6 := Nat.pow_le_pow_right (by omega) he
    omega
  unfold dft_bin.f
  rw [hln, hs, Option.bind_some, h1.down (by omega), h2.down (by omega)]
  rfl
end Go.Proofs.Ytpmkkidljmedaaa.X
namespace Go.Proofs.Ytpmkkidljmedaaa.X
open Go.RowKit Go.Proofs.YtpmkkidljmedaaaW.PrintWords Go.Proofs.YtpmkkidljmedaaaW.PrintLast Go.Proofs.YtpmkkidljmedaaaW.PrintMore
set_option linter.unusedVariables false

theorem logs_at (n : Int) (k : Nat) (hk : 20 < k) : (flip_Log.f k n = if n = 4 then some (2, 0) else if n = 8 then some (3, 0) else if n = 16 then some (4, 0) else if n = 32 then some (5, 0) else if n = 64 then some (6, 0) else some (0, 3)) ∧
    (headroomref08_Log.f k n = if n = 4 then some 2 else if n = 8 then some 3 else if n = 16 then some 4 else if n = 32 then some 5 else if n = 64 then some 6 else some (-1)) := by
  obtain ⟨k, rfl⟩ : ∃ j, k = j + 6 := ⟨k - 6, by omega⟩
  have s2 : shl .i64 1 2 = 4 := by decide +kernel
  have s3 : shl .i64 1 3 = 8 := by decide +kernel
  have s4 : shl .i64 1 4 = 16 := by decide +kernel
  have s5 : shl .i64 1 5 = 32 := by decide +kernel
  have s6 : shl .i64 1 6 = 64 := by decide +kernel
  have w2 : wrap64 (2 + 1) = 3 := by decide +kernel
  have w3 : wrap64 (3 + 1) = 4 := by decide +kernel
  have w4 : wrap64 (4 + 1) = 5 := by decide +kernel
  have w5 : wrap64 (5 + 1) = 6 := by decide +kernel
  have w6 : wrap64 (6 + 1) = 7 := by decide +kernel
  have p2 : ∀ j, 6 < j → headroomref01_Pow.f j 2 = some 4 := fun j h => ref_pow' 2 j (by omega) (by omega) (by omega)
  have p3 : ∀ j, 6 < j → headroomref01_Pow.f j 3 = some 8 := fun j h => ref_pow' 3 j (by omega) (by omega) (by omega)
  have p4 : ∀ j, 6 < j → headroomref01_Pow.f j 4 = some 16 := fun j h => ref_pow' 4 j (by omega) (by omega) (by omega)
  have p5 : ∀ j, 6 < j → headroomref01_Pow.f j 5 = some 32 := fun j h => ref_pow' 5 j (by omega) (by omega) (by omega)
  have p6 : ∀ j, 6 < j → headroomref01_Pow.f j 6 = some 64 := fun j h => ref_pow' 6 j (by omega) (by omega) (by omega)
  have hf : flip_Log.f (k + 6) n = if n = 4 then some (2, 0) else if n = 8 then some (3, 0) else if n = 16 then some (4, 0) else if n = 32 then some (5, 0) else if n = 64 then some (6, 0) else some (0, 3) := by
    unfold flip_Log.f
    rw [flip_Log.l0, flip_Log.l0, flip_Log.l0, flip_Log.l0, flip_Log.l0, flip_Log.l0, s2, w2, s3, w3, s4, w4, s5, w5, s6, w6]
    simp
  have hr : headroomref08_Log.f (k + 6) n = if n = 4 then some 2 else if n = 8 then some 3 else if n = 16 then some 4 else if n = 32 then some 5 else if n = 64 then some 6 else some (-1) := by
    unfold headroomref08_Log.f
    rw [headroomref08_Log.l0, headroomref08_Log.l0, headroomref08_Log.l0, headroomref08_Log.l0, headroomref08_Log.l0, headroomref08_Log.l0, p2 _ (by omega), w2, p3 _ (by omega), w3, p4 _ (by omega), w4, p5 _ (by omega), w5, p6 _ (by omega), w6]
    simp [eq_comm]
  exact ⟨hf, hr⟩
theorem logs (n : Int) : (∀ k, 20 < k → flip_Log.f k n = some (0, 3) ∧ headroomref08_Log.f k n = some (-1)) ∨
    ∃ e : Nat, 2 ≤ e ∧ e ≤ 6 ∧ n = 2 ^ e ∧ ∀ k, 20 < k → flip_Log.f k n = some ((e : Int), 0) ∧ headroomref08_Log.f k n = some (e : Int) := by
  by_cases c2 : n = 4
  · exact .inr ⟨2, by omega, by omega, by rw [c2]; decide, fun k hk => by rw [(logs_at n k hk).1, (logs_at n k hk).2]; simp [c2]⟩
  by_cases c3 : n = 8
  · exact .inr ⟨3, by omega, by omega, by rw [c3]; decide, fun k hk => by rw [(logs_at n k hk).1, (logs_at n k hk).2]; simp [c3]⟩
  by_cases c4 : n = 16
  · exact .inr ⟨4, by omega, by omega, by rw [c4]; decide, fun k hk => by rw [(logs_at n k hk).1, (logs_at n k hk).2]; simp [c4]⟩
  by_cases c5 : n = 32
  · exact .inr ⟨5, by omega, by omega, by rw [c5]; decide, fun k hk => by rw [(logs_at n k hk).1, (logs_at n k hk).2]; simp [c5]⟩
  by_cases c6 : n = 64
  · exact .inr ⟨6, by omega, by omega, by rw [c6]; decide, fun k hk => by rw [(logs_at n k hk).1, (logs_at n k hk).2]; simp [c6]⟩
  exact .inl fun k hk => by rw [(logs_at n k hk).1, (logs_at n k hk).2]; simp [c2, c3, c4, c5, c6]

/-- Are a number's parts between -2^31 and 2^31? -/
def narrowB (z : CxN) : Bool := decide (-2147483648 ≤ z.f0) && decide (z.f0 ≤ 2147483648) && decide (-2147483648 ≤ z.f1) && decide (z.f1 ≤ 2147483648)
theorem narrowB_le {z : CxN} (h : narrowB z = true) : Le 2147483648 z := by
  simp only [narrowB, Bool.and_eq_true, decide_eq_true_eq] at h
  unfold Le
  omega
/-- The greatest of a number and the parts of another one, all without their signs. -/
def grow (m : Int) (z : CxN) : Int := mx (mx (mx (mx m z.f0) (-z.f0)) z.f1) (-z.f1)
theorem mx_le (a b c : Int) : mx a b ≤ c ↔ a ≤ c ∧ b ≤ c := by unfold mx; split <;> omega
theorem le_mx (a b : Int) : a ≤ mx a b ∧ b ≤ mx a b := by unfold mx; split <;> omega
theorem greatest_three (m : Int) (z : CxN) (k : Nat) (hk : 5 < k) (hm : 0 ≤ m ∧ m ≤ 2147483648) (hz : Le 2147483648 z) : scan_greatest.f k [m, z.f0, z.f1] = some (grow m z) := by
  obtain ⟨k, rfl⟩ : ∃ j, k = j + 4 := ⟨k - 4, by omega⟩
  unfold Le at hz
  have w0 : wrap64 (0 + 1) = 1 := by decide +kernel
  have w1 : wrap64 (1 + 1) = 2 := by decide +kernel
  have w2 : wrap64 (2 + 1) = 3 := by decide +kernel
  unfold scan_greatest.f
  rw [scan_greatest.l0, w0, scan_greatest.l0, w1, scan_greatest.l0, w2, scan_greatest.l0]
  have r0 : rd [m, z.f0, z.f1] 0 = m := rfl
  have r1 : rd [m, z.f0, z.f1] 1 = z.f0 := rfl
  have r2 : rd [m, z.f0, z.f1] 2 = z.f1 := rfl
  rw [r0, r1, r2, HM.wrap64_id (-m) (by omega) (by omega), HM.wrap64_id (-z.f0) (by omega) (by omega), HM.wrap64_id (-z.f1) (by omega) (by omega)]
  have hm0 : mx (mx 0 m) (-m) = m := by unfold mx; split <;> split <;> omega
  rw [hm0]
  simp [grow]
theorem grow_bound {m : Int} {z : CxN} (hm : 0 ≤ m ∧ m ≤ 2147483648) (hz : Le 2147483648 z) : 0 ≤ grow m z ∧ grow m z ≤ 2147483648 := by
  unfold Le at hz
  unfold grow
  have h1 := le_mx m z.f0
  have h2 := le_mx (mx m z.f0) (-z.f0)
  have h3 := le_mx (mx (mx m z.f0) (-z.f0)) z.f1
  have h4 := le_mx (mx (mx (mx m z.f0) (-z.f0)) z.f1) (-z.f1)
  refine ⟨by omega, ?_⟩
  simp only [mx_le]
  omega
/-- The greatest part of numbers, without its sign. -/
def maxAll (l : List CxN) : Int := l.foldl grow 0
theorem maxTo_bound (l : List CxN) (hl : ∀ z ∈ l, Le 2147483648 z) : ∀ m, 0 ≤ m ∧ m ≤ 2147483648 → 0 ≤ l.foldl grow m ∧ l.foldl grow m ≤ 2147483648 := by
  induction l with
  | nil => intro m h; exact h
  | cons z l ih => intro m h; exact ih (fun z hz => hl z (List.mem_cons_of_mem _ hz)) _ (grow_bound h (hl z List.mem_cons_self))
theorem drop_at (l : List CxN) (i : Nat) (h : i < l.length) : l.drop i = cxAt l i :: l.drop (i + 1) := by
  rw [List.drop_eq_getElem_cons h]
  simp [cxAt, h]
theorem scan_loop (l : List CxN) (hl : l.length ≤ 1000000) : ∀ (d i k : Nat) (m : Int), l.length - i = d → i ≤ l.length → d + 10 < k → (0 ≤ m ∧ m ≤ 2147483648) →
    scan_Max.l0 k m l l.length i = if (l.drop i).all narrowB = true then some ((l.drop i).foldl grow m, 0) else some (0, 2) := by
  intro d
  induction d with
  | zero =>
    intro i k m hd hi hk hm
    obtain ⟨k, rfl⟩ : ∃ j, k = j + 1 := ⟨k - 1, by omega⟩
    rw [scan_Max.l0, if_neg (by omega), List.drop_of_length_le (by omega)]
    simp
  | succ d ih =>
    intro i k m hd hi hk hm
    obtain ⟨k, rfl⟩ : ∃ j, k = j + 1 := ⟨k - 1, by omega⟩
    have e2 : ((i : Int) + 1) = ((i + 1 : Nat) : Int) := by norm_cast
    rw [scan_Max.l0, if_pos (by omega), if_pos (by omega), if_pos (by omega), rd_at, drop_at l i (by omega), HM.wrap64_id _ (by omega) (by omega), e2]
    rw [List.all_cons, List.foldl_cons]
    by_cases c : narrowB (cxAt l i) = true
    · have hz := narrowB_le c
      have hz' := hz
      unfold Le at hz'
      have h1 : ¬ mn (cxAt l i).f0 (cxAt l i).f1 < -2147483648 := by unfold mn; split <;> omega
      have h2 : ¬ mx (cxAt l i).f0 (cxAt l i).f1 > 2147483648 := by unfold mx; split <;> omega
      rw [if_neg h1, if_neg h2, greatest_three m _ k (by omega) hm hz, Option.bind_some, ih (i + 1) k _ (by omega) (by omega) (by omega) (grow_bound hm hz), c, Bool.true_and]
    · rw [Bool.not_eq_true] at c
      have hff : ∀ a b : Option (Int × Int), (if false = true then a else b) = b := fun _ _ => rfl
      rw [c, Bool.false_and, hff]
      simp only [narrowB, Bool.and_eq_false_iff, decide_eq_false_iff_not] at c
      by_cases h1 : mn (cxAt l i).f0 (cxAt l i).f1 < -2147483648
      · rw [if_pos h1]
      · rw [if_neg h1]
        have h2 : mx (cxAt l i).f0 (cxAt l i).f1 > 2147483648 := by
          unfold mn at h1
          unfold mx
          split at h1 <;> split <;> omega
        rw [if_pos h2]
theorem scan_val (l : List CxN) (hl : l.length ≤ 1000000) (k : Nat) (hk : l.length + 10 < k) : scan_Max.f k l = if l.all narrowB = true then some (maxAll l, 0) else some (0, 2) := by
  have := scan_loop l hl l.length 0 k 0 (by omega) (by omega) (by omega) (by omega)
  simpa [scan_Max.f, maxAll] using this
theorem narrow_loop (l : List CxN) (hl : l.length ≤ 1000000) : ∀ (d i k : Nat), l.length - i = d → i ≤ l.length → d + 40 < k →
    headroomref09_Narrow.l0 k l l.length i = some ((l.drop i).all narrowB) := by
  intro d
  induction d with
  | zero =>
    intro i k hd hi hk
    obtain ⟨k, rfl⟩ : ∃ j, k = j + 1 := ⟨k - 1, by omega⟩
    rw [headroomref09_Narrow.l0, if_neg (by omega), List.drop_of_length_le (by omega)]
    rfl
  | succ d ih =>
    intro i k hd hi hk
    obtain ⟨k, rfl⟩ : ∃ j, k = j + 1 := ⟨k - 1, by omega⟩
    have e2 : ((i : Int) + 1) = ((i + 1 : Nat) : Int) := by norm_cast
    have e31 : headroomref01_Pow.f k 31 = some 2147483648 := ref_pow' 31 k (by omega) (by omega) (by omega)
    have wn : wrap64 (-2147483648) = -2147483648 := by decide +kernel
    rw [headroomref09_Narrow.l0, if_pos (by omega), if_pos (by omega), if_pos (by omega), rd_at, drop_at l i (by omega), HM.wrap64_id _ (by omega) (by omega), e2, e31, Option.bind_some]
    have hw : headroomref03_Within.f (cxAt l i).f0 (cxAt l i).f1 2147483648 = some (narrowB (cxAt l i)) := by
      unfold headroomref03_Within.f narrowB
      rw [wn]
      by_cases c1 : (cxAt l i).f0 ≤ 2147483648 <;> by_cases c2 : -2147483648 ≤ (cxAt l i).f0 <;> by_cases c3 : (cxAt l i).f1 ≤ 2147483648 <;> by_cases c4 : -2147483648 ≤ (cxAt l i).f1 <;> simp [c1, c2, c3, c4]
    rw [hw, Option.bind_some, List.all_cons]
    cases narrowB (cxAt l i)
    · simp
    · rw [if_pos rfl, ih (i + 1) k (by omega) (by omega) (by omega)]
      simp
theorem narrow_val (l : List CxN) (hl : l.length ≤ 1000000) (k : Nat) (hk : l.length + 40 < k) : headroomref09_Narrow.f k l = some (l.all narrowB) := by
  have := narrow_loop l hl l.length 0 k (by omega) (by omega) (by omega)
  simpa [headroomref09_Narrow.f] using this
end Go.Proofs.Ytpmkkidljmedaaa.X
namespace Go.Proofs.Ytpmkkidljmedaaa.X
open Go.RowKit Go.Proofs.YtpmkkidljmedaaaW.PrintWords Go.Proofs.YtpmkkidljmedaaaW.PrintLast Go.Proofs.YtpmkkidljmedaaaW.PrintMore
set_option linter.unusedVariables false

def sameCxs : List CxN → List CxN → Bool
  | [], [] => true
  | x :: a, y :: b => (x.f0 == y.f0) && (x.f1 == y.f1) && sameCxs a b
  | _, _ => false
theorem sameCxs_eq : ∀ a b : List CxN, sameCxs a b = true → a = b
  | [], [], _ => rfl
  | x :: a, y :: b, h => by
    simp only [sameCxs, Bool.and_eq_true, beq_iff_eq] at h
    obtain ⟨⟨h0, h1⟩, h2⟩ := h
    rw [sameCxs_eq a b h2]
    cases x; cases y
    simp only at h0 h1
    rw [h0, h1]
  | [], _ :: _, h => by simp [sameCxs] at h
  | _ :: _, [], h => by simp [sameCxs] at h
def cxLe (m : Int) (x : CxN) : Bool := decide (-m ≤ x.f0) && decide (x.f0 ≤ m) && decide (-m ≤ x.f1) && decide (x.f1 ≤ m)
/-- Both tables come, are this list, as long as it should be, and no part is greater than 1. -/
def tabsOk (log bits : Int) (lit : List CxN) : Bool := match roots_Table.f log bits, headroomref07_Table.f 200 log bits with
  | some (a, e), some b => (e == 0) && sameCxs a lit && sameCxs b lit && (lit.length == 2 ^ log.toNat) && lit.all (cxLe (2 ^ bits.toNat))
  | _, _ => false
theorem tabsOk_spec {e : Nat} {bits : Int} {lit : List CxN} (h : tabsOk e bits lit = true) : roots_Table.f e bits = some (lit, 0) ∧ headroomref07_Table.f 200 e bits = some lit ∧ lit.length = 2 ^ e ∧ ∀ x ∈ lit, -(2 ^ bits.toNat) ≤ x.f0 ∧ x.f0 ≤ 2 ^ bits.toNat ∧ -(2 ^ bits.toNat) ≤ x.f1 ∧ x.f1 ≤ 2 ^ bits.toNat := by
  unfold tabsOk at h
  split at h
  · rename_i a er b h1 h2
    simp only [Bool.and_eq_true, beq_iff_eq, Int.toNat_natCast] at h
    obtain ⟨⟨⟨⟨rfl, hs⟩, hb⟩, hl⟩, ha⟩ := h
    have e1 := sameCxs_eq _ _ hs
    have e2 := sameCxs_eq _ _ hb
    subst e1
    subst e2
    refine ⟨h1, h2, hl, fun x hx => ?_⟩
    have := List.all_eq_true.1 ha x hx
    simp only [cxLe, Bool.and_eq_true, decide_eq_true_eq] at this
    omega
  · cases h
end Go.Proofs.Ytpmkkidljmedaaa.X
namespace Go.Proofs.Ytpmkkidljmedaaa.X
open Go.RowKit Go.Proofs.YtpmkkidljmedaaaW.PrintWords Go.Proofs.YtpmkkidljmedaaaW.PrintLast Go.Proofs.YtpmkkidljmedaaaW.PrintMore
/-- The roots of the lengths 4 to 64. -/
def lit40 : Nat → List CxN
  | 2 => [⟨1099511627776, 0⟩, ⟨0, -1099511627776⟩, ⟨-1099511627776, 0⟩, ⟨0, 1099511627776⟩]
  | 3 => [⟨1099511627776, 0⟩, ⟨777472127994, -777472127994⟩, ⟨0, -1099511627776⟩, ⟨-777472127994, -777472127994⟩, ⟨-1099511627776, 0⟩, ⟨-777472127994, 777472127994⟩, ⟨0, 1099511627776⟩, ⟨777472127994, 777472127994⟩]
  | 4 => [⟨1099511627776, 0⟩, ⟨1015816288660, -420764883643⟩, ⟨777472127994, -777472127994⟩, ⟨420764883643, -1015816288660⟩, ⟨0, -1099511627776⟩, ⟨-420764883643, -1015816288660⟩, ⟨-777472127994, -777472127994⟩, ⟨-1015816288660, -420764883643⟩,
    ⟨-1099511627776, 0⟩, ⟨-1015816288660, 420764883643⟩, ⟨-777472127994, 777472127994⟩, ⟨-420764883643, 1015816288660⟩, ⟨0, 1099511627776⟩, ⟨420764883643, 1015816288660⟩, ⟨777472127994, 777472127994⟩, ⟨1015816288660, 420764883643⟩]
  | 5 => [⟨1099511627776, 0⟩, ⟨1078384820155, -214504077523⟩, ⟨1015816288660, -420764883643⟩, ⟨914210506869, -610855931251⟩, ⟨777472127994, -777472127994⟩, ⟨610855931251, -914210506869⟩, ⟨420764883643, -1015816288660⟩, ⟨214504077523, -1078384820155⟩,
    ⟨0, -1099511627776⟩, ⟨-214504077523, -1078384820155⟩, ⟨-420764883643, -1015816288660⟩, ⟨-610855931251, -914210506869⟩, ⟨-777472127994, -777472127994⟩, ⟨-914210506869, -610855931251⟩, ⟨-1015816288660, -420764883643⟩, ⟨-1078384820155, -214504077523⟩,
    ⟨-1099511627776, 0⟩, ⟨-1078384820155, 214504077523⟩, ⟨-1015816288660, 420764883643⟩, ⟨-914210506869, 610855931251⟩, ⟨-777472127994, 777472127994⟩, ⟨-610855931251, 914210506869⟩, ⟨-420764883643, 1015816288660⟩, ⟨-214504077523, 1078384820155⟩,
    ⟨0, 1099511627776⟩, ⟨214504077523, 1078384820155⟩, ⟨420764883643, 1015816288660⟩, ⟨610855931251, 914210506869⟩, ⟨777472127994, 777472127994⟩, ⟨914210506869, 610855931251⟩, ⟨1015816288660, 420764883643⟩, ⟨1078384820155, 214504077523⟩]
  | 6 => [⟨1099511627776, 0⟩, ⟨1094217178761, -107770985514⟩, ⟨1078384820155, -214504077523⟩, ⟨1052167026225, -319171378007⟩, ⟨1015816288660, -420764883643⟩, ⟨969682684934, -518306193436⟩, ⟨914210506869, -610855931251⟩, ⟨849933981865, -697522792521⟩,
    ⟨777472127994, -777472127994⟩, ⟨697522792521, -849933981865⟩, ⟨610855931251, -914210506869⟩, ⟨518306193436, -969682684934⟩, ⟨420764883643, -1015816288660⟩, ⟨319171378007, -1052167026225⟩, ⟨214504077523, -1078384820155⟩, ⟨107770985514, -1094217178761⟩,
    ⟨0, -1099511627776⟩, ⟨-107770985514, -1094217178761⟩, ⟨-214504077523, -1078384820155⟩, ⟨-319171378007, -1052167026225⟩, ⟨-420764883643, -1015816288660⟩, ⟨-518306193436, -969682684934⟩, ⟨-610855931251, -914210506869⟩, ⟨-697522792521, -849933981865⟩,
    ⟨-777472127994, -777472127994⟩, ⟨-849933981865, -697522792521⟩, ⟨-914210506869, -610855931251⟩, ⟨-969682684934, -518306193436⟩, ⟨-1015816288660, -420764883643⟩, ⟨-1052167026225, -319171378007⟩, ⟨-1078384820155, -214504077523⟩, ⟨-1094217178761, -107770985514⟩,
    ⟨-1099511627776, 0⟩, ⟨-1094217178761, 107770985514⟩, ⟨-1078384820155, 214504077523⟩, ⟨-1052167026225, 319171378007⟩, ⟨-1015816288660, 420764883643⟩, ⟨-969682684934, 518306193436⟩, ⟨-914210506869, 610855931251⟩, ⟨-849933981865, 697522792521⟩,
    ⟨-777472127994, 777472127994⟩, ⟨-697522792521, 849933981865⟩, ⟨-610855931251, 914210506869⟩, ⟨-518306193436, 969682684934⟩, ⟨-420764883643, 1015816288660⟩, ⟨-319171378007, 1052167026225⟩, ⟨-214504077523, 1078384820155⟩, ⟨-107770985514, 1094217178761⟩,
    ⟨0, 1099511627776⟩, ⟨107770985514, 1094217178761⟩, ⟨214504077523, 1078384820155⟩, ⟨319171378007, 1052167026225⟩, ⟨420764883643, 1015816288660⟩, ⟨518306193436, 969682684934⟩, ⟨610855931251, 914210506869⟩, ⟨697522792521, 849933981865⟩,
    ⟨777472127994, 777472127994⟩, ⟨849933981865, 697522792521⟩, ⟨914210506869, 610855931251⟩, ⟨969682684934, 518306193436⟩, ⟨1015816288660, 420764883643⟩, ⟨1052167026225, 319171378007⟩, ⟨1078384820155, 214504077523⟩, ⟨1094217178761, 107770985514⟩]
  | _ => []
theorem tabs_2_40 : tabsOk 2 40 (lit40 2) = true := by kernel_rfl
theorem tabs_3_40 : tabsOk 3 40 (lit40 3) = true := by kernel_rfl
theorem tabs_4_40 : tabsOk 4 40 (lit40 4) = true := by kernel_rfl
theorem tabs_5_40 : tabsOk 5 40 (lit40 5) = true := by kernel_rfl
theorem tabs_6_40 : tabsOk 6 40 (lit40 6) = true := by kernel_rfl
theorem tabs_40 (e : Nat) (h0 : 2 ≤ e) (h1 : e ≤ 6) : tabsOk e 40 (lit40 e) = true := by
  obtain rfl | rfl | rfl | rfl | rfl : e = 2 ∨ e = 3 ∨ e = 4 ∨ e = 5 ∨ e = 6 := by omega
  · exact tabs_2_40
  · exact tabs_3_40
  · exact tabs_4_40
  · exact tabs_5_40
  · exact tabs_6_40
end Go.Proofs.Ytpmkkidljmedaaa.X
namespace Go.Proofs.Ytpmkkidljmedaaa.Pure
open Go.RowKit Go.Proofs.Ytpmkkidljmedaaa.X Go.Proofs.YtpmkkidljmedaaaW.PrintWords Go.Proofs.YtpmkkidljmedaaaW.PrintLast Go.Proofs.YtpmkkidljmedaaaW.PrintMore
set_option linter.unusedVariables false

theorem map_range' {α : Type} (f : Nat → α) (i d : Nat) : (List.range' i (d + 1)).map f = f i :: (List.range' (i + 1) d).map f := by
  rw [List.range'_succ, List.map_cons]
section
variable {l t : List CxN} {n e : Nat}
theorem all_loop (hl : ∀ x ∈ l, Le 2147483648 x) (ht : ∀ x ∈ t, Le 1099511627776 x) (he : e ≤ 6) (hn : n = 2 ^ e) (hln : l.length = n) (htn : t.length = n) (inv : Bool) : ∀ (d i K : Nat) (acc : List CxN), n - i = d → i ≤ n → d + 10 < K → acc.length ≤ i →
    dft_All.l0 K l inv t acc n i = some (acc ++ (List.range' i d).map (binV l t n inv), 0) := by
  have h64 : n ≤ 64 := by
    have : 2 ^ e ≤ 2 ^ 6 := Nat.pow_le_pow_right (by omega) he
    omega
  intro d
  induction d with
  | zero =>
    intro i K acc hd hi hK ha
    obtain ⟨K, rfl⟩ : ∃ j, K = j + 1 := ⟨K - 1, by omega⟩
    rw [dft_All.l0, if_neg (by omega)]
    simp
  | succ d ih =>
    intro i K acc hd hi hK ha
    obtain ⟨K, rfl⟩ : ∃ j, K = j + 1 := ⟨K - 1, by omega⟩
    have e2 : ((i : Int) + 1) = ((i + 1 : Nat) : Int) := by norm_cast
    rw [dft_All.l0, if_pos (by omega), prog_bin hl ht he hn hln htn i (by omega) inv, Option.bind_some, if_pos (by omega), HM.wrap64_id _ (by omega) (by omega), e2,
      ih (i + 1) K _ (by omega) (by omega) (by omega) (by rw [List.length_append]; simp; omega), map_range', List.append_assoc]
    rfl
theorem refall_loop (hl : ∀ x ∈ l, Le 2147483648 x) (ht : ∀ x ∈ t, Le 1099511627776 x) (h64 : n ≤ 64) (hln : l.length = n) (htn : t.length = n) (inv : Bool) : ∀ (d i K : Nat) (acc : List CxN), n - i = d → i ≤ n → d + 110 < K → acc.length ≤ i →
    headroomref16_All.l0 K l inv t acc n i = some (acc ++ (List.range' i d).map (binV l t n inv)) := by
  intro d
  induction d with
  | zero =>
    intro i K acc hd hi hK ha
    obtain ⟨K, rfl⟩ : ∃ j, K = j + 1 := ⟨K - 1, by omega⟩
    rw [headroomref16_All.l0, if_neg (by omega)]
    simp
  | succ d ih =>
    intro i K acc hd hi hK ha
    obtain ⟨K, rfl⟩ : ∃ j, K = j + 1 := ⟨K - 1, by omega⟩
    have e2 : ((i : Int) + 1) = ((i + 1 : Nat) : Int) := by norm_cast
    rw [headroomref16_All.l0, if_pos (by omega), ref_bin hl ht hln htn h64 i (by omega) inv K (by omega), Option.bind_some, if_pos (by omega), HM.wrap64_id _ (by omega) (by omega), e2,
      ih (i + 1) K _ (by omega) (by omega) (by omega) (by rw [List.length_append]; simp; omega), map_range', List.append_assoc]
    rfl
end
theorem alive16 : headroomlaw16_alive.f 200 = some true := by kernel_rfl

/-- A length's roots; or why there are none. -/
theorem may_val (l : List CxN) (hl : l.length ≤ 70) : (∃ c : Int, c ≠ 0 ∧ ∀ K, 120 < K → dft_may.f K l = some ([], c)) ∨
    ∃ e : Nat, 2 ≤ e ∧ e ≤ 6 ∧ l.length = 2 ^ e ∧ (∀ x ∈ l, Le 2147483648 x) ∧ ∀ K, 120 < K → dft_may.f K l = some (lit40 e, 0) := by
  unfold dft_may.f
  rcases logs (l.length : Int) with h1 | ⟨e, he2, he6, hn, h1⟩
  · exact .inl ⟨3, by omega, fun K hK => by rw [(h1 K (by omega)).1]; rfl⟩
  · have hnn : l.length = 2 ^ e := by
      have : ((2 ^ e : Nat) : Int) = (l.length : Int) := by rw [hn]; norm_cast
      omega
    cases hb : l.all narrowB with
    | false => exact .inl ⟨2, by omega, fun K hK => by rw [(h1 K (by omega)).1, Option.bind_some, if_pos rfl, scan_val l (by omega) K (by omega), hb]; simp⟩
    | true =>
      obtain ⟨ht1, ht2, ht3, ht4⟩ := tabsOk_spec (tabs_40 e he2 he6)
      exact .inr ⟨e, he2, he6, hnn, fun x hx => narrowB_le (List.all_eq_true.1 hb x hx), fun K hK => by rw [(h1 K (by omega)).1, Option.bind_some, if_pos rfl, scan_val l (by omega) K (by omega), hb]; simp [ht1]⟩
/-- Where numbers may be, and what both tell. -/
theorem all_same (l : List CxN) (hl : l.length ≤ 70) (inv : Bool) : (∃ c : Int, c ≠ 0 ∧ headroomref16_May.f 200 l = some c ∧ dft_All.f 200 l inv = some ([], c)) ∨
    ∃ out : List CxN, headroomref16_May.f 200 l = some 0 ∧ dft_All.f 200 l inv = some (out, 0) ∧ headroomref16_All.f 200 l inv = some out ∧ out.length ≤ 64 := by
  unfold headroomref16_May.f dft_All.f dft_may.f headroomref16_All.f headroomref16_Roots.f
  rcases logs (l.length : Int) with h12 | ⟨e, he2, he6, hn, h12⟩
  · obtain ⟨h1, h2⟩ := h12 200 (by omega)
    exact .inl ⟨3, by omega, by rw [h2]; rfl, by rw [h1]; rfl⟩
  · obtain ⟨h1, h2⟩ := h12 200 (by omega)
    rw [h1, h2]
    have hnn : l.length = 2 ^ e := by
      have : ((2 ^ e : Nat) : Int) = (l.length : Int) := by rw [hn]; norm_cast
      omega
    have h64 : l.length ≤ 64 := by
      have : 2 ^ e ≤ 2 ^ 6 := Nat.pow_le_pow_right (by omega) he6
      omega
    rw [Option.bind_some, Option.bind_some, Option.bind_some, if_neg (by omega), if_pos rfl, narrow_val l (by omega) 200 (by omega), scan_val l (by omega) 200 (by omega), Option.bind_some]
    cases hb : l.all narrowB with
    | false => exact .inl ⟨2, by omega, by simp, by simp⟩
    | true =>
      have hle : ∀ x ∈ l, Le 2147483648 x := fun x hx => narrowB_le (List.all_eq_true.1 hb x hx)
      obtain ⟨ht1, ht2, ht3, ht4⟩ := tabsOk_spec (tabs_40 e he2 he6)
      obtain ⟨t, hte⟩ : ∃ t, t = lit40 e := ⟨_, rfl⟩
      rw [← hte] at ht1 ht2 ht3 ht4
      have ht : ∀ x ∈ t, Le 1099511627776 x := fun x hx => ht4 x hx
      refine .inr ⟨(List.range' 0 l.length).map (binV l t l.length inv), by simp, ?_, ?_, by simp; omega⟩
      · have hx := all_loop hle ht he6 hnn rfl (by omega) inv l.length 0 200 [] (by omega) (by omega) (by omega) (by simp)
        simp only [List.nil_append, Int.natCast_zero] at hx
        simp [ht1, hx]
      · have hx := refall_loop hle ht h64 rfl (by omega) inv l.length 0 200 [] (by omega) (by omega) (by omega) (by simp)
        simp only [List.nil_append, Int.natCast_zero] at hx
        simp [ht2, hx]
theorem DftAll : ∀ (l0 : List CxN) (a1 : Bool), l0.length ≤ maxLen → (∀ z ∈ l0, WfCx z) → ∃ k, headroomlaw16_DftAll.f k l0 a1 = some true := by
  intro l0 a1 hl hw
  refine ⟨200, ?_⟩
  unfold headroomlaw16_DftAll.f
  have hm0 : 0 ≤ mn (l0.length : Int) 70 := by unfold mn; split <;> omega
  have hm1 : mn (l0.length : Int) 70 ≤ l0.length := by unfold mn; split <;> omega
  have hm2 : mn (l0.length : Int) 70 ≤ 70 := by unfold mn; split <;> omega
  rw [if_pos hm0, if_pos hm1, Option.bind_some]
  have hlen : (l0.take (mn (l0.length : Int) 70).toNat).length ≤ 70 := by
    rw [List.length_take]
    omega
  generalize l0.take (mn (l0.length : Int) 70).toNat = l at hlen
  rcases all_same l hlen a1 with ⟨c, hc, h1, h2⟩ | ⟨out, h1, h2, h3, h4⟩
  · rw [h2, Option.bind_some, h1, Option.bind_some, if_neg hc, alive16, Option.bind_some, if_pos rfl, if_pos rfl]
    rfl
  · rw [h2, Option.bind_some, h1, Option.bind_some, if_pos rfl, alive16, Option.bind_some, if_pos rfl, if_pos rfl, h3, Option.bind_some, ref_same out 200 (by omega) (by omega)]
    rfl
end Go.Proofs.Ytpmkkidljmedaaa.Pure
namespace Go.Proofs.Ytpmkkidljmedaaa.Pure
open Go.RowKit Go.Proofs.Ytpmkkidljmedaaa.X Go.Proofs.YtpmkkidljmedaaaW.PrintWords Go.Proofs.YtpmkkidljmedaaaW.PrintLast Go.Proofs.YtpmkkidljmedaaaW.PrintMore
set_option linter.unusedVariables false

def sumTo (F : Nat → Int) : Nat → Int
  | 0 => 0
  | k + 1 => sumTo F k + F k
theorem sumTo_add (F G : Nat → Int) (n : Nat) : sumTo (fun k => F k + G k) n = sumTo F n + sumTo G n := by
  induction n with
  | zero => rfl
  | succ n ih => simp only [sumTo, ih]; omega
theorem sumTo_mul (c : Int) (F : Nat → Int) (n : Nat) : sumTo (fun k => c * F k) n = c * sumTo F n := by
  induction n with
  | zero => simp [sumTo]
  | succ n ih => simp only [sumTo, ih, Int.mul_add]
theorem sumTo_neg (F : Nat → Int) (n : Nat) : sumTo (fun k => -F k) n = -sumTo F n := by
  induction n with
  | zero => rfl
  | succ n ih => simp only [sumTo, ih]; omega
/-- All numbers of a place's orbit together: nothing, but for the first place. -/
def orbitOk (t : List CxN) (n : Nat) : Bool := (List.range n).all fun j => (sumTo (fun k => (cxAt t (j * k % n)).f0) n == (if j = 0 then 1099511627776 * (n : Int) else 0)) && (sumTo (fun k => (cxAt t (j * k % n)).f1) n == 0)
theorem orbit_turn {t : List CxN} {n : Nat} (h : orbitOk t n = true) (inv : Bool) (j : Nat) (hj : j < n) : sumTo (fun k => (turnBy t n k inv j).f0) n = (if j = 0 then 1099511627776 * (n : Int) else 0) ∧ sumTo (fun k => (turnBy t n k inv j).f1) n = 0 := by
  have h1 := List.all_eq_true.1 h j (List.mem_range.2 hj)
  simp only [Bool.and_eq_true, beq_iff_eq] at h1
  cases inv
  · exact ⟨h1.1, h1.2⟩
  · refine ⟨h1.1, ?_⟩
    have : sumTo (fun k => -(cxAt t (j * k % n)).f1) n = 0 := by rw [sumTo_neg, h1.2]; rfl
    exact this
theorem sum_v {l t : List CxN} {n : Nat} (h : orbitOk t n = true) (inv : Bool) : ∀ m, m ≤ n → sumTo (fun k => vre l t n k inv m) n = (if m = 0 then 0 else 1099511627776 * (n : Int) * (cxAt l 0).f0) ∧ sumTo (fun k => vim l t n k inv m) n = (if m = 0 then 0 else 1099511627776 * (n : Int) * (cxAt l 0).f1) := by
  intro m
  induction m with
  | zero =>
    intro _
    have z : ∀ n, sumTo (fun _ => 0) n = 0 := by
      intro n
      induction n with
      | zero => rfl
      | succ n ih => simp only [sumTo, ih]; rfl
    exact ⟨z n, z n⟩
  | succ m ih =>
    intro hm
    obtain ⟨i1, i2⟩ := ih (by omega)
    obtain ⟨o1, o2⟩ := orbit_turn h inv m (by omega)
    rw [if_neg (by omega), if_neg (by omega)]
    constructor
    · have e : (fun k => vre l t n k inv (m + 1)) = fun k => vre l t n k inv m + ((cxAt l m).f0 * (turnBy t n k inv m).f0 + (-(cxAt l m).f1) * (turnBy t n k inv m).f1) := by
        funext k
        simp only [vre, Int.neg_mul]
        omega
      rw [e, sumTo_add, sumTo_add, sumTo_mul, sumTo_mul, i1, o1, o2]
      by_cases c : m = 0
      · subst c
        simp [Int.mul_comm]
      · simp [c]
    · have e : (fun k => vim l t n k inv (m + 1)) = fun k => vim l t n k inv m + ((cxAt l m).f0 * (turnBy t n k inv m).f1 + (cxAt l m).f1 * (turnBy t n k inv m).f0) := by
        funext k
        simp only [vim]
      rw [e, sumTo_add, sumTo_add, sumTo_mul, sumTo_mul, i2, o1, o2]
      by_cases c : m = 0
      · subst c
        simp [Int.mul_comm]
      · simp [c]
theorem floors (V : Nat → Int) (n : Nat) : 4294967296 * sumTo (fun k => V k / 4294967296) n ≤ sumTo V n ∧ sumTo V n ≤ 4294967296 * sumTo (fun k => V k / 4294967296) n + 4294967295 * n := by
  induction n with
  | zero => simp [sumTo]
  | succ n ih =>
    simp only [sumTo]
    push_cast
    omega
theorem orbits (e : Nat) (h0 : 2 ≤ e) (h1 : e ≤ 6) : orbitOk (lit40 e) (2 ^ e) = true := by
  obtain rfl | rfl | rfl | rfl | rfl : e = 2 ∨ e = 3 ∨ e = 4 ∨ e = 5 ∨ e = 6 := by omega
  · kernel_rfl
  · kernel_rfl
  · kernel_rfl
  · kernel_rfl
  · kernel_rfl
theorem bin_val {l : List CxN} {e : Nat} (he2 : 2 ≤ e) (he : e ≤ 6) (hln : l.length = 2 ^ e) (hl : ∀ x ∈ l, Le 2147483648 x) (inv : Bool) (K : Nat) (hm : dft_may.f K l = some (lit40 e, 0)) (i : Nat) (hi : i < l.length) :
    dft_Bin.f K l i inv = some ((binV l (lit40 e) l.length inv i).f0, (binV l (lit40 e) l.length inv i).f1, 0) := by
  obtain ⟨ht1, ht2, ht3, ht4⟩ := tabsOk_spec (tabs_40 e he2 he)
  have ht : ∀ x ∈ lit40 e, Le 1099511627776 x := fun x hx => ht4 x hx
  have h64 : l.length ≤ 64 := by
    have : 2 ^ e ≤ 2 ^ 6 := Nat.pow_le_pow_right (by omega) he
    omega
  have hnE : (l.length : Int) = 2 ^ e := by rw [hln]; norm_cast
  have hmod : bits .and .i64 (i : Int) (wrap64 ((l.length : Int) - 1)) = (i : Int) := by
    rw [HM.wrap64_id _ (by omega) (by omega), hnE, HM.and_mask _ e (by omega), ← hnE]
    exact Int.emod_eq_of_lt (by omega) (by omega)
  unfold dft_Bin.f
  rw [hm, Option.bind_some, if_pos rfl, hmod, prog_bin hl ht he hln rfl (by omega) i hi inv, Option.bind_some]
theorem sum_loop {l bins : List CxN} {e : Nat} (he2 : 2 ≤ e) (he : e ≤ 6) (hln : l.length = 2 ^ e) (hl : ∀ x ∈ l, Le 2147483648 x) (inv : Bool) (hmay : ∀ K, 120 < K → dft_may.f K l = some (lit40 e, 0))
    (hb : bins = (List.range' 0 l.length).map (binV l (lit40 e) l.length inv)) (s b0 b1 : Int) (hb0 : -1152921504606846976 ≤ b0 ∧ b0 ≤ 1152921504606846976) (hb1 : -1152921504606846976 ≤ b1 ∧ b1 ≤ 1152921504606846976)
    (F G : Nat → Int) (hF : ∀ k, F k = (binV l (lit40 e) l.length inv k).f0) (hG : ∀ k, G k = (binV l (lit40 e) l.length inv k).f1)
    (hFb : ∀ i, i ≤ l.length → -4503599627370496 ≤ sumTo F i ∧ sumTo F i ≤ 4503599627370496) (hGb : ∀ i, i ≤ l.length → -4503599627370496 ≤ sumTo G i ∧ sumTo G i ≤ 4503599627370496) :
    ∀ (d i K : Nat), l.length - i = d → i ≤ l.length → d + 125 < K → headroomlaw16_DftSum.l0 K l inv s (b0 + sumTo F i) (b1 + sumTo G i) bins l.length i =
      some (decide (mx (mx (mx (b0 + sumTo F l.length) (-(b0 + sumTo F l.length))) (b1 + sumTo G l.length)) (-(b1 + sumTo G l.length)) ≤ wrap64 (s * l.length))) := by
  have h64 : l.length ≤ 64 := by
    have : 2 ^ e ≤ 2 ^ 6 := Nat.pow_le_pow_right (by omega) he
    omega
  have hbl : bins.length = l.length := by rw [hb]; simp
  intro d
  induction d with
  | zero =>
    intro i K hd hi hK
    obtain ⟨K, rfl⟩ : ∃ j, K = j + 1 := ⟨K - 1, by omega⟩
    obtain rfl : i = l.length := by omega
    have f1 := hFb l.length (by omega)
    have g1 := hGb l.length (by omega)
    rw [headroomlaw16_DftSum.l0, if_neg (by omega), HM.wrap64_id (-(b0 + _)) (by omega) (by omega), HM.wrap64_id (-(b1 + _)) (by omega) (by omega)]
  | succ d ih =>
    intro i K hd hi hK
    obtain ⟨K, rfl⟩ : ∃ j, K = j + 1 := ⟨K - 1, by omega⟩
    have e2 : ((i : Int) + 1) = ((i + 1 : Nat) : Int) := by norm_cast
    have hat : cxAt bins i = binV l (lit40 e) l.length inv i := by
      unfold cxAt
      rw [hb, List.getD_eq_getElem?_getD, List.getElem?_map, List.getElem?_range' (by omega)]
      simp
    have f1 := hFb i (by omega)
    have g1 := hGb i (by omega)
    have f2 := hFb (i + 1) (by omega)
    have g2 := hGb (i + 1) (by omega)
    have f3 : sumTo F (i + 1) = sumTo F i + F i := rfl
    have g3 : sumTo G (i + 1) = sumTo G i + G i := rfl
    have hFi := hF i
    have hGi := hG i
    rw [headroomlaw16_DftSum.l0, if_pos (by omega), if_pos (by omega), if_pos (by omega), bin_val he2 he hln hl inv K (hmay K (by omega)) i (by omega), Option.bind_some, if_pos rfl, rd_at, hat, if_neg (by simp), ← hFi, ← hGi,
      HM.wrap64_id (b0 + sumTo F i + F i) (by omega) (by omega), HM.wrap64_id (b1 + sumTo G i + G i) (by omega) (by omega), HM.wrap64_id _ (by omega) (by omega), e2,
      show b0 + sumTo F i + F i = b0 + sumTo F (i + 1) by omega, show b1 + sumTo G i + G i = b1 + sumTo G (i + 1) by omega]
    exact ih (i + 1) K (by omega) (by omega) (by omega)
theorem sumTo_bound (F : Nat → Int) (B : Int) (h : ∀ k, -B ≤ F k ∧ F k ≤ B) (i : Nat) : -(B * i) ≤ sumTo F i ∧ sumTo F i ≤ B * i := by
  induction i with
  | zero => simp [sumTo]
  | succ i ih =>
    have := h i
    simp only [sumTo]
    push_cast
    rw [Int.mul_add]
    omega
theorem DftSum : ∀ (l0 : List CxN) (a1 : Bool), l0.length ≤ maxLen → (∀ z ∈ l0, WfCx z) → ∃ k, headroomlaw16_DftSum.f k l0 a1 = some true := by
  intro l0 a1 hl hw
  refine ⟨400, ?_⟩
  have halive : headroomlaw16_alive.f 400 = some true := by kernel_rfl
  unfold headroomlaw16_DftSum.f
  have hm0 : 0 ≤ mn (l0.length : Int) 70 := by unfold mn; split <;> omega
  have hm1 : mn (l0.length : Int) 70 ≤ l0.length := by unfold mn; split <;> omega
  have hm2 : mn (l0.length : Int) 70 ≤ 70 := by unfold mn; split <;> omega
  rw [if_pos hm0, if_pos hm1, Option.bind_some]
  have hlen : (l0.take (mn (l0.length : Int) 70).toNat).length ≤ 70 := by
    rw [List.length_take]
    omega
  generalize l0.take (mn (l0.length : Int) 70).toNat = l at hlen
  rcases may_val l hlen with ⟨c, hc, h0⟩ | ⟨e, he2, he, hln, hle, hmay⟩
  · have h1 := h0 400 (by omega)
    have h2 : dft_All.f 400 l a1 = some ([], c) := by
      unfold dft_All.f
      rw [h1, Option.bind_some, if_neg hc]
    have h3 : dft_Slack.f 400 l = some (0, c) := by
      unfold dft_Slack.f
      rw [h1, Option.bind_some, if_neg hc]
    rw [h2, Option.bind_some, h3, Option.bind_some, if_neg hc, halive, Option.bind_some, if_pos rfl, if_pos rfl]
    rfl
  · have h64 : l.length ≤ 64 := by
      have : 2 ^ e ≤ 2 ^ 6 := Nat.pow_le_pow_right (by omega) he
      omega
    have hpos : 0 < l.length := by rw [hln]; exact Nat.pow_pos (by omega)
    obtain ⟨ht1, ht2, ht3, ht4⟩ := tabsOk_spec (tabs_40 e he2 he)
    have ht : ∀ x ∈ lit40 e, Le 1099511627776 x := fun x hx => ht4 x hx
    have h1 := hmay 400 (by omega)
    have hall : dft_All.f 400 l a1 = some ((List.range' 0 l.length).map (binV l (lit40 e) l.length a1), 0) := by
      have hx := all_loop hle ht he hln rfl (by omega) a1 l.length 0 400 [] (by omega) (by omega) (by omega) (by simp)
      simp only [List.nil_append, Int.natCast_zero] at hx
      unfold dft_All.f
      simp [h1, hx]
    have hb : l.all narrowB = true := List.all_eq_true.2 fun x hx => by
      have := hle x hx
      unfold Le at this
      simp only [narrowB, Bool.and_eq_true, decide_eq_true_eq]
      omega
    have hmb := maxTo_bound l hle 0 (by omega)
    have hmb' : 0 ≤ maxAll l ∧ maxAll l ≤ 2147483648 := hmb
    have hs1 := HM.mul_bound 128 2147483648 (2 * (l.length : Int)) (maxAll l) (by omega) (by omega) (by omega) (by omega) (by omega) (by omega)
    have hs0 : 0 ≤ 2 * (l.length : Int) * maxAll l := Int.mul_nonneg (by omega) hmb'.1
    have hslack : dft_Slack.f 400 l = some (2 * (l.length : Int) * maxAll l / 4294967296 + 2, 0) := by
      unfold dft_Slack.f
      rw [h1, Option.bind_some, if_pos rfl, scan_val l (by omega) 400 (by omega), if_pos hb, Option.bind_some, HM.wrap64_id (2 * (l.length : Int)) (by omega) (by omega), HM.wrap64_id (2 * (l.length : Int) * maxAll l) (by omega) (by omega), HM.wrap64_id _ (by omega) (by omega)]
    generalize 2 * (l.length : Int) * maxAll l = q at hs0 hs1 hslack
    have hvb := fun k => v_bound (n := l.length) hle ht k a1 l.length
    have hx0 := Le.at (by omega) hle 0
    unfold Le at hx0
    obtain ⟨F, hF⟩ : ∃ F : Nat → Int, F = fun k => vre l (lit40 e) l.length k a1 l.length / 4294967296 := ⟨_, rfl⟩
    obtain ⟨G, hG⟩ : ∃ G : Nat → Int, G = fun k => vim l (lit40 e) l.length k a1 l.length / 4294967296 := ⟨_, rfl⟩
    have hFb : ∀ i, i ≤ l.length → -4503599627370496 ≤ sumTo F i ∧ sumTo F i ≤ 4503599627370496 := by
      intro i hi
      have := sumTo_bound F 70368744177664 (fun k => by rw [hF]; have := hvb k; constructor <;> simp only <;> omega) i
      omega
    have hGb : ∀ i, i ≤ l.length → -4503599627370496 ≤ sumTo G i ∧ sumTo G i ≤ 4503599627370496 := by
      intro i hi
      have := sumTo_bound G 70368744177664 (fun k => by rw [hG]; have := hvb k; constructor <;> simp only <;> omega) i
      omega
    have horb := orbits e he2 he
    rw [← hln] at horb
    obtain ⟨v1, v2⟩ := sum_v (l := l) horb a1 l.length (Nat.le_refl _)
    rw [if_neg (by omega)] at v1 v2
    have fl1 := floors (fun k => vre l (lit40 e) l.length k a1 l.length) l.length
    have fl2 := floors (fun k => vim l (lit40 e) l.length k a1 l.length) l.length
    have eF : sumTo (fun k => vre l (lit40 e) l.length k a1 l.length / 4294967296) l.length = sumTo F l.length := by rw [hF]
    have eG : sumTo (fun k => vim l (lit40 e) l.length k a1 l.length / 4294967296) l.length = sumTo G l.length := by rw [hG]
    rw [eF, v1] at fl1
    rw [eG, v2] at fl2
    have m0 := HM.mul_bound 64 2147483648 (l.length : Int) (cxAt l 0).f0 (by omega) (by omega) (by omega) (by omega) (by omega) (by omega)
    have m1 := HM.mul_bound 64 2147483648 (l.length : Int) (cxAt l 0).f1 (by omega) (by omega) (by omega) (by omega) (by omega) (by omega)
    have n0 : -(cxAt l 0).f0 * (l.length : Int) = -((l.length : Int) * (cxAt l 0).f0) := by rw [Int.neg_mul, Int.mul_comm]
    have n1 : -(cxAt l 0).f1 * (l.length : Int) = -((l.length : Int) * (cxAt l 0).f1) := by rw [Int.neg_mul, Int.mul_comm]
    rw [Int.mul_assoc] at fl1 fl2
    have hrd : rd_T41 l 0 = cxAt l 0 := rd_at l 0
    have hloop := sum_loop he2 he hln hle a1 hmay rfl (q / 4294967296 + 2) (-((l.length : Int) * (cxAt l 0).f0) * 256) (-((l.length : Int) * (cxAt l 0).f1) * 256) (by omega) (by omega) F G (fun k => by rw [hF]; rfl) (fun k => by rw [hG]; rfl) hFb hGb l.length 0 399 (by omega) (by omega) (by omega)
    have z0 : ∀ H : Nat → Int, sumTo H 0 = 0 := fun _ => rfl
    rw [z0, z0, Int.add_zero, Int.add_zero] at hloop
    have hq : (l.length : Int) ≤ (q / 4294967296 + 2) * l.length := by
      have : (1 : Int) * l.length ≤ (q / 4294967296 + 2) * l.length := Int.mul_le_mul_of_nonneg_right (by omega) (by omega)
      omega
    have hq2 : (q / 4294967296 + 2) * (l.length : Int) ≤ 66 * 64 := by
      have h2 := HM.mul_bound 66 64 (q / 4294967296 + 2) (l.length : Int) (by omega) (by omega) (by omega) (by omega) (by omega) (by omega)
      omega
    rw [hall, Option.bind_some, hslack, Option.bind_some, if_pos rfl, if_pos rfl, if_pos (by simp), halive, Option.bind_some, headroomlaw16_DftSum.j0, if_neg (by simp), if_pos (by omega), hrd,
      HM.wrap64_id (-(cxAt l 0).f0) (by omega) (by omega), HM.wrap64_id (-(cxAt l 0).f1) (by omega) (by omega), n0, n1, HM.wrap64_id (-((l.length : Int) * (cxAt l 0).f0)) (by omega) (by omega), HM.wrap64_id (-((l.length : Int) * (cxAt l 0).f1)) (by omega) (by omega),
      HM.wrap64_id (-((l.length : Int) * (cxAt l 0).f0) * 256) (by omega) (by omega), HM.wrap64_id (-((l.length : Int) * (cxAt l 0).f1) * 256) (by omega) (by omega)]
    have hlm : (((List.range' 0 l.length).map (binV l (lit40 e) l.length a1)).length : Int) = l.length := by simp
    simp only [hlm]
    refine hloop.trans ?_
    congr 1
    rw [HM.wrap64_id _ (by omega) (by omega)]
    apply decide_eq_true
    simp only [mx_le]
    omega
end Go.Proofs.Ytpmkkidljmedaaa.Pure
namespace Go.Proofs.Ytpmkkidljmedaaa.dftSum
open Go.ChangeShapes Go.WideShapes Go.ChangeAt Go.RowKit Go.Proofs.Ytpmkkidljmedaaa.X Go.Proofs.YtpmkkidljmedaaaW.PrintWords
set_option linter.unusedVariables false
theorem own : ownKnob Try.prog.godebug = none := by kernel_rfl
theorem laidOut : laidOutB Try.prog = true := by kernel_rfl
set_option maxRecDepth 100000 in
theorem lifted (os : Os) (started : os.Started) (H : Type) (enc : TypeId × Value → H) :
    ReturnsInHanded {} Try.checked os 6 .any (Rows.dftSumSpec.pre6 enc Try.prog Try.f6 Rows.dftSumRow.domain false) (Rows.dftSumSpec.post enc Try.prog Try.f6 false true false false) := by
  refine returnsInHanded_of_change_sized (C := Try.checked) own started (by kernel_rfl) Try.func6
    (ChangeSpec.witness6 (enc := enc) (C := Try.checked) false ⟨#[], #[.slice none 0 0, .bool false], []⟩ 8 (by kernel_rfl) (by kernel_rfl) (by kernel_rfl) (by kernel_rfl)) ?_
  intro W base args ds gs before hval0 hW hcnd hsz0 _
  have hval : ∀ (j : Nat) t v, Try.f6.params[j]? = some t → args[j]? = some v → Value.okWide Try.prog W .any base t v := hval0
  have hW' := hW
  obtain ⟨p, q, hA0, hV, rfl, hfz, hnd⟩ := hW
  have hA : DataW.TrodAll enc Try.prog W 0 (fun _ => true) true Try.f6.params.toList args.toList ds p := hA0
  rw [Try.params6] at hA hval
  obtain ⟨v0, vs0, d0, ds0, p0, q0, hargs, rfl, rfl, h0, r0⟩ := trodAll_cons hA
  obtain ⟨v1, vs1, d1, ds1, p1, q1, rfl, rfl, rfl, h1, r1⟩ := trodAll_cons r0
  obtain ⟨rfl, rfl, rfl⟩ := trodAll_nil r1
  obtain rfl : args = #[v0, v1] := by cases args; simp_all
  obtain ⟨rfl, rfl⟩ := trodVars_none hV
  obtain ⟨a0, len0, cap0, rfl⟩ := okWide_slice Try.underlying22 (hval 0 22 v0 rfl rfl)
  have k0 := h0
  have lt0 : ∀ x ∈ p0, x.block < W.heap.size := by obtain ⟨m, hm⟩ := k0; exact DataW.trod_lt m _ _ _ hm
  obtain ⟨z0, rfl, y0, m0, c0, w0⟩ := open_cxs h0
  obtain ⟨a1, rfl, rfl, rfl⟩ := open_bool Try.underlying4 (hval 1 4 v1 rfl rfl) h1
  clear hA0 hval0 hsz0
  obtain ⟨k, hk⟩ := Pure.DftSum z0 a1 m0 w0
  refine (headroomlaw16_DftSum.calls k a0 cap0 z0 a1 true W c0 y0 hk).mono fun e W' ⟨he, bel⟩ => ?_
  subst he
  exact ⟨_, rfl, _, _, _, [], _, [], hW', trodAll_mk1 (shut_bool Try.underlying4 _), (trodAll_cons_mk (Below.trod laidOut (by kernel_rfl) (of_decide_eq_true (by kernel_rfl)) k0 bel lt0) (trodAll_cons_mk (shut_bool Try.underlying4 _) trodAll_mk0)), rfl, bel.frame _, fun h => by cases h⟩
theorem over : Rows.dftSumRow.holds Try.pinned (OpenSpec.ofChange Rows.dftSumSpec) :=
  OpenClaim.holds_of_wide 6 Try.f6 rfl rfl rfl rfl rfl rfl rfl ⟨rfl, rfl, rfl, rfl, rfl⟩ rfl rfl rfl rfl rfl (by kernel_rfl) Try.func6 (by kernel_rfl)
    (of_decide_eq_true (by kernel_rfl)) (by unfold Func.isWrapper; first | (rw [if_pos (by decide +kernel)]; kernel_rfl) | (rw [if_neg (by decide +kernel)]; exact ⟨rfl, rfl⟩))
    (fun os started H enc _ => lifted os started H enc)
theorem proved : Rows.DftSumSaid := over
end Go.Proofs.Ytpmkkidljmedaaa.dftSum
namespace Go.Proofs.Ytpmkkidljmedaaa
/-- The given statement. -/
theorem dftSum_holds : Rows.DftSumSaid := dftSum.proved
#print axioms dftSum_holds
end Go.Proofs.Ytpmkkidljmedaaa
