/- Part 2 of 5 of the proof of the given statement DftSum: for each function that it reaches, its answers as a plain Lean function, and that the machine's call comes to exactly these answers. No conditions but those in the statements. -/
import Derived.Test.YtpmkkidljmedaaaMDftSum1
import Derived.Lib.Hide
import Derived.WalkKit
import Derived.ProofKit
import Derived.OpenShut
import Derived.ChangeOld
import Derived.Deep.SlicePairs
import Derived.Lib.SmallJoins
namespace Go.Proofs.Ytpmkkidljmedaaa.X
open Go.RowKit Go.Proofs.YtpmkkidljmedaaaW.PrintWords Go.Proofs.YtpmkkidljmedaaaW.PrintLast Go.Proofs.YtpmkkidljmedaaaW.PrintMore
attribute [local go_sem] max2_int min2_int max_two min_two max_three min_three max_four min_four
set_option linter.unusedVariables false
set_option linter.unusedSimpArgs false

/-- The first i of n things, and zeros behind them. -/
def rowTo (F : Nat → CxN) (n i : Nat) : List CxN := (List.range n).map fun j => if j < i then F j else ⟨0, 0⟩
theorem rowTo_length (F : Nat → CxN) (n i : Nat) : (rowTo F n i).length = n := by simp [rowTo]
theorem rowTo_zero (F : Nat → CxN) (n : Nat) : rowTo F n 0 = List.replicate n ⟨0, 0⟩ := by
  apply List.ext_getElem
  · simp [rowTo]
  · intro i h1 h2
    simp [rowTo]
theorem rowTo_full (F : Nat → CxN) (n : Nat) : rowTo F n n = (List.range n).map F := by
  unfold rowTo
  apply List.map_congr_left
  intro j hj
  rw [if_pos (List.mem_range.1 hj)]
theorem rowTo_get (F : Nat → CxN) (n i : Nat) (h : i < n) : (rowTo F n i)[i]? = some ⟨0, 0⟩ := by simp [rowTo, h]
theorem rowTo_set (F : Nat → CxN) (n i : Nat) (h : i < n) : (rowTo F n i).set i ⟨(F i).f0, (F i).f1⟩ = rowTo F n (i + 1) := by
  apply List.ext_getElem
  · simp [rowTo]
  · intro j h1 h2
    have hj : j < n := by simpa [rowTo] using h2
    rw [List.getElem_set]
    by_cases e : i = j
    · subst e; simp [rowTo]
    · rw [if_neg e]
      simp only [rowTo, List.getElem_map, List.getElem_range]
      by_cases l : j < i
      · rw [if_pos l, if_pos (by omega)]
      · rw [if_neg l, if_neg (by omega)]

theorem info_cx : ∃ i, Try.prog.info? 41 = some i ∧ i.zero = some (.agg #[.int .i64 0, .int .i64 0]) ∧ i.size = 2 ∧ i.bytes = 16 := by
  have h : (Try.prog.info? 41).map (fun i => (i.zero, i.size, i.bytes)) = some (some (.agg #[(.int .i64 0), (.int .i64 0)]), 2, 16) := by kernel_rfl
  obtain ⟨i, hi, he⟩ := Option.map_eq_some_iff.1 h
  simp only [Prod.mk.injEq] at he
  exact ⟨i, hi, he.1, he.2.1, he.2.2⟩
/-- make([]api.Cx, n). -/
theorem make_cx (n : Nat) (hn : n ≤ 4194304) (W : World) : (Instr.makeSlice 22 (.int .i64 (n : Int)) (.int .i64 (n : Int))).run Try.prog W = .ok (.slice (some ⟨W.heap.size, 0, none⟩) n n) (W.alloc (.cells (madeCells #[.int .i64 0, .int .i64 0] (n * 2)) 41)) := by
  obtain ⟨i, hi, hz, hs, hb⟩ := info_cx
  have := run_make (P := Try.prog) W 22 41 i _ Try.underlying22 hi hz .i64 .i64 (n : Int) (n : Int) (by omega) (by omega) (by rw [hb]; omega) (by omega)
  simpa [hs, Value.cells] using this

theorem gather_walk (c n : Nat) (hn : n ≤ 4194304) (lb : Array Value) (F : Nat → CxN) (w : World) (he : ∀ (args : Array Value) (W : World), (callFunc c args).run Try.prog W = .ok (.enter c args) W)
    (hc : ∀ k : Nat, k < n → ∀ W, Below w.heap.size w W → Calls Try.prog c (#[.int .i64 (k : Int)] ++ lb) W fun e w' => e = .returned (.agg #[.int .i64 (F k).f0, .int .i64 (F k).f1]) ∧ Below W.heap.size W w') :
    Calls Try.prog 98 #[.int .i64 (n : Int), .func (.func c) #[] lb] w fun e w' => e = .returned (.slice (some ⟨w.heap.size, 0, none⟩) n n) ∧ CxBlk w' w.heap.size ((List.range n).map F) ∧ Below w.heap.size w w' := by
  have hmk := fun W => make_cx n hn W
  have HC := Aside0.mk hc
  clear hc
  go_enter Try.func98, Try.ntmps98
  go_wp2
  have G := CxBlk.made w n
  have HB := Aside0.mk (below_alloc (Below.refl _ w) (.cells (madeCells #[.int .i64 0, .int .i64 0] (n * 2)) 41 (0, 0)))
  rw [← rowTo_zero F n] at G
  replace G := Aside0.mk G
  clear hmk
  have hq := Nat.le_refl w.heap.size
  go_loopw [11] (fun v11 wr => ∃ i : Nat, i ≤ n ∧ v11 = .int .i64 i ∧ Aside0 (CxBlk wr w.heap.size (rowTo F n i)) ∧ Aside0 (Below w.heap.size w wr)) (fun v11 _ => n - (intOf v11).toNat)
  case atStart => exact ⟨0, by omega, rfl, G, HB⟩
  case round =>
    clear G HB
    obtain ⟨i, hi, rfl, G, HB⟩ := hrel
    by_cases hlt : i < n
    · have hcall := HC.out i hlt wr HB.out
      go_wp2_with fail
      refine hcall.mono ?_
      rintro e w2 ⟨rfl, hb⟩
      replace G := Aside0.mk (G.out.below hb)
      replace HB := Aside0.mk (below_step HB.out hb)
      clear hb hcall
      have c0 := G.out.cell0 i _ (rowTo_get F n i hlt)
      have c1 := G.out.cell1 i _ (rowTo_get F n i hlt)
      have f0 := G.out.frozen (i * 2)
      have f1 := G.out.frozen (i * 2 + 1)
      go_wp2
      go_roundw
      case rel => exact ⟨i + 1, by omega, by go_num, ⟨by rw [← rowTo_set F n i hlt]; exact G.out.set i _ _⟩, ⟨below_set (below_set HB.out hq) hq⟩⟩
      case measure => simp [intOf]; omega
    · obtain rfl : i = n := by omega
      clear HC he
      go_wp2
      go_ret
      exact ⟨rfl, by rw [← rowTo_full F i]; exact G.out, HB.out⟩

/-- One root. -/
theorem table1_calls (k log bits re im : Int) (hf : roots_root.f log k bits = some (re, im)) (g h : Nat) (w : World) (c0 : w.cell? ⟨g, 0, none⟩ = some (.int .i64 log)) (c1 : w.cell? ⟨h, 0, none⟩ = some (.int .i64 bits)) :
    Calls Try.prog 99 #[.int .i64 k, .pointer (some ⟨g, 0, none⟩), .pointer (some ⟨h, 0, none⟩)] w fun e w' => e = .returned (.agg #[.int .i64 re, .int .i64 im]) ∧ Below w.heap.size w w' := by
  have HF := Lib.hid hf
  have hg := World.block_lt_of_cell? w _ c0
  have hh := World.block_lt_of_cell? w _ c1
  have d0 : ∀ o, (w.alloc o).cell? ⟨g, 0, none⟩ = some (.int .i64 log) := fun o => (World.cell?_alloc_past _ _ _ hg).trans c0
  have d1 : ∀ o, (w.alloc o).cell? ⟨h, 0, none⟩ = some (.int .i64 bits) := fun o => (World.cell?_alloc_past _ _ _ hh).trans c1
  clear hf c0 c1 hg hh
  go_enter Try.func99, Try.ntmps99
  go_wp2_with fail
  have R := blk_new w (.cells #[.int .i64 0, .int .i64 0] 41 (0, 0))
  have HB := below_alloc (Below.refl _ w) (.cells #[.int .i64 0, .int .i64 0] 41 (0, 0))
  refine (roots_root.calls log k bits re im _ HF.out).mono ?_
  rintro e w1 ⟨rfl, hb⟩
  replace R := Aside0.mk (blk_below R hb)
  replace HB := Aside0.mk (below_step HB hb)
  clear hb d0 d1 HF
  have c0 := blk_cell R.out 0
  have c1 := blk_cell R.out 1
  have f0 := blk_frozen R.out 0
  have f1 := blk_frozen R.out 1
  go_wp2
  exact bodyPost_ret (results_cell_row rfl _ _ w.heap.size 41 #[.int .i64 re, .int .i64 im] (0, 0) _ rfl (blk_put (cs := #[.int .i64 re, .int .i64 0]) (blk_put R.out 0 _ rfl) 1 _ rfl) Try.underlying41 rfl (by kernel_rfl)) rfl ⟨rfl, below_set (below_set HB.out (Nat.le_refl _)) (Nat.le_refl _)⟩

/-- A root, or 0 where there is none. -/
def rootV (log bits : Int) (k : Nat) : CxN := match roots_root.f log k bits with | some (a, b) => ⟨a, b⟩ | none => ⟨0, 0⟩
/-- All roots of a length. -/
def tableV (log bits : Int) : List CxN := (List.range (2 ^ log.toNat)).map (rootV log bits)
/-- Are all of them told? -/
def tableOk (log bits : Int) : Bool := (List.range (2 ^ log.toNat)).all fun k => (roots_root.f log (k : Int) bits).isSome

def roots_Table.f (log bits : Int) : Option (List CxN × Int) :=
  (roots_may.f log bits).bind fun m => if m = true then (if log ≤ 6 ∧ 2 ≤ log ∧ tableOk log bits = true then some (tableV log bits, 0) else none) else some ([], 1)
theorem roots_Table.calls (a0 a1 : Int) (r1 : List CxN) (r2 : Int) (w : World) (h : roots_Table.f a0 a1 = some (r1, r2)) :
    Calls Try.prog 70 #[.int .i64 a0, .int .i64 a1] w fun e w' => ∃ v0_ : Value, e = .returned (.tuple #[v0_, .int .i64 r2]) ∧ Kd.R k41 41 w' w.heap.size (fun _ => True) v0_ r1 ∧ Below w.heap.size w w' := by
  have hmf : ∀ (fn : Fn) (first cap : Array Value) (w : World), (Instr.makeFunc fn first cap).run Try.prog w = .ok (.func fn first cap) w := fun _ _ _ _ => rfl
  unfold roots_Table.f at h
  obtain ⟨m, hm, h⟩ := Option.bind_eq_some_iff.mp h
  have HM1 := Lib.hid hm
  clear hm
  cases m with
  | false =>
    simp only [Bool.false_eq_true, if_false, Option.some.injEq, Prod.mk.injEq] at h
    obtain ⟨rfl, rfl⟩ := h
    go_enter Try.func70, Try.ntmps70
    go_wp2_with (go_at_call 97; refine (roots_may.calls a0 a1 false _ HM1.out).mono ?_; rintro e w1 ⟨rfl, hb⟩)
    go_ret2
    exact ⟨_, rfl, Kd.R_nil _ _ _ _ _, below_step (below_alloc (below_alloc (Below.refl _ w) (.cells #[.int .i64 a0] 3 (0, 0))) (.cells #[.int .i64 a1] 3 (0, 0))) hb⟩
  | true =>
    rw [if_pos rfl] at h
    split at h
    case isFalse => cases h
    rename_i hv
    simp only [Option.some.injEq, Prod.mk.injEq] at h
    obtain ⟨rfl, rfl⟩ := h
    obtain ⟨h6, h2, hok⟩ := hv
    go_enter Try.func70, Try.ntmps70
    have HOK := Lib.hid hok
    clear hok
    go_wp2_with fail
    have BL := blk_alloc (blk_new w (.cells #[.int .i64 a0] 3 (0, 0))) (.cells #[.int .i64 a1] 3 (0, 0))
    have BB := blk_new (w.alloc (.cells #[.int .i64 a0] 3 (0, 0))) (.cells #[.int .i64 a1] 3 (0, 0))
    have HB := below_alloc (below_alloc (Below.refl _ w) (.cells #[.int .i64 a0] 3 (0, 0))) (.cells #[.int .i64 a1] 3 (0, 0))
    simp only [World.size_alloc] at BB
    refine (roots_may.calls a0 a1 true _ HM1.out).mono ?_
    rintro e w1 ⟨rfl, hb⟩
    replace BL := blk_below BL hb
    replace BB := blk_below BB hb
    replace HB := below_step HB hb
    clear hb HM1
    have c0 := blk_cell BL 0
    have hp := HM.pow_pos a0.toNat
    have hm := HM.pow_lt62 (i := a0.toNat) (by omega)
    have hn6 : 2 ^ a0.toNat ≤ 2 ^ 6 := Nat.pow_le_pow_right (by omega) (show a0.toNat ≤ 6 by omega)
    have hw : wrap64 (2 ^ a0.toNat) = ((2 ^ a0.toNat : Nat) : Int) := by
      rw [HM.wrap64_id _ (by omega) (by omega)]
      norm_cast
    have HW := Lib.hid hw
    have HN := Lib.hid hn6
    clear hp hm hw hn6
    go_wp2_with fail
    rw [HW.out]
    have hc : ∀ k : Nat, k < 2 ^ a0.toNat → ∀ W, Below w1.heap.size w1 W → Calls Try.prog 99 (#[.int .i64 (k : Int)] ++ #[.pointer (some ⟨w.heap.size, 0, none⟩), .pointer (some ⟨w.heap.size + 1, 0, none⟩)]) W fun e w' => e = .returned (.agg #[.int .i64 (rootV a0 a1 k).f0, .int .i64 (rootV a0 a1 k).f1]) ∧ Below W.heap.size W w' := by
      intro k hk W hW
      have hs := List.all_eq_true.1 HOK.out k (List.mem_range.2 hk)
      obtain ⟨⟨re, im⟩, hr⟩ := Option.isSome_iff_exists.1 hs
      have := table1_calls k a0 a1 re im hr w.heap.size (w.heap.size + 1) W ((blk_cell (blk_below BL hW) 0).trans rfl) ((blk_cell (blk_below BB hW) 0).trans rfl)
      simpa [rootV, hr] using this
    refine (gather_walk 99 (2 ^ a0.toNat) (by have := HN.out; omega) _ (rootV a0 a1) _ (fun args W => enters_ Try.func99 (by kernel_rfl) rfl args W) hc).mono ?_
    rintro e w2 ⟨rfl, G, hb⟩
    have hl : (tableV a0 a1).length = 2 ^ a0.toNat := by simp [tableV]
    have hR := CxBlk.owns (base := w.heap.size) G HB.size (by have := HN.out; rw [List.length_map, List.length_range]; omega)
    replace HB := below_step HB hb
    have e1 : ((List.range (2 ^ a0.toNat)).map (rootV a0 a1)).length = 2 ^ a0.toNat := by simp
    rw [e1] at hR
    clear hb hc c0 BL BB G
    have HR := Lib.hid hR
    have HL := Lib.hid hl
    have HE := Lib.hid e1
    clear hR hl e1
    go_wp2
    go_ret2
    exact ⟨_, rfl, HR.out, HB⟩
end Go.Proofs.Ytpmkkidljmedaaa.X
namespace Go.Proofs.Ytpmkkidljmedaaa.X
open Go.RowKit Go.Proofs.YtpmkkidljmedaaaW.PrintWords Go.Proofs.YtpmkkidljmedaaaW.PrintLast Go.Proofs.YtpmkkidljmedaaaW.PrintMore
attribute [local go_sem] max2_int min2_int max_two min_two max_three min_three max_four min_four   -- for this text's walks alone
set_option linter.unusedVariables false
set_option linter.unusedSimpArgs false

/-! ### flip_Log: function 40 -/
def flip_Log.l0 : Nat → Int → Int → Option (Int × Int)
  | 0, _, _ => none
  | k + 1, x0, x4 => if x4 ≤ 6 then (if 0 ≤ x4 then (if x0 = (shl .i64 1 x4) then (some (x4, 0)) else (flip_Log.l0 k x0 (wrap64 (x4 + 1)))) else (none)) else (some (0, 3))
def flip_Log.f (k : Nat) (a0 : Int) : Option (Int × Int) := flip_Log.l0 k a0 2
theorem flip_Log.mono_l : ∀ k, (∀ y0 y1, LeO (flip_Log.l0 k y0 y1) (flip_Log.l0 (k + 1) y0 y1))
  | 0 => fun _ _ r h => by simp [flip_Log.l0] at h
  | k + 1 => by
    have ih0 := flip_Log.mono_l k
    · intro y0 y1
      unfold flip_Log.l0
      repeat' first
      | (with_reducible exact ih0 _ _)
      | (with_reducible exact LeO.refl _)
      | (with_reducible exact LeO.none _)
      | (with_reducible refine LeO.ite ?_ ?_)
      | (with_reducible refine LeO.bind ?_ (fun _ => ?_))
      | exact ih0 _ _
      | exact LeO.none _
      | refine LeO.ite ?_ ?_
      | refine LeO.bind ?_ (fun _ => ?_)
theorem flip_Log.mono : ∀ a0 k, LeO (flip_Log.f k a0) (flip_Log.f (k + 1) a0) := by
  intro a0 k
  have ih0 := flip_Log.mono_l k
  unfold flip_Log.f
  repeat' first
      | (with_reducible exact ih0 _ _)
      | (with_reducible exact LeO.refl _)
      | (with_reducible exact LeO.none _)
      | (with_reducible refine LeO.ite ?_ ?_)
      | (with_reducible refine LeO.bind ?_ (fun _ => ?_))
      | exact ih0 _ _
      | exact LeO.none _
      | refine LeO.ite ?_ ?_
      | refine LeO.bind ?_ (fun _ => ?_)
set_option maxHeartbeats 8000000 in
set_option maxRecDepth 100000 in
theorem flip_Log.calls (k : Nat) (a0 : Int) (r1 : Int) (r2 : Int) (w : World) (h : flip_Log.f k a0 = some (r1, r2)) :
    Calls Try.prog 40 #[.int .i64 a0] w fun e w' => e = .returned (.tuple #[.int .i64 r1, .int .i64 r2]) ∧ Drawn0 w w' := by
  have H : (flip_Log.l0 k a0 2) = some (r1, r2) := h
  clear h
  have H' := Aside0.mk H
  clear H
  go_enter Try.func40, Try.ntmps40
  go_wp2
  go_loopg [4] k (fun kq v4 w' => ∃ (x4_1 : Int), v4 = .int .i64 x4_1 ∧ Aside0 (flip_Log.l0 kq a0 x4_1 = some (r1, r2)) ∧ Aside0 (kq ≤ k) ∧ Drawn0 w w')
  case atStart => exact ⟨(2), (by first | rfl | (simp; done) | (simp [*]; done)), H', ⟨Nat.le_refl _⟩, by repeat (first | exact Drawn0.refl _ | apply Drawn0.step)⟩
  case round =>
    clear H'
    obtain ⟨x4_1, rfl, HA, HK1, ⟨m1, rfl⟩⟩ := hrel
    cases gk with
    | zero => exact absurd HA.out (by simp [flip_Log.l0])
    | succ k1 =>
      have H := HA.out
      clear HA
      simp only [flip_Log.l0] at H
      by_cases c2 : x4_1 ≤ 6
      · rw [if_pos c2] at H
        have c2b0 : decide (x4_1 ≤ 6) = true := decide_eq_true c2
        clear c2
        by_cases c3 : 0 ≤ x4_1
        · rw [if_pos c3] at H
          have c3b0 := eq_true c3
          have c3b1 : decide (0 ≤ x4_1) = true := decide_eq_true c3
          clear c3
          obtain ⟨ji4, hji4⟩ : ∃ j_ : Int, (shl .i64 1 x4_1) = j_ := ⟨_, rfl⟩
          replace H : (if a0 = (ji4) then (some (x4_1, 0)) else (flip_Log.l0 k1 a0 (wrap64 (x4_1 + 1)))) = some (r1, r2) := by first | (rw [hji4] at H; exact H) | (simp only [hji4] at H ⊢; exact H)
          have hji4_ : (IntKind.i64.wrap (1 * 2 ^ min x4_1.toNat 64)) = ji4 := hji4
          have hji4z : x4_1 ≤ 64 → (IntKind.i64.wrap (1 * 2 ^ x4_1.toNat)) = ji4 := shl_small hji4
          have hji4u : (IntKind.i64.wrap (2 ^ min x4_1.toNat 64)) = ji4 := by have h_ := hji4_; rw [Int.one_mul] at h_; exact h_
          have hji4v : x4_1 ≤ 64 → (IntKind.i64.wrap (2 ^ x4_1.toNat)) = ji4 := fun hle_ => by have h_ := hji4z hle_; rw [Int.one_mul] at h_; exact h_
          have hji4y : (wrap64 (1 * 2 ^ min x4_1.toNat 64)) = ji4 := (i64_w _).symm.trans hji4_
          have hji4x : x4_1 ≤ 64 → (wrap64 (1 * 2 ^ x4_1.toNat)) = ji4 := fun h_ => (i64_w _).symm.trans (hji4z h_)
          by_cases c5 : a0 = (ji4)
          · rw [if_pos c5] at H
            have c5b0 : (a0 == (ji4)) = true := beq_iff_eq.mpr c5
            have c5b1 : (a0 != (ji4)) = false := bne_eq_false_iff_eq.mpr c5
            clear c5
            simp only [Option.some.injEq, Prod.mk.injEq] at H
            obtain ⟨rfl, rfl⟩ := H
            go_wp2
            go_ret2
            exact ⟨by first | rfl | (simp; done) | (simp only [← hji4] <;> (first | rfl | simp)) | (simp [*]; done), by repeat (first | exact Drawn0.refl _ | apply Drawn0.step)⟩
          · rw [if_neg c5] at H
            have c5b0 : (a0 == (ji4)) = false := beq_eq_false_iff_ne.mpr c5
            have c5b1 : (a0 != (ji4)) = true := bne_iff_ne.mpr c5
            have H' := Aside0.mk H
            clear H
            go_wp2
            go_roundg k1
            case measure => have := HK1.out; omega
            case rel => exact ⟨(wrap64 (x4_1 + 1)), (by first | rfl | (simp; done) | (simp [*]; done)), H', ⟨by have := HK1.out; omega⟩, by repeat (first | exact Drawn0.refl _ | apply Drawn0.step)⟩
        · rw [if_neg c3] at H
          exact absurd H (by simp)
      · rw [if_neg c2] at H
        have c2b0 : decide (x4_1 ≤ 6) = false := decide_eq_false c2
        clear c2
        simp only [Option.some.injEq, Prod.mk.injEq] at H
        obtain ⟨rfl, rfl⟩ := H
        go_wp2
        go_ret2
        exact ⟨by first | rfl | (simp; done) | (simp [*]; done), by repeat (first | exact Drawn0.refl _ | apply Drawn0.step)⟩

end Go.Proofs.Ytpmkkidljmedaaa.X
namespace Go.Proofs.Ytpmkkidljmedaaa.X
open Go.RowKit Go.Proofs.YtpmkkidljmedaaaW.PrintWords Go.Proofs.YtpmkkidljmedaaaW.PrintLast Go.Proofs.YtpmkkidljmedaaaW.PrintMore
attribute [local go_sem] max2_int min2_int max_two min_two max_three min_three max_four min_four   -- for this text's walks alone
set_option linter.unusedVariables false
set_option linter.unusedSimpArgs false

/-! ### scan_greatest: function 85 -/
def scan_greatest.l0 : Nat → Int → List Int → Int → Int → Option (Int)
  | 0, _, _, _, _ => none
  | k + 1, x3, x6, x7, x8 => if x8 < x7 then (if 0 ≤ x8 then (if x8 < (x6.length : Int) then (scan_greatest.l0 k (mx (mx x3 (rd x6 x8)) (wrap64 (-(rd x6 x8)))) x6 x7 (wrap64 (x8 + 1))) else (none)) else (none)) else (some x3)
def scan_greatest.f (k : Nat) (l0 : List Int) : Option (Int) := scan_greatest.l0 k 0 l0 (l0.length : Int) 0
theorem scan_greatest.mono_l : ∀ k, (∀ y0 y1 y2 y3, LeO (scan_greatest.l0 k y0 y1 y2 y3) (scan_greatest.l0 (k + 1) y0 y1 y2 y3))
  | 0 => fun _ _ _ _ r h => by simp [scan_greatest.l0] at h
  | k + 1 => by
    have ih0 := scan_greatest.mono_l k
    · intro y0 y1 y2 y3
      unfold scan_greatest.l0
      repeat' first
      | (with_reducible exact ih0 _ _ _ _)
      | (with_reducible exact LeO.refl _)
      | (with_reducible exact LeO.none _)
      | (with_reducible refine LeO.ite ?_ ?_)
      | (with_reducible refine LeO.bind ?_ (fun _ => ?_))
      | exact ih0 _ _ _ _
      | exact LeO.none _
      | refine LeO.ite ?_ ?_
      | refine LeO.bind ?_ (fun _ => ?_)
theorem scan_greatest.mono : ∀ a0 k, LeO (scan_greatest.f k a0) (scan_greatest.f (k + 1) a0) := by
  intro a0 k
  have ih0 := scan_greatest.mono_l k
  unfold scan_greatest.f
  repeat' first
      | (with_reducible exact ih0 _ _ _ _)
      | (with_reducible exact LeO.refl _)
      | (with_reducible exact LeO.none _)
      | (with_reducible refine LeO.ite ?_ ?_)
      | (with_reducible refine LeO.bind ?_ (fun _ => ?_))
      | exact ih0 _ _ _ _
      | exact LeO.none _
      | refine LeO.ite ?_ ?_
      | refine LeO.bind ?_ (fun _ => ?_)
set_option maxHeartbeats 8000000 in
set_option maxRecDepth 100000 in
theorem scan_greatest.calls (k : Nat) (A0 : Option Addr) (c0 : Nat) (l0 : List Int) (r : Int) (w : World) (hr0 : Kd.C (Kd.int .i64) w A0 l0.length l0) (hc0 : l0.length ≤ c0) (h : scan_greatest.f k l0 = some r) :
    Calls Try.prog 85 #[.slice A0 l0.length c0] w fun e w' => e = .returned (.int .i64 r) ∧ Below w.heap.size w w' := by
  have HR0 := Aside0.mk hr0
  have HC0 := Aside0.mk hc0
  clear hr0 hc0
  have HB := Aside0.mk (Below.refl w.heap.size w)
  have H : (scan_greatest.l0 k 0 l0 (l0.length : Int) 0) = some r := h
  clear h
  have H' := Aside0.mk H
  clear H
  go_enter Try.func85, Try.ntmps85
  go_wp2
  go_loopg [3, 8] k (fun kq v3 v8 w' => ∃ (x3_1 : Int) (x8_1 : Int), v3 = .int .i64 x3_1 ∧ v8 = .int .i64 x8_1 ∧ Aside0 (scan_greatest.l0 kq x3_1 l0 (l0.length : Int) x8_1 = some r) ∧ Aside0 (kq ≤ k) ∧ Aside0 (Below w.heap.size w w'))
  case atStart => exact ⟨(0), (0), (by first | rfl | (simp; done) | (simp [*]; done)), (by first | rfl | (simp; done) | (simp [*]; done)), H', ⟨Nat.le_refl _⟩, ⟨by repeat (first | (with_reducible first | exact HB.out | apply below_alloc | apply pw_below_drewN | apply below_drew1) | exact HB.out)⟩⟩
  case round =>
    clear H'
    obtain ⟨x3_1, x8_1, rfl, rfl, HA, HK1, HB⟩ := hrel
    cases gk with
    | zero => exact absurd HA.out (by simp [scan_greatest.l0])
    | succ k1 =>
      have H := HA.out
      clear HA
      simp only [scan_greatest.l0] at H
      by_cases c2 : x8_1 < (l0.length : Int)
      · rw [if_pos c2] at H
        have c2b0 : decide (x8_1 < (l0.length : Int)) = true := decide_eq_true c2
        clear c2
        by_cases c3 : 0 ≤ x8_1
        · rw [if_pos c3] at H
          have c3b0 : decide (0 ≤ x8_1) = true := decide_eq_true c3
          clear c3
          by_cases c4 : x8_1 < (l0.length : Int)
          · rw [if_pos c4] at H
            have c4b0 : decide (x8_1 < (l0.length : Int)) = true := decide_eq_true c4
            clear c4
            obtain ⟨ji5, hji5⟩ : ∃ j_ : Int, (mx x3_1 (rd l0 x8_1)) = j_ := ⟨_, rfl⟩
            replace H : (scan_greatest.l0 k1 (mx (ji5) (wrap64 (-(rd l0 x8_1)))) l0 (l0.length : Int) (wrap64 (x8_1 + 1))) = some r := by first | (rw [hji5] at H; exact H) | (simp only [hji5] at H ⊢; exact H)
            have hji5_ : (if x3_1 < (rd l0 x8_1) then (rd l0 x8_1) else x3_1) = ji5 := hji5
            obtain ⟨ji6, hji6⟩ : ∃ j_ : Int, (mx (ji5) (wrap64 (-(rd l0 x8_1)))) = j_ := ⟨_, rfl⟩
            replace H : (scan_greatest.l0 k1 ji6 l0 (l0.length : Int) (wrap64 (x8_1 + 1))) = some r := by first | (rw [hji6] at H; exact H) | (simp only [hji6] at H ⊢; exact H)
            have hji6_ : (if (ji5) < (wrap64 (-(rd l0 x8_1))) then (wrap64 (-(rd l0 x8_1))) else (ji5)) = ji6 := hji6
            have H' := Aside0.mk H
            clear H
            have p1 : 0 ≤ (x8_1 : Int) := of_decide_eq_true (by first | (with_reducible assumption) | assumption)
            have q1 : x8_1 < (l0.length : Int) := of_decide_eq_true (by first | (with_reducible assumption) | assumption)
            obtain ⟨ad1, e1, hx1_0⟩ := Kd.at_int HR0.out x8_1 p1 q1
            cases e1
            replace hx1_0 := (HB.out.cell (World.block_lt_of_cell? w _ hx1_0)).trans hx1_0
            replace p1 := eq_true p1
            replace q1 := eq_true q1
            go_wp2
            go_roundg k1
            case measure => have := HK1.out; omega
            case rel => exact ⟨(ji6), (wrap64 (x8_1 + 1)), (by first | rfl | (simp; done) | (simp only [← hji6] <;> (first | rfl | simp)) | (simp [*]; done)), (by first | rfl | (simp; done) | (simp [*]; done)), H', ⟨by have := HK1.out; omega⟩, ⟨by repeat (first | (with_reducible first | exact HB.out | apply below_alloc | apply pw_below_drewN | apply below_drew1) | exact HB.out)⟩⟩
          · rw [if_neg c4] at H
            exact absurd H (by simp)
        · rw [if_neg c3] at H
          exact absurd H (by simp)
      · rw [if_neg c2] at H
        have c2b0 : decide (x8_1 < (l0.length : Int)) = false := decide_eq_false c2
        clear c2
        obtain rfl := Option.some.inj H
        go_wp2
        go_ret
        exact ⟨by first | rfl | (simp [errW_none, errW_some] <;> rfl) | (simp [*, errW_none, errW_some] <;> rfl), by repeat (first | (with_reducible first | exact HB.out | apply below_alloc | apply pw_below_drewN | apply below_drew1) | exact HB.out)⟩

end Go.Proofs.Ytpmkkidljmedaaa.X
namespace Go.Proofs.Ytpmkkidljmedaaa.X
open Go.RowKit Go.Proofs.YtpmkkidljmedaaaW.PrintWords Go.Proofs.YtpmkkidljmedaaaW.PrintLast Go.Proofs.YtpmkkidljmedaaaW.PrintMore
attribute [local go_sem] max2_int min2_int max_two min_two max_three min_three max_four min_four   -- for this text's walks alone
set_option linter.unusedVariables false
set_option linter.unusedSimpArgs false

/-! ### scan_Max: function 49 -/
def scan_Max.l0 : Nat → Int → List (S41) → Int → Int → Option (Int × Int)
  | 0, _, _, _, _ => none
  | k + 1, x4, x7, x8, x9 => if x9 < x8 then (if 0 ≤ x9 then (if x9 < (x7.length : Int) then (if (mn ((rd_T41 x7 x9).f0) ((rd_T41 x7 x9).f1)) < (-2147483648) then (some (0, 2)) else (if (mx ((rd_T41 x7 x9).f0) ((rd_T41 x7 x9).f1)) > 2147483648 then (some (0, 2)) else ((scan_greatest.f k (([x4, (rd_T41 x7 x9).f0, (rd_T41 x7 x9).f1] : List Int))).bind fun t6 => (scan_Max.l0 k t6 x7 x8 (wrap64 (x9 + 1)))))) else (none)) else (none)) else (some (x4, 0))
def scan_Max.f (k : Nat) (l0 : List (S41)) : Option (Int × Int) := scan_Max.l0 k 0 l0 (l0.length : Int) 0
theorem scan_Max.mono_l : ∀ k, (∀ y0 y1 y2 y3, LeO (scan_Max.l0 k y0 y1 y2 y3) (scan_Max.l0 (k + 1) y0 y1 y2 y3))
  | 0 => fun _ _ _ _ r h => by simp [scan_Max.l0] at h
  | k + 1 => by
    have ih0 := scan_Max.mono_l k
    · intro y0 y1 y2 y3
      unfold scan_Max.l0
      repeat' first
      | (with_reducible exact ih0 _ _ _ _)
      | (with_reducible exact scan_greatest.mono _ _)
      | (with_reducible exact LeO.refl _)
      | (with_reducible exact LeO.none _)
      | (with_reducible refine LeO.ite ?_ ?_)
      | (with_reducible refine LeO.bind ?_ (fun _ => ?_))
      | exact ih0 _ _ _ _
      | exact scan_greatest.mono _ _
      | exact LeO.none _
      | refine LeO.ite ?_ ?_
      | refine LeO.bind ?_ (fun _ => ?_)
theorem scan_Max.mono : ∀ a0 k, LeO (scan_Max.f k a0) (scan_Max.f (k + 1) a0) := by
  intro a0 k
  have ih0 := scan_Max.mono_l k
  unfold scan_Max.f
  repeat' first
      | (with_reducible exact ih0 _ _ _ _)
      | (with_reducible exact scan_greatest.mono _ _)
      | (with_reducible exact LeO.refl _)
      | (with_reducible exact LeO.none _)
      | (with_reducible refine LeO.ite ?_ ?_)
      | (with_reducible refine LeO.bind ?_ (fun _ => ?_))
      | exact ih0 _ _ _ _
      | exact scan_greatest.mono _ _
      | exact LeO.none _
      | refine LeO.ite ?_ ?_
      | refine LeO.bind ?_ (fun _ => ?_)
set_option maxHeartbeats 8000000 in
set_option maxRecDepth 100000 in
theorem scan_Max.calls (k : Nat) (A0 : Option Addr) (c0 : Nat) (l0 : List (S41)) (r1 : Int) (r2 : Int) (w : World) (hr0 : Kd.C k41 w A0 l0.length l0) (hc0 : l0.length ≤ c0) (h : scan_Max.f k l0 = some (r1, r2)) :
    Calls Try.prog 49 #[.slice A0 l0.length c0] w fun e w' => e = .returned (.tuple #[.int .i64 r1, .int .i64 r2]) ∧ Below w.heap.size w w' := by
  have hu41 := Try.underlying41
  have HR0 := Aside0.mk hr0
  have HC0 := Aside0.mk hc0
  clear hr0 hc0
  have HB := Aside0.mk (Below.refl w.heap.size w)
  have H : (scan_Max.l0 k 0 l0 (l0.length : Int) 0) = some (r1, r2) := h
  clear h
  have H' := Aside0.mk H
  clear H
  go_enter Try.func49, Try.ntmps49
  go_wp2
  go_loopg [4, 9] k (fun kq v4 v9 w' => ∃ (x4_1 : Int) (x9_1 : Int), v4 = .int .i64 x4_1 ∧ v9 = .int .i64 x9_1 ∧ Aside0 (scan_Max.l0 kq x4_1 l0 (l0.length : Int) x9_1 = some (r1, r2)) ∧ Aside0 (kq ≤ k) ∧ Aside0 (Below w.heap.size w w'))
  case atStart => exact ⟨(0), (0), (by first | rfl | (simp; done) | (simp [*]; done)), (by first | rfl | (simp; done) | (simp [*]; done)), H', ⟨Nat.le_refl _⟩, ⟨by repeat (first | (with_reducible first | exact HB.out | apply below_alloc | apply pw_below_drewN | apply below_drew1) | exact HB.out)⟩⟩
  case round =>
    clear H'
    obtain ⟨x4_1, x9_1, rfl, rfl, HA, HK1, HB⟩ := hrel
    cases gk with
    | zero => exact absurd HA.out (by simp [scan_Max.l0])
    | succ k1 =>
      have H := HA.out
      clear HA
      simp only [scan_Max.l0] at H
      by_cases c2 : x9_1 < (l0.length : Int)
      · rw [if_pos c2] at H
        have c2b0 : decide (x9_1 < (l0.length : Int)) = true := decide_eq_true c2
        clear c2
        by_cases c3 : 0 ≤ x9_1
        · rw [if_pos c3] at H
          have c3b0 : decide (0 ≤ x9_1) = true := decide_eq_true c3
          clear c3
          by_cases c4 : x9_1 < (l0.length : Int)
          · rw [if_pos c4] at H
            have c4b0 : decide (x9_1 < (l0.length : Int)) = true := decide_eq_true c4
            clear c4
            obtain ⟨ji5, hji5⟩ : ∃ j_ : Int, (mn ((rd_T41 l0 x9_1).f0) ((rd_T41 l0 x9_1).f1)) = j_ := ⟨_, rfl⟩
            replace H : (if (ji5) < (-2147483648) then (some (0, 2)) else (if (mx ((rd_T41 l0 x9_1).f0) ((rd_T41 l0 x9_1).f1)) > 2147483648 then (some (0, 2)) else ((scan_greatest.f k1 (([x4_1, (rd_T41 l0 x9_1).f0, (rd_T41 l0 x9_1).f1] : List Int))).bind fun t6 => (scan_Max.l0 k1 t6 l0 (l0.length : Int) (wrap64 (x9_1 + 1)))))) = some (r1, r2) := by first | (rw [hji5] at H; exact H) | (simp only [hji5] at H ⊢; exact H)
            have hji5_ : (if ((rd_T41 l0 x9_1).f1) < ((rd_T41 l0 x9_1).f0) then ((rd_T41 l0 x9_1).f1) else ((rd_T41 l0 x9_1).f0)) = ji5 := hji5
            by_cases c6 : (ji5) < (-2147483648)
            · rw [if_pos c6] at H
              have c6b0 : decide ((ji5) < (-2147483648)) = true := decide_eq_true c6
              clear c6
              simp only [Option.some.injEq, Prod.mk.injEq] at H
              obtain ⟨rfl, rfl⟩ := H
              have p1 : 0 ≤ (x9_1 : Int) := of_decide_eq_true (by first | (with_reducible assumption) | assumption)
              have q1 : x9_1 < (l0.length : Int) := of_decide_eq_true (by first | (with_reducible assumption) | assumption)
              obtain ⟨ad1, e1, hx1_0, hx1_1⟩ := at_T41 HR0.out x9_1 p1 q1
              cases e1
              replace hx1_0 := (HB.out.cell (World.block_lt_of_cell? w _ hx1_0)).trans hx1_0
              replace hx1_1 := (HB.out.cell (World.block_lt_of_cell? w _ hx1_1)).trans hx1_1
              replace p1 := eq_true p1
              replace q1 := eq_true q1
              go_wp2_with (first | ((with_reducible refine gate_dst (N := 6) rfl ?_); (try (refine gate_guard (by rfl) ?_; dsimp only)); refine box_event ?hg (N := 6) ?hd (cs := #[.int .i64 0, .int .i64 0]) (t := 41) ?hr ?_; (case hd => rfl); (case hg => rfl); (case hr => first | (go_simp; done) | (go_simp; rfl)); intro gb2 hg w7 hbox hb; have n0_ := Aside0.mk (below_step (by repeat (first | (with_reducible first | exact HB.out | apply below_alloc | apply pw_below_drewN | apply below_drew1) | exact HB.out)) hb); have n1_ := Aside0.mk (hbox); have n2_ := Aside0.mk ((by rw [hg]; exact (below_size (by repeat (first | (with_reducible first | exact HB.out | apply below_alloc | apply pw_below_drewN | apply below_drew1) | exact HB.out))) : w.heap.size ≤ gb2)); have n3_ := Aside0.mk ((by rw [hg]; exact (below_size (by repeat (first | (with_reducible first | exact HB.out | apply below_alloc | apply pw_below_drewN | apply below_drew1) | exact HB.out))) : w.heap.size ≤ gb2)); clear HB; have HB := n0_; have BK2 := n1_; have GW2 := n2_; have GE2 := n3_; clear n0_ n1_ n2_ n3_; clear hb hbox hg; have hcz8_0 : w7.cell? ⟨gb2, 0, none⟩ = some (.int .i64 0) := (blk_cell BK2.out 0).trans rfl; have hcz8_1 : w7.cell? ⟨gb2, 1, none⟩ = some (.int .i64 0) := (blk_cell BK2.out 1).trans rfl; have hfz8_0 := blk_frozen BK2.out 0; have hfz8_1 := blk_frozen BK2.out 1))
              go_ret2
              exact ⟨by first | rfl | (simp [errW_none, errW_some] <;> rfl) | (simp only [← hji5]; first | rfl | (simp [errW_none, errW_some] <;> rfl)) | (simp [*, errW_none, errW_some] <;> rfl), by repeat (first | (with_reducible first | exact HB.out | apply below_alloc | apply pw_below_drewN | apply below_drew1 | refine below_set ?_ GE2.out) | exact HB.out)⟩
            · rw [if_neg c6] at H
              have c6b0 : decide ((ji5) < (-2147483648)) = false := decide_eq_false c6
              clear c6
              obtain ⟨ji9, hji9⟩ : ∃ j_ : Int, (mx ((rd_T41 l0 x9_1).f0) ((rd_T41 l0 x9_1).f1)) = j_ := ⟨_, rfl⟩
              replace H : (if (ji9) > 2147483648 then (some (0, 2)) else ((scan_greatest.f k1 (([x4_1, (rd_T41 l0 x9_1).f0, (rd_T41 l0 x9_1).f1] : List Int))).bind fun t6 => (scan_Max.l0 k1 t6 l0 (l0.length : Int) (wrap64 (x9_1 + 1))))) = some (r1, r2) := by first | (rw [hji9] at H; exact H) | (simp only [hji9] at H ⊢; exact H)
              have hji9_ : (if ((rd_T41 l0 x9_1).f0) < ((rd_T41 l0 x9_1).f1) then ((rd_T41 l0 x9_1).f1) else ((rd_T41 l0 x9_1).f0)) = ji9 := hji9
              by_cases c10 : (ji9) > 2147483648
              · rw [if_pos c10] at H
                have c10b0 : decide (2147483648 < (ji9)) = true := decide_eq_true c10
                clear c10
                simp only [Option.some.injEq, Prod.mk.injEq] at H
                obtain ⟨rfl, rfl⟩ := H
                have p1 : 0 ≤ (x9_1 : Int) := of_decide_eq_true (by first | (with_reducible assumption) | assumption)
                have q1 : x9_1 < (l0.length : Int) := of_decide_eq_true (by first | (with_reducible assumption) | assumption)
                obtain ⟨ad1, e1, hx1_0, hx1_1⟩ := at_T41 HR0.out x9_1 p1 q1
                cases e1
                replace hx1_0 := (HB.out.cell (World.block_lt_of_cell? w _ hx1_0)).trans hx1_0
                replace hx1_1 := (HB.out.cell (World.block_lt_of_cell? w _ hx1_1)).trans hx1_1
                replace p1 := eq_true p1
                replace q1 := eq_true q1
                go_wp2_with (first | ((with_reducible refine gate_dst (N := 6) rfl ?_); (try (refine gate_guard (by rfl) ?_; dsimp only)); refine box_event ?hg (N := 6) ?hd (cs := #[.int .i64 0, .int .i64 0]) (t := 41) ?hr ?_; (case hd => rfl); (case hg => rfl); (case hr => first | (go_simp; done) | (go_simp; rfl)); intro gb2 hg w11 hbox hb; have n0_ := Aside0.mk (below_step (by repeat (first | (with_reducible first | exact HB.out | apply below_alloc | apply pw_below_drewN | apply below_drew1) | exact HB.out)) hb); have n1_ := Aside0.mk (hbox); have n2_ := Aside0.mk ((by rw [hg]; exact (below_size (by repeat (first | (with_reducible first | exact HB.out | apply below_alloc | apply pw_below_drewN | apply below_drew1) | exact HB.out))) : w.heap.size ≤ gb2)); have n3_ := Aside0.mk ((by rw [hg]; exact (below_size (by repeat (first | (with_reducible first | exact HB.out | apply below_alloc | apply pw_below_drewN | apply below_drew1) | exact HB.out))) : w.heap.size ≤ gb2)); clear HB; have HB := n0_; have BK2 := n1_; have GW2 := n2_; have GE2 := n3_; clear n0_ n1_ n2_ n3_; clear hb hbox hg; have hcz12_0 : w11.cell? ⟨gb2, 0, none⟩ = some (.int .i64 0) := (blk_cell BK2.out 0).trans rfl; have hcz12_1 : w11.cell? ⟨gb2, 1, none⟩ = some (.int .i64 0) := (blk_cell BK2.out 1).trans rfl; have hfz12_0 := blk_frozen BK2.out 0; have hfz12_1 := blk_frozen BK2.out 1))
                go_ret2
                exact ⟨by first | rfl | (simp [errW_none, errW_some] <;> rfl) | (simp only [← hji5, ← hji9]; first | rfl | (simp [errW_none, errW_some] <;> rfl)) | (simp [*, errW_none, errW_some] <;> rfl), by repeat (first | (with_reducible first | exact HB.out | apply below_alloc | apply pw_below_drewN | apply below_drew1 | refine below_set ?_ GE2.out) | exact HB.out)⟩
              · rw [if_neg c10] at H
                have c10b0 : decide (2147483648 < (ji9)) = false := decide_eq_false c10
                clear c10
                obtain ⟨y3, hy3⟩ : ∃ y_ : List Int, y_ = (([x4_1, (rd_T41 l0 x9_1).f0, (rd_T41 l0 x9_1).f1] : List Int)) := ⟨_, rfl⟩
                replace H : ((scan_greatest.f k1 y3).bind fun t6 => (scan_Max.l0 k1 t6 l0 (l0.length : Int) (wrap64 (x9_1 + 1)))) = some (r1, r2) := by first | (rw [hy3]; with_reducible exact H) | (have H2_ := (Option.bind_some _ _).symm.trans H; rw [hy3]; with_reducible exact H2_) | (have H2_ := (Option.bind_some _ _).symm.trans H; with_reducible exact H2_) | with_reducible exact H | (rw [hy3]; exact H) | exact H
                have Ny3 := Aside0.mk hy3
                clear hy3
                replace H := Option.bind_eq_some_iff.mp H
                obtain ⟨t6, A130, H⟩ := H
                replace H : (scan_Max.l0 k1 t6 l0 (l0.length : Int) (wrap64 (x9_1 + 1))) = some (r1, r2) := H
                have A13 := Aside0.mk A130
                clear A130
                have H' := Aside0.mk H
                clear H
                have p1 : 0 ≤ (x9_1 : Int) := of_decide_eq_true (by first | (with_reducible assumption) | assumption)
                have q1 : x9_1 < (l0.length : Int) := of_decide_eq_true (by first | (with_reducible assumption) | assumption)
                obtain ⟨ad1, e1, hx1_0, hx1_1⟩ := at_T41 HR0.out x9_1 p1 q1
                cases e1
                replace hx1_0 := (HB.out.cell (World.block_lt_of_cell? w _ hx1_0)).trans hx1_0
                replace hx1_1 := (HB.out.cell (World.block_lt_of_cell? w _ hx1_1)).trans hx1_1
                replace p1 := eq_true p1
                replace q1 := eq_true q1
                go_wp2_with (first | ((with_reducible refine gate_dst (N := 6) rfl ?_); (try (refine gate_guard (by rfl) ?_; dsimp only)); refine box_event ?hg (N := 6) ?hd (cs := #[.int .i64 0, .int .i64 0]) (t := 41) ?hr ?_; (case hd => rfl); (case hg => rfl); (case hr => first | (go_simp; done) | (go_simp; rfl)); intro gb2 hg w14 hbox hb; have n0_ := Aside0.mk (below_step (by repeat (first | (with_reducible first | exact HB.out | apply below_alloc | apply pw_below_drewN | apply below_drew1) | exact HB.out)) hb); have n1_ := Aside0.mk (hbox); have n2_ := Aside0.mk ((by rw [hg]; exact (below_size (by repeat (first | (with_reducible first | exact HB.out | apply below_alloc | apply pw_below_drewN | apply below_drew1) | exact HB.out))) : w.heap.size ≤ gb2)); have n3_ := Aside0.mk ((by rw [hg]; exact (below_size (by repeat (first | (with_reducible first | exact HB.out | apply below_alloc | apply pw_below_drewN | apply below_drew1) | exact HB.out))) : w.heap.size ≤ gb2)); clear HB; have HB := n0_; have BK2 := n1_; have GW2 := n2_; have GE2 := n3_; clear n0_ n1_ n2_ n3_; clear hb hbox hg; have hcz15_0 : w14.cell? ⟨gb2, 0, none⟩ = some (.int .i64 0) := (blk_cell BK2.out 0).trans rfl; have hcz15_1 : w14.cell? ⟨gb2, 1, none⟩ = some (.int .i64 0) := (blk_cell BK2.out 1).trans rfl; have hfz15_0 := blk_frozen BK2.out 0; have hfz15_1 := blk_frozen BK2.out 1) | ((with_reducible refine gate_dst (N := 32) rfl ?_); (try (refine gate_guard (by rfl) ?_; dsimp only)); refine Kd.R_lit (Kd.int .i64) _ 3 ?hg (N := 32) ?hd (xs := ([x4_1, (rd_T41 l0 x9_1).f0, (rd_T41 l0 x9_1).f1] : List Int)) (inner := [.int .i64 x4_1, .int .i64 ((rd_T41 l0 x9_1).f0), .int .i64 ((rd_T41 l0 x9_1).f1)]) (ok := fun _ => True) (okp := fun _ => True) ?hr ?hp (fun _ hk => hk) trivial (Below.refl _ _) (Nat.le_refl _) (by simp) ?_; (case hd => rfl); (case hg => rfl); (case hr => first | (go_simp; done) | (go_simp; rfl)); (case hp => exact (Reps.one (show Kd.M (Kd.int .i64) _ _ _ x4_1 [.int .i64 x4_1] from rfl) (Reps.one (show Kd.M (Kd.int .i64) _ _ _ ((rd_T41 l0 x9_1).f0) [.int .i64 ((rd_T41 l0 x9_1).f0)] from rfl) (Reps.one (show Kd.M (Kd.int .i64) _ _ _ ((rd_T41 l0 x9_1).f1) [.int .i64 ((rd_T41 l0 x9_1).f1)] from rfl) (Reps.none _ _))))); intro v4 w16 ho17 hb hg_ hnew_; clear hg_ hnew_; (first | rw [← Ny3.out] at ho17 | (simp only [Int.reduceToNat] at ho17; rw [← Ny3.out] at ho17)); have n0_ := Aside0.mk (Kd.R_lower ho17 (below_size (by repeat (first | (with_reducible first | exact HB.out | apply below_alloc | apply pw_below_drewN | apply below_drew1 | refine below_set ?_ GE2.out) | exact HB.out)))); have n1_ := Aside0.mk (blk_below (g := gb2) (o := .cells #[.int .i64 ((rd_T41 l0 x9_1).f0), .int .i64 ((rd_T41 l0 x9_1).f1)] 41 (0, 0)) (by (with_reducible repeat (first | refine blk_drewN ?_ _ | refine blk_drew ?_ | refine blk_alloc ?_ _)); refine blk_put (cs := #[.int .i64 ((rd_T41 l0 x9_1).f0), .int .i64 0]) ?_ 1 _ rfl; (with_reducible repeat (first | refine blk_drewN ?_ _ | refine blk_drew ?_ | refine blk_alloc ?_ _)); refine blk_put (cs := #[.int .i64 0, .int .i64 0]) ?_ 0 _ rfl; (with_reducible repeat (first | refine blk_drewN ?_ _ | refine blk_drew ?_ | refine blk_alloc ?_ _)); exact BK2.out) hb); have n2_ := Aside0.mk (below_step (by repeat (first | (with_reducible first | exact HB.out | apply below_alloc | apply pw_below_drewN | apply below_drew1 | refine below_set ?_ GE2.out) | exact HB.out)) hb); clear BK2; clear HB; have HO5 := n0_; have BK2 := n1_; have HB := n2_; clear n0_ n1_ n2_; clear hb ho17; obtain ⟨Ao18, co18, eo18⟩ := Kd.R_slice HO5.out; subst eo18) | ((with_reducible refine gate_callee (f := 85) rfl ?_); refine goesL_ (some 33) rfl rfl Try.func85 (by kernel_rfl) rfl #[.slice Ao18 y3.length co18] rfl (by (try simp only [List.map_toArray, List.map_cons, List.map_nil]); first | done | rfl | (simp only [List.length_drop, List.length_take]; rfl)) ?_; (with_reducible refine (scan_greatest.calls k1 _ _ y3 t6 _ ?side1 ?side2 A13.out).mono ?_); (case side1 => repeat (first | exact (Kd.R_reads' HO5.out).2.2 | (with_reducible refine Kd.C_alloc ?_ _) | (with_reducible refine Kd.C_drewN ?_ _) | (with_reducible refine Kd.C_drew ?_))); (case side2 => exact (Kd.R_reads' HO5.out).2.1); rintro e w19 ⟨rfl, hb⟩; refine ⟨_, rfl, ?_⟩; have n0_ := Aside0.mk (Kd.R_below (by (with_reducible repeat (first | apply Kd.R_alloc | apply Kd.R_drewN | apply Kd.R_drew)); exact HO5.out) hb); have n1_ := Aside0.mk (blk_below (g := gb2) (o := .cells #[.int .i64 ((rd_T41 l0 x9_1).f0), .int .i64 ((rd_T41 l0 x9_1).f1)] 41 (0, 0)) (by (with_reducible repeat (first | refine blk_drewN ?_ _ | refine blk_drew ?_ | refine blk_alloc ?_ _)); exact BK2.out) hb); have n2_ := Aside0.mk (below_step (by repeat (first | (with_reducible first | exact HB.out | apply below_alloc | apply pw_below_drewN | apply below_drew1 | refine below_set ?_ GE2.out) | exact HB.out)) hb); clear HO5; clear BK2; clear HB; have HO5 := n0_; have BK2 := n1_; have HB := n2_; clear n0_ n1_ n2_; (try clear hb); (try clear hb2); (try clear hk); (try clear hi)))
                go_roundg k1
                case measure => have := HK1.out; omega
                case rel => exact ⟨(t6), (wrap64 (x9_1 + 1)), (by first | rfl | (simp; done) | (simp [*]; done)), (by first | rfl | (simp; done) | (simp [*]; done)), H', ⟨by have := HK1.out; omega⟩, ⟨by repeat (first | (with_reducible first | exact HB.out | apply below_alloc | apply pw_below_drewN | apply below_drew1 | refine below_set ?_ GE2.out) | exact HB.out)⟩⟩
          · rw [if_neg c4] at H
            exact absurd H (by simp)
        · rw [if_neg c3] at H
          exact absurd H (by simp)
      · rw [if_neg c2] at H
        have c2b0 : decide (x9_1 < (l0.length : Int)) = false := decide_eq_false c2
        clear c2
        simp only [Option.some.injEq, Prod.mk.injEq] at H
        obtain ⟨rfl, rfl⟩ := H
        go_wp2
        go_ret2
        exact ⟨by first | rfl | (simp [errW_none, errW_some] <;> rfl) | (simp [*, errW_none, errW_some] <;> rfl), by repeat (first | (with_reducible first | exact HB.out | apply below_alloc | apply pw_below_drewN | apply below_drew1) | exact HB.out)⟩

end Go.Proofs.Ytpmkkidljmedaaa.X
namespace Go.Proofs.Ytpmkkidljmedaaa.X
open Go.RowKit Go.Proofs.YtpmkkidljmedaaaW.PrintWords Go.Proofs.YtpmkkidljmedaaaW.PrintLast Go.Proofs.YtpmkkidljmedaaaW.PrintMore
attribute [local go_sem] max2_int min2_int max_two min_two max_three min_three max_four min_four   -- for this text's walks alone
set_option linter.unusedVariables false
set_option linter.unusedSimpArgs false

/-! ### dft_may: function 35 -/
def dft_may.f (k : Nat) (l0 : List (S41)) : Option ((List (S41)) × Int) := (flip_Log.f k (l0.length : Int)).bind fun bt1 => (if bt1.2 = 0 then ((scan_Max.f k l0).bind fun bt3 => (if bt3.2 = 0 then ((roots_Table.f bt1.1 40).bind fun bt5 => (some (bt5.1, bt5.2))) else (some (([] : List (S41)), bt3.2)))) else (some (([] : List (S41)), bt1.2)))
theorem dft_may.mono : ∀ a0 k, LeO (dft_may.f k a0) (dft_may.f (k + 1) a0) := by
  intro a0 k
  unfold dft_may.f
  repeat' first
      | (with_reducible exact flip_Log.mono _ _)
      | (with_reducible exact scan_Max.mono _ _)
      | (with_reducible exact LeO.refl _)
      | (with_reducible exact LeO.none _)
      | (with_reducible refine LeO.ite ?_ ?_)
      | (with_reducible refine LeO.bind ?_ (fun _ => ?_))
      | exact flip_Log.mono _ _
      | exact scan_Max.mono _ _
      | exact LeO.none _
      | refine LeO.ite ?_ ?_
      | refine LeO.bind ?_ (fun _ => ?_)
set_option maxHeartbeats 8000000 in
set_option maxRecDepth 100000 in
theorem dft_may.calls (k : Nat) (A0 : Option Addr) (c0 : Nat) (l0 : List (S41)) (r1 : List (S41)) (r2 : Int) (w : World) (hr0 : Kd.C k41 w A0 l0.length l0) (hc0 : l0.length ≤ c0) (h : dft_may.f k l0 = some (r1, r2)) :
    Calls Try.prog 35 #[.slice A0 l0.length c0] w fun e w' => ∃ v0_ : Value, e = .returned (.tuple #[v0_, .int .i64 r2]) ∧ Kd.R k41 41 w' w.heap.size (fun _ => True) v0_ r1 ∧ Below w.heap.size w w' := by
  have HR0 := Aside0.mk hr0
  have HC0 := Aside0.mk hc0
  clear hr0 hc0
  have HB := Aside0.mk (Below.refl w.heap.size w)
  have H : ((flip_Log.f k (l0.length : Int)).bind fun bt1 => (if bt1.2 = 0 then ((scan_Max.f k l0).bind fun bt3 => (if bt3.2 = 0 then ((roots_Table.f bt1.1 40).bind fun bt5 => (some (bt5.1, bt5.2))) else (some (([] : List (S41)), bt3.2)))) else (some (([] : List (S41)), bt1.2)))) = some (r1, r2) := h
  clear h
  replace H := Option.bind_eq_some_iff.mp H
  obtain ⟨⟨t1, t2⟩, A20, H⟩ := H
  replace H : (if t2 = 0 then ((scan_Max.f k l0).bind fun bt3 => (if bt3.2 = 0 then ((roots_Table.f t1 40).bind fun bt5 => (some (bt5.1, bt5.2))) else (some (([] : List (S41)), bt3.2)))) else (some (([] : List (S41)), t2))) = some (r1, r2) := H
  have A2 := Aside0.mk A20
  clear A20
  by_cases c3 : t2 = 0
  · rw [if_pos c3] at H
    have c3b0 : (t2 == 0) = true := beq_iff_eq.mpr c3
    have c3b1 : (t2 != 0) = false := bne_eq_false_iff_eq.mpr c3
    clear c3
    replace H := Option.bind_eq_some_iff.mp H
    obtain ⟨⟨t3, t4⟩, A40, H⟩ := H
    replace H : (if t4 = 0 then ((roots_Table.f t1 40).bind fun bt5 => (some (bt5.1, bt5.2))) else (some (([] : List (S41)), t4))) = some (r1, r2) := H
    have A4 := Aside0.mk A40
    clear A40
    by_cases c5 : t4 = 0
    · rw [if_pos c5] at H
      have c5b0 : (t4 == 0) = true := beq_iff_eq.mpr c5
      have c5b1 : (t4 != 0) = false := bne_eq_false_iff_eq.mpr c5
      clear c5
      replace H := Option.bind_eq_some_iff.mp H
      obtain ⟨⟨t5, t6⟩, A60, H⟩ := H
      replace H : (some (t5, t6)) = some (r1, r2) := H
      have A6 := Aside0.mk A60
      clear A60
      simp only [Option.some.injEq, Prod.mk.injEq] at H
      obtain ⟨rfl, rfl⟩ := H
      go_enter Try.func35, Try.ntmps35
      go_wp2_with (first | ((with_reducible refine gate_callee (f := 40) rfl ?_); refine goesL_ (some 11) rfl rfl Try.func40 (by kernel_rfl) rfl #[.int .i64 (l0.length : Int)] rfl (by (try simp only [List.map_toArray, List.map_cons, List.map_nil]); first | done | rfl | (simp only [List.length_drop, List.length_take]; rfl)) ?_; (with_reducible refine (flip_Log.calls k (l0.length : Int) t1 t2 _ A2.out).mono ?_); rintro e w' ⟨rfl, ⟨nd, rfl⟩⟩; refine ⟨_, rfl, ?_⟩) | ((with_reducible refine gate_callee (f := 49) rfl ?_); refine goesL_ (some 19) rfl rfl Try.func49 (by kernel_rfl) rfl #[.slice A0 l0.length c0] rfl (by (try simp only [List.map_toArray, List.map_cons, List.map_nil]); first | done | rfl | (simp only [List.length_drop, List.length_take]; rfl)) ?_; (with_reducible refine (scan_Max.calls k _ _ l0 t3 t4 _ ?side1 ?side2 A4.out).mono ?_); (case side1 => repeat (first | exact HR0.out | (with_reducible refine Kd.C_alloc ?_ _) | (with_reducible refine Kd.C_drewN ?_ _) | (with_reducible refine Kd.C_drew ?_))); (case side2 => exact HC0.out); rintro e w7 ⟨rfl, hb⟩; refine ⟨_, rfl, ?_⟩; have n0_ := Aside0.mk (below_step (by repeat (first | (with_reducible first | exact HB.out | apply below_alloc | apply pw_below_drewN | apply below_drew1) | exact HB.out)) hb); clear HB; have HB := n0_; clear n0_; (try clear hb); (try clear hb2); (try clear hk); (try clear hi)) | ((with_reducible refine gate_callee (f := 70) rfl ?_); refine goesL_ (some 26) rfl rfl Try.func70 (by kernel_rfl) rfl #[.int .i64 t1, .int .i64 40] rfl (by (try simp only [List.map_toArray, List.map_cons, List.map_nil]); first | done | rfl | (simp only [List.length_drop, List.length_take]; rfl)) ?_; (with_reducible refine (roots_Table.calls t1 40 t5 t6 _ A6.out).mono ?_); rintro e w8 ⟨v7, rfl, ho0, hb⟩; refine ⟨_, rfl, ?_⟩; have n0_ := Aside0.mk (Kd.R_lower ho0 (below_size (by repeat (first | (with_reducible first | exact HB.out | apply below_alloc | apply pw_below_drewN | apply below_drew1) | exact HB.out)))); have n1_ := Aside0.mk (below_step (by repeat (first | (with_reducible first | exact HB.out | apply below_alloc | apply pw_below_drewN | apply below_drew1) | exact HB.out)) hb); clear HB; have HO8 := n0_; have HB := n1_; clear n0_ n1_; (try clear hb); (try clear hb2); (try clear hk); (try clear hi); (try clear ho0)))
      go_ret2
      exact ⟨_, by first | rfl | (simp [errW_none, errW_some] <;> rfl) | (simp [*, errW_none, errW_some] <;> rfl), by (with_reducible repeat (first | apply Kd.R_alloc | apply Kd.R_drewN | apply Kd.R_drew)); exact HO8.out, by repeat (first | (with_reducible first | exact HB.out | apply below_alloc | apply pw_below_drewN | apply below_drew1) | exact HB.out)⟩
    · rw [if_neg c5] at H
      have c5b0 : (t4 == 0) = false := beq_eq_false_iff_ne.mpr c5
      have c5b1 : (t4 != 0) = true := bne_iff_ne.mpr c5
      simp only [Option.some.injEq, Prod.mk.injEq] at H
      obtain ⟨rfl, rfl⟩ := H
      go_enter Try.func35, Try.ntmps35
      go_wp2_with (first | ((with_reducible refine gate_callee (f := 40) rfl ?_); refine goesL_ (some 11) rfl rfl Try.func40 (by kernel_rfl) rfl #[.int .i64 (l0.length : Int)] rfl (by (try simp only [List.map_toArray, List.map_cons, List.map_nil]); first | done | rfl | (simp only [List.length_drop, List.length_take]; rfl)) ?_; (with_reducible refine (flip_Log.calls k (l0.length : Int) t1 t2 _ A2.out).mono ?_); rintro e w' ⟨rfl, ⟨nd, rfl⟩⟩; refine ⟨_, rfl, ?_⟩) | ((with_reducible refine gate_callee (f := 49) rfl ?_); refine goesL_ (some 19) rfl rfl Try.func49 (by kernel_rfl) rfl #[.slice A0 l0.length c0] rfl (by (try simp only [List.map_toArray, List.map_cons, List.map_nil]); first | done | rfl | (simp only [List.length_drop, List.length_take]; rfl)) ?_; (with_reducible refine (scan_Max.calls k _ _ l0 t3 t4 _ ?side1 ?side2 A4.out).mono ?_); (case side1 => repeat (first | exact HR0.out | (with_reducible refine Kd.C_alloc ?_ _) | (with_reducible refine Kd.C_drewN ?_ _) | (with_reducible refine Kd.C_drew ?_))); (case side2 => exact HC0.out); rintro e w9 ⟨rfl, hb⟩; refine ⟨_, rfl, ?_⟩; have n0_ := Aside0.mk (below_step (by repeat (first | (with_reducible first | exact HB.out | apply below_alloc | apply pw_below_drewN | apply below_drew1) | exact HB.out)) hb); clear HB; have HB := n0_; clear n0_; (try clear hb); (try clear hb2); (try clear hk); (try clear hi)))
      go_ret2
      exact ⟨_, by first | rfl | (simp [errW_none, errW_some] <;> rfl) | (simp [*, errW_none, errW_some] <;> rfl), by first | exact Kd.R_nil _ _ _ _ _ | exact Kd.N_nil _ _ _ _ _ | exact Kd.V_nil _ _ _ _ _ | exact Kd.Q_nil _ _ _ _ _ | exact Kd.S_nil _ _ _ _ _, by repeat (first | (with_reducible first | exact HB.out | apply below_alloc | apply pw_below_drewN | apply below_drew1) | exact HB.out)⟩
  · rw [if_neg c3] at H
    have c3b0 : (t2 == 0) = false := beq_eq_false_iff_ne.mpr c3
    have c3b1 : (t2 != 0) = true := bne_iff_ne.mpr c3
    simp only [Option.some.injEq, Prod.mk.injEq] at H
    obtain ⟨rfl, rfl⟩ := H
    go_enter Try.func35, Try.ntmps35
    go_wp2_with (first | ((with_reducible refine gate_callee (f := 40) rfl ?_); refine goesL_ (some 11) rfl rfl Try.func40 (by kernel_rfl) rfl #[.int .i64 (l0.length : Int)] rfl (by (try simp only [List.map_toArray, List.map_cons, List.map_nil]); first | done | rfl | (simp only [List.length_drop, List.length_take]; rfl)) ?_; (with_reducible refine (flip_Log.calls k (l0.length : Int) t1 t2 _ A2.out).mono ?_); rintro e w' ⟨rfl, ⟨nd, rfl⟩⟩; refine ⟨_, rfl, ?_⟩))
    go_ret2
    exact ⟨_, by first | rfl | (simp [errW_none, errW_some] <;> rfl) | (simp [*, errW_none, errW_some] <;> rfl), by first | exact Kd.R_nil _ _ _ _ _ | exact Kd.N_nil _ _ _ _ _ | exact Kd.V_nil _ _ _ _ _ | exact Kd.Q_nil _ _ _ _ _ | exact Kd.S_nil _ _ _ _ _, by repeat (first | (with_reducible first | exact HB.out | apply below_alloc | apply pw_below_drewN | apply below_drew1) | exact HB.out)⟩

end Go.Proofs.Ytpmkkidljmedaaa.X
namespace Go.Proofs.Ytpmkkidljmedaaa.X
open Go.RowKit Go.Proofs.YtpmkkidljmedaaaW.PrintWords Go.Proofs.YtpmkkidljmedaaaW.PrintLast Go.Proofs.YtpmkkidljmedaaaW.PrintMore
attribute [local go_sem] max2_int min2_int max_two min_two max_three min_three max_four min_four   -- for this text's walks alone
set_option linter.unusedVariables false
set_option linter.unusedSimpArgs false

/-! ### dft_All: function 11 -/
def dft_All.l0 : Nat → List (S41) → Bool → List (S41) → List (S41) → Int → Int → Option ((List (S41)) × Int)
  | 0, _, _, _, _, _, _ => none
  | k + 1, x0, x1, x6, x8, x19, x20 => if x20 < x19 then ((dft_bin.f x0 x6 x20 x1).bind fun bt5 => (if x8.length < 8796093022208 then (dft_All.l0 k x0 x1 x6 (x8 ++ [(⟨bt5.1, bt5.2⟩ : S41)]) x19 (wrap64 (x20 + 1))) else (none))) else (some (x8, 0))
def dft_All.f (k : Nat) (l0 : List (S41)) (a1 : Bool) : Option ((List (S41)) × Int) := (dft_may.f k l0).bind fun bt1 => (if bt1.2 = 0 then (dft_All.l0 k l0 a1 bt1.1 ([] : List (S41)) (l0.length : Int) 0) else (some (([] : List (S41)), bt1.2)))
theorem dft_All.mono_l : ∀ k, (∀ y0 y1 y2 y3 y4 y5, LeO (dft_All.l0 k y0 y1 y2 y3 y4 y5) (dft_All.l0 (k + 1) y0 y1 y2 y3 y4 y5))
  | 0 => fun _ _ _ _ _ _ r h => by simp [dft_All.l0] at h
  | k + 1 => by
    have ih0 := dft_All.mono_l k
    · intro y0 y1 y2 y3 y4 y5
      unfold dft_All.l0
      repeat' first
      | (with_reducible exact ih0 _ _ _ _ _ _)
      | (with_reducible exact dft_may.mono _ _)
      | (with_reducible exact LeO.refl _)
      | (with_reducible exact LeO.none _)
      | (with_reducible refine LeO.ite ?_ ?_)
      | (with_reducible refine LeO.bind ?_ (fun _ => ?_))
      | exact ih0 _ _ _ _ _ _
      | exact dft_may.mono _ _
      | exact LeO.none _
      | refine LeO.ite ?_ ?_
      | refine LeO.bind ?_ (fun _ => ?_)
theorem dft_All.mono : ∀ a0 a1 k, LeO (dft_All.f k a0 a1) (dft_All.f (k + 1) a0 a1) := by
  intro a0 a1 k
  have ih0 := dft_All.mono_l k
  unfold dft_All.f
  repeat' first
      | (with_reducible exact ih0 _ _ _ _ _ _)
      | (with_reducible exact dft_may.mono _ _)
      | (with_reducible exact LeO.refl _)
      | (with_reducible exact LeO.none _)
      | (with_reducible refine LeO.ite ?_ ?_)
      | (with_reducible refine LeO.bind ?_ (fun _ => ?_))
      | exact ih0 _ _ _ _ _ _
      | exact dft_may.mono _ _
      | exact LeO.none _
      | refine LeO.ite ?_ ?_
      | refine LeO.bind ?_ (fun _ => ?_)
set_option maxHeartbeats 8000000 in
set_option maxRecDepth 100000 in
theorem dft_All.calls (k : Nat) (A0 : Option Addr) (c0 : Nat) (l0 : List (S41)) (a1 : Bool) (r1 : List (S41)) (r2 : Int) (w : World) (hr0 : Kd.C k41 w A0 l0.length l0) (hc0 : l0.length ≤ c0) (h : dft_All.f k l0 a1 = some (r1, r2)) :
    Calls Try.prog 11 #[.slice A0 l0.length c0, .bool a1] w fun e w' => ∃ v0_ : Value, e = .returned (.tuple #[v0_, .int .i64 r2]) ∧ Kd.R k41 41 w' w.heap.size (fun _ => True) v0_ r1 ∧ Below w.heap.size w w' := by
  have HR0 := Aside0.mk hr0
  have HC0 := Aside0.mk hc0
  clear hr0 hc0
  have HB := Aside0.mk (Below.refl w.heap.size w)
  have H : ((dft_may.f k l0).bind fun bt1 => (if bt1.2 = 0 then (dft_All.l0 k l0 a1 bt1.1 ([] : List (S41)) (l0.length : Int) 0) else (some (([] : List (S41)), bt1.2)))) = some (r1, r2) := h
  clear h
  replace H := Option.bind_eq_some_iff.mp H
  obtain ⟨⟨t1, t2⟩, A30, H⟩ := H
  replace H : (if t2 = 0 then (dft_All.l0 k l0 a1 t1 ([] : List (S41)) (l0.length : Int) 0) else (some (([] : List (S41)), t2))) = some (r1, r2) := H
  have A3 := Aside0.mk A30
  clear A30
  by_cases c4 : t2 = 0
  · rw [if_pos c4] at H
    have c4b0 : (t2 == 0) = true := beq_iff_eq.mpr c4
    have c4b1 : (t2 != 0) = false := bne_eq_false_iff_eq.mpr c4
    clear c4
    have H' := Aside0.mk H
    clear H
    go_enter Try.func11, Try.ntmps11
    go_wp2_with (first | ((with_reducible refine gate_callee (f := 35) rfl ?_); refine goesL_ (some 12) rfl rfl Try.func35 (by kernel_rfl) rfl #[.slice A0 l0.length c0] rfl (by (try simp only [List.map_toArray, List.map_cons, List.map_nil]); first | done | rfl | (simp only [List.length_drop, List.length_take]; rfl)) ?_; (with_reducible refine (dft_may.calls k _ _ l0 t1 t2 _ ?side1 ?side2 A3.out).mono ?_); (case side1 => repeat (first | exact HR0.out | (with_reducible refine Kd.C_alloc ?_ _) | (with_reducible refine Kd.C_drewN ?_ _) | (with_reducible refine Kd.C_drew ?_))); (case side2 => exact HC0.out); rintro e w5 ⟨v3, rfl, ho0, hb⟩; refine ⟨_, rfl, ?_⟩; have n0_ := Aside0.mk (Kd.R_lower ho0 (below_size (by repeat (first | (with_reducible first | exact HB.out | apply below_alloc | apply pw_below_drewN | apply below_drew1) | exact HB.out)))); have n1_ := Aside0.mk (below_step (by repeat (first | (with_reducible first | exact HB.out | apply below_alloc | apply pw_below_drewN | apply below_drew1) | exact HB.out)) hb); clear HB; have HO4 := n0_; have HB := n1_; clear n0_ n1_; (try clear hb); (try clear hb2); (try clear hk); (try clear hi); (try clear ho0)))
    go_loopg [8, 20] k (fun kq v8 v20 w' => ∃ (x8_1 : List (S41)) (x20_1 : Int), v20 = .int .i64 x20_1 ∧ Aside0 (dft_All.l0 kq l0 a1 t1 x8_1 (l0.length : Int) x20_1 = some (r1, r2)) ∧ Aside0 (kq ≤ k) ∧ Aside0 (Kd.R k41 41 w' w.heap.size (fun k_ => some k_ ≠ (v8 : Value).ownBlock) v3 t1) ∧ Aside0 (Kd.R k41 41 w' w.heap.size (fun k_ => some k_ ≠ (v3 : Value).ownBlock) v8 x8_1) ∧ Aside0 (Below w.heap.size w w'))
    case atStart => exact ⟨(([] : List (S41))), (0), (by first | rfl | (simp; done) | (simp [*]; done)), H', ⟨Nat.le_refl _⟩, ⟨by (with_reducible repeat (first | apply Kd.R_alloc | apply Kd.R_drewN | apply Kd.R_drew)); exact Kd.R_mono HO4.out (fun _ hk => (by simp [Value.ownBlock]))⟩, ⟨by first | exact Kd.R_nil _ _ _ _ _ | exact Kd.N_nil _ _ _ _ _ | exact Kd.V_nil _ _ _ _ _ | exact Kd.Q_nil _ _ _ _ _ | exact Kd.S_nil _ _ _ _ _⟩, ⟨by repeat (first | (with_reducible first | exact HB.out | apply below_alloc | apply pw_below_drewN | apply below_drew1) | exact HB.out)⟩⟩
    case round =>
      clear H'
      try clear c1
      try clear p2
      try clear c3
      try clear c4
      try clear c4b0
      try clear c4b1
      obtain ⟨x8_1, x20_1, rfl, HA, HK1, HO_6, HO_8, HB⟩ := hrel
      cases gk with
      | zero => exact absurd HA.out (by simp [dft_All.l0])
      | succ k1 =>
        have H := HA.out
        clear HA
        simp only [dft_All.l0] at H
        by_cases c6 : x20_1 < (l0.length : Int)
        · rw [if_pos c6] at H
          have c6b0 : decide (x20_1 < (l0.length : Int)) = true := decide_eq_true c6
          clear c6
          replace H := Option.bind_eq_some_iff.mp H
          obtain ⟨⟨t5, t6⟩, A70, H⟩ := H
          replace H : (if x8_1.length < 8796093022208 then (dft_All.l0 k1 l0 a1 t1 (x8_1 ++ [(⟨t5, t6⟩ : S41)]) (l0.length : Int) (wrap64 (x20_1 + 1))) else (none)) = some (r1, r2) := H
          have A7 := Aside0.mk A70
          clear A70
          by_cases c8 : x8_1.length < 8796093022208
          · rw [if_pos c8] at H
            have LMc8 := Aside0.mk c8
            clear c8
            obtain ⟨y7, hy7⟩ : ∃ y_ : List (S41), y_ = (x8_1 ++ [(⟨t5, t6⟩ : S41)]) := ⟨_, rfl⟩
            replace H : (dft_All.l0 k1 l0 a1 t1 y7 (l0.length : Int) (wrap64 (x20_1 + 1))) = some (r1, r2) := by first | (rw [hy7]; with_reducible exact H) | (have H2_ := (Option.bind_some _ _).symm.trans H; rw [hy7]; with_reducible exact H2_) | (have H2_ := (Option.bind_some _ _).symm.trans H; with_reducible exact H2_) | with_reducible exact H | (rw [hy7]; exact H) | exact H
            have Ny7 := Aside0.mk hy7
            clear hy7
            have H' := Aside0.mk H
            clear H
            obtain ⟨Ao9, co9, eo9⟩ := Kd.R_slice HO_6.out
            subst eo9
            go_wp2_with (first | ((with_reducible refine gate_callee (f := 36) rfl ?_); refine goesL_ (some 28) rfl rfl Try.func36 (by kernel_rfl) rfl #[.slice A0 l0.length c0, .slice Ao9 t1.length co9, .int .i64 x20_1, .bool a1] rfl (by (try simp only [List.map_toArray, List.map_cons, List.map_nil]); first | done | rfl | (simp only [List.length_drop, List.length_take]; rfl)) ?_; (with_reducible refine (dft_bin.calls _ _ l0 _ _ t1 x20_1 a1 t5 t6 _ ?side1 ?side2 ?side3 ?side4 A7.out).mono ?_); (case side1 => repeat (first | exact (Kd.C_below HR0.out HB.out) | (with_reducible refine Kd.C_alloc ?_ _) | (with_reducible refine Kd.C_drewN ?_ _) | (with_reducible refine Kd.C_drew ?_))); (case side2 => exact HC0.out); (case side3 => repeat (first | exact (Kd.R_reads' HO_6.out).2.2 | (with_reducible refine Kd.C_alloc ?_ _) | (with_reducible refine Kd.C_drewN ?_ _) | (with_reducible refine Kd.C_drew ?_))); (case side4 => exact (Kd.R_reads' HO_6.out).2.1); rintro e w10 ⟨rfl, hb⟩; refine ⟨_, rfl, ?_⟩; have n0_ := Aside0.mk (Kd.R_below (by (with_reducible repeat (first | apply Kd.R_alloc | apply Kd.R_drewN | apply Kd.R_drew)); exact HO_6.out) hb); have n1_ := Aside0.mk (Kd.R_below (by (with_reducible repeat (first | apply Kd.R_alloc | apply Kd.R_drewN | apply Kd.R_drew)); exact HO_8.out) hb); have n2_ := Aside0.mk (below_step (by repeat (first | (with_reducible first | exact HB.out | apply below_alloc | apply pw_below_drewN | apply below_drew1) | exact HB.out)) hb); clear HO_6; clear HO_8; clear HB; have HO_6 := n0_; have HO_8 := n1_; have HB := n2_; clear n0_ n1_ n2_; (try clear hb); (try clear hb2); (try clear hk); (try clear hi)) | ((with_reducible refine gate_builtin (b := .append) (xs := #[.tmp 23, .tmp 29]) rfl ?_); at_builtin; refine Kd.R_append k41 (w0 := w) w.heap.size rfl (.tmp 23) (.tmp 29) 22 41 (.agg #[(.int .i64 0), (.int .i64 0)]) 16 rfl Try.underlying22 info41 rfl (by decide) (by omega) u8 x8_1 (⟨t5, t6⟩ : S41) [.int .i64 t5, .int .i64 t6] (fun k_ => some k_ ≠ (.slice Ao9 t1.length co9 : Value).ownBlock) (fun _ => False) rfl rfl ?aP (fun _ hk => hk.elim) ?aF ?aO ?aB ?aS ?aL ?_; (case aP => exact k41_mkM _ _ _ (⟨t5, t6⟩ : S41)); (case aB => exact (by repeat (first | (with_reducible first | exact HB.out | apply below_alloc | apply pw_below_drewN | apply below_drew1) | exact HB.out))); (case aF => exact (fun k_ hk => Kd.fresh' (Kd.R_lt (by (with_reducible repeat (first | apply Kd.R_alloc | apply Kd.R_drewN | apply Kd.R_drew)); exact HO_6.out)) k_ hk)); (case aO => exact (by (with_reducible repeat (first | apply Kd.R_alloc | apply Kd.R_drewN | apply Kd.R_drew)); exact HO_8.out)); (case aS => exact (below_size (by repeat (first | (with_reducible first | exact HB.out | apply below_alloc | apply pw_below_drewN | apply below_drew1) | exact HB.out)))); (case aL => have := LMc8.out; omega); intro v8 w11 ho hb hg hat; rw [← Ny7.out] at ho; have n0_ := Aside0.mk (Kd.R_after (ok := (fun _ => True)) (by (with_reducible repeat (first | apply Kd.R_alloc | apply Kd.R_drewN | apply Kd.R_drew)); exact Kd.R_mono HO_6.out (fun _ hk => ⟨trivial, hk⟩)) hg hat); have n1_ := Aside0.mk (hb); have n2_ := Aside0.mk (ho); clear HO_6; clear HB; clear HO_8; have HO_6 := n0_; have HB := n1_; have HO9 := n2_; clear n0_ n1_ n2_; clear ho hb hg hat))
            go_roundg k1
            case measure => have := HK1.out; omega
            case rel => exact ⟨(y7), (wrap64 (x20_1 + 1)), (by first | rfl | (simp; done) | (simp [*]; done)), H', ⟨by have := HK1.out; omega⟩, ⟨by (with_reducible repeat (first | apply Kd.R_alloc | apply Kd.R_drewN | apply Kd.R_drew)); exact Kd.R_mono HO_6.out (fun _ hk => hk.2)⟩, ⟨by (with_reducible repeat (first | apply Kd.R_alloc | apply Kd.R_drewN | apply Kd.R_drew)); exact HO9.out⟩, ⟨by repeat (first | (with_reducible first | exact HB.out | apply below_alloc | apply pw_below_drewN | apply below_drew1) | exact HB.out)⟩⟩
          · rw [if_neg c8] at H
            exact absurd H (by simp)
        · rw [if_neg c6] at H
          have c6b0 : decide (x20_1 < (l0.length : Int)) = false := decide_eq_false c6
          clear c6
          simp only [Option.some.injEq, Prod.mk.injEq] at H
          obtain ⟨rfl, rfl⟩ := H
          go_wp2
          go_ret2
          exact ⟨_, by first | rfl | (simp [errW_none, errW_some] <;> rfl) | (simp [*, errW_none, errW_some] <;> rfl), by (with_reducible repeat (first | apply Kd.R_alloc | apply Kd.R_drewN | apply Kd.R_drew)); exact Kd.R_mono HO_8.out (fun _ hk => trivial), by repeat (first | (with_reducible first | exact HB.out | apply below_alloc | apply pw_below_drewN | apply below_drew1) | exact HB.out)⟩
  · rw [if_neg c4] at H
    have c4b0 : (t2 == 0) = false := beq_eq_false_iff_ne.mpr c4
    have c4b1 : (t2 != 0) = true := bne_iff_ne.mpr c4
    simp only [Option.some.injEq, Prod.mk.injEq] at H
    obtain ⟨rfl, rfl⟩ := H
    go_enter Try.func11, Try.ntmps11
    go_wp2_with (first | ((with_reducible refine gate_callee (f := 35) rfl ?_); refine goesL_ (some 12) rfl rfl Try.func35 (by kernel_rfl) rfl #[.slice A0 l0.length c0] rfl (by (try simp only [List.map_toArray, List.map_cons, List.map_nil]); first | done | rfl | (simp only [List.length_drop, List.length_take]; rfl)) ?_; (with_reducible refine (dft_may.calls k _ _ l0 t1 t2 _ ?side1 ?side2 A3.out).mono ?_); (case side1 => repeat (first | exact HR0.out | (with_reducible refine Kd.C_alloc ?_ _) | (with_reducible refine Kd.C_drewN ?_ _) | (with_reducible refine Kd.C_drew ?_))); (case side2 => exact HC0.out); rintro e w12 ⟨v3, rfl, ho0, hb⟩; refine ⟨_, rfl, ?_⟩; have n0_ := Aside0.mk (Kd.R_lower ho0 (below_size (by repeat (first | (with_reducible first | exact HB.out | apply below_alloc | apply pw_below_drewN | apply below_drew1) | exact HB.out)))); have n1_ := Aside0.mk (below_step (by repeat (first | (with_reducible first | exact HB.out | apply below_alloc | apply pw_below_drewN | apply below_drew1) | exact HB.out)) hb); clear HB; have HO4 := n0_; have HB := n1_; clear n0_ n1_; (try clear hb); (try clear hb2); (try clear hk); (try clear hi); (try clear ho0)))
    go_ret2
    exact ⟨_, by first | rfl | (simp [errW_none, errW_some] <;> rfl) | (simp [*, errW_none, errW_some] <;> rfl), by first | exact Kd.R_nil _ _ _ _ _ | exact Kd.N_nil _ _ _ _ _ | exact Kd.V_nil _ _ _ _ _ | exact Kd.Q_nil _ _ _ _ _ | exact Kd.S_nil _ _ _ _ _, by repeat (first | (with_reducible first | exact HB.out | apply below_alloc | apply pw_below_drewN | apply below_drew1) | exact HB.out)⟩

end Go.Proofs.Ytpmkkidljmedaaa.X
namespace Go.Proofs.Ytpmkkidljmedaaa.X
open Go.RowKit Go.Proofs.YtpmkkidljmedaaaW.PrintWords Go.Proofs.YtpmkkidljmedaaaW.PrintLast Go.Proofs.YtpmkkidljmedaaaW.PrintMore
attribute [local go_sem] max2_int min2_int max_two min_two max_three min_three max_four min_four   -- for this text's walks alone
set_option linter.unusedVariables false
set_option linter.unusedSimpArgs false

/-! ### dft_Bin: function 22 -/
def dft_Bin.f (k : Nat) (l0 : List (S41)) (a1 : Int) (a2 : Bool) : Option (Int × Int × Int) := (dft_may.f k l0).bind fun bt2 => (if bt2.2 = 0 then ((dft_bin.f l0 bt2.1 (Go.bits .and .i64 a1 (wrap64 ((l0.length : Int) - 1))) a2).bind fun bt6 => (some (bt6.1, bt6.2, 0))) else (some (0, 0, bt2.2)))
theorem dft_Bin.mono : ∀ a0 a1 a2 k, LeO (dft_Bin.f k a0 a1 a2) (dft_Bin.f (k + 1) a0 a1 a2) := by
  intro a0 a1 a2 k
  unfold dft_Bin.f
  repeat' first
      | (with_reducible exact dft_may.mono _ _)
      | (with_reducible exact LeO.refl _)
      | (with_reducible exact LeO.none _)
      | (with_reducible refine LeO.ite ?_ ?_)
      | (with_reducible refine LeO.bind ?_ (fun _ => ?_))
      | exact dft_may.mono _ _
      | exact LeO.none _
      | refine LeO.ite ?_ ?_
      | refine LeO.bind ?_ (fun _ => ?_)
set_option maxHeartbeats 8000000 in
set_option maxRecDepth 100000 in
theorem dft_Bin.calls (k : Nat) (A0 : Option Addr) (c0 : Nat) (l0 : List (S41)) (a1 : Int) (a2 : Bool) (r1 : Int) (r2 : Int) (r3 : Int) (w : World) (hr0 : Kd.C k41 w A0 l0.length l0) (hc0 : l0.length ≤ c0) (h : dft_Bin.f k l0 a1 a2 = some (r1, r2, r3)) :
    Calls Try.prog 22 #[.slice A0 l0.length c0, .int .i64 a1, .bool a2] w fun e w' => e = .returned (.tuple #[.agg #[.int .i64 r1, .int .i64 r2], .int .i64 r3]) ∧ Below w.heap.size w w' := by
  have hu41 := Try.underlying41
  have HR0 := Aside0.mk hr0
  have HC0 := Aside0.mk hc0
  clear hr0 hc0
  have HB := Aside0.mk (Below.refl w.heap.size w)
  have H : ((dft_may.f k l0).bind fun bt2 => (if bt2.2 = 0 then ((dft_bin.f l0 bt2.1 (Go.bits .and .i64 a1 (wrap64 ((l0.length : Int) - 1))) a2).bind fun bt6 => (some (bt6.1, bt6.2, 0))) else (some (0, 0, bt2.2)))) = some (r1, r2, r3) := h
  clear h
  replace H := Option.bind_eq_some_iff.mp H
  obtain ⟨⟨t2, t3⟩, A40, H⟩ := H
  replace H : (if t3 = 0 then ((dft_bin.f l0 t2 (Go.bits .and .i64 a1 (wrap64 ((l0.length : Int) - 1))) a2).bind fun bt6 => (some (bt6.1, bt6.2, 0))) else (some (0, 0, t3))) = some (r1, r2, r3) := H
  have A4 := Aside0.mk A40
  clear A40
  by_cases c5 : t3 = 0
  · rw [if_pos c5] at H
    have c5b0 : (t3 == 0) = true := beq_iff_eq.mpr c5
    have c5b1 : (t3 != 0) = false := bne_eq_false_iff_eq.mpr c5
    clear c5
    replace H := Option.bind_eq_some_iff.mp H
    obtain ⟨⟨t6, t7⟩, A60, H⟩ := H
    replace H : (some (t6, t7, 0)) = some (r1, r2, r3) := H
    have A6 := Aside0.mk A60
    clear A60
    simp only [Option.some.injEq, Prod.mk.injEq] at H
    obtain ⟨rfl, rfl, rfl⟩ := H
    go_enter Try.func22, Try.ntmps22
    go_wp2_with (first | ((with_reducible refine gate_dst (N := 6) rfl ?_); refine box_event ?hg (N := 6) ?hd (cs := #[.int .i64 0, .int .i64 0]) (t := 41) ?hr ?_; (case hd => rfl); (case hg => rfl); (case hr => first | (go_simp; done) | (go_simp; rfl)); intro gb1 hg w7 hbox hb; have n0_ := Aside0.mk (below_step (by repeat (first | (with_reducible first | exact HB.out | apply below_alloc | apply pw_below_drewN | apply below_drew1) | exact HB.out)) hb); have n1_ := Aside0.mk (hbox); have n2_ := Aside0.mk ((by rw [hg]; exact (below_size (by repeat (first | (with_reducible first | exact HB.out | apply below_alloc | apply pw_below_drewN | apply below_drew1) | exact HB.out))) : w.heap.size ≤ gb1)); have n3_ := Aside0.mk ((by rw [hg]; exact (below_size (by repeat (first | (with_reducible first | exact HB.out | apply below_alloc | apply pw_below_drewN | apply below_drew1) | exact HB.out))) : w.heap.size ≤ gb1)); clear HB; have HB := n0_; have BK1 := n1_; have GW1 := n2_; have GE1 := n3_; clear n0_ n1_ n2_ n3_; clear hb hbox hg) | ((with_reducible refine gate_callee (f := 35) rfl ?_); refine goesL_ (some 12) rfl rfl Try.func35 (by kernel_rfl) rfl #[.slice A0 l0.length c0] rfl (by (try simp only [List.map_toArray, List.map_cons, List.map_nil]); first | done | rfl | (simp only [List.length_drop, List.length_take]; rfl)) ?_; (with_reducible refine (dft_may.calls k _ _ l0 t2 t3 _ ?side1 ?side2 A4.out).mono ?_); (case side1 => repeat (first | exact (Kd.C_below HR0.out HB.out) | (with_reducible refine Kd.C_alloc ?_ _) | (with_reducible refine Kd.C_drewN ?_ _) | (with_reducible refine Kd.C_drew ?_))); (case side2 => exact HC0.out); rintro e w8 ⟨v4, rfl, ho0, hb⟩; refine ⟨_, rfl, ?_⟩; have n0_ := Aside0.mk (Kd.R_lower (Kd.R_newB ho0 (g := gb1) (o := .cells #[.int .i64 0, .int .i64 0] 41 (0, 0)) (by (with_reducible repeat (first | refine blk_drewN ?_ _ | refine blk_drew ?_ | refine blk_alloc ?_ _)); exact BK1.out)) (below_size (by repeat (first | (with_reducible first | exact HB.out | apply below_alloc | apply pw_below_drewN | apply below_drew1 | refine below_set ?_ GE1.out) | exact HB.out)))); have n1_ := Aside0.mk (blk_below (g := gb1) (o := .cells #[.int .i64 0, .int .i64 0] 41 (0, 0)) (by (with_reducible repeat (first | refine blk_drewN ?_ _ | refine blk_drew ?_ | refine blk_alloc ?_ _)); exact BK1.out) hb); have n2_ := Aside0.mk (below_step (by repeat (first | (with_reducible first | exact HB.out | apply below_alloc | apply pw_below_drewN | apply below_drew1 | refine below_set ?_ GE1.out) | exact HB.out)) hb); clear BK1; clear HB; have HO5 := n0_; have BK1 := n1_; have HB := n2_; clear n0_ n1_ n2_; (try clear hb); (try clear hb2); (try clear hk); (try clear hi); (try clear ho0); obtain ⟨Ao9, co9, eo9⟩ := Kd.R_slice HO5.out; subst eo9) | ((with_reducible refine gate_callee (f := 36) rfl ?_); refine goesL_ (some 27) rfl rfl Try.func36 (by kernel_rfl) rfl #[.slice A0 l0.length c0, .slice Ao9 t2.length co9, .int .i64 (Go.bits .and .i64 a1 (wrap64 ((l0.length : Int) - 1))), .bool a2] rfl (by (try simp only [List.map_toArray, List.map_cons, List.map_nil]); first | done | rfl | (simp only [List.length_drop, List.length_take]; rfl)) ?_; (with_reducible refine (dft_bin.calls _ _ l0 _ _ t2 (Go.bits .and .i64 a1 (wrap64 ((l0.length : Int) - 1))) a2 t6 t7 _ ?side1 ?side2 ?side3 ?side4 A6.out).mono ?_); (case side1 => repeat (first | exact (Kd.C_below HR0.out HB.out) | (with_reducible refine Kd.C_alloc ?_ _) | (with_reducible refine Kd.C_drewN ?_ _) | (with_reducible refine Kd.C_drew ?_))); (case side2 => exact HC0.out); (case side3 => repeat (first | exact (Kd.R_reads' HO5.out).2.2 | (with_reducible refine Kd.C_alloc ?_ _) | (with_reducible refine Kd.C_drewN ?_ _) | (with_reducible refine Kd.C_drew ?_))); (case side4 => exact (Kd.R_reads' HO5.out).2.1); rintro e w10 ⟨rfl, hb⟩; refine ⟨_, rfl, ?_⟩; have n0_ := Aside0.mk (Kd.R_below (by (with_reducible repeat (first | apply Kd.R_alloc | apply Kd.R_drewN | apply Kd.R_drew)); exact HO5.out) hb); have n1_ := Aside0.mk (blk_below (g := gb1) (o := .cells #[.int .i64 0, .int .i64 0] 41 (0, 0)) (by (with_reducible repeat (first | refine blk_drewN ?_ _ | refine blk_drew ?_ | refine blk_alloc ?_ _)); exact BK1.out) hb); have n2_ := Aside0.mk (below_step (by repeat (first | (with_reducible first | exact HB.out | apply below_alloc | apply pw_below_drewN | apply below_drew1 | refine below_set ?_ GE1.out) | exact HB.out)) hb); clear HO5; clear BK1; clear HB; have HO5 := n0_; have BK1 := n1_; have HB := n2_; clear n0_ n1_ n2_; (try clear hb); (try clear hb2); (try clear hk); (try clear hi); have hcz11_0 : w10.cell? ⟨gb1, 0, none⟩ = some (.int .i64 0) := (blk_cell BK1.out 0).trans rfl; have hcz11_1 : w10.cell? ⟨gb1, 1, none⟩ = some (.int .i64 0) := (blk_cell BK1.out 1).trans rfl; have hfz11_0 := blk_frozen BK1.out 0; have hfz11_1 := blk_frozen BK1.out 1))
    refine bodyPost_ret (results_ct rfl _ _ gb1 41 #[.int .i64 t6, .int .i64 t7] (0, 0) _ rfl (by (with_reducible repeat (first | refine blk_drewN ?_ _ | refine blk_drew ?_ | refine blk_alloc ?_ _)); refine blk_put (cs := #[.int .i64 t6, .int .i64 0]) ?_ 1 _ rfl; (with_reducible repeat (first | refine blk_drewN ?_ _ | refine blk_drew ?_ | refine blk_alloc ?_ _)); refine blk_put (cs := #[.int .i64 0, .int .i64 0]) ?_ 0 _ rfl; (with_reducible repeat (first | refine blk_drewN ?_ _ | refine blk_drew ?_ | refine blk_alloc ?_ _)); exact BK1.out) Try.underlying41 rfl (by kernel_rfl)) rfl ?_
    exact ⟨by first | rfl | (simp [errW_none, errW_some] <;> rfl) | (simp [*, errW_none, errW_some] <;> rfl), by repeat (first | (with_reducible first | exact HB.out | apply below_alloc | apply pw_below_drewN | apply below_drew1 | refine below_set ?_ GE1.out) | exact HB.out)⟩
  · rw [if_neg c5] at H
    have c5b0 : (t3 == 0) = false := beq_eq_false_iff_ne.mpr c5
    have c5b1 : (t3 != 0) = true := bne_iff_ne.mpr c5
    simp only [Option.some.injEq, Prod.mk.injEq] at H
    obtain ⟨rfl, rfl, rfl⟩ := H
    go_enter Try.func22, Try.ntmps22
    go_wp2_with (first | ((with_reducible refine gate_dst (N := 6) rfl ?_); refine box_event ?hg (N := 6) ?hd (cs := #[.int .i64 0, .int .i64 0]) (t := 41) ?hr ?_; (case hd => rfl); (case hg => rfl); (case hr => first | (go_simp; done) | (go_simp; rfl)); intro gb1 hg w12 hbox hb; have n0_ := Aside0.mk (below_step (by repeat (first | (with_reducible first | exact HB.out | apply below_alloc | apply pw_below_drewN | apply below_drew1) | exact HB.out)) hb); have n1_ := Aside0.mk (hbox); have n2_ := Aside0.mk ((by rw [hg]; exact (below_size (by repeat (first | (with_reducible first | exact HB.out | apply below_alloc | apply pw_below_drewN | apply below_drew1) | exact HB.out))) : w.heap.size ≤ gb1)); have n3_ := Aside0.mk ((by rw [hg]; exact (below_size (by repeat (first | (with_reducible first | exact HB.out | apply below_alloc | apply pw_below_drewN | apply below_drew1) | exact HB.out))) : w.heap.size ≤ gb1)); clear HB; have HB := n0_; have BK1 := n1_; have GW1 := n2_; have GE1 := n3_; clear n0_ n1_ n2_ n3_; clear hb hbox hg) | ((with_reducible refine gate_callee (f := 35) rfl ?_); refine goesL_ (some 12) rfl rfl Try.func35 (by kernel_rfl) rfl #[.slice A0 l0.length c0] rfl (by (try simp only [List.map_toArray, List.map_cons, List.map_nil]); first | done | rfl | (simp only [List.length_drop, List.length_take]; rfl)) ?_; (with_reducible refine (dft_may.calls k _ _ l0 t2 t3 _ ?side1 ?side2 A4.out).mono ?_); (case side1 => repeat (first | exact (Kd.C_below HR0.out HB.out) | (with_reducible refine Kd.C_alloc ?_ _) | (with_reducible refine Kd.C_drewN ?_ _) | (with_reducible refine Kd.C_drew ?_))); (case side2 => exact HC0.out); rintro e w13 ⟨v4, rfl, ho0, hb⟩; refine ⟨_, rfl, ?_⟩; have n0_ := Aside0.mk (Kd.R_lower (Kd.R_newB ho0 (g := gb1) (o := .cells #[.int .i64 0, .int .i64 0] 41 (0, 0)) (by (with_reducible repeat (first | refine blk_drewN ?_ _ | refine blk_drew ?_ | refine blk_alloc ?_ _)); exact BK1.out)) (below_size (by repeat (first | (with_reducible first | exact HB.out | apply below_alloc | apply pw_below_drewN | apply below_drew1 | refine below_set ?_ GE1.out) | exact HB.out)))); have n1_ := Aside0.mk (blk_below (g := gb1) (o := .cells #[.int .i64 0, .int .i64 0] 41 (0, 0)) (by (with_reducible repeat (first | refine blk_drewN ?_ _ | refine blk_drew ?_ | refine blk_alloc ?_ _)); exact BK1.out) hb); have n2_ := Aside0.mk (below_step (by repeat (first | (with_reducible first | exact HB.out | apply below_alloc | apply pw_below_drewN | apply below_drew1 | refine below_set ?_ GE1.out) | exact HB.out)) hb); clear BK1; clear HB; have HO5 := n0_; have BK1 := n1_; have HB := n2_; clear n0_ n1_ n2_; (try clear hb); (try clear hb2); (try clear hk); (try clear hi); (try clear ho0); have hcz14_0 : w13.cell? ⟨gb1, 0, none⟩ = some (.int .i64 0) := (blk_cell BK1.out 0).trans rfl; have hcz14_1 : w13.cell? ⟨gb1, 1, none⟩ = some (.int .i64 0) := (blk_cell BK1.out 1).trans rfl; have hfz14_0 := blk_frozen BK1.out 0; have hfz14_1 := blk_frozen BK1.out 1))
    refine bodyPost_ret (results_ct rfl _ _ gb1 41 #[.int .i64 0, .int .i64 0] (0, 0) _ rfl (by (with_reducible repeat (first | refine blk_drewN ?_ _ | refine blk_drew ?_ | refine blk_alloc ?_ _)); refine blk_put (cs := #[.int .i64 0, .int .i64 0]) ?_ 1 _ rfl; (with_reducible repeat (first | refine blk_drewN ?_ _ | refine blk_drew ?_ | refine blk_alloc ?_ _)); refine blk_put (cs := #[.int .i64 0, .int .i64 0]) ?_ 0 _ rfl; (with_reducible repeat (first | refine blk_drewN ?_ _ | refine blk_drew ?_ | refine blk_alloc ?_ _)); exact BK1.out) Try.underlying41 rfl (by kernel_rfl)) rfl ?_
    exact ⟨by first | rfl | (simp [errW_none, errW_some] <;> rfl) | (simp [*, errW_none, errW_some] <;> rfl), by repeat (first | (with_reducible first | exact HB.out | apply below_alloc | apply pw_below_drewN | apply below_drew1 | refine below_set ?_ GE1.out) | exact HB.out)⟩

end Go.Proofs.Ytpmkkidljmedaaa.X
namespace Go.Proofs.Ytpmkkidljmedaaa.X
open Go.RowKit Go.Proofs.YtpmkkidljmedaaaW.PrintWords Go.Proofs.YtpmkkidljmedaaaW.PrintLast Go.Proofs.YtpmkkidljmedaaaW.PrintMore
attribute [local go_sem] max2_int min2_int max_two min_two max_three min_three max_four min_four   -- for this text's walks alone
set_option linter.unusedVariables false
set_option linter.unusedSimpArgs false

attribute [local go_sem high] eqA41
/-! ### headroomlaw16_alive: function 13 -/
def headroomlaw16_alive.f (k : Nat)  : Option (Bool) := (dft_Bin.f k (([(⟨1, 0⟩ : S41), (⟨2, 0⟩ : S41), (⟨3, 0⟩ : S41), (⟨4, 0⟩ : S41)] : List (S41))) 1 false).bind fun bt4 => (if bt4.2.2 = 0 then (some (bt4.1 == (-512) && (bt4.2.1 == 512))) else (some false))
theorem headroomlaw16_alive.mono : ∀ k, LeO (headroomlaw16_alive.f k ) (headroomlaw16_alive.f (k + 1) ) := by
  intro  k
  unfold headroomlaw16_alive.f
  repeat' first
      | (with_reducible exact dft_Bin.mono _ _ _ _)
      | (with_reducible exact LeO.refl _)
      | (with_reducible exact LeO.none _)
      | (with_reducible refine LeO.ite ?_ ?_)
      | (with_reducible refine LeO.bind ?_ (fun _ => ?_))
      | exact dft_Bin.mono _ _ _ _
      | exact LeO.none _
      | refine LeO.ite ?_ ?_
      | refine LeO.bind ?_ (fun _ => ?_)
set_option maxHeartbeats 8000000 in
set_option maxRecDepth 100000 in
theorem headroomlaw16_alive.calls (k : Nat)  (r : Bool) (w : World) (h : headroomlaw16_alive.f k  = some r) :
    Calls Try.prog 13 #[] w fun e w' => e = .returned (.bool r) ∧ Below w.heap.size w w' := by
  have hu41 := Try.underlying41
  have HB := Aside0.mk (Below.refl w.heap.size w)
  have H : ((dft_Bin.f k (([(⟨1, 0⟩ : S41), (⟨2, 0⟩ : S41), (⟨3, 0⟩ : S41), (⟨4, 0⟩ : S41)] : List (S41))) 1 false).bind fun bt4 => (if bt4.2.2 = 0 then (some (bt4.1 == (-512) && (bt4.2.1 == 512))) else (some false))) = some r := h
  clear h
  obtain ⟨y1, hy1⟩ : ∃ y_ : List (S41), y_ = (([(⟨1, 0⟩ : S41), (⟨2, 0⟩ : S41), (⟨3, 0⟩ : S41), (⟨4, 0⟩ : S41)] : List (S41))) := ⟨_, rfl⟩
  replace H : ((dft_Bin.f k y1 1 false).bind fun bt4 => (if bt4.2.2 = 0 then (some (bt4.1 == (-512) && (bt4.2.1 == 512))) else (some false))) = some r := by first | (rw [hy1]; with_reducible exact H) | (have H2_ := (Option.bind_some _ _).symm.trans H; rw [hy1]; with_reducible exact H2_) | (have H2_ := (Option.bind_some _ _).symm.trans H; with_reducible exact H2_) | with_reducible exact H | (rw [hy1]; exact H) | exact H
  have Ny1 := Aside0.mk hy1
  clear hy1
  replace H := Option.bind_eq_some_iff.mp H
  obtain ⟨⟨t4, t5, t6⟩, A10, H⟩ := H
  replace H : (if t6 = 0 then (some (t4 == (-512) && (t5 == 512))) else (some false)) = some r := H
  have A1 := Aside0.mk A10
  clear A10
  by_cases c2 : t6 = 0
  · rw [if_pos c2] at H
    have c2b0 : (t6 == 0) = true := beq_iff_eq.mpr c2
    have c2b1 : (t6 != 0) = false := bne_eq_false_iff_eq.mpr c2
    clear c2
    obtain rfl := Option.some.inj H
    go_enter Try.func13, Try.ntmps13
    go_wp2_with (first | ((with_reducible refine gate_dst (N := 8) rfl ?_); refine Kd.R_lit k41 _ 41 ?hg (N := 8) ?hd (xs := ([(⟨1, 0⟩ : S41), (⟨2, 0⟩ : S41), (⟨3, 0⟩ : S41), (⟨4, 0⟩ : S41)] : List (S41))) (inner := [.int .i64 1, .int .i64 0, .int .i64 2, .int .i64 0, .int .i64 3, .int .i64 0, .int .i64 4, .int .i64 0]) (ok := fun _ => True) (okp := fun _ => True) ?hr ?hp (fun _ hk => hk) trivial (Below.refl _ _) (Nat.le_refl _) (by simp) ?_; (case hd => rfl); (case hg => rfl); (case hr => first | (go_simp; done) | (go_simp; rfl)); (case hp => exact (Reps.c2 (show Kd.M k41 _ _ _ (⟨1, 0⟩ : S41) [.int .i64 1, .int .i64 0] from (k41_mkM _ _ _ (⟨1, 0⟩ : S41) )) (Reps.c2 (show Kd.M k41 _ _ _ (⟨2, 0⟩ : S41) [.int .i64 2, .int .i64 0] from (k41_mkM _ _ _ (⟨2, 0⟩ : S41) )) (Reps.c2 (show Kd.M k41 _ _ _ (⟨3, 0⟩ : S41) [.int .i64 3, .int .i64 0] from (k41_mkM _ _ _ (⟨3, 0⟩ : S41) )) (Reps.c2 (show Kd.M k41 _ _ _ (⟨4, 0⟩ : S41) [.int .i64 4, .int .i64 0] from (k41_mkM _ _ _ (⟨4, 0⟩ : S41) )) (Reps.none _ _)))))); intro v2 w3 ho4 hb hg_ hnew_; clear hg_ hnew_; (first | rw [← Ny1.out] at ho4 | (simp only [Int.reduceToNat] at ho4; rw [← Ny1.out] at ho4)); have n0_ := Aside0.mk (Kd.R_lower ho4 (below_size (by repeat (first | (with_reducible first | exact HB.out | apply below_alloc | apply pw_below_drewN | apply below_drew1) | exact HB.out)))); have n1_ := Aside0.mk (below_step (by repeat (first | (with_reducible first | exact HB.out | apply below_alloc | apply pw_below_drewN | apply below_drew1) | exact HB.out)) hb); clear HB; have HO3 := n0_; have HB := n1_; clear n0_ n1_; clear hb ho4; obtain ⟨Ao5, co5, eo5⟩ := Kd.R_slice HO3.out; subst eo5) | ((with_reducible refine gate_callee (f := 22) rfl ?_); refine goesL_ (some 9) rfl rfl Try.func22 (by kernel_rfl) rfl #[.slice Ao5 y1.length co5, .int .i64 1, .bool false] rfl (by (try simp only [List.map_toArray, List.map_cons, List.map_nil]); first | done | rfl | (simp only [List.length_drop, List.length_take]; rfl)) ?_; (with_reducible refine (dft_Bin.calls k _ _ y1 1 false t4 t5 t6 _ ?side1 ?side2 A1.out).mono ?_); (case side1 => repeat (first | exact (Kd.R_reads' HO3.out).2.2 | (with_reducible refine Kd.C_alloc ?_ _) | (with_reducible refine Kd.C_drewN ?_ _) | (with_reducible refine Kd.C_drew ?_))); (case side2 => exact (Kd.R_reads' HO3.out).2.1); rintro e w6 ⟨rfl, hb⟩; refine ⟨_, rfl, ?_⟩; have n0_ := Aside0.mk (Kd.R_below (by (with_reducible repeat (first | apply Kd.R_alloc | apply Kd.R_drewN | apply Kd.R_drew)); exact HO3.out) hb); have n1_ := Aside0.mk (below_step (by repeat (first | (with_reducible first | exact HB.out | apply below_alloc | apply pw_below_drewN | apply below_drew1) | exact HB.out)) hb); clear HO3; clear HB; have HO3 := n0_; have HB := n1_; clear n0_ n1_; (try clear hb); (try clear hb2); (try clear hk); (try clear hi)) | ((with_reducible refine gate_dst (N := 1) rfl ?_); refine box_event ?hg (N := 1) ?hd (cs := #[.int .i64 0, .int .i64 0]) (t := 41) ?hr ?_; (case hd => rfl); (case hg => rfl); (case hr => first | (go_simp; done) | (go_simp; rfl)); intro gb7 hg w7 hbox hb; have n0_ := Aside0.mk (Kd.R_below (Kd.R_elderB (by (with_reducible repeat (first | apply Kd.R_alloc | apply Kd.R_drewN | apply Kd.R_drew)); exact HO3.out) gb7 (Nat.le_of_eq hg.symm)) hb); have n1_ := Aside0.mk (below_step (by repeat (first | (with_reducible first | exact HB.out | apply below_alloc | apply pw_below_drewN | apply below_drew1) | exact HB.out)) hb); have n2_ := Aside0.mk (hbox); have n3_ := Aside0.mk ((by rw [hg]; exact (below_size (by repeat (first | (with_reducible first | exact HB.out | apply below_alloc | apply pw_below_drewN | apply below_drew1) | exact HB.out))) : w.heap.size ≤ gb7)); have n4_ := Aside0.mk ((by rw [hg]; exact (below_size (by repeat (first | (with_reducible first | exact HB.out | apply below_alloc | apply pw_below_drewN | apply below_drew1) | exact HB.out))) : w.heap.size ≤ gb7)); clear HO3; clear HB; have HO3 := n0_; have HB := n1_; have BK7 := n2_; have GW7 := n3_; have GE7 := n4_; clear n0_ n1_ n2_ n3_ n4_; clear hb hbox hg; have hcz8_0 : w7.cell? ⟨gb7, 0, none⟩ = some (.int .i64 0) := (blk_cell BK7.out 0).trans rfl; have hcz8_1 : w7.cell? ⟨gb7, 1, none⟩ = some (.int .i64 0) := (blk_cell BK7.out 1).trans rfl; have hfz8_0 := blk_frozen BK7.out 0; have hfz8_1 := blk_frozen BK7.out 1))
    go_ret
    exact ⟨by first | rfl | (simp [errW_none, errW_some] <;> rfl) | (simp [*, errW_none, errW_some] <;> rfl), by repeat (first | (with_reducible first | exact HB.out | apply below_alloc | apply pw_below_drewN | apply below_drew1 | refine below_set ?_ GE7.out) | exact HB.out)⟩
  · rw [if_neg c2] at H
    have c2b0 : (t6 == 0) = false := beq_eq_false_iff_ne.mpr c2
    have c2b1 : (t6 != 0) = true := bne_iff_ne.mpr c2
    obtain rfl := Option.some.inj H
    go_enter Try.func13, Try.ntmps13
    go_wp2_with (first | ((with_reducible refine gate_dst (N := 8) rfl ?_); refine Kd.R_lit k41 _ 41 ?hg (N := 8) ?hd (xs := ([(⟨1, 0⟩ : S41), (⟨2, 0⟩ : S41), (⟨3, 0⟩ : S41), (⟨4, 0⟩ : S41)] : List (S41))) (inner := [.int .i64 1, .int .i64 0, .int .i64 2, .int .i64 0, .int .i64 3, .int .i64 0, .int .i64 4, .int .i64 0]) (ok := fun _ => True) (okp := fun _ => True) ?hr ?hp (fun _ hk => hk) trivial (Below.refl _ _) (Nat.le_refl _) (by simp) ?_; (case hd => rfl); (case hg => rfl); (case hr => first | (go_simp; done) | (go_simp; rfl)); (case hp => exact (Reps.c2 (show Kd.M k41 _ _ _ (⟨1, 0⟩ : S41) [.int .i64 1, .int .i64 0] from (k41_mkM _ _ _ (⟨1, 0⟩ : S41) )) (Reps.c2 (show Kd.M k41 _ _ _ (⟨2, 0⟩ : S41) [.int .i64 2, .int .i64 0] from (k41_mkM _ _ _ (⟨2, 0⟩ : S41) )) (Reps.c2 (show Kd.M k41 _ _ _ (⟨3, 0⟩ : S41) [.int .i64 3, .int .i64 0] from (k41_mkM _ _ _ (⟨3, 0⟩ : S41) )) (Reps.c2 (show Kd.M k41 _ _ _ (⟨4, 0⟩ : S41) [.int .i64 4, .int .i64 0] from (k41_mkM _ _ _ (⟨4, 0⟩ : S41) )) (Reps.none _ _)))))); intro v2 w9 ho10 hb hg_ hnew_; clear hg_ hnew_; (first | rw [← Ny1.out] at ho10 | (simp only [Int.reduceToNat] at ho10; rw [← Ny1.out] at ho10)); have n0_ := Aside0.mk (Kd.R_lower ho10 (below_size (by repeat (first | (with_reducible first | exact HB.out | apply below_alloc | apply pw_below_drewN | apply below_drew1) | exact HB.out)))); have n1_ := Aside0.mk (below_step (by repeat (first | (with_reducible first | exact HB.out | apply below_alloc | apply pw_below_drewN | apply below_drew1) | exact HB.out)) hb); clear HB; have HO3 := n0_; have HB := n1_; clear n0_ n1_; clear hb ho10; obtain ⟨Ao11, co11, eo11⟩ := Kd.R_slice HO3.out; subst eo11) | ((with_reducible refine gate_callee (f := 22) rfl ?_); refine goesL_ (some 9) rfl rfl Try.func22 (by kernel_rfl) rfl #[.slice Ao11 y1.length co11, .int .i64 1, .bool false] rfl (by (try simp only [List.map_toArray, List.map_cons, List.map_nil]); first | done | rfl | (simp only [List.length_drop, List.length_take]; rfl)) ?_; (with_reducible refine (dft_Bin.calls k _ _ y1 1 false t4 t5 t6 _ ?side1 ?side2 A1.out).mono ?_); (case side1 => repeat (first | exact (Kd.R_reads' HO3.out).2.2 | (with_reducible refine Kd.C_alloc ?_ _) | (with_reducible refine Kd.C_drewN ?_ _) | (with_reducible refine Kd.C_drew ?_))); (case side2 => exact (Kd.R_reads' HO3.out).2.1); rintro e w12 ⟨rfl, hb⟩; refine ⟨_, rfl, ?_⟩; have n0_ := Aside0.mk (Kd.R_below (by (with_reducible repeat (first | apply Kd.R_alloc | apply Kd.R_drewN | apply Kd.R_drew)); exact HO3.out) hb); have n1_ := Aside0.mk (below_step (by repeat (first | (with_reducible first | exact HB.out | apply below_alloc | apply pw_below_drewN | apply below_drew1) | exact HB.out)) hb); clear HO3; clear HB; have HO3 := n0_; have HB := n1_; clear n0_ n1_; (try clear hb); (try clear hb2); (try clear hk); (try clear hi)) | ((with_reducible refine gate_dst (N := 1) rfl ?_); refine box_event ?hg (N := 1) ?hd (cs := #[.int .i64 0, .int .i64 0]) (t := 41) ?hr ?_; (case hd => rfl); (case hg => rfl); (case hr => first | (go_simp; done) | (go_simp; rfl)); intro gb7 hg w13 hbox hb; have n0_ := Aside0.mk (Kd.R_below (Kd.R_elderB (by (with_reducible repeat (first | apply Kd.R_alloc | apply Kd.R_drewN | apply Kd.R_drew)); exact HO3.out) gb7 (Nat.le_of_eq hg.symm)) hb); have n1_ := Aside0.mk (below_step (by repeat (first | (with_reducible first | exact HB.out | apply below_alloc | apply pw_below_drewN | apply below_drew1) | exact HB.out)) hb); have n2_ := Aside0.mk (hbox); have n3_ := Aside0.mk ((by rw [hg]; exact (below_size (by repeat (first | (with_reducible first | exact HB.out | apply below_alloc | apply pw_below_drewN | apply below_drew1) | exact HB.out))) : w.heap.size ≤ gb7)); have n4_ := Aside0.mk ((by rw [hg]; exact (below_size (by repeat (first | (with_reducible first | exact HB.out | apply below_alloc | apply pw_below_drewN | apply below_drew1) | exact HB.out))) : w.heap.size ≤ gb7)); clear HO3; clear HB; have HO3 := n0_; have HB := n1_; have BK7 := n2_; have GW7 := n3_; have GE7 := n4_; clear n0_ n1_ n2_ n3_ n4_; clear hb hbox hg; have hcz14_0 : w13.cell? ⟨gb7, 0, none⟩ = some (.int .i64 0) := (blk_cell BK7.out 0).trans rfl; have hcz14_1 : w13.cell? ⟨gb7, 1, none⟩ = some (.int .i64 0) := (blk_cell BK7.out 1).trans rfl; have hfz14_0 := blk_frozen BK7.out 0; have hfz14_1 := blk_frozen BK7.out 1))
    go_ret
    exact ⟨by first | rfl | (simp [errW_none, errW_some] <;> rfl) | (simp [*, errW_none, errW_some] <;> rfl), by repeat (first | (with_reducible first | exact HB.out | apply below_alloc | apply pw_below_drewN | apply below_drew1 | refine below_set ?_ GE7.out) | exact HB.out)⟩

end Go.Proofs.Ytpmkkidljmedaaa.X
namespace Go.Proofs.Ytpmkkidljmedaaa.X
open Go.RowKit Go.Proofs.YtpmkkidljmedaaaW.PrintWords Go.Proofs.YtpmkkidljmedaaaW.PrintLast Go.Proofs.YtpmkkidljmedaaaW.PrintMore
attribute [local go_sem] max2_int min2_int max_two min_two max_three min_three max_four min_four   -- for this text's walks alone
set_option linter.unusedVariables false
set_option linter.unusedSimpArgs false

/-! ### dft_Slack: function 21 -/
def dft_Slack.f (k : Nat) (l0 : List (S41)) : Option (Int × Int) := (dft_may.f k l0).bind fun bt1 => (if bt1.2 = 0 then ((scan_Max.f k l0).bind fun bt5 => (some (wrap64 (((wrap64 ((wrap64 (2 * (l0.length : Int))) * bt5.1)) / 4294967296) + 2), 0))) else (some (0, bt1.2)))
theorem dft_Slack.mono : ∀ a0 k, LeO (dft_Slack.f k a0) (dft_Slack.f (k + 1) a0) := by
  intro a0 k
  unfold dft_Slack.f
  repeat' first
      | (with_reducible exact dft_may.mono _ _)
      | (with_reducible exact scan_Max.mono _ _)
      | (with_reducible exact LeO.refl _)
      | (with_reducible exact LeO.none _)
      | (with_reducible refine LeO.ite ?_ ?_)
      | (with_reducible refine LeO.bind ?_ (fun _ => ?_))
      | exact dft_may.mono _ _
      | exact scan_Max.mono _ _
      | exact LeO.none _
      | refine LeO.ite ?_ ?_
      | refine LeO.bind ?_ (fun _ => ?_)
set_option maxHeartbeats 8000000 in
set_option maxRecDepth 100000 in
theorem dft_Slack.calls (k : Nat) (A0 : Option Addr) (c0 : Nat) (l0 : List (S41)) (r1 : Int) (r2 : Int) (w : World) (hr0 : Kd.C k41 w A0 l0.length l0) (hc0 : l0.length ≤ c0) (h : dft_Slack.f k l0 = some (r1, r2)) :
    Calls Try.prog 21 #[.slice A0 l0.length c0] w fun e w' => e = .returned (.tuple #[.int .i64 r1, .int .i64 r2]) ∧ Below w.heap.size w w' := by
  have HR0 := Aside0.mk hr0
  have HC0 := Aside0.mk hc0
  clear hr0 hc0
  have HB := Aside0.mk (Below.refl w.heap.size w)
  have H : ((dft_may.f k l0).bind fun bt1 => (if bt1.2 = 0 then ((scan_Max.f k l0).bind fun bt5 => (some (wrap64 (((wrap64 ((wrap64 (2 * (l0.length : Int))) * bt5.1)) / 4294967296) + 2), 0))) else (some (0, bt1.2)))) = some (r1, r2) := h
  clear h
  replace H := Option.bind_eq_some_iff.mp H
  obtain ⟨⟨t1, t2⟩, A20, H⟩ := H
  replace H : (if t2 = 0 then ((scan_Max.f k l0).bind fun bt5 => (some (wrap64 (((wrap64 ((wrap64 (2 * (l0.length : Int))) * bt5.1)) / 4294967296) + 2), 0))) else (some (0, t2))) = some (r1, r2) := H
  have A2 := Aside0.mk A20
  clear A20
  by_cases c3 : t2 = 0
  · rw [if_pos c3] at H
    have c3b0 : (t2 == 0) = true := beq_iff_eq.mpr c3
    have c3b1 : (t2 != 0) = false := bne_eq_false_iff_eq.mpr c3
    clear c3
    replace H := Option.bind_eq_some_iff.mp H
    obtain ⟨⟨t5, t6⟩, A40, H⟩ := H
    replace H : (some (wrap64 (((wrap64 ((wrap64 (2 * (l0.length : Int))) * t5)) / 4294967296) + 2), 0)) = some (r1, r2) := H
    have A4 := Aside0.mk A40
    clear A40
    simp only [Option.some.injEq, Prod.mk.injEq] at H
    obtain ⟨rfl, rfl⟩ := H
    go_enter Try.func21, Try.ntmps21
    go_wp2_with (first | ((with_reducible refine gate_callee (f := 35) rfl ?_); refine goesL_ (some 10) rfl rfl Try.func35 (by kernel_rfl) rfl #[.slice A0 l0.length c0] rfl (by (try simp only [List.map_toArray, List.map_cons, List.map_nil]); first | done | rfl | (simp only [List.length_drop, List.length_take]; rfl)) ?_; (with_reducible refine (dft_may.calls k _ _ l0 t1 t2 _ ?side1 ?side2 A2.out).mono ?_); (case side1 => repeat (first | exact HR0.out | (with_reducible refine Kd.C_alloc ?_ _) | (with_reducible refine Kd.C_drewN ?_ _) | (with_reducible refine Kd.C_drew ?_))); (case side2 => exact HC0.out); rintro e w5 ⟨v3, rfl, ho0, hb⟩; refine ⟨_, rfl, ?_⟩; have n0_ := Aside0.mk (Kd.R_lower ho0 (below_size (by repeat (first | (with_reducible first | exact HB.out | apply below_alloc | apply pw_below_drewN | apply below_drew1) | exact HB.out)))); have n1_ := Aside0.mk (below_step (by repeat (first | (with_reducible first | exact HB.out | apply below_alloc | apply pw_below_drewN | apply below_drew1) | exact HB.out)) hb); clear HB; have HO4 := n0_; have HB := n1_; clear n0_ n1_; (try clear hb); (try clear hb2); (try clear hk); (try clear hi); (try clear ho0)) | ((with_reducible refine gate_callee (f := 49) rfl ?_); refine goesL_ (some 18) rfl rfl Try.func49 (by kernel_rfl) rfl #[.slice A0 l0.length c0] rfl (by (try simp only [List.map_toArray, List.map_cons, List.map_nil]); first | done | rfl | (simp only [List.length_drop, List.length_take]; rfl)) ?_; (with_reducible refine (scan_Max.calls k _ _ l0 t5 t6 _ ?side1 ?side2 A4.out).mono ?_); (case side1 => repeat (first | exact (Kd.C_below HR0.out HB.out) | (with_reducible refine Kd.C_alloc ?_ _) | (with_reducible refine Kd.C_drewN ?_ _) | (with_reducible refine Kd.C_drew ?_))); (case side2 => exact HC0.out); rintro e w6 ⟨rfl, hb⟩; refine ⟨_, rfl, ?_⟩; have n0_ := Aside0.mk (Kd.R_below (by (with_reducible repeat (first | apply Kd.R_alloc | apply Kd.R_drewN | apply Kd.R_drew)); exact HO4.out) hb); have n1_ := Aside0.mk (below_step (by repeat (first | (with_reducible first | exact HB.out | apply below_alloc | apply pw_below_drewN | apply below_drew1) | exact HB.out)) hb); clear HO4; clear HB; have HO4 := n0_; have HB := n1_; clear n0_ n1_; (try clear hb); (try clear hb2); (try clear hk); (try clear hi)))
    go_ret2
    exact ⟨by first | rfl | (simp [errW_none, errW_some] <;> rfl) | (simp [*, errW_none, errW_some] <;> rfl), by repeat (first | (with_reducible first | exact HB.out | apply below_alloc | apply pw_below_drewN | apply below_drew1) | exact HB.out)⟩
  · rw [if_neg c3] at H
    have c3b0 : (t2 == 0) = false := beq_eq_false_iff_ne.mpr c3
    have c3b1 : (t2 != 0) = true := bne_iff_ne.mpr c3
    simp only [Option.some.injEq, Prod.mk.injEq] at H
    obtain ⟨rfl, rfl⟩ := H
    go_enter Try.func21, Try.ntmps21
    go_wp2_with (first | ((with_reducible refine gate_callee (f := 35) rfl ?_); refine goesL_ (some 10) rfl rfl Try.func35 (by kernel_rfl) rfl #[.slice A0 l0.length c0] rfl (by (try simp only [List.map_toArray, List.map_cons, List.map_nil]); first | done | rfl | (simp only [List.length_drop, List.length_take]; rfl)) ?_; (with_reducible refine (dft_may.calls k _ _ l0 t1 t2 _ ?side1 ?side2 A2.out).mono ?_); (case side1 => repeat (first | exact HR0.out | (with_reducible refine Kd.C_alloc ?_ _) | (with_reducible refine Kd.C_drewN ?_ _) | (with_reducible refine Kd.C_drew ?_))); (case side2 => exact HC0.out); rintro e w7 ⟨v3, rfl, ho0, hb⟩; refine ⟨_, rfl, ?_⟩; have n0_ := Aside0.mk (Kd.R_lower ho0 (below_size (by repeat (first | (with_reducible first | exact HB.out | apply below_alloc | apply pw_below_drewN | apply below_drew1) | exact HB.out)))); have n1_ := Aside0.mk (below_step (by repeat (first | (with_reducible first | exact HB.out | apply below_alloc | apply pw_below_drewN | apply below_drew1) | exact HB.out)) hb); clear HB; have HO4 := n0_; have HB := n1_; clear n0_ n1_; (try clear hb); (try clear hb2); (try clear hk); (try clear hi); (try clear ho0)))
    go_ret2
    exact ⟨by first | rfl | (simp [errW_none, errW_some] <;> rfl) | (simp [*, errW_none, errW_some] <;> rfl), by repeat (first | (with_reducible first | exact HB.out | apply below_alloc | apply pw_below_drewN | apply below_drew1) | exact HB.out)⟩

end Go.Proofs.Ytpmkkidljmedaaa.X
namespace Go.Proofs.Ytpmkkidljmedaaa.X
open Go.RowKit Go.Proofs.YtpmkkidljmedaaaW.PrintWords Go.Proofs.YtpmkkidljmedaaaW.PrintLast Go.Proofs.YtpmkkidljmedaaaW.PrintMore
attribute [local go_sem] max2_int min2_int max_two min_two max_three min_three max_four min_four   -- for this text's walks alone
set_option linter.unusedVariables false
set_option linter.unusedSimpArgs false

attribute [local go_sem high] eqA41
/-! ### headroomlaw16_DftSum: function 6 -/
mutual
def headroomlaw16_DftSum.j0 : Nat → List (S41) → Bool → List (S41) → Int → Bool → Option (Bool)
  | 0, _, _, _, _, _ => none
  | k + 1, x0, x1, x5, x7, x56 => if x56 = true then (some false) else (if 0 < (x0.length : Int) then (headroomlaw16_DftSum.l0 k x0 x1 x7 (wrap64 ((wrap64 ((wrap64 (-((rd_T41 x0 0).f0))) * (x0.length : Int))) * 256)) (wrap64 ((wrap64 ((wrap64 (-((rd_T41 x0 0).f1))) * (x0.length : Int))) * 256)) x5 (x5.length : Int) 0) else (none))
def headroomlaw16_DftSum.l0 : Nat → List (S41) → Bool → Int → Int → Int → List (S41) → Int → Int → Option (Bool)
  | 0, _, _, _, _, _, _, _, _ => none
  | k + 1, x0, x1, x7, x9, x10, x75, x76, x77 => if x77 < x76 then (if 0 ≤ x77 then (if x77 < (x75.length : Int) then ((dft_Bin.f k x0 x77 x1).bind fun bt17 => (if bt17.2.2 = 0 then (if (!(bt17.1 == ((rd_T41 x75 x77).f0)) || (!(bt17.2.1 == ((rd_T41 x75 x77).f1)))) = true then (some false) else (headroomlaw16_DftSum.l0 k x0 x1 x7 (wrap64 (x9 + ((rd_T41 x75 x77).f0))) (wrap64 (x10 + ((rd_T41 x75 x77).f1))) x75 x76 (wrap64 (x77 + 1)))) else (some false))) else (none)) else (none)) else (some (decide ((mx (mx (mx x9 (wrap64 (-x9))) x10) (wrap64 (-x10))) ≤ (wrap64 (x7 * (x0.length : Int))))))
end
def headroomlaw16_DftSum.f (k : Nat) (l0 : List (S41)) (a1 : Bool) : Option (Bool) := if 0 ≤ (mn (l0.length : Int) 70) then (if (mn (l0.length : Int) 70) ≤ (l0.length : Int) then ((some (l0.take ((mn (l0.length : Int) 70) : Int).toNat : List (S41))).bind fun y1 => ((dft_All.f k y1 a1).bind fun bt5 => ((dft_Slack.f k y1).bind fun bt9 => (if bt5.2 = 0 then (if bt9.2 = 0 then (if (bt5.1.length : Int) = (y1.length : Int) then ((headroomlaw16_alive.f k).bind fun t12 => (headroomlaw16_DftSum.j0 k y1 a1 bt5.1 bt9.1 (!t12))) else (headroomlaw16_DftSum.j0 k y1 a1 bt5.1 bt9.1 true)) else (headroomlaw16_DftSum.j0 k y1 a1 bt5.1 bt9.1 true)) else ((headroomlaw16_alive.f k).bind fun t11 => (if t11 = true then (if bt9.2 = bt5.2 then (some ((bt5.1.length : Int) == 0)) else (some false)) else (some false))))))) else (none)) else (none)
theorem headroomlaw16_DftSum.mono_l : ∀ k, (∀ y0 y1 y2 y3 y4, LeO (headroomlaw16_DftSum.j0 k y0 y1 y2 y3 y4) (headroomlaw16_DftSum.j0 (k + 1) y0 y1 y2 y3 y4)) ∧ (∀ y0 y1 y2 y3 y4 y5 y6 y7, LeO (headroomlaw16_DftSum.l0 k y0 y1 y2 y3 y4 y5 y6 y7) (headroomlaw16_DftSum.l0 (k + 1) y0 y1 y2 y3 y4 y5 y6 y7))
  | 0 => ⟨fun _ _ _ _ _ r h => by simp [headroomlaw16_DftSum.j0] at h, fun _ _ _ _ _ _ _ _ r h => by simp [headroomlaw16_DftSum.l0] at h⟩
  | k + 1 => by
    obtain ⟨ih0, ih1⟩ := headroomlaw16_DftSum.mono_l k
    refine ⟨?_, ?_⟩
    · intro y0 y1 y2 y3 y4
      unfold headroomlaw16_DftSum.j0
      repeat' first
      | (with_reducible exact ih0 _ _ _ _ _)
      | (with_reducible exact ih1 _ _ _ _ _ _ _ _)
      | (with_reducible exact dft_All.mono _ _ _)
      | (with_reducible exact dft_Bin.mono _ _ _ _)
      | (with_reducible exact dft_Slack.mono _ _)
      | (with_reducible exact headroomlaw16_alive.mono _)
      | (with_reducible exact LeO.refl _)
      | (with_reducible exact LeO.none _)
      | (with_reducible refine LeO.ite ?_ ?_)
      | (with_reducible refine LeO.bind ?_ (fun _ => ?_))
      | exact ih0 _ _ _ _ _
      | exact ih1 _ _ _ _ _ _ _ _
      | exact dft_All.mono _ _ _
      | exact dft_Bin.mono _ _ _ _
      | exact dft_Slack.mono _ _
      | exact headroomlaw16_alive.mono _
      | exact LeO.none _
      | refine LeO.ite ?_ ?_
      | refine LeO.bind ?_ (fun _ => ?_)
    · intro y0 y1 y2 y3 y4 y5 y6 y7
      unfold headroomlaw16_DftSum.l0
      repeat' first
      | (with_reducible exact ih0 _ _ _ _ _)
      | (with_reducible exact ih1 _ _ _ _ _ _ _ _)
      | (with_reducible exact dft_All.mono _ _ _)
      | (with_reducible exact dft_Bin.mono _ _ _ _)
      | (with_reducible exact dft_Slack.mono _ _)
      | (with_reducible exact headroomlaw16_alive.mono _)
      | (with_reducible exact LeO.refl _)
      | (with_reducible exact LeO.none _)
      | (with_reducible refine LeO.ite ?_ ?_)
      | (with_reducible refine LeO.bind ?_ (fun _ => ?_))
      | exact ih0 _ _ _ _ _
      | exact ih1 _ _ _ _ _ _ _ _
      | exact dft_All.mono _ _ _
      | exact dft_Bin.mono _ _ _ _
      | exact dft_Slack.mono _ _
      | exact headroomlaw16_alive.mono _
      | exact LeO.none _
      | refine LeO.ite ?_ ?_
      | refine LeO.bind ?_ (fun _ => ?_)
theorem headroomlaw16_DftSum.mono : ∀ a0 a1 k, LeO (headroomlaw16_DftSum.f k a0 a1) (headroomlaw16_DftSum.f (k + 1) a0 a1) := by
  intro a0 a1 k
  obtain ⟨ih0, ih1⟩ := headroomlaw16_DftSum.mono_l k
  unfold headroomlaw16_DftSum.f
  repeat' first
      | (with_reducible exact ih0 _ _ _ _ _)
      | (with_reducible exact ih1 _ _ _ _ _ _ _ _)
      | (with_reducible exact dft_All.mono _ _ _)
      | (with_reducible exact dft_Bin.mono _ _ _ _)
      | (with_reducible exact dft_Slack.mono _ _)
      | (with_reducible exact headroomlaw16_alive.mono _)
      | (with_reducible exact LeO.refl _)
      | (with_reducible exact LeO.none _)
      | (with_reducible refine LeO.ite ?_ ?_)
      | (with_reducible refine LeO.bind ?_ (fun _ => ?_))
      | exact ih0 _ _ _ _ _
      | exact ih1 _ _ _ _ _ _ _ _
      | exact dft_All.mono _ _ _
      | exact dft_Bin.mono _ _ _ _
      | exact dft_Slack.mono _ _
      | exact headroomlaw16_alive.mono _
      | exact LeO.none _
      | refine LeO.ite ?_ ?_
      | refine LeO.bind ?_ (fun _ => ?_)
set_option maxHeartbeats 8000000 in
set_option maxRecDepth 100000 in
theorem headroomlaw16_DftSum.calls (k : Nat) (A0 : Option Addr) (c0 : Nat) (l0 : List (S41)) (a1 : Bool) (r : Bool) (w : World) (hr0 : Kd.C k41 w A0 l0.length l0) (hc0 : l0.length ≤ c0) (h : headroomlaw16_DftSum.f k l0 a1 = some r) :
    Calls Try.prog 6 #[.slice A0 l0.length c0, .bool a1] w fun e w' => e = .returned (.bool r) ∧ Below w.heap.size w w' := by
  have hu41 := Try.underlying41
  have HR0 := Aside0.mk hr0
  have HC0 := Aside0.mk hc0
  clear hr0 hc0
  have HB := Aside0.mk (Below.refl w.heap.size w)
  have H : (if 0 ≤ (mn (l0.length : Int) 70) then (if (mn (l0.length : Int) 70) ≤ (l0.length : Int) then ((some (l0.take ((mn (l0.length : Int) 70) : Int).toNat : List (S41))).bind fun y1 => ((dft_All.f k y1 a1).bind fun bt5 => ((dft_Slack.f k y1).bind fun bt9 => (if bt5.2 = 0 then (if bt9.2 = 0 then (if (bt5.1.length : Int) = (y1.length : Int) then ((headroomlaw16_alive.f k).bind fun t12 => (headroomlaw16_DftSum.j0 k y1 a1 bt5.1 bt9.1 (!t12))) else (headroomlaw16_DftSum.j0 k y1 a1 bt5.1 bt9.1 true)) else (headroomlaw16_DftSum.j0 k y1 a1 bt5.1 bt9.1 true)) else ((headroomlaw16_alive.f k).bind fun t11 => (if t11 = true then (if bt9.2 = bt5.2 then (some ((bt5.1.length : Int) == 0)) else (some false)) else (some false))))))) else (none)) else (none)) = some r := h
  clear h
  obtain ⟨ji3, hji3⟩ : ∃ j_ : Int, (mn (l0.length : Int) 70) = j_ := ⟨_, rfl⟩
  replace H : (if 0 ≤ (ji3) then (if (ji3) ≤ (l0.length : Int) then ((some (l0.take ((ji3) : Int).toNat : List (S41))).bind fun y1 => ((dft_All.f k y1 a1).bind fun bt5 => ((dft_Slack.f k y1).bind fun bt9 => (if bt5.2 = 0 then (if bt9.2 = 0 then (if (bt5.1.length : Int) = (y1.length : Int) then ((headroomlaw16_alive.f k).bind fun t12 => (headroomlaw16_DftSum.j0 k y1 a1 bt5.1 bt9.1 (!t12))) else (headroomlaw16_DftSum.j0 k y1 a1 bt5.1 bt9.1 true)) else (headroomlaw16_DftSum.j0 k y1 a1 bt5.1 bt9.1 true)) else ((headroomlaw16_alive.f k).bind fun t11 => (if t11 = true then (if bt9.2 = bt5.2 then (some ((bt5.1.length : Int) == 0)) else (some false)) else (some false))))))) else (none)) else (none)) = some r := by first | (rw [hji3] at H; exact H) | (simp only [hji3] at H ⊢; exact H)
  (try (have hji3h : ji3 ≤ 70 := by (rw [← hji3]; unfold mn; (repeat' split) <;> omega)))
  (try (have hji3g : ji3 ≤ 64 := by omega))
  (try (have hji3l : 0 ≤ ji3 := by (rw [← hji3]; unfold mn; (repeat' split) <;> omega)))
  (try (have hji3m : 0 ≤ ji3 := by omega))
  have hji3_ : (if 70 < (l0.length : Int) then 70 else (l0.length : Int)) = ji3 := hji3
  by_cases c4 : 0 ≤ (ji3)
  · rw [if_pos c4] at H
    have c4b0 := eq_true c4
    have c4b1 : decide (0 ≤ (ji3)) = true := decide_eq_true c4
    clear c4
    by_cases c5 : (ji3) ≤ (l0.length : Int)
    · rw [if_pos c5] at H
      have c5b0 := eq_true c5
      have c5b1 : decide ((ji3) ≤ (l0.length : Int)) = true := decide_eq_true c5
      clear c5
      obtain ⟨y1, hy1⟩ : ∃ y_ : List (S41), y_ = (l0.take ((ji3) : Int).toNat) := ⟨_, rfl⟩
      replace H : ((dft_All.f k y1 a1).bind fun bt5 => ((dft_Slack.f k y1).bind fun bt9 => (if bt5.2 = 0 then (if bt9.2 = 0 then (if (bt5.1.length : Int) = (y1.length : Int) then ((headroomlaw16_alive.f k).bind fun t12 => (headroomlaw16_DftSum.j0 k y1 a1 bt5.1 bt9.1 (!t12))) else (headroomlaw16_DftSum.j0 k y1 a1 bt5.1 bt9.1 true)) else (headroomlaw16_DftSum.j0 k y1 a1 bt5.1 bt9.1 true)) else ((headroomlaw16_alive.f k).bind fun t11 => (if t11 = true then (if bt9.2 = bt5.2 then (some ((bt5.1.length : Int) == 0)) else (some false)) else (some false)))))) = some r := by first | (rw [hy1]; with_reducible exact H) | (have H2_ := (Option.bind_some _ _).symm.trans H; rw [hy1]; with_reducible exact H2_) | (have H2_ := (Option.bind_some _ _).symm.trans H; with_reducible exact H2_) | with_reducible exact H | (rw [hy1]; exact H) | exact H
      have Ny1 := Aside0.mk hy1
      clear hy1
      replace H := Option.bind_eq_some_iff.mp H
      obtain ⟨⟨t5, t6⟩, A60, H⟩ := H
      replace H : ((dft_Slack.f k y1).bind fun bt9 => (if t6 = 0 then (if bt9.2 = 0 then (if (t5.length : Int) = (y1.length : Int) then ((headroomlaw16_alive.f k).bind fun t12 => (headroomlaw16_DftSum.j0 k y1 a1 t5 bt9.1 (!t12))) else (headroomlaw16_DftSum.j0 k y1 a1 t5 bt9.1 true)) else (headroomlaw16_DftSum.j0 k y1 a1 t5 bt9.1 true)) else ((headroomlaw16_alive.f k).bind fun t11 => (if t11 = true then (if bt9.2 = t6 then (some ((t5.length : Int) == 0)) else (some false)) else (some false))))) = some r := H
      have A6 := Aside0.mk A60
      clear A60
      replace H := Option.bind_eq_some_iff.mp H
      obtain ⟨⟨t9, t10⟩, A70, H⟩ := H
      replace H : (if t6 = 0 then (if t10 = 0 then (if (t5.length : Int) = (y1.length : Int) then ((headroomlaw16_alive.f k).bind fun t12 => (headroomlaw16_DftSum.j0 k y1 a1 t5 t9 (!t12))) else (headroomlaw16_DftSum.j0 k y1 a1 t5 t9 true)) else (headroomlaw16_DftSum.j0 k y1 a1 t5 t9 true)) else ((headroomlaw16_alive.f k).bind fun t11 => (if t11 = true then (if t10 = t6 then (some ((t5.length : Int) == 0)) else (some false)) else (some false)))) = some r := H
      have A7 := Aside0.mk A70
      clear A70
      by_cases c8 : t6 = 0
      · rw [if_pos c8] at H
        have c8b0 : (t6 == 0) = true := beq_iff_eq.mpr c8
        have c8b1 : (t6 != 0) = false := bne_eq_false_iff_eq.mpr c8
        clear c8
        have HC9 := Aside0.mk H
        clear H
        have q10 : ((ji3) : Int) ≤ ((l0.length : Int) : Int) := of_decide_eq_true (by first | (with_reducible assumption) | assumption)
        obtain ⟨i010, hi010, _, hsz10, _⟩ := info_parts info41
        have hroom10 : l0.length ≤ c0 := HC0.out
        have hC10 : Kd.C k41 _ A0 l0.length l0 := HR0.out
        have hcut10 := cut_to (P := Try.prog) 22 41 .i64 Try.underlying22 hi010 A0 l0.length c0 (ji3) (of_decide_eq_true (by first | (with_reducible assumption) | assumption)) q10 hroom10
        have hr10 := Kd.C_take (m := ((ji3) : Int).toNat) hC10 (by omega)
        have hy10 : y1.length = ((ji3) : Int).toNat := (by rw [Ny1.out, List.length_take]; omega)
        rw [← Ny1.out] at hr10
        rw [← hy10] at hcut10
        have HR4 := Aside0.mk hr10
        have HC4 := Aside0.mk (show y1.length ≤ c0 from by omega)
        clear hr10 hC10 hroom10 hi010 hsz10
        have KY10 := Aside0.mk hy10
        clear hy10
        replace q10 := eq_true q10
        go_enter Try.func6, Try.ntmps6
        go_upto_region 6 with (first | (go_at_call 11; (with_reducible refine (dft_All.calls k _ _ y1 a1 t5 t6 _ ?side1 ?side2 A6.out).mono ?_); (case side1 => repeat (first | exact HR4.out | (with_reducible refine Kd.C_alloc ?_ _) | (with_reducible refine Kd.C_drewN ?_ _) | (with_reducible refine Kd.C_drew ?_))); (case side2 => exact HC4.out); rintro e w11 ⟨v7, rfl, ho0, hb⟩; have n0_ := Aside0.mk (Kd.R_lower ho0 (below_size (by repeat (first | (with_reducible first | exact HB.out | apply below_alloc | apply pw_below_drewN | apply below_drew1) | exact HB.out)))); have n1_ := Aside0.mk (below_step (by repeat (first | (with_reducible first | exact HB.out | apply below_alloc | apply pw_below_drewN | apply below_drew1) | exact HB.out)) hb); clear HB; have HO8 := n0_; have HB := n1_; clear n0_ n1_; (try clear hb); (try clear hb2); (try clear hk); (try clear hi); (try clear ho0)) | (go_at_call 21; (with_reducible refine (dft_Slack.calls k _ _ y1 t9 t10 _ ?side1 ?side2 A7.out).mono ?_); (case side1 => repeat (first | exact (Kd.C_below HR4.out HB.out) | (with_reducible refine Kd.C_alloc ?_ _) | (with_reducible refine Kd.C_drewN ?_ _) | (with_reducible refine Kd.C_drew ?_))); (case side2 => exact HC4.out); rintro e w12 ⟨rfl, hb⟩; have n0_ := Aside0.mk (Kd.R_below (by (with_reducible repeat (first | apply Kd.R_alloc | apply Kd.R_drewN | apply Kd.R_drew)); exact HO8.out) hb); have n1_ := Aside0.mk (below_step (by repeat (first | (with_reducible first | exact HB.out | apply below_alloc | apply pw_below_drewN | apply below_drew1) | exact HB.out)) hb); clear HO8; clear HB; have HO8 := n0_; have HB := n1_; clear n0_ n1_; (try clear hb); (try clear hb2); (try clear hk); (try clear hi)))
        repeat (go_quiet (first | (go_at_call 11; (with_reducible refine (dft_All.calls k _ _ y1 a1 t5 t6 _ ?side1 ?side2 A6.out).mono ?_); (case side1 => repeat (first | exact HR4.out | (with_reducible refine Kd.C_alloc ?_ _) | (with_reducible refine Kd.C_drewN ?_ _) | (with_reducible refine Kd.C_drew ?_))); (case side2 => exact HC4.out); rintro e w11 ⟨v7, rfl, ho0, hb⟩; have n0_ := Aside0.mk (Kd.R_lower ho0 (below_size (by repeat (first | (with_reducible first | exact HB.out | apply below_alloc | apply pw_below_drewN | apply below_drew1) | exact HB.out)))); have n1_ := Aside0.mk (below_step (by repeat (first | (with_reducible first | exact HB.out | apply below_alloc | apply pw_below_drewN | apply below_drew1) | exact HB.out)) hb); clear HB; have HO8 := n0_; have HB := n1_; clear n0_ n1_; (try clear hb); (try clear hb2); (try clear hk); (try clear hi); (try clear ho0)) | (go_at_call 21; (with_reducible refine (dft_Slack.calls k _ _ y1 t9 t10 _ ?side1 ?side2 A7.out).mono ?_); (case side1 => repeat (first | exact (Kd.C_below HR4.out HB.out) | (with_reducible refine Kd.C_alloc ?_ _) | (with_reducible refine Kd.C_drewN ?_ _) | (with_reducible refine Kd.C_drew ?_))); (case side2 => exact HC4.out); rintro e w12 ⟨rfl, hb⟩; have n0_ := Aside0.mk (Kd.R_below (by (with_reducible repeat (first | apply Kd.R_alloc | apply Kd.R_drewN | apply Kd.R_drew)); exact HO8.out) hb); have n1_ := Aside0.mk (below_step (by repeat (first | (with_reducible first | exact HB.out | apply below_alloc | apply pw_below_drewN | apply below_drew1) | exact HB.out)) hb); clear HO8; clear HB; have HO8 := n0_; have HB := n1_; clear n0_ n1_; (try clear hb); (try clear hb2); (try clear hk); (try clear hi))); go_upto_region 6 with (first | (go_at_call 11; (with_reducible refine (dft_All.calls k _ _ y1 a1 t5 t6 _ ?side1 ?side2 A6.out).mono ?_); (case side1 => repeat (first | exact HR4.out | (with_reducible refine Kd.C_alloc ?_ _) | (with_reducible refine Kd.C_drewN ?_ _) | (with_reducible refine Kd.C_drew ?_))); (case side2 => exact HC4.out); rintro e w11 ⟨v7, rfl, ho0, hb⟩; have n0_ := Aside0.mk (Kd.R_lower ho0 (below_size (by repeat (first | (with_reducible first | exact HB.out | apply below_alloc | apply pw_below_drewN | apply below_drew1) | exact HB.out)))); have n1_ := Aside0.mk (below_step (by repeat (first | (with_reducible first | exact HB.out | apply below_alloc | apply pw_below_drewN | apply below_drew1) | exact HB.out)) hb); clear HB; have HO8 := n0_; have HB := n1_; clear n0_ n1_; (try clear hb); (try clear hb2); (try clear hk); (try clear hi); (try clear ho0)) | (go_at_call 21; (with_reducible refine (dft_Slack.calls k _ _ y1 t9 t10 _ ?side1 ?side2 A7.out).mono ?_); (case side1 => repeat (first | exact (Kd.C_below HR4.out HB.out) | (with_reducible refine Kd.C_alloc ?_ _) | (with_reducible refine Kd.C_drewN ?_ _) | (with_reducible refine Kd.C_drew ?_))); (case side2 => exact HC4.out); rintro e w12 ⟨rfl, hb⟩; have n0_ := Aside0.mk (Kd.R_below (by (with_reducible repeat (first | apply Kd.R_alloc | apply Kd.R_drewN | apply Kd.R_drew)); exact HO8.out) hb); have n1_ := Aside0.mk (below_step (by repeat (first | (with_reducible first | exact HB.out | apply below_alloc | apply pw_below_drewN | apply below_drew1) | exact HB.out)) hb); clear HO8; clear HB; have HO8 := n0_; have HB := n1_; clear n0_ n1_; (try clear hb); (try clear hb2); (try clear hk); (try clear hi))))
        (try simp only [Act.put, List.setIfInBounds_toArray, List.set_cons_zero, List.set_cons_succ])
        go_cut [56] (fun v56 wc => ∃ (kq : Nat) (x56_8 : Bool), v56 = .bool x56_8 ∧ Aside0 (headroomlaw16_DftSum.j0 kq y1 a1 t5 t9 x56_8 = some r) ∧ Aside0 (kq ≤ k) ∧ Aside0 (Kd.R k41 41 wc w.heap.size (fun _ => True) v7 t5) ∧ Aside0 (Below w.heap.size w wc))
        case first =>
          have H := HC9.out
          clear HC9
          by_cases c13 : t10 = 0
          · rw [if_pos c13] at H
            have c13b0 : (t10 == 0) = true := beq_iff_eq.mpr c13
            have c13b1 : (t10 != 0) = false := bne_eq_false_iff_eq.mpr c13
            clear c13
            (first | rw [c13b0] | (simp only [i64_w, i32_w]; rw [c13b0]) | skip)
            by_cases c14 : (t5.length : Int) = (y1.length : Int)
            · rw [if_pos c14] at H
              have c14b0 : ((t5.length : Int) == (y1.length : Int)) = true := beq_iff_eq.mpr c14
              have c14b1 : ((t5.length : Int) != (y1.length : Int)) = false := bne_eq_false_iff_eq.mpr c14
              have c14b2 : (t5.length == y1.length) = true := by first | simpa using c14 | (simp at c14 ⊢; omega)
              clear c14
              replace H := Option.bind_eq_some_iff.mp H
              obtain ⟨t12, A150, H⟩ := H
              replace H : (headroomlaw16_DftSum.j0 k y1 a1 t5 t9 (!t12)) = some r := H
              have A15 := Aside0.mk A150
              clear A150
              have H' := Aside0.mk H
              clear H
              obtain ⟨Ao16, co16, eo16⟩ := Kd.R_slice HO8.out
              subst eo16
              go_wp2_with (first | (go_at_call 13; (with_reducible refine (headroomlaw16_alive.calls k  t12 _ A15.out).mono ?_); rintro e w17 ⟨rfl, hb⟩; have n0_ := Aside0.mk (Kd.R_below (by (with_reducible repeat (first | apply Kd.R_alloc | apply Kd.R_drewN | apply Kd.R_drew)); exact HO8.out) hb); have n1_ := Aside0.mk (below_step (by repeat (first | (with_reducible first | exact HB.out | apply below_alloc | apply pw_below_drewN | apply below_drew1) | exact HB.out)) hb); clear HO8; clear HB; have HO8 := n0_; have HB := n1_; clear n0_ n1_; (try clear hb); (try clear hb2); (try clear hk); (try clear hi)))
              repeat (go_quiet (first | (go_at_call 13; (with_reducible refine (headroomlaw16_alive.calls k  t12 _ A15.out).mono ?_); rintro e w17 ⟨rfl, hb⟩; have n0_ := Aside0.mk (Kd.R_below (by (with_reducible repeat (first | apply Kd.R_alloc | apply Kd.R_drewN | apply Kd.R_drew)); exact HO8.out) hb); have n1_ := Aside0.mk (below_step (by repeat (first | (with_reducible first | exact HB.out | apply below_alloc | apply pw_below_drewN | apply below_drew1) | exact HB.out)) hb); clear HO8; clear HB; have HO8 := n0_; have HB := n1_; clear n0_ n1_; (try clear hb); (try clear hb2); (try clear hk); (try clear hi))); try go_wp2_with (first | (go_at_call 13; (with_reducible refine (headroomlaw16_alive.calls k  t12 _ A15.out).mono ?_); rintro e w17 ⟨rfl, hb⟩; have n0_ := Aside0.mk (Kd.R_below (by (with_reducible repeat (first | apply Kd.R_alloc | apply Kd.R_drewN | apply Kd.R_drew)); exact HO8.out) hb); have n1_ := Aside0.mk (below_step (by repeat (first | (with_reducible first | exact HB.out | apply below_alloc | apply pw_below_drewN | apply below_drew1) | exact HB.out)) hb); clear HO8; clear HB; have HO8 := n0_; have HB := n1_; clear n0_ n1_; (try clear hb); (try clear hb2); (try clear hk); (try clear hi))))
              go_meet
              case rel => exact ⟨_, (!t12), (by first | rfl | (simp; done) | (simp [*]; done)), H', ⟨by first | omega | exact Nat.le_refl _⟩, ⟨by (with_reducible repeat (first | apply Kd.R_alloc | apply Kd.R_drewN | apply Kd.R_drew)); exact HO8.out⟩, ⟨by repeat (first | (with_reducible first | exact HB.out | apply below_alloc | apply pw_below_drewN | apply below_drew1) | exact HB.out)⟩⟩
            · rw [if_neg c14] at H
              have c14b0 : ((t5.length : Int) == (y1.length : Int)) = false := beq_eq_false_iff_ne.mpr c14
              have c14b1 : ((t5.length : Int) != (y1.length : Int)) = true := bne_iff_ne.mpr c14
              have c14b2 : (t5.length == y1.length) = false := by first | simpa using c14 | (simp at c14 ⊢; omega)
              have H' := Aside0.mk H
              clear H
              obtain ⟨Ao18, co18, eo18⟩ := Kd.R_slice HO8.out
              subst eo18
              go_wp2
              repeat (go_quiet (fail); try go_wp2)
              go_meet
              case rel => exact ⟨_, (true), (by first | rfl | (simp; done) | (simp [*]; done)), H', ⟨by first | omega | exact Nat.le_refl _⟩, ⟨by (with_reducible repeat (first | apply Kd.R_alloc | apply Kd.R_drewN | apply Kd.R_drew)); exact HO8.out⟩, ⟨by repeat (first | (with_reducible first | exact HB.out | apply below_alloc | apply pw_below_drewN | apply below_drew1) | exact HB.out)⟩⟩
          · rw [if_neg c13] at H
            have c13b0 : (t10 == 0) = false := beq_eq_false_iff_ne.mpr c13
            have c13b1 : (t10 != 0) = true := bne_iff_ne.mpr c13
            (first | rw [c13b0] | (simp only [i64_w, i32_w]; rw [c13b0]) | skip)
            have H' := Aside0.mk H
            clear H
            go_wp2
            repeat (go_quiet (fail); try go_wp2)
            go_meet
            case rel => exact ⟨_, (true), (by first | rfl | (simp; done) | (simp [*]; done)), H', ⟨by first | omega | exact Nat.le_refl _⟩, ⟨by (with_reducible repeat (first | apply Kd.R_alloc | apply Kd.R_drewN | apply Kd.R_drew)); exact HO8.out⟩, ⟨by repeat (first | (with_reducible first | exact HB.out | apply below_alloc | apply pw_below_drewN | apply below_drew1) | exact HB.out)⟩⟩
        case rest =>
          clear HC9
          try clear c1
          try clear q1
          try clear p2
          try clear c4
          try clear c4b0
          try clear c4b1
          try clear c5
          try clear c5b0
          try clear c5b1
          try clear c6
          try clear c8
          try clear c8b0
          try clear c8b1
          try clear q10
          try clear c13
          try clear c13b0
          try clear c13b1
          try clear c14
          try clear c14b0
          try clear c14b1
          try clear c14b2
          try clear q10
          obtain ⟨kq, x56_8, rfl, HA, HJ8, HO_5, HB⟩ := hcut
          cases kq with
          | zero => exact absurd HA.out (by simp [headroomlaw16_DftSum.j0])
          | succ kj8 =>
            have H := HA.out
            clear HA
            simp only [headroomlaw16_DftSum.j0] at H
            by_cases c19 : x56_8 = true
            · subst c19
              have H1 : (some false) = some r := by rw [if_pos rfl] at H; exact H
              clear H
              have H := H1
              clear H1
              obtain rfl := Option.some.inj H
              go_wp2
              repeat (go_quiet (fail); try go_wp2)
              go_ret
              exact ⟨by first | rfl | (simp [errW_none, errW_some] <;> rfl) | (simp only [← hji3]; first | rfl | (simp [errW_none, errW_some] <;> rfl)) | (simp [*, errW_none, errW_some] <;> rfl), by repeat (first | (with_reducible first | exact HB.out | apply below_alloc | apply pw_below_drewN | apply below_drew1) | exact HB.out)⟩
            · replace c19 := Bool.eq_false_iff.mpr c19
              subst c19
              have H1 : (if 0 < (y1.length : Int) then (headroomlaw16_DftSum.l0 kj8 y1 a1 t9 (wrap64 ((wrap64 ((wrap64 (-((rd_T41 y1 0).f0))) * (y1.length : Int))) * 256)) (wrap64 ((wrap64 ((wrap64 (-((rd_T41 y1 0).f1))) * (y1.length : Int))) * 256)) t5 (t5.length : Int) 0) else (none)) = some r := by rw [if_neg (show ¬ (false = true) by decide)] at H; exact H
              clear H
              have H := H1
              clear H1
              by_cases c20 : 0 < (y1.length : Int)
              · rw [if_pos c20] at H
                have c20b0 : decide (0 < (y1.length : Int)) = true := decide_eq_true c20
                have c20b1 : decide (0 < y1.length) = true := decide_eq_true (by omega)
                clear c20
                have H' := Aside0.mk H
                clear H
                have p13 : 0 ≤ (0 : Int) := (by omega)
                have q13 : 0 < (y1.length : Int) := of_decide_eq_true (by first | (with_reducible assumption) | assumption)
                obtain ⟨ad13, e13, hx13_0, hx13_1⟩ := at_T41 HR4.out 0 p13 q13
                cases e13
                have qi13 : (0 < y1.length) = True := eq_true (by omega)
                (try rw [show ((0 : Int)).toNat = 0 from rfl] at hx13_0)
                (try rw [show 0 * 2 = 0 from rfl] at hx13_0)
                (try rw [Addr.add_zero'] at hx13_0)
                (try rw [show ((0 : Int)).toNat = 0 from rfl] at hx13_1)
                (try rw [show 0 * 2 = 0 from rfl] at hx13_1)
                (try rw [Addr.add_zero'] at hx13_1)
                replace hx13_0 := (HB.out.cell (World.block_lt_of_cell? w _ hx13_0)).trans hx13_0
                replace hx13_1 := (HB.out.cell (World.block_lt_of_cell? w _ hx13_1)).trans hx13_1
                replace p13 := eq_true p13
                replace q13 := eq_true q13
                have p14 : 0 ≤ (0 : Int) := (by omega)
                have q14 : 0 < (y1.length : Int) := of_decide_eq_true (by first | (with_reducible assumption) | assumption)
                obtain ⟨ad14, e14, hx14_0, hx14_1⟩ := at_T41 HR4.out 0 p14 q14
                obtain rfl : ad13 = ad14 := (by injection e14)
                have qi14 : (0 < y1.length) = True := eq_true (by omega)
                (try rw [show ((0 : Int)).toNat = 0 from rfl] at hx14_0)
                (try rw [show 0 * 2 = 0 from rfl] at hx14_0)
                (try rw [Addr.add_zero'] at hx14_0)
                (try rw [show ((0 : Int)).toNat = 0 from rfl] at hx14_1)
                (try rw [show 0 * 2 = 0 from rfl] at hx14_1)
                (try rw [Addr.add_zero'] at hx14_1)
                replace hx14_0 := (HB.out.cell (World.block_lt_of_cell? w _ hx14_0)).trans hx14_0
                replace hx14_1 := (HB.out.cell (World.block_lt_of_cell? w _ hx14_1)).trans hx14_1
                replace p14 := eq_true p14
                replace q14 := eq_true q14
                obtain ⟨Ao21, co21, eo21⟩ := Kd.R_slice HO_5.out
                subst eo21
                go_wp2
                repeat (go_quiet (fail); try go_wp2)
                go_loopg [9, 10, 77] kj8 (fun kq v9 v10 v77 w' => ∃ (x9_2 : Int) (x10_2 : Int) (x77_2 : Int), v9 = .int .i64 x9_2 ∧ v10 = .int .i64 x10_2 ∧ v77 = .int .i64 x77_2 ∧ Aside0 (headroomlaw16_DftSum.l0 kq y1 a1 t9 x9_2 x10_2 t5 (t5.length : Int) x77_2 = some r) ∧ Aside0 (kq ≤ kj8) ∧ Aside0 (Kd.R k41 41 w' w.heap.size (fun _ => True) (.slice Ao21 t5.length co21) t5) ∧ Aside0 (Below w.heap.size w w'))
                case atStart => exact ⟨(wrap64 ((wrap64 ((wrap64 (-((rd_T41 y1 0).f0))) * (y1.length : Int))) * 256)), (wrap64 ((wrap64 ((wrap64 (-((rd_T41 y1 0).f1))) * (y1.length : Int))) * 256)), (0), (by first | rfl | (simp; done) | (simp [*]; done)), (by first | rfl | (simp; done) | (simp [*]; done)), (by first | rfl | (simp; done) | (simp [*]; done)), H', ⟨Nat.le_refl _⟩, ⟨by (with_reducible repeat (first | apply Kd.R_alloc | apply Kd.R_drewN | apply Kd.R_drew)); exact HO_5.out⟩, ⟨by repeat (first | (with_reducible first | exact HB.out | apply below_alloc | apply pw_below_drewN | apply below_drew1) | exact HB.out)⟩⟩
                case round =>
                  clear H'
                  try clear c1
                  try clear p1
                  try clear q1
                  try clear hx1
                  try clear qi1
                  try clear c2
                  try clear p2
                  try clear c4
                  try clear c4b0
                  try clear c4b1
                  try clear c5
                  try clear c5b0
                  try clear c5b1
                  try clear c6
                  try clear p6
                  try clear c8
                  try clear c8b0
                  try clear c8b1
                  try clear q10
                  try clear c13
                  try clear c13b0
                  try clear c13b1
                  try clear p13
                  try clear q13
                  try clear hx13
                  try clear qi13
                  try clear c14
                  try clear c14b0
                  try clear c14b1
                  try clear c14b2
                  try clear p14
                  try clear q14
                  try clear hx14
                  try clear qi14
                  try clear c19
                  try clear c20
                  try clear c20b0
                  try clear c20b1
                  try clear hx13_0
                  try clear hx13_1
                  try clear hx14_0
                  try clear hx14_1
                  try clear p13
                  try clear p14
                  try clear p2
                  try clear q1
                  try clear q10
                  try clear q13
                  try clear q14
                  obtain ⟨x9_2, x10_2, x77_2, rfl, rfl, rfl, HA, HK2, HO_75, HB⟩ := hrel
                  cases gk with
                  | zero => exact absurd HA.out (by simp [headroomlaw16_DftSum.l0])
                  | succ k2 =>
                    have H := HA.out
                    clear HA
                    simp only [headroomlaw16_DftSum.l0] at H
                    by_cases c22 : x77_2 < (t5.length : Int)
                    · rw [if_pos c22] at H
                      have c22b0 : decide (x77_2 < (t5.length : Int)) = true := decide_eq_true c22
                      clear c22
                      by_cases c23 : 0 ≤ x77_2
                      · rw [if_pos c23] at H
                        have c23b0 : decide (0 ≤ x77_2) = true := decide_eq_true c23
                        clear c23
                        by_cases c24 : x77_2 < (t5.length : Int)
                        · rw [if_pos c24] at H
                          have c24b0 : decide (x77_2 < (t5.length : Int)) = true := decide_eq_true c24
                          clear c24
                          replace H := Option.bind_eq_some_iff.mp H
                          obtain ⟨⟨t17, t18, t19⟩, A250, H⟩ := H
                          replace H : (if t19 = 0 then (if (!(t17 == ((rd_T41 t5 x77_2).f0)) || (!(t18 == ((rd_T41 t5 x77_2).f1)))) = true then (some false) else (headroomlaw16_DftSum.l0 k2 y1 a1 t9 (wrap64 (x9_2 + ((rd_T41 t5 x77_2).f0))) (wrap64 (x10_2 + ((rd_T41 t5 x77_2).f1))) t5 (t5.length : Int) (wrap64 (x77_2 + 1)))) else (some false)) = some r := H
                          have A25 := Aside0.mk A250
                          clear A250
                          by_cases c26 : t19 = 0
                          · rw [if_pos c26] at H
                            have c26b0 : (t19 == 0) = true := beq_iff_eq.mpr c26
                            have c26b1 : (t19 != 0) = false := bne_eq_false_iff_eq.mpr c26
                            clear c26
                            by_cases c27 : (!(t17 == ((rd_T41 t5 x77_2).f0)) || (!(t18 == ((rd_T41 t5 x77_2).f1)))) = true
                            · rw [if_pos c27] at H
                              have c27b0 : (!(t17 == ((rd_T41 t5 x77_2).f0)) || (!(t18 == ((rd_T41 t5 x77_2).f1)))) = true := c27
                              clear c27
                              obtain rfl := Option.some.inj H
                              have p15 : 0 ≤ (x77_2 : Int) := of_decide_eq_true (by first | (with_reducible assumption) | assumption)
                              have q15 : x77_2 < (t5.length : Int) := of_decide_eq_true (by first | (with_reducible assumption) | assumption)
                              obtain ⟨ad15, e15, hx15_0, hx15_1⟩ := at_T41 (Kd.R_reads' HO_75.out).2.2 x77_2 p15 q15
                              cases e15
                              replace p15 := eq_true p15
                              replace q15 := eq_true q15
                              go_wp2_with (first | ((with_reducible refine gate_dst (N := 12) rfl ?_); (try (refine gate_guard (by rfl) ?_; dsimp only)); refine box_event ?hg (N := 12) ?hd (cs := #[.int .i64 0, .int .i64 0]) (t := 41) ?hr ?_; (case hd => rfl); (case hg => rfl); (case hr => first | (go_simp; done) | (go_simp; rfl)); intro gb16 hg w28 hbox hb; have n0_ := Aside0.mk (Kd.R_below (Kd.R_elderB (by (with_reducible repeat (first | apply Kd.R_alloc | apply Kd.R_drewN | apply Kd.R_drew)); exact HO_75.out) gb16 (Nat.le_of_eq hg.symm)) hb); have n1_ := Aside0.mk (below_step (by repeat (first | (with_reducible first | exact HB.out | apply below_alloc | apply pw_below_drewN | apply below_drew1) | exact HB.out)) hb); have n2_ := Aside0.mk (hbox); have n3_ := Aside0.mk ((by rw [hg]; exact (below_size (by repeat (first | (with_reducible first | exact HB.out | apply below_alloc | apply pw_below_drewN | apply below_drew1) | exact HB.out))) : w.heap.size ≤ gb16)); have n4_ := Aside0.mk ((by rw [hg]; exact (below_size (by repeat (first | (with_reducible first | exact HB.out | apply below_alloc | apply pw_below_drewN | apply below_drew1) | exact HB.out))) : w.heap.size ≤ gb16)); clear HO_75; clear HB; have HO_75 := n0_; have HB := n1_; have BK16 := n2_; have GW16 := n3_; have GE16 := n4_; clear n0_ n1_ n2_ n3_ n4_; clear hb hbox hg; have hcz29_0 : w28.cell? ⟨gb16, 0, none⟩ = some (.int .i64 0) := (blk_cell BK16.out 0).trans rfl; have hcz29_1 : w28.cell? ⟨gb16, 1, none⟩ = some (.int .i64 0) := (blk_cell BK16.out 1).trans rfl; have hfz29_0 := blk_frozen BK16.out 0; have hfz29_1 := blk_frozen BK16.out 1) | (go_at_call 22; (with_reducible refine (dft_Bin.calls k2 _ _ y1 x77_2 a1 t17 t18 t19 _ ?side1 ?side2 A25.out).mono ?_); (case side1 => exact Kd.C_below HR4.out (by repeat (first | (with_reducible first | exact HB.out | apply below_alloc | apply pw_below_drewN | apply below_drew1 | refine below_set ?_ GE16.out) | exact HB.out))); (case side2 => exact HC4.out); rintro e w30 ⟨rfl, hb⟩; have n0_ := Aside0.mk (Kd.R_below (by (with_reducible repeat (first | apply Kd.R_alloc | apply Kd.R_drewN | apply Kd.R_drew)); exact (Kd.R_mono (Kd.R_far (p := ⟨gb16, 1, none⟩) (Kd.R_far (p := ⟨gb16, 0, none⟩) (Kd.R_mono HO_75.out (fun k_ hk => (⟨hk, hk.2⟩ : _ ∧ k_ ≠ gb16))) (fun _ hk => hk.2) (.int .i64 ((rd_T41 t5 x77_2).f0))) (fun _ hk => hk.2) (.int .i64 ((rd_T41 t5 x77_2).f1))) (fun _ h_ => h_.1))) hb); have n1_ := Aside0.mk (blk_below (g := gb16) (o := .cells #[.int .i64 ((rd_T41 t5 x77_2).f0), .int .i64 ((rd_T41 t5 x77_2).f1)] 41 (0, 0)) (by (with_reducible repeat (first | refine blk_drewN ?_ _ | refine blk_drew ?_ | refine blk_alloc ?_ _)); refine blk_put (cs := #[.int .i64 ((rd_T41 t5 x77_2).f0), .int .i64 0]) ?_ 1 _ rfl; (with_reducible repeat (first | refine blk_drewN ?_ _ | refine blk_drew ?_ | refine blk_alloc ?_ _)); refine blk_put (cs := #[.int .i64 0, .int .i64 0]) ?_ 0 _ rfl; (with_reducible repeat (first | refine blk_drewN ?_ _ | refine blk_drew ?_ | refine blk_alloc ?_ _)); exact BK16.out) hb); have n2_ := Aside0.mk (below_step (by repeat (first | (with_reducible first | exact HB.out | apply below_alloc | apply pw_below_drewN | apply below_drew1 | refine below_set ?_ GE16.out) | exact HB.out)) hb); clear HO_75; clear BK16; clear HB; have HO_75 := n0_; have BK16 := n1_; have HB := n2_; clear n0_ n1_ n2_; (try clear hb); (try clear hb2); (try clear hk); (try clear hi)) | ((with_reducible refine gate_dst (N := 13) rfl ?_); (try (refine gate_guard (by rfl) ?_; dsimp only)); refine box_event ?hg (N := 13) ?hd (cs := #[.int .i64 0, .int .i64 0]) (t := 41) ?hr ?_; (case hd => rfl); (case hg => rfl); (case hr => first | (go_simp; done) | (go_simp; rfl)); intro gb20 hg w31 hbox hb; have n0_ := Aside0.mk (Kd.R_below (Kd.R_elderB (by (with_reducible repeat (first | apply Kd.R_alloc | apply Kd.R_drewN | apply Kd.R_drew)); exact HO_75.out) gb20 (Nat.le_of_eq hg.symm)) hb); have n1_ := Aside0.mk (blk_below (g := gb16) (o := .cells #[.int .i64 ((rd_T41 t5 x77_2).f0), .int .i64 ((rd_T41 t5 x77_2).f1)] 41 (0, 0)) (by (with_reducible repeat (first | refine blk_drewN ?_ _ | refine blk_drew ?_ | refine blk_alloc ?_ _)); exact BK16.out) hb); have n2_ := Aside0.mk (below_step (by repeat (first | (with_reducible first | exact HB.out | apply below_alloc | apply pw_below_drewN | apply below_drew1 | refine below_set ?_ GE16.out) | exact HB.out)) hb); have n3_ := Aside0.mk (hbox); have n4_ := Aside0.mk ((by rw [hg]; exact (below_size (by repeat (first | (with_reducible first | exact HB.out | apply below_alloc | apply pw_below_drewN | apply below_drew1 | refine below_set ?_ GE16.out) | exact HB.out))) : w.heap.size ≤ gb20)); have n5_ := Aside0.mk ((by rw [hg]; exact (below_size (by repeat (first | (with_reducible first | exact HB.out | apply below_alloc | apply pw_below_drewN | apply below_drew1 | refine below_set ?_ GE16.out) | exact HB.out))) : w.heap.size ≤ gb20)); have n6_ := Aside0.mk ((by rw [hg]; exact Nat.ne_of_lt (blk_lt (g := gb16) (o := .cells #[.int .i64 ((rd_T41 t5 x77_2).f0), .int .i64 ((rd_T41 t5 x77_2).f1)] 41 (0, 0)) (by (with_reducible repeat (first | refine blk_drewN ?_ _ | refine blk_drew ?_ | refine blk_alloc ?_ _)); exact BK16.out)) : gb16 ≠ gb20)); have n7_ := Aside0.mk ((by rw [hg]; exact Nat.ne_of_gt (blk_lt (g := gb16) (o := .cells #[.int .i64 ((rd_T41 t5 x77_2).f0), .int .i64 ((rd_T41 t5 x77_2).f1)] 41 (0, 0)) (by (with_reducible repeat (first | refine blk_drewN ?_ _ | refine blk_drew ?_ | refine blk_alloc ?_ _)); exact BK16.out)) : gb20 ≠ gb16)); clear HO_75; clear BK16; clear HB; have HO_75 := n0_; have BK16 := n1_; have HB := n2_; have BK20 := n3_; have GW20 := n4_; have GE20 := n5_; have NB16_20 := n6_; have NB20_16 := n7_; clear n0_ n1_ n2_ n3_ n4_ n5_ n6_ n7_; clear hb hbox hg; have hnb32 := NB20_16.out; have hnc32 := NB16_20.out; have hcz33_0 : w31.cell? ⟨gb20, 0, none⟩ = some (.int .i64 0) := (blk_cell BK20.out 0).trans rfl; have hcz33_1 : w31.cell? ⟨gb20, 1, none⟩ = some (.int .i64 0) := (blk_cell BK20.out 1).trans rfl; have hfz33_0 := blk_frozen BK20.out 0; have hfz33_1 := blk_frozen BK20.out 1; have hcz34_0 : w31.cell? ⟨gb16, 0, none⟩ = some (.int .i64 ((rd_T41 t5 x77_2).f0)) := (blk_cell BK16.out 0).trans rfl; have hcz34_1 : w31.cell? ⟨gb16, 1, none⟩ = some (.int .i64 ((rd_T41 t5 x77_2).f1)) := (blk_cell BK16.out 1).trans rfl; have hfz34_0 := blk_frozen BK16.out 0; have hfz34_1 := blk_frozen BK16.out 1))
                              repeat (go_quiet (first | ((with_reducible refine gate_dst (N := 12) rfl ?_); (try (refine gate_guard (by rfl) ?_; dsimp only)); refine box_event ?hg (N := 12) ?hd (cs := #[.int .i64 0, .int .i64 0]) (t := 41) ?hr ?_; (case hd => rfl); (case hg => rfl); (case hr => first | (go_simp; done) | (go_simp; rfl)); intro gb16 hg w28 hbox hb; have n0_ := Aside0.mk (Kd.R_below (Kd.R_elderB (by (with_reducible repeat (first | apply Kd.R_alloc | apply Kd.R_drewN | apply Kd.R_drew)); exact HO_75.out) gb16 (Nat.le_of_eq hg.symm)) hb); have n1_ := Aside0.mk (below_step (by repeat (first | (with_reducible first | exact HB.out | apply below_alloc | apply pw_below_drewN | apply below_drew1) | exact HB.out)) hb); have n2_ := Aside0.mk (hbox); have n3_ := Aside0.mk ((by rw [hg]; exact (below_size (by repeat (first | (with_reducible first | exact HB.out | apply below_alloc | apply pw_below_drewN | apply below_drew1) | exact HB.out))) : w.heap.size ≤ gb16)); have n4_ := Aside0.mk ((by rw [hg]; exact (below_size (by repeat (first | (with_reducible first | exact HB.out | apply below_alloc | apply pw_below_drewN | apply below_drew1) | exact HB.out))) : w.heap.size ≤ gb16)); clear HO_75; clear HB; have HO_75 := n0_; have HB := n1_; have BK16 := n2_; have GW16 := n3_; have GE16 := n4_; clear n0_ n1_ n2_ n3_ n4_; clear hb hbox hg; have hcz29_0 : w28.cell? ⟨gb16, 0, none⟩ = some (.int .i64 0) := (blk_cell BK16.out 0).trans rfl; have hcz29_1 : w28.cell? ⟨gb16, 1, none⟩ = some (.int .i64 0) := (blk_cell BK16.out 1).trans rfl; have hfz29_0 := blk_frozen BK16.out 0; have hfz29_1 := blk_frozen BK16.out 1) | (go_at_call 22; (with_reducible refine (dft_Bin.calls k2 _ _ y1 x77_2 a1 t17 t18 t19 _ ?side1 ?side2 A25.out).mono ?_); (case side1 => exact Kd.C_below HR4.out (by repeat (first | (with_reducible first | exact HB.out | apply below_alloc | apply pw_below_drewN | apply below_drew1 | refine below_set ?_ GE16.out) | exact HB.out))); (case side2 => exact HC4.out); rintro e w30 ⟨rfl, hb⟩; have n0_ := Aside0.mk (Kd.R_below (by (with_reducible repeat (first | apply Kd.R_alloc | apply Kd.R_drewN | apply Kd.R_drew)); exact (Kd.R_mono (Kd.R_far (p := ⟨gb16, 1, none⟩) (Kd.R_far (p := ⟨gb16, 0, none⟩) (Kd.R_mono HO_75.out (fun k_ hk => (⟨hk, hk.2⟩ : _ ∧ k_ ≠ gb16))) (fun _ hk => hk.2) (.int .i64 ((rd_T41 t5 x77_2).f0))) (fun _ hk => hk.2) (.int .i64 ((rd_T41 t5 x77_2).f1))) (fun _ h_ => h_.1))) hb); have n1_ := Aside0.mk (blk_below (g := gb16) (o := .cells #[.int .i64 ((rd_T41 t5 x77_2).f0), .int .i64 ((rd_T41 t5 x77_2).f1)] 41 (0, 0)) (by (with_reducible repeat (first | refine blk_drewN ?_ _ | refine blk_drew ?_ | refine blk_alloc ?_ _)); refine blk_put (cs := #[.int .i64 ((rd_T41 t5 x77_2).f0), .int .i64 0]) ?_ 1 _ rfl; (with_reducible repeat (first | refine blk_drewN ?_ _ | refine blk_drew ?_ | refine blk_alloc ?_ _)); refine blk_put (cs := #[.int .i64 0, .int .i64 0]) ?_ 0 _ rfl; (with_reducible repeat (first | refine blk_drewN ?_ _ | refine blk_drew ?_ | refine blk_alloc ?_ _)); exact BK16.out) hb); have n2_ := Aside0.mk (below_step (by repeat (first | (with_reducible first | exact HB.out | apply below_alloc | apply pw_below_drewN | apply below_drew1 | refine below_set ?_ GE16.out) | exact HB.out)) hb); clear HO_75; clear BK16; clear HB; have HO_75 := n0_; have BK16 := n1_; have HB := n2_; clear n0_ n1_ n2_; (try clear hb); (try clear hb2); (try clear hk); (try clear hi)) | ((with_reducible refine gate_dst (N := 13) rfl ?_); (try (refine gate_guard (by rfl) ?_; dsimp only)); refine box_event ?hg (N := 13) ?hd (cs := #[.int .i64 0, .int .i64 0]) (t := 41) ?hr ?_; (case hd => rfl); (case hg => rfl); (case hr => first | (go_simp; done) | (go_simp; rfl)); intro gb20 hg w31 hbox hb; have n0_ := Aside0.mk (Kd.R_below (Kd.R_elderB (by (with_reducible repeat (first | apply Kd.R_alloc | apply Kd.R_drewN | apply Kd.R_drew)); exact HO_75.out) gb20 (Nat.le_of_eq hg.symm)) hb); have n1_ := Aside0.mk (blk_below (g := gb16) (o := .cells #[.int .i64 ((rd_T41 t5 x77_2).f0), .int .i64 ((rd_T41 t5 x77_2).f1)] 41 (0, 0)) (by (with_reducible repeat (first | refine blk_drewN ?_ _ | refine blk_drew ?_ | refine blk_alloc ?_ _)); exact BK16.out) hb); have n2_ := Aside0.mk (below_step (by repeat (first | (with_reducible first | exact HB.out | apply below_alloc | apply pw_below_drewN | apply below_drew1 | refine below_set ?_ GE16.out) | exact HB.out)) hb); have n3_ := Aside0.mk (hbox); have n4_ := Aside0.mk ((by rw [hg]; exact (below_size (by repeat (first | (with_reducible first | exact HB.out | apply below_alloc | apply pw_below_drewN | apply below_drew1 | refine below_set ?_ GE16.out) | exact HB.out))) : w.heap.size ≤ gb20)); have n5_ := Aside0.mk ((by rw [hg]; exact (below_size (by repeat (first | (with_reducible first | exact HB.out | apply below_alloc | apply pw_below_drewN | apply below_drew1 | refine below_set ?_ GE16.out) | exact HB.out))) : w.heap.size ≤ gb20)); have n6_ := Aside0.mk ((by rw [hg]; exact Nat.ne_of_lt (blk_lt (g := gb16) (o := .cells #[.int .i64 ((rd_T41 t5 x77_2).f0), .int .i64 ((rd_T41 t5 x77_2).f1)] 41 (0, 0)) (by (with_reducible repeat (first | refine blk_drewN ?_ _ | refine blk_drew ?_ | refine blk_alloc ?_ _)); exact BK16.out)) : gb16 ≠ gb20)); have n7_ := Aside0.mk ((by rw [hg]; exact Nat.ne_of_gt (blk_lt (g := gb16) (o := .cells #[.int .i64 ((rd_T41 t5 x77_2).f0), .int .i64 ((rd_T41 t5 x77_2).f1)] 41 (0, 0)) (by (with_reducible repeat (first | refine blk_drewN ?_ _ | refine blk_drew ?_ | refine blk_alloc ?_ _)); exact BK16.out)) : gb20 ≠ gb16)); clear HO_75; clear BK16; clear HB; have HO_75 := n0_; have BK16 := n1_; have HB := n2_; have BK20 := n3_; have GW20 := n4_; have GE20 := n5_; have NB16_20 := n6_; have NB20_16 := n7_; clear n0_ n1_ n2_ n3_ n4_ n5_ n6_ n7_; clear hb hbox hg; have hnb32 := NB20_16.out; have hnc32 := NB16_20.out; have hcz33_0 : w31.cell? ⟨gb20, 0, none⟩ = some (.int .i64 0) := (blk_cell BK20.out 0).trans rfl; have hcz33_1 : w31.cell? ⟨gb20, 1, none⟩ = some (.int .i64 0) := (blk_cell BK20.out 1).trans rfl; have hfz33_0 := blk_frozen BK20.out 0; have hfz33_1 := blk_frozen BK20.out 1; have hcz34_0 : w31.cell? ⟨gb16, 0, none⟩ = some (.int .i64 ((rd_T41 t5 x77_2).f0)) := (blk_cell BK16.out 0).trans rfl; have hcz34_1 : w31.cell? ⟨gb16, 1, none⟩ = some (.int .i64 ((rd_T41 t5 x77_2).f1)) := (blk_cell BK16.out 1).trans rfl; have hfz34_0 := blk_frozen BK16.out 0; have hfz34_1 := blk_frozen BK16.out 1)); try go_wp2_with (first | ((with_reducible refine gate_dst (N := 12) rfl ?_); (try (refine gate_guard (by rfl) ?_; dsimp only)); refine box_event ?hg (N := 12) ?hd (cs := #[.int .i64 0, .int .i64 0]) (t := 41) ?hr ?_; (case hd => rfl); (case hg => rfl); (case hr => first | (go_simp; done) | (go_simp; rfl)); intro gb16 hg w28 hbox hb; have n0_ := Aside0.mk (Kd.R_below (Kd.R_elderB (by (with_reducible repeat (first | apply Kd.R_alloc | apply Kd.R_drewN | apply Kd.R_drew)); exact HO_75.out) gb16 (Nat.le_of_eq hg.symm)) hb); have n1_ := Aside0.mk (below_step (by repeat (first | (with_reducible first | exact HB.out | apply below_alloc | apply pw_below_drewN | apply below_drew1) | exact HB.out)) hb); have n2_ := Aside0.mk (hbox); have n3_ := Aside0.mk ((by rw [hg]; exact (below_size (by repeat (first | (with_reducible first | exact HB.out | apply below_alloc | apply pw_below_drewN | apply below_drew1) | exact HB.out))) : w.heap.size ≤ gb16)); have n4_ := Aside0.mk ((by rw [hg]; exact (below_size (by repeat (first | (with_reducible first | exact HB.out | apply below_alloc | apply pw_below_drewN | apply below_drew1) | exact HB.out))) : w.heap.size ≤ gb16)); clear HO_75; clear HB; have HO_75 := n0_; have HB := n1_; have BK16 := n2_; have GW16 := n3_; have GE16 := n4_; clear n0_ n1_ n2_ n3_ n4_; clear hb hbox hg; have hcz29_0 : w28.cell? ⟨gb16, 0, none⟩ = some (.int .i64 0) := (blk_cell BK16.out 0).trans rfl; have hcz29_1 : w28.cell? ⟨gb16, 1, none⟩ = some (.int .i64 0) := (blk_cell BK16.out 1).trans rfl; have hfz29_0 := blk_frozen BK16.out 0; have hfz29_1 := blk_frozen BK16.out 1) | (go_at_call 22; (with_reducible refine (dft_Bin.calls k2 _ _ y1 x77_2 a1 t17 t18 t19 _ ?side1 ?side2 A25.out).mono ?_); (case side1 => exact Kd.C_below HR4.out (by repeat (first | (with_reducible first | exact HB.out | apply below_alloc | apply pw_below_drewN | apply below_drew1 | refine below_set ?_ GE16.out) | exact HB.out))); (case side2 => exact HC4.out); rintro e w30 ⟨rfl, hb⟩; have n0_ := Aside0.mk (Kd.R_below (by (with_reducible repeat (first | apply Kd.R_alloc | apply Kd.R_drewN | apply Kd.R_drew)); exact (Kd.R_mono (Kd.R_far (p := ⟨gb16, 1, none⟩) (Kd.R_far (p := ⟨gb16, 0, none⟩) (Kd.R_mono HO_75.out (fun k_ hk => (⟨hk, hk.2⟩ : _ ∧ k_ ≠ gb16))) (fun _ hk => hk.2) (.int .i64 ((rd_T41 t5 x77_2).f0))) (fun _ hk => hk.2) (.int .i64 ((rd_T41 t5 x77_2).f1))) (fun _ h_ => h_.1))) hb); have n1_ := Aside0.mk (blk_below (g := gb16) (o := .cells #[.int .i64 ((rd_T41 t5 x77_2).f0), .int .i64 ((rd_T41 t5 x77_2).f1)] 41 (0, 0)) (by (with_reducible repeat (first | refine blk_drewN ?_ _ | refine blk_drew ?_ | refine blk_alloc ?_ _)); refine blk_put (cs := #[.int .i64 ((rd_T41 t5 x77_2).f0), .int .i64 0]) ?_ 1 _ rfl; (with_reducible repeat (first | refine blk_drewN ?_ _ | refine blk_drew ?_ | refine blk_alloc ?_ _)); refine blk_put (cs := #[.int .i64 0, .int .i64 0]) ?_ 0 _ rfl; (with_reducible repeat (first | refine blk_drewN ?_ _ | refine blk_drew ?_ | refine blk_alloc ?_ _)); exact BK16.out) hb); have n2_ := Aside0.mk (below_step (by repeat (first | (with_reducible first | exact HB.out | apply below_alloc | apply pw_below_drewN | apply below_drew1 | refine below_set ?_ GE16.out) | exact HB.out)) hb); clear HO_75; clear BK16; clear HB; have HO_75 := n0_; have BK16 := n1_; have HB := n2_; clear n0_ n1_ n2_; (try clear hb); (try clear hb2); (try clear hk); (try clear hi)) | ((with_reducible refine gate_dst (N := 13) rfl ?_); (try (refine gate_guard (by rfl) ?_; dsimp only)); refine box_event ?hg (N := 13) ?hd (cs := #[.int .i64 0, .int .i64 0]) (t := 41) ?hr ?_; (case hd => rfl); (case hg => rfl); (case hr => first | (go_simp; done) | (go_simp; rfl)); intro gb20 hg w31 hbox hb; have n0_ := Aside0.mk (Kd.R_below (Kd.R_elderB (by (with_reducible repeat (first | apply Kd.R_alloc | apply Kd.R_drewN | apply Kd.R_drew)); exact HO_75.out) gb20 (Nat.le_of_eq hg.symm)) hb); have n1_ := Aside0.mk (blk_below (g := gb16) (o := .cells #[.int .i64 ((rd_T41 t5 x77_2).f0), .int .i64 ((rd_T41 t5 x77_2).f1)] 41 (0, 0)) (by (with_reducible repeat (first | refine blk_drewN ?_ _ | refine blk_drew ?_ | refine blk_alloc ?_ _)); exact BK16.out) hb); have n2_ := Aside0.mk (below_step (by repeat (first | (with_reducible first | exact HB.out | apply below_alloc | apply pw_below_drewN | apply below_drew1 | refine below_set ?_ GE16.out) | exact HB.out)) hb); have n3_ := Aside0.mk (hbox); have n4_ := Aside0.mk ((by rw [hg]; exact (below_size (by repeat (first | (with_reducible first | exact HB.out | apply below_alloc | apply pw_below_drewN | apply below_drew1 | refine below_set ?_ GE16.out) | exact HB.out))) : w.heap.size ≤ gb20)); have n5_ := Aside0.mk ((by rw [hg]; exact (below_size (by repeat (first | (with_reducible first | exact HB.out | apply below_alloc | apply pw_below_drewN | apply below_drew1 | refine below_set ?_ GE16.out) | exact HB.out))) : w.heap.size ≤ gb20)); have n6_ := Aside0.mk ((by rw [hg]; exact Nat.ne_of_lt (blk_lt (g := gb16) (o := .cells #[.int .i64 ((rd_T41 t5 x77_2).f0), .int .i64 ((rd_T41 t5 x77_2).f1)] 41 (0, 0)) (by (with_reducible repeat (first | refine blk_drewN ?_ _ | refine blk_drew ?_ | refine blk_alloc ?_ _)); exact BK16.out)) : gb16 ≠ gb20)); have n7_ := Aside0.mk ((by rw [hg]; exact Nat.ne_of_gt (blk_lt (g := gb16) (o := .cells #[.int .i64 ((rd_T41 t5 x77_2).f0), .int .i64 ((rd_T41 t5 x77_2).f1)] 41 (0, 0)) (by (with_reducible repeat (first | refine blk_drewN ?_ _ | refine blk_drew ?_ | refine blk_alloc ?_ _)); exact BK16.out)) : gb20 ≠ gb16)); clear HO_75; clear BK16; clear HB; have HO_75 := n0_; have BK16 := n1_; have HB := n2_; have BK20 := n3_; have GW20 := n4_; have GE20 := n5_; have NB16_20 := n6_; have NB20_16 := n7_; clear n0_ n1_ n2_ n3_ n4_ n5_ n6_ n7_; clear hb hbox hg; have hnb32 := NB20_16.out; have hnc32 := NB16_20.out; have hcz33_0 : w31.cell? ⟨gb20, 0, none⟩ = some (.int .i64 0) := (blk_cell BK20.out 0).trans rfl; have hcz33_1 : w31.cell? ⟨gb20, 1, none⟩ = some (.int .i64 0) := (blk_cell BK20.out 1).trans rfl; have hfz33_0 := blk_frozen BK20.out 0; have hfz33_1 := blk_frozen BK20.out 1; have hcz34_0 : w31.cell? ⟨gb16, 0, none⟩ = some (.int .i64 ((rd_T41 t5 x77_2).f0)) := (blk_cell BK16.out 0).trans rfl; have hcz34_1 : w31.cell? ⟨gb16, 1, none⟩ = some (.int .i64 ((rd_T41 t5 x77_2).f1)) := (blk_cell BK16.out 1).trans rfl; have hfz34_0 := blk_frozen BK16.out 0; have hfz34_1 := blk_frozen BK16.out 1)))
                              go_ret
                              exact ⟨by first | rfl | (simp [errW_none, errW_some] <;> rfl) | (simp only [← hji3]; first | rfl | (simp [errW_none, errW_some] <;> rfl)) | (simp [*, errW_none, errW_some] <;> rfl), by repeat (first | (with_reducible first | exact HB.out | apply below_alloc | apply pw_below_drewN | apply below_drew1 | refine below_set ?_ GE16.out | refine below_set ?_ GE20.out) | exact HB.out)⟩
                            · rw [if_neg c27] at H
                              have c27b0 : (!(t17 == ((rd_T41 t5 x77_2).f0)) || (!(t18 == ((rd_T41 t5 x77_2).f1)))) = false := by simpa using c27
                              clear c27
                              have H' := Aside0.mk H
                              clear H
                              have p15 : 0 ≤ (x77_2 : Int) := of_decide_eq_true (by first | (with_reducible assumption) | assumption)
                              have q15 : x77_2 < (t5.length : Int) := of_decide_eq_true (by first | (with_reducible assumption) | assumption)
                              obtain ⟨ad15, e15, hx15_0, hx15_1⟩ := at_T41 (Kd.R_reads' HO_75.out).2.2 x77_2 p15 q15
                              cases e15
                              replace p15 := eq_true p15
                              replace q15 := eq_true q15
                              go_wp2_with (first | ((with_reducible refine gate_dst (N := 12) rfl ?_); (try (refine gate_guard (by rfl) ?_; dsimp only)); refine box_event ?hg (N := 12) ?hd (cs := #[.int .i64 0, .int .i64 0]) (t := 41) ?hr ?_; (case hd => rfl); (case hg => rfl); (case hr => first | (go_simp; done) | (go_simp; rfl)); intro gb16 hg w35 hbox hb; have n0_ := Aside0.mk (Kd.R_below (Kd.R_elderB (by (with_reducible repeat (first | apply Kd.R_alloc | apply Kd.R_drewN | apply Kd.R_drew)); exact HO_75.out) gb16 (Nat.le_of_eq hg.symm)) hb); have n1_ := Aside0.mk (below_step (by repeat (first | (with_reducible first | exact HB.out | apply below_alloc | apply pw_below_drewN | apply below_drew1) | exact HB.out)) hb); have n2_ := Aside0.mk (hbox); have n3_ := Aside0.mk ((by rw [hg]; exact (below_size (by repeat (first | (with_reducible first | exact HB.out | apply below_alloc | apply pw_below_drewN | apply below_drew1) | exact HB.out))) : w.heap.size ≤ gb16)); have n4_ := Aside0.mk ((by rw [hg]; exact (below_size (by repeat (first | (with_reducible first | exact HB.out | apply below_alloc | apply pw_below_drewN | apply below_drew1) | exact HB.out))) : w.heap.size ≤ gb16)); clear HO_75; clear HB; have HO_75 := n0_; have HB := n1_; have BK16 := n2_; have GW16 := n3_; have GE16 := n4_; clear n0_ n1_ n2_ n3_ n4_; clear hb hbox hg; have hcz36_0 : w35.cell? ⟨gb16, 0, none⟩ = some (.int .i64 0) := (blk_cell BK16.out 0).trans rfl; have hcz36_1 : w35.cell? ⟨gb16, 1, none⟩ = some (.int .i64 0) := (blk_cell BK16.out 1).trans rfl; have hfz36_0 := blk_frozen BK16.out 0; have hfz36_1 := blk_frozen BK16.out 1) | (go_at_call 22; (with_reducible refine (dft_Bin.calls k2 _ _ y1 x77_2 a1 t17 t18 t19 _ ?side1 ?side2 A25.out).mono ?_); (case side1 => exact Kd.C_below HR4.out (by repeat (first | (with_reducible first | exact HB.out | apply below_alloc | apply pw_below_drewN | apply below_drew1 | refine below_set ?_ GE16.out) | exact HB.out))); (case side2 => exact HC4.out); rintro e w37 ⟨rfl, hb⟩; have n0_ := Aside0.mk (Kd.R_below (by (with_reducible repeat (first | apply Kd.R_alloc | apply Kd.R_drewN | apply Kd.R_drew)); exact (Kd.R_mono (Kd.R_far (p := ⟨gb16, 1, none⟩) (Kd.R_far (p := ⟨gb16, 0, none⟩) (Kd.R_mono HO_75.out (fun k_ hk => (⟨hk, hk.2⟩ : _ ∧ k_ ≠ gb16))) (fun _ hk => hk.2) (.int .i64 ((rd_T41 t5 x77_2).f0))) (fun _ hk => hk.2) (.int .i64 ((rd_T41 t5 x77_2).f1))) (fun _ h_ => h_.1))) hb); have n1_ := Aside0.mk (blk_below (g := gb16) (o := .cells #[.int .i64 ((rd_T41 t5 x77_2).f0), .int .i64 ((rd_T41 t5 x77_2).f1)] 41 (0, 0)) (by (with_reducible repeat (first | refine blk_drewN ?_ _ | refine blk_drew ?_ | refine blk_alloc ?_ _)); refine blk_put (cs := #[.int .i64 ((rd_T41 t5 x77_2).f0), .int .i64 0]) ?_ 1 _ rfl; (with_reducible repeat (first | refine blk_drewN ?_ _ | refine blk_drew ?_ | refine blk_alloc ?_ _)); refine blk_put (cs := #[.int .i64 0, .int .i64 0]) ?_ 0 _ rfl; (with_reducible repeat (first | refine blk_drewN ?_ _ | refine blk_drew ?_ | refine blk_alloc ?_ _)); exact BK16.out) hb); have n2_ := Aside0.mk (below_step (by repeat (first | (with_reducible first | exact HB.out | apply below_alloc | apply pw_below_drewN | apply below_drew1 | refine below_set ?_ GE16.out) | exact HB.out)) hb); clear HO_75; clear BK16; clear HB; have HO_75 := n0_; have BK16 := n1_; have HB := n2_; clear n0_ n1_ n2_; (try clear hb); (try clear hb2); (try clear hk); (try clear hi)) | ((with_reducible refine gate_dst (N := 13) rfl ?_); (try (refine gate_guard (by rfl) ?_; dsimp only)); refine box_event ?hg (N := 13) ?hd (cs := #[.int .i64 0, .int .i64 0]) (t := 41) ?hr ?_; (case hd => rfl); (case hg => rfl); (case hr => first | (go_simp; done) | (go_simp; rfl)); intro gb20 hg w38 hbox hb; have n0_ := Aside0.mk (Kd.R_below (Kd.R_elderB (by (with_reducible repeat (first | apply Kd.R_alloc | apply Kd.R_drewN | apply Kd.R_drew)); exact HO_75.out) gb20 (Nat.le_of_eq hg.symm)) hb); have n1_ := Aside0.mk (blk_below (g := gb16) (o := .cells #[.int .i64 ((rd_T41 t5 x77_2).f0), .int .i64 ((rd_T41 t5 x77_2).f1)] 41 (0, 0)) (by (with_reducible repeat (first | refine blk_drewN ?_ _ | refine blk_drew ?_ | refine blk_alloc ?_ _)); exact BK16.out) hb); have n2_ := Aside0.mk (below_step (by repeat (first | (with_reducible first | exact HB.out | apply below_alloc | apply pw_below_drewN | apply below_drew1 | refine below_set ?_ GE16.out) | exact HB.out)) hb); have n3_ := Aside0.mk (hbox); have n4_ := Aside0.mk ((by rw [hg]; exact (below_size (by repeat (first | (with_reducible first | exact HB.out | apply below_alloc | apply pw_below_drewN | apply below_drew1 | refine below_set ?_ GE16.out) | exact HB.out))) : w.heap.size ≤ gb20)); have n5_ := Aside0.mk ((by rw [hg]; exact (below_size (by repeat (first | (with_reducible first | exact HB.out | apply below_alloc | apply pw_below_drewN | apply below_drew1 | refine below_set ?_ GE16.out) | exact HB.out))) : w.heap.size ≤ gb20)); have n6_ := Aside0.mk ((by rw [hg]; exact Nat.ne_of_lt (blk_lt (g := gb16) (o := .cells #[.int .i64 ((rd_T41 t5 x77_2).f0), .int .i64 ((rd_T41 t5 x77_2).f1)] 41 (0, 0)) (by (with_reducible repeat (first | refine blk_drewN ?_ _ | refine blk_drew ?_ | refine blk_alloc ?_ _)); exact BK16.out)) : gb16 ≠ gb20)); have n7_ := Aside0.mk ((by rw [hg]; exact Nat.ne_of_gt (blk_lt (g := gb16) (o := .cells #[.int .i64 ((rd_T41 t5 x77_2).f0), .int .i64 ((rd_T41 t5 x77_2).f1)] 41 (0, 0)) (by (with_reducible repeat (first | refine blk_drewN ?_ _ | refine blk_drew ?_ | refine blk_alloc ?_ _)); exact BK16.out)) : gb20 ≠ gb16)); clear HO_75; clear BK16; clear HB; have HO_75 := n0_; have BK16 := n1_; have HB := n2_; have BK20 := n3_; have GW20 := n4_; have GE20 := n5_; have NB16_20 := n6_; have NB20_16 := n7_; clear n0_ n1_ n2_ n3_ n4_ n5_ n6_ n7_; clear hb hbox hg; have hnb39 := NB20_16.out; have hnc39 := NB16_20.out; have hcz40_0 : w38.cell? ⟨gb20, 0, none⟩ = some (.int .i64 0) := (blk_cell BK20.out 0).trans rfl; have hcz40_1 : w38.cell? ⟨gb20, 1, none⟩ = some (.int .i64 0) := (blk_cell BK20.out 1).trans rfl; have hfz40_0 := blk_frozen BK20.out 0; have hfz40_1 := blk_frozen BK20.out 1; have hcz41_0 : w38.cell? ⟨gb16, 0, none⟩ = some (.int .i64 ((rd_T41 t5 x77_2).f0)) := (blk_cell BK16.out 0).trans rfl; have hcz41_1 : w38.cell? ⟨gb16, 1, none⟩ = some (.int .i64 ((rd_T41 t5 x77_2).f1)) := (blk_cell BK16.out 1).trans rfl; have hfz41_0 := blk_frozen BK16.out 0; have hfz41_1 := blk_frozen BK16.out 1))
                              repeat (go_quiet (first | ((with_reducible refine gate_dst (N := 12) rfl ?_); (try (refine gate_guard (by rfl) ?_; dsimp only)); refine box_event ?hg (N := 12) ?hd (cs := #[.int .i64 0, .int .i64 0]) (t := 41) ?hr ?_; (case hd => rfl); (case hg => rfl); (case hr => first | (go_simp; done) | (go_simp; rfl)); intro gb16 hg w35 hbox hb; have n0_ := Aside0.mk (Kd.R_below (Kd.R_elderB (by (with_reducible repeat (first | apply Kd.R_alloc | apply Kd.R_drewN | apply Kd.R_drew)); exact HO_75.out) gb16 (Nat.le_of_eq hg.symm)) hb); have n1_ := Aside0.mk (below_step (by repeat (first | (with_reducible first | exact HB.out | apply below_alloc | apply pw_below_drewN | apply below_drew1) | exact HB.out)) hb); have n2_ := Aside0.mk (hbox); have n3_ := Aside0.mk ((by rw [hg]; exact (below_size (by repeat (first | (with_reducible first | exact HB.out | apply below_alloc | apply pw_below_drewN | apply below_drew1) | exact HB.out))) : w.heap.size ≤ gb16)); have n4_ := Aside0.mk ((by rw [hg]; exact (below_size (by repeat (first | (with_reducible first | exact HB.out | apply below_alloc | apply pw_below_drewN | apply below_drew1) | exact HB.out))) : w.heap.size ≤ gb16)); clear HO_75; clear HB; have HO_75 := n0_; have HB := n1_; have BK16 := n2_; have GW16 := n3_; have GE16 := n4_; clear n0_ n1_ n2_ n3_ n4_; clear hb hbox hg; have hcz36_0 : w35.cell? ⟨gb16, 0, none⟩ = some (.int .i64 0) := (blk_cell BK16.out 0).trans rfl; have hcz36_1 : w35.cell? ⟨gb16, 1, none⟩ = some (.int .i64 0) := (blk_cell BK16.out 1).trans rfl; have hfz36_0 := blk_frozen BK16.out 0; have hfz36_1 := blk_frozen BK16.out 1) | (go_at_call 22; (with_reducible refine (dft_Bin.calls k2 _ _ y1 x77_2 a1 t17 t18 t19 _ ?side1 ?side2 A25.out).mono ?_); (case side1 => exact Kd.C_below HR4.out (by repeat (first | (with_reducible first | exact HB.out | apply below_alloc | apply pw_below_drewN | apply below_drew1 | refine below_set ?_ GE16.out) | exact HB.out))); (case side2 => exact HC4.out); rintro e w37 ⟨rfl, hb⟩; have n0_ := Aside0.mk (Kd.R_below (by (with_reducible repeat (first | apply Kd.R_alloc | apply Kd.R_drewN | apply Kd.R_drew)); exact (Kd.R_mono (Kd.R_far (p := ⟨gb16, 1, none⟩) (Kd.R_far (p := ⟨gb16, 0, none⟩) (Kd.R_mono HO_75.out (fun k_ hk => (⟨hk, hk.2⟩ : _ ∧ k_ ≠ gb16))) (fun _ hk => hk.2) (.int .i64 ((rd_T41 t5 x77_2).f0))) (fun _ hk => hk.2) (.int .i64 ((rd_T41 t5 x77_2).f1))) (fun _ h_ => h_.1))) hb); have n1_ := Aside0.mk (blk_below (g := gb16) (o := .cells #[.int .i64 ((rd_T41 t5 x77_2).f0), .int .i64 ((rd_T41 t5 x77_2).f1)] 41 (0, 0)) (by (with_reducible repeat (first | refine blk_drewN ?_ _ | refine blk_drew ?_ | refine blk_alloc ?_ _)); refine blk_put (cs := #[.int .i64 ((rd_T41 t5 x77_2).f0), .int .i64 0]) ?_ 1 _ rfl; (with_reducible repeat (first | refine blk_drewN ?_ _ | refine blk_drew ?_ | refine blk_alloc ?_ _)); refine blk_put (cs := #[.int .i64 0, .int .i64 0]) ?_ 0 _ rfl; (with_reducible repeat (first | refine blk_drewN ?_ _ | refine blk_drew ?_ | refine blk_alloc ?_ _)); exact BK16.out) hb); have n2_ := Aside0.mk (below_step (by repeat (first | (with_reducible first | exact HB.out | apply below_alloc | apply pw_below_drewN | apply below_drew1 | refine below_set ?_ GE16.out) | exact HB.out)) hb); clear HO_75; clear BK16; clear HB; have HO_75 := n0_; have BK16 := n1_; have HB := n2_; clear n0_ n1_ n2_; (try clear hb); (try clear hb2); (try clear hk); (try clear hi)) | ((with_reducible refine gate_dst (N := 13) rfl ?_); (try (refine gate_guard (by rfl) ?_; dsimp only)); refine box_event ?hg (N := 13) ?hd (cs := #[.int .i64 0, .int .i64 0]) (t := 41) ?hr ?_; (case hd => rfl); (case hg => rfl); (case hr => first | (go_simp; done) | (go_simp; rfl)); intro gb20 hg w38 hbox hb; have n0_ := Aside0.mk (Kd.R_below (Kd.R_elderB (by (with_reducible repeat (first | apply Kd.R_alloc | apply Kd.R_drewN | apply Kd.R_drew)); exact HO_75.out) gb20 (Nat.le_of_eq hg.symm)) hb); have n1_ := Aside0.mk (blk_below (g := gb16) (o := .cells #[.int .i64 ((rd_T41 t5 x77_2).f0), .int .i64 ((rd_T41 t5 x77_2).f1)] 41 (0, 0)) (by (with_reducible repeat (first | refine blk_drewN ?_ _ | refine blk_drew ?_ | refine blk_alloc ?_ _)); exact BK16.out) hb); have n2_ := Aside0.mk (below_step (by repeat (first | (with_reducible first | exact HB.out | apply below_alloc | apply pw_below_drewN | apply below_drew1 | refine below_set ?_ GE16.out) | exact HB.out)) hb); have n3_ := Aside0.mk (hbox); have n4_ := Aside0.mk ((by rw [hg]; exact (below_size (by repeat (first | (with_reducible first | exact HB.out | apply below_alloc | apply pw_below_drewN | apply below_drew1 | refine below_set ?_ GE16.out) | exact HB.out))) : w.heap.size ≤ gb20)); have n5_ := Aside0.mk ((by rw [hg]; exact (below_size (by repeat (first | (with_reducible first | exact HB.out | apply below_alloc | apply pw_below_drewN | apply below_drew1 | refine below_set ?_ GE16.out) | exact HB.out))) : w.heap.size ≤ gb20)); have n6_ := Aside0.mk ((by rw [hg]; exact Nat.ne_of_lt (blk_lt (g := gb16) (o := .cells #[.int .i64 ((rd_T41 t5 x77_2).f0), .int .i64 ((rd_T41 t5 x77_2).f1)] 41 (0, 0)) (by (with_reducible repeat (first | refine blk_drewN ?_ _ | refine blk_drew ?_ | refine blk_alloc ?_ _)); exact BK16.out)) : gb16 ≠ gb20)); have n7_ := Aside0.mk ((by rw [hg]; exact Nat.ne_of_gt (blk_lt (g := gb16) (o := .cells #[.int .i64 ((rd_T41 t5 x77_2).f0), .int .i64 ((rd_T41 t5 x77_2).f1)] 41 (0, 0)) (by (with_reducible repeat (first | refine blk_drewN ?_ _ | refine blk_drew ?_ | refine blk_alloc ?_ _)); exact BK16.out)) : gb20 ≠ gb16)); clear HO_75; clear BK16; clear HB; have HO_75 := n0_; have BK16 := n1_; have HB := n2_; have BK20 := n3_; have GW20 := n4_; have GE20 := n5_; have NB16_20 := n6_; have NB20_16 := n7_; clear n0_ n1_ n2_ n3_ n4_ n5_ n6_ n7_; clear hb hbox hg; have hnb39 := NB20_16.out; have hnc39 := NB16_20.out; have hcz40_0 : w38.cell? ⟨gb20, 0, none⟩ = some (.int .i64 0) := (blk_cell BK20.out 0).trans rfl; have hcz40_1 : w38.cell? ⟨gb20, 1, none⟩ = some (.int .i64 0) := (blk_cell BK20.out 1).trans rfl; have hfz40_0 := blk_frozen BK20.out 0; have hfz40_1 := blk_frozen BK20.out 1; have hcz41_0 : w38.cell? ⟨gb16, 0, none⟩ = some (.int .i64 ((rd_T41 t5 x77_2).f0)) := (blk_cell BK16.out 0).trans rfl; have hcz41_1 : w38.cell? ⟨gb16, 1, none⟩ = some (.int .i64 ((rd_T41 t5 x77_2).f1)) := (blk_cell BK16.out 1).trans rfl; have hfz41_0 := blk_frozen BK16.out 0; have hfz41_1 := blk_frozen BK16.out 1)); try go_wp2_with (first | ((with_reducible refine gate_dst (N := 12) rfl ?_); (try (refine gate_guard (by rfl) ?_; dsimp only)); refine box_event ?hg (N := 12) ?hd (cs := #[.int .i64 0, .int .i64 0]) (t := 41) ?hr ?_; (case hd => rfl); (case hg => rfl); (case hr => first | (go_simp; done) | (go_simp; rfl)); intro gb16 hg w35 hbox hb; have n0_ := Aside0.mk (Kd.R_below (Kd.R_elderB (by (with_reducible repeat (first | apply Kd.R_alloc | apply Kd.R_drewN | apply Kd.R_drew)); exact HO_75.out) gb16 (Nat.le_of_eq hg.symm)) hb); have n1_ := Aside0.mk (below_step (by repeat (first | (with_reducible first | exact HB.out | apply below_alloc | apply pw_below_drewN | apply below_drew1) | exact HB.out)) hb); have n2_ := Aside0.mk (hbox); have n3_ := Aside0.mk ((by rw [hg]; exact (below_size (by repeat (first | (with_reducible first | exact HB.out | apply below_alloc | apply pw_below_drewN | apply below_drew1) | exact HB.out))) : w.heap.size ≤ gb16)); have n4_ := Aside0.mk ((by rw [hg]; exact (below_size (by repeat (first | (with_reducible first | exact HB.out | apply below_alloc | apply pw_below_drewN | apply below_drew1) | exact HB.out))) : w.heap.size ≤ gb16)); clear HO_75; clear HB; have HO_75 := n0_; have HB := n1_; have BK16 := n2_; have GW16 := n3_; have GE16 := n4_; clear n0_ n1_ n2_ n3_ n4_; clear hb hbox hg; have hcz36_0 : w35.cell? ⟨gb16, 0, none⟩ = some (.int .i64 0) := (blk_cell BK16.out 0).trans rfl; have hcz36_1 : w35.cell? ⟨gb16, 1, none⟩ = some (.int .i64 0) := (blk_cell BK16.out 1).trans rfl; have hfz36_0 := blk_frozen BK16.out 0; have hfz36_1 := blk_frozen BK16.out 1) | (go_at_call 22; (with_reducible refine (dft_Bin.calls k2 _ _ y1 x77_2 a1 t17 t18 t19 _ ?side1 ?side2 A25.out).mono ?_); (case side1 => exact Kd.C_below HR4.out (by repeat (first | (with_reducible first | exact HB.out | apply below_alloc | apply pw_below_drewN | apply below_drew1 | refine below_set ?_ GE16.out) | exact HB.out))); (case side2 => exact HC4.out); rintro e w37 ⟨rfl, hb⟩; have n0_ := Aside0.mk (Kd.R_below (by (with_reducible repeat (first | apply Kd.R_alloc | apply Kd.R_drewN | apply Kd.R_drew)); exact (Kd.R_mono (Kd.R_far (p := ⟨gb16, 1, none⟩) (Kd.R_far (p := ⟨gb16, 0, none⟩) (Kd.R_mono HO_75.out (fun k_ hk => (⟨hk, hk.2⟩ : _ ∧ k_ ≠ gb16))) (fun _ hk => hk.2) (.int .i64 ((rd_T41 t5 x77_2).f0))) (fun _ hk => hk.2) (.int .i64 ((rd_T41 t5 x77_2).f1))) (fun _ h_ => h_.1))) hb); have n1_ := Aside0.mk (blk_below (g := gb16) (o := .cells #[.int .i64 ((rd_T41 t5 x77_2).f0), .int .i64 ((rd_T41 t5 x77_2).f1)] 41 (0, 0)) (by (with_reducible repeat (first | refine blk_drewN ?_ _ | refine blk_drew ?_ | refine blk_alloc ?_ _)); refine blk_put (cs := #[.int .i64 ((rd_T41 t5 x77_2).f0), .int .i64 0]) ?_ 1 _ rfl; (with_reducible repeat (first | refine blk_drewN ?_ _ | refine blk_drew ?_ | refine blk_alloc ?_ _)); refine blk_put (cs := #[.int .i64 0, .int .i64 0]) ?_ 0 _ rfl; (with_reducible repeat (first | refine blk_drewN ?_ _ | refine blk_drew ?_ | refine blk_alloc ?_ _)); exact BK16.out) hb); have n2_ := Aside0.mk (below_step (by repeat (first | (with_reducible first | exact HB.out | apply below_alloc | apply pw_below_drewN | apply below_drew1 | refine below_set ?_ GE16.out) | exact HB.out)) hb); clear HO_75; clear BK16; clear HB; have HO_75 := n0_; have BK16 := n1_; have HB := n2_; clear n0_ n1_ n2_; (try clear hb); (try clear hb2); (try clear hk); (try clear hi)) | ((with_reducible refine gate_dst (N := 13) rfl ?_); (try (refine gate_guard (by rfl) ?_; dsimp only)); refine box_event ?hg (N := 13) ?hd (cs := #[.int .i64 0, .int .i64 0]) (t := 41) ?hr ?_; (case hd => rfl); (case hg => rfl); (case hr => first | (go_simp; done) | (go_simp; rfl)); intro gb20 hg w38 hbox hb; have n0_ := Aside0.mk (Kd.R_below (Kd.R_elderB (by (with_reducible repeat (first | apply Kd.R_alloc | apply Kd.R_drewN | apply Kd.R_drew)); exact HO_75.out) gb20 (Nat.le_of_eq hg.symm)) hb); have n1_ := Aside0.mk (blk_below (g := gb16) (o := .cells #[.int .i64 ((rd_T41 t5 x77_2).f0), .int .i64 ((rd_T41 t5 x77_2).f1)] 41 (0, 0)) (by (with_reducible repeat (first | refine blk_drewN ?_ _ | refine blk_drew ?_ | refine blk_alloc ?_ _)); exact BK16.out) hb); have n2_ := Aside0.mk (below_step (by repeat (first | (with_reducible first | exact HB.out | apply below_alloc | apply pw_below_drewN | apply below_drew1 | refine below_set ?_ GE16.out) | exact HB.out)) hb); have n3_ := Aside0.mk (hbox); have n4_ := Aside0.mk ((by rw [hg]; exact (below_size (by repeat (first | (with_reducible first | exact HB.out | apply below_alloc | apply pw_below_drewN | apply below_drew1 | refine below_set ?_ GE16.out) | exact HB.out))) : w.heap.size ≤ gb20)); have n5_ := Aside0.mk ((by rw [hg]; exact (below_size (by repeat (first | (with_reducible first | exact HB.out | apply below_alloc | apply pw_below_drewN | apply below_drew1 | refine below_set ?_ GE16.out) | exact HB.out))) : w.heap.size ≤ gb20)); have n6_ := Aside0.mk ((by rw [hg]; exact Nat.ne_of_lt (blk_lt (g := gb16) (o := .cells #[.int .i64 ((rd_T41 t5 x77_2).f0), .int .i64 ((rd_T41 t5 x77_2).f1)] 41 (0, 0)) (by (with_reducible repeat (first | refine blk_drewN ?_ _ | refine blk_drew ?_ | refine blk_alloc ?_ _)); exact BK16.out)) : gb16 ≠ gb20)); have n7_ := Aside0.mk ((by rw [hg]; exact Nat.ne_of_gt (blk_lt (g := gb16) (o := .cells #[.int .i64 ((rd_T41 t5 x77_2).f0), .int .i64 ((rd_T41 t5 x77_2).f1)] 41 (0, 0)) (by (with_reducible repeat (first | refine blk_drewN ?_ _ | refine blk_drew ?_ | refine blk_alloc ?_ _)); exact BK16.out)) : gb20 ≠ gb16)); clear HO_75; clear BK16; clear HB; have HO_75 := n0_; have BK16 := n1_; have HB := n2_; have BK20 := n3_; have GW20 := n4_; have GE20 := n5_; have NB16_20 := n6_; have NB20_16 := n7_; clear n0_ n1_ n2_ n3_ n4_ n5_ n6_ n7_; clear hb hbox hg; have hnb39 := NB20_16.out; have hnc39 := NB16_20.out; have hcz40_0 : w38.cell? ⟨gb20, 0, none⟩ = some (.int .i64 0) := (blk_cell BK20.out 0).trans rfl; have hcz40_1 : w38.cell? ⟨gb20, 1, none⟩ = some (.int .i64 0) := (blk_cell BK20.out 1).trans rfl; have hfz40_0 := blk_frozen BK20.out 0; have hfz40_1 := blk_frozen BK20.out 1; have hcz41_0 : w38.cell? ⟨gb16, 0, none⟩ = some (.int .i64 ((rd_T41 t5 x77_2).f0)) := (blk_cell BK16.out 0).trans rfl; have hcz41_1 : w38.cell? ⟨gb16, 1, none⟩ = some (.int .i64 ((rd_T41 t5 x77_2).f1)) := (blk_cell BK16.out 1).trans rfl; have hfz41_0 := blk_frozen BK16.out 0; have hfz41_1 := blk_frozen BK16.out 1)))
                              go_roundg k2
                              case measure => have := HJ8.out; have := HK2.out; omega
                              case rel => exact ⟨(wrap64 (x9_2 + ((rd_T41 t5 x77_2).f0))), (wrap64 (x10_2 + ((rd_T41 t5 x77_2).f1))), (wrap64 (x77_2 + 1)), (by first | rfl | (simp; done) | (simp [*]; done)), (by first | rfl | (simp; done) | (simp [*]; done)), (by first | rfl | (simp; done) | (simp [*]; done)), H', ⟨by have := HJ8.out; have := HK2.out; omega⟩, ⟨by (with_reducible repeat (first | apply Kd.R_alloc | apply Kd.R_drewN | apply Kd.R_drew)); exact Kd.R_mono (Kd.R_far (p := ⟨gb20, 1, none⟩) (Kd.R_far (p := ⟨gb20, 0, none⟩) (Kd.R_mono HO_75.out (fun k_ hk => (⟨hk, hk.2⟩ : _ ∧ k_ ≠ gb20))) (fun _ hk => hk.2) (.int .i64 t17)) (fun _ hk => hk.2) (.int .i64 t18)) (fun _ hk => trivial)⟩, ⟨by repeat (first | (with_reducible first | exact HB.out | apply below_alloc | apply pw_below_drewN | apply below_drew1 | refine below_set ?_ GE16.out | refine below_set ?_ GE20.out) | exact HB.out)⟩⟩
                          · rw [if_neg c26] at H
                            have c26b0 : (t19 == 0) = false := beq_eq_false_iff_ne.mpr c26
                            have c26b1 : (t19 != 0) = true := bne_iff_ne.mpr c26
                            obtain rfl := Option.some.inj H
                            have p15 : 0 ≤ (x77_2 : Int) := of_decide_eq_true (by first | (with_reducible assumption) | assumption)
                            have q15 : x77_2 < (t5.length : Int) := of_decide_eq_true (by first | (with_reducible assumption) | assumption)
                            obtain ⟨ad15, e15, hx15_0, hx15_1⟩ := at_T41 (Kd.R_reads' HO_75.out).2.2 x77_2 p15 q15
                            cases e15
                            replace p15 := eq_true p15
                            replace q15 := eq_true q15
                            go_wp2_with (first | ((with_reducible refine gate_dst (N := 12) rfl ?_); (try (refine gate_guard (by rfl) ?_; dsimp only)); refine box_event ?hg (N := 12) ?hd (cs := #[.int .i64 0, .int .i64 0]) (t := 41) ?hr ?_; (case hd => rfl); (case hg => rfl); (case hr => first | (go_simp; done) | (go_simp; rfl)); intro gb16 hg w42 hbox hb; have n0_ := Aside0.mk (Kd.R_below (Kd.R_elderB (by (with_reducible repeat (first | apply Kd.R_alloc | apply Kd.R_drewN | apply Kd.R_drew)); exact HO_75.out) gb16 (Nat.le_of_eq hg.symm)) hb); have n1_ := Aside0.mk (below_step (by repeat (first | (with_reducible first | exact HB.out | apply below_alloc | apply pw_below_drewN | apply below_drew1) | exact HB.out)) hb); have n2_ := Aside0.mk (hbox); have n3_ := Aside0.mk ((by rw [hg]; exact (below_size (by repeat (first | (with_reducible first | exact HB.out | apply below_alloc | apply pw_below_drewN | apply below_drew1) | exact HB.out))) : w.heap.size ≤ gb16)); have n4_ := Aside0.mk ((by rw [hg]; exact (below_size (by repeat (first | (with_reducible first | exact HB.out | apply below_alloc | apply pw_below_drewN | apply below_drew1) | exact HB.out))) : w.heap.size ≤ gb16)); clear HO_75; clear HB; have HO_75 := n0_; have HB := n1_; have BK16 := n2_; have GW16 := n3_; have GE16 := n4_; clear n0_ n1_ n2_ n3_ n4_; clear hb hbox hg; have hcz43_0 : w42.cell? ⟨gb16, 0, none⟩ = some (.int .i64 0) := (blk_cell BK16.out 0).trans rfl; have hcz43_1 : w42.cell? ⟨gb16, 1, none⟩ = some (.int .i64 0) := (blk_cell BK16.out 1).trans rfl; have hfz43_0 := blk_frozen BK16.out 0; have hfz43_1 := blk_frozen BK16.out 1) | (go_at_call 22; (with_reducible refine (dft_Bin.calls k2 _ _ y1 x77_2 a1 t17 t18 t19 _ ?side1 ?side2 A25.out).mono ?_); (case side1 => exact Kd.C_below HR4.out (by repeat (first | (with_reducible first | exact HB.out | apply below_alloc | apply pw_below_drewN | apply below_drew1 | refine below_set ?_ GE16.out) | exact HB.out))); (case side2 => exact HC4.out); rintro e w44 ⟨rfl, hb⟩; have n0_ := Aside0.mk (Kd.R_below (by (with_reducible repeat (first | apply Kd.R_alloc | apply Kd.R_drewN | apply Kd.R_drew)); exact (Kd.R_mono (Kd.R_far (p := ⟨gb16, 1, none⟩) (Kd.R_far (p := ⟨gb16, 0, none⟩) (Kd.R_mono HO_75.out (fun k_ hk => (⟨hk, hk.2⟩ : _ ∧ k_ ≠ gb16))) (fun _ hk => hk.2) (.int .i64 ((rd_T41 t5 x77_2).f0))) (fun _ hk => hk.2) (.int .i64 ((rd_T41 t5 x77_2).f1))) (fun _ h_ => h_.1))) hb); have n1_ := Aside0.mk (blk_below (g := gb16) (o := .cells #[.int .i64 ((rd_T41 t5 x77_2).f0), .int .i64 ((rd_T41 t5 x77_2).f1)] 41 (0, 0)) (by (with_reducible repeat (first | refine blk_drewN ?_ _ | refine blk_drew ?_ | refine blk_alloc ?_ _)); refine blk_put (cs := #[.int .i64 ((rd_T41 t5 x77_2).f0), .int .i64 0]) ?_ 1 _ rfl; (with_reducible repeat (first | refine blk_drewN ?_ _ | refine blk_drew ?_ | refine blk_alloc ?_ _)); refine blk_put (cs := #[.int .i64 0, .int .i64 0]) ?_ 0 _ rfl; (with_reducible repeat (first | refine blk_drewN ?_ _ | refine blk_drew ?_ | refine blk_alloc ?_ _)); exact BK16.out) hb); have n2_ := Aside0.mk (below_step (by repeat (first | (with_reducible first | exact HB.out | apply below_alloc | apply pw_below_drewN | apply below_drew1 | refine below_set ?_ GE16.out) | exact HB.out)) hb); clear HO_75; clear BK16; clear HB; have HO_75 := n0_; have BK16 := n1_; have HB := n2_; clear n0_ n1_ n2_; (try clear hb); (try clear hb2); (try clear hk); (try clear hi)) | ((with_reducible refine gate_dst (N := 13) rfl ?_); (try (refine gate_guard (by rfl) ?_; dsimp only)); refine box_event ?hg (N := 13) ?hd (cs := #[.int .i64 0, .int .i64 0]) (t := 41) ?hr ?_; (case hd => rfl); (case hg => rfl); (case hr => first | (go_simp; done) | (go_simp; rfl)); intro gb20 hg w45 hbox hb; have n0_ := Aside0.mk (Kd.R_below (Kd.R_elderB (by (with_reducible repeat (first | apply Kd.R_alloc | apply Kd.R_drewN | apply Kd.R_drew)); exact HO_75.out) gb20 (Nat.le_of_eq hg.symm)) hb); have n1_ := Aside0.mk (blk_below (g := gb16) (o := .cells #[.int .i64 ((rd_T41 t5 x77_2).f0), .int .i64 ((rd_T41 t5 x77_2).f1)] 41 (0, 0)) (by (with_reducible repeat (first | refine blk_drewN ?_ _ | refine blk_drew ?_ | refine blk_alloc ?_ _)); exact BK16.out) hb); have n2_ := Aside0.mk (below_step (by repeat (first | (with_reducible first | exact HB.out | apply below_alloc | apply pw_below_drewN | apply below_drew1 | refine below_set ?_ GE16.out) | exact HB.out)) hb); have n3_ := Aside0.mk (hbox); have n4_ := Aside0.mk ((by rw [hg]; exact (below_size (by repeat (first | (with_reducible first | exact HB.out | apply below_alloc | apply pw_below_drewN | apply below_drew1 | refine below_set ?_ GE16.out) | exact HB.out))) : w.heap.size ≤ gb20)); have n5_ := Aside0.mk ((by rw [hg]; exact (below_size (by repeat (first | (with_reducible first | exact HB.out | apply below_alloc | apply pw_below_drewN | apply below_drew1 | refine below_set ?_ GE16.out) | exact HB.out))) : w.heap.size ≤ gb20)); have n6_ := Aside0.mk ((by rw [hg]; exact Nat.ne_of_lt (blk_lt (g := gb16) (o := .cells #[.int .i64 ((rd_T41 t5 x77_2).f0), .int .i64 ((rd_T41 t5 x77_2).f1)] 41 (0, 0)) (by (with_reducible repeat (first | refine blk_drewN ?_ _ | refine blk_drew ?_ | refine blk_alloc ?_ _)); exact BK16.out)) : gb16 ≠ gb20)); have n7_ := Aside0.mk ((by rw [hg]; exact Nat.ne_of_gt (blk_lt (g := gb16) (o := .cells #[.int .i64 ((rd_T41 t5 x77_2).f0), .int .i64 ((rd_T41 t5 x77_2).f1)] 41 (0, 0)) (by (with_reducible repeat (first | refine blk_drewN ?_ _ | refine blk_drew ?_ | refine blk_alloc ?_ _)); exact BK16.out)) : gb20 ≠ gb16)); clear HO_75; clear BK16; clear HB; have HO_75 := n0_; have BK16 := n1_; have HB := n2_; have BK20 := n3_; have GW20 := n4_; have GE20 := n5_; have NB16_20 := n6_; have NB20_16 := n7_; clear n0_ n1_ n2_ n3_ n4_ n5_ n6_ n7_; clear hb hbox hg; have hnb46 := NB20_16.out; have hnc46 := NB16_20.out; have hcz47_0 : w45.cell? ⟨gb20, 0, none⟩ = some (.int .i64 0) := (blk_cell BK20.out 0).trans rfl; have hcz47_1 : w45.cell? ⟨gb20, 1, none⟩ = some (.int .i64 0) := (blk_cell BK20.out 1).trans rfl; have hfz47_0 := blk_frozen BK20.out 0; have hfz47_1 := blk_frozen BK20.out 1))
                            repeat (go_quiet (first | ((with_reducible refine gate_dst (N := 12) rfl ?_); (try (refine gate_guard (by rfl) ?_; dsimp only)); refine box_event ?hg (N := 12) ?hd (cs := #[.int .i64 0, .int .i64 0]) (t := 41) ?hr ?_; (case hd => rfl); (case hg => rfl); (case hr => first | (go_simp; done) | (go_simp; rfl)); intro gb16 hg w42 hbox hb; have n0_ := Aside0.mk (Kd.R_below (Kd.R_elderB (by (with_reducible repeat (first | apply Kd.R_alloc | apply Kd.R_drewN | apply Kd.R_drew)); exact HO_75.out) gb16 (Nat.le_of_eq hg.symm)) hb); have n1_ := Aside0.mk (below_step (by repeat (first | (with_reducible first | exact HB.out | apply below_alloc | apply pw_below_drewN | apply below_drew1) | exact HB.out)) hb); have n2_ := Aside0.mk (hbox); have n3_ := Aside0.mk ((by rw [hg]; exact (below_size (by repeat (first | (with_reducible first | exact HB.out | apply below_alloc | apply pw_below_drewN | apply below_drew1) | exact HB.out))) : w.heap.size ≤ gb16)); have n4_ := Aside0.mk ((by rw [hg]; exact (below_size (by repeat (first | (with_reducible first | exact HB.out | apply below_alloc | apply pw_below_drewN | apply below_drew1) | exact HB.out))) : w.heap.size ≤ gb16)); clear HO_75; clear HB; have HO_75 := n0_; have HB := n1_; have BK16 := n2_; have GW16 := n3_; have GE16 := n4_; clear n0_ n1_ n2_ n3_ n4_; clear hb hbox hg; have hcz43_0 : w42.cell? ⟨gb16, 0, none⟩ = some (.int .i64 0) := (blk_cell BK16.out 0).trans rfl; have hcz43_1 : w42.cell? ⟨gb16, 1, none⟩ = some (.int .i64 0) := (blk_cell BK16.out 1).trans rfl; have hfz43_0 := blk_frozen BK16.out 0; have hfz43_1 := blk_frozen BK16.out 1) | (go_at_call 22; (with_reducible refine (dft_Bin.calls k2 _ _ y1 x77_2 a1 t17 t18 t19 _ ?side1 ?side2 A25.out).mono ?_); (case side1 => exact Kd.C_below HR4.out (by repeat (first | (with_reducible first | exact HB.out | apply below_alloc | apply pw_below_drewN | apply below_drew1 | refine below_set ?_ GE16.out) | exact HB.out))); (case side2 => exact HC4.out); rintro e w44 ⟨rfl, hb⟩; have n0_ := Aside0.mk (Kd.R_below (by (with_reducible repeat (first | apply Kd.R_alloc | apply Kd.R_drewN | apply Kd.R_drew)); exact (Kd.R_mono (Kd.R_far (p := ⟨gb16, 1, none⟩) (Kd.R_far (p := ⟨gb16, 0, none⟩) (Kd.R_mono HO_75.out (fun k_ hk => (⟨hk, hk.2⟩ : _ ∧ k_ ≠ gb16))) (fun _ hk => hk.2) (.int .i64 ((rd_T41 t5 x77_2).f0))) (fun _ hk => hk.2) (.int .i64 ((rd_T41 t5 x77_2).f1))) (fun _ h_ => h_.1))) hb); have n1_ := Aside0.mk (blk_below (g := gb16) (o := .cells #[.int .i64 ((rd_T41 t5 x77_2).f0), .int .i64 ((rd_T41 t5 x77_2).f1)] 41 (0, 0)) (by (with_reducible repeat (first | refine blk_drewN ?_ _ | refine blk_drew ?_ | refine blk_alloc ?_ _)); refine blk_put (cs := #[.int .i64 ((rd_T41 t5 x77_2).f0), .int .i64 0]) ?_ 1 _ rfl; (with_reducible repeat (first | refine blk_drewN ?_ _ | refine blk_drew ?_ | refine blk_alloc ?_ _)); refine blk_put (cs := #[.int .i64 0, .int .i64 0]) ?_ 0 _ rfl; (with_reducible repeat (first | refine blk_drewN ?_ _ | refine blk_drew ?_ | refine blk_alloc ?_ _)); exact BK16.out) hb); have n2_ := Aside0.mk (below_step (by repeat (first | (with_reducible first | exact HB.out | apply below_alloc | apply pw_below_drewN | apply below_drew1 | refine below_set ?_ GE16.out) | exact HB.out)) hb); clear HO_75; clear BK16; clear HB; have HO_75 := n0_; have BK16 := n1_; have HB := n2_; clear n0_ n1_ n2_; (try clear hb); (try clear hb2); (try clear hk); (try clear hi)) | ((with_reducible refine gate_dst (N := 13) rfl ?_); (try (refine gate_guard (by rfl) ?_; dsimp only)); refine box_event ?hg (N := 13) ?hd (cs := #[.int .i64 0, .int .i64 0]) (t := 41) ?hr ?_; (case hd => rfl); (case hg => rfl); (case hr => first | (go_simp; done) | (go_simp; rfl)); intro gb20 hg w45 hbox hb; have n0_ := Aside0.mk (Kd.R_below (Kd.R_elderB (by (with_reducible repeat (first | apply Kd.R_alloc | apply Kd.R_drewN | apply Kd.R_drew)); exact HO_75.out) gb20 (Nat.le_of_eq hg.symm)) hb); have n1_ := Aside0.mk (blk_below (g := gb16) (o := .cells #[.int .i64 ((rd_T41 t5 x77_2).f0), .int .i64 ((rd_T41 t5 x77_2).f1)] 41 (0, 0)) (by (with_reducible repeat (first | refine blk_drewN ?_ _ | refine blk_drew ?_ | refine blk_alloc ?_ _)); exact BK16.out) hb); have n2_ := Aside0.mk (below_step (by repeat (first | (with_reducible first | exact HB.out | apply below_alloc | apply pw_below_drewN | apply below_drew1 | refine below_set ?_ GE16.out) | exact HB.out)) hb); have n3_ := Aside0.mk (hbox); have n4_ := Aside0.mk ((by rw [hg]; exact (below_size (by repeat (first | (with_reducible first | exact HB.out | apply below_alloc | apply pw_below_drewN | apply below_drew1 | refine below_set ?_ GE16.out) | exact HB.out))) : w.heap.size ≤ gb20)); have n5_ := Aside0.mk ((by rw [hg]; exact (below_size (by repeat (first | (with_reducible first | exact HB.out | apply below_alloc | apply pw_below_drewN | apply below_drew1 | refine below_set ?_ GE16.out) | exact HB.out))) : w.heap.size ≤ gb20)); have n6_ := Aside0.mk ((by rw [hg]; exact Nat.ne_of_lt (blk_lt (g := gb16) (o := .cells #[.int .i64 ((rd_T41 t5 x77_2).f0), .int .i64 ((rd_T41 t5 x77_2).f1)] 41 (0, 0)) (by (with_reducible repeat (first | refine blk_drewN ?_ _ | refine blk_drew ?_ | refine blk_alloc ?_ _)); exact BK16.out)) : gb16 ≠ gb20)); have n7_ := Aside0.mk ((by rw [hg]; exact Nat.ne_of_gt (blk_lt (g := gb16) (o := .cells #[.int .i64 ((rd_T41 t5 x77_2).f0), .int .i64 ((rd_T41 t5 x77_2).f1)] 41 (0, 0)) (by (with_reducible repeat (first | refine blk_drewN ?_ _ | refine blk_drew ?_ | refine blk_alloc ?_ _)); exact BK16.out)) : gb20 ≠ gb16)); clear HO_75; clear BK16; clear HB; have HO_75 := n0_; have BK16 := n1_; have HB := n2_; have BK20 := n3_; have GW20 := n4_; have GE20 := n5_; have NB16_20 := n6_; have NB20_16 := n7_; clear n0_ n1_ n2_ n3_ n4_ n5_ n6_ n7_; clear hb hbox hg; have hnb46 := NB20_16.out; have hnc46 := NB16_20.out; have hcz47_0 : w45.cell? ⟨gb20, 0, none⟩ = some (.int .i64 0) := (blk_cell BK20.out 0).trans rfl; have hcz47_1 : w45.cell? ⟨gb20, 1, none⟩ = some (.int .i64 0) := (blk_cell BK20.out 1).trans rfl; have hfz47_0 := blk_frozen BK20.out 0; have hfz47_1 := blk_frozen BK20.out 1)); try go_wp2_with (first | ((with_reducible refine gate_dst (N := 12) rfl ?_); (try (refine gate_guard (by rfl) ?_; dsimp only)); refine box_event ?hg (N := 12) ?hd (cs := #[.int .i64 0, .int .i64 0]) (t := 41) ?hr ?_; (case hd => rfl); (case hg => rfl); (case hr => first | (go_simp; done) | (go_simp; rfl)); intro gb16 hg w42 hbox hb; have n0_ := Aside0.mk (Kd.R_below (Kd.R_elderB (by (with_reducible repeat (first | apply Kd.R_alloc | apply Kd.R_drewN | apply Kd.R_drew)); exact HO_75.out) gb16 (Nat.le_of_eq hg.symm)) hb); have n1_ := Aside0.mk (below_step (by repeat (first | (with_reducible first | exact HB.out | apply below_alloc | apply pw_below_drewN | apply below_drew1) | exact HB.out)) hb); have n2_ := Aside0.mk (hbox); have n3_ := Aside0.mk ((by rw [hg]; exact (below_size (by repeat (first | (with_reducible first | exact HB.out | apply below_alloc | apply pw_below_drewN | apply below_drew1) | exact HB.out))) : w.heap.size ≤ gb16)); have n4_ := Aside0.mk ((by rw [hg]; exact (below_size (by repeat (first | (with_reducible first | exact HB.out | apply below_alloc | apply pw_below_drewN | apply below_drew1) | exact HB.out))) : w.heap.size ≤ gb16)); clear HO_75; clear HB; have HO_75 := n0_; have HB := n1_; have BK16 := n2_; have GW16 := n3_; have GE16 := n4_; clear n0_ n1_ n2_ n3_ n4_; clear hb hbox hg; have hcz43_0 : w42.cell? ⟨gb16, 0, none⟩ = some (.int .i64 0) := (blk_cell BK16.out 0).trans rfl; have hcz43_1 : w42.cell? ⟨gb16, 1, none⟩ = some (.int .i64 0) := (blk_cell BK16.out 1).trans rfl; have hfz43_0 := blk_frozen BK16.out 0; have hfz43_1 := blk_frozen BK16.out 1) | (go_at_call 22; (with_reducible refine (dft_Bin.calls k2 _ _ y1 x77_2 a1 t17 t18 t19 _ ?side1 ?side2 A25.out).mono ?_); (case side1 => exact Kd.C_below HR4.out (by repeat (first | (with_reducible first | exact HB.out | apply below_alloc | apply pw_below_drewN | apply below_drew1 | refine below_set ?_ GE16.out) | exact HB.out))); (case side2 => exact HC4.out); rintro e w44 ⟨rfl, hb⟩; have n0_ := Aside0.mk (Kd.R_below (by (with_reducible repeat (first | apply Kd.R_alloc | apply Kd.R_drewN | apply Kd.R_drew)); exact (Kd.R_mono (Kd.R_far (p := ⟨gb16, 1, none⟩) (Kd.R_far (p := ⟨gb16, 0, none⟩) (Kd.R_mono HO_75.out (fun k_ hk => (⟨hk, hk.2⟩ : _ ∧ k_ ≠ gb16))) (fun _ hk => hk.2) (.int .i64 ((rd_T41 t5 x77_2).f0))) (fun _ hk => hk.2) (.int .i64 ((rd_T41 t5 x77_2).f1))) (fun _ h_ => h_.1))) hb); have n1_ := Aside0.mk (blk_below (g := gb16) (o := .cells #[.int .i64 ((rd_T41 t5 x77_2).f0), .int .i64 ((rd_T41 t5 x77_2).f1)] 41 (0, 0)) (by (with_reducible repeat (first | refine blk_drewN ?_ _ | refine blk_drew ?_ | refine blk_alloc ?_ _)); refine blk_put (cs := #[.int .i64 ((rd_T41 t5 x77_2).f0), .int .i64 0]) ?_ 1 _ rfl; (with_reducible repeat (first | refine blk_drewN ?_ _ | refine blk_drew ?_ | refine blk_alloc ?_ _)); refine blk_put (cs := #[.int .i64 0, .int .i64 0]) ?_ 0 _ rfl; (with_reducible repeat (first | refine blk_drewN ?_ _ | refine blk_drew ?_ | refine blk_alloc ?_ _)); exact BK16.out) hb); have n2_ := Aside0.mk (below_step (by repeat (first | (with_reducible first | exact HB.out | apply below_alloc | apply pw_below_drewN | apply below_drew1 | refine below_set ?_ GE16.out) | exact HB.out)) hb); clear HO_75; clear BK16; clear HB; have HO_75 := n0_; have BK16 := n1_; have HB := n2_; clear n0_ n1_ n2_; (try clear hb); (try clear hb2); (try clear hk); (try clear hi)) | ((with_reducible refine gate_dst (N := 13) rfl ?_); (try (refine gate_guard (by rfl) ?_; dsimp only)); refine box_event ?hg (N := 13) ?hd (cs := #[.int .i64 0, .int .i64 0]) (t := 41) ?hr ?_; (case hd => rfl); (case hg => rfl); (case hr => first | (go_simp; done) | (go_simp; rfl)); intro gb20 hg w45 hbox hb; have n0_ := Aside0.mk (Kd.R_below (Kd.R_elderB (by (with_reducible repeat (first | apply Kd.R_alloc | apply Kd.R_drewN | apply Kd.R_drew)); exact HO_75.out) gb20 (Nat.le_of_eq hg.symm)) hb); have n1_ := Aside0.mk (blk_below (g := gb16) (o := .cells #[.int .i64 ((rd_T41 t5 x77_2).f0), .int .i64 ((rd_T41 t5 x77_2).f1)] 41 (0, 0)) (by (with_reducible repeat (first | refine blk_drewN ?_ _ | refine blk_drew ?_ | refine blk_alloc ?_ _)); exact BK16.out) hb); have n2_ := Aside0.mk (below_step (by repeat (first | (with_reducible first | exact HB.out | apply below_alloc | apply pw_below_drewN | apply below_drew1 | refine below_set ?_ GE16.out) | exact HB.out)) hb); have n3_ := Aside0.mk (hbox); have n4_ := Aside0.mk ((by rw [hg]; exact (below_size (by repeat (first | (with_reducible first | exact HB.out | apply below_alloc | apply pw_below_drewN | apply below_drew1 | refine below_set ?_ GE16.out) | exact HB.out))) : w.heap.size ≤ gb20)); have n5_ := Aside0.mk ((by rw [hg]; exact (below_size (by repeat (first | (with_reducible first | exact HB.out | apply below_alloc | apply pw_below_drewN | apply below_drew1 | refine below_set ?_ GE16.out) | exact HB.out))) : w.heap.size ≤ gb20)); have n6_ := Aside0.mk ((by rw [hg]; exact Nat.ne_of_lt (blk_lt (g := gb16) (o := .cells #[.int .i64 ((rd_T41 t5 x77_2).f0), .int .i64 ((rd_T41 t5 x77_2).f1)] 41 (0, 0)) (by (with_reducible repeat (first | refine blk_drewN ?_ _ | refine blk_drew ?_ | refine blk_alloc ?_ _)); exact BK16.out)) : gb16 ≠ gb20)); have n7_ := Aside0.mk ((by rw [hg]; exact Nat.ne_of_gt (blk_lt (g := gb16) (o := .cells #[.int .i64 ((rd_T41 t5 x77_2).f0), .int .i64 ((rd_T41 t5 x77_2).f1)] 41 (0, 0)) (by (with_reducible repeat (first | refine blk_drewN ?_ _ | refine blk_drew ?_ | refine blk_alloc ?_ _)); exact BK16.out)) : gb20 ≠ gb16)); clear HO_75; clear BK16; clear HB; have HO_75 := n0_; have BK16 := n1_; have HB := n2_; have BK20 := n3_; have GW20 := n4_; have GE20 := n5_; have NB16_20 := n6_; have NB20_16 := n7_; clear n0_ n1_ n2_ n3_ n4_ n5_ n6_ n7_; clear hb hbox hg; have hnb46 := NB20_16.out; have hnc46 := NB16_20.out; have hcz47_0 : w45.cell? ⟨gb20, 0, none⟩ = some (.int .i64 0) := (blk_cell BK20.out 0).trans rfl; have hcz47_1 : w45.cell? ⟨gb20, 1, none⟩ = some (.int .i64 0) := (blk_cell BK20.out 1).trans rfl; have hfz47_0 := blk_frozen BK20.out 0; have hfz47_1 := blk_frozen BK20.out 1)))
                            go_ret
                            exact ⟨by first | rfl | (simp [errW_none, errW_some] <;> rfl) | (simp only [← hji3]; first | rfl | (simp [errW_none, errW_some] <;> rfl)) | (simp [*, errW_none, errW_some] <;> rfl), by repeat (first | (with_reducible first | exact HB.out | apply below_alloc | apply pw_below_drewN | apply below_drew1 | refine below_set ?_ GE16.out | refine below_set ?_ GE20.out) | exact HB.out)⟩
                        · rw [if_neg c24] at H
                          exact absurd H (by simp)
                      · rw [if_neg c23] at H
                        exact absurd H (by simp)
                    · rw [if_neg c22] at H
                      have c22b0 : decide (x77_2 < (t5.length : Int)) = false := decide_eq_false c22
                      clear c22
                      obtain ⟨ji48, hji48⟩ : ∃ j_ : Int, (mx x9_2 (wrap64 (-x9_2))) = j_ := ⟨_, rfl⟩
                      replace H : (some (decide ((mx (mx (ji48) x10_2) (wrap64 (-x10_2))) ≤ (wrap64 (t9 * (y1.length : Int)))))) = some r := by first | (rw [hji48] at H; exact H) | (simp only [hji48] at H ⊢; exact H)
                      have hji48_ : (if x9_2 < (wrap64 (-x9_2)) then (wrap64 (-x9_2)) else x9_2) = ji48 := hji48
                      obtain ⟨ji49, hji49⟩ : ∃ j_ : Int, (mx (ji48) x10_2) = j_ := ⟨_, rfl⟩
                      replace H : (some (decide ((mx (ji49) (wrap64 (-x10_2))) ≤ (wrap64 (t9 * (y1.length : Int)))))) = some r := by first | (rw [hji49] at H; exact H) | (simp only [hji49] at H ⊢; exact H)
                      have hji49_ : (if (ji48) < x10_2 then x10_2 else (ji48)) = ji49 := hji49
                      obtain ⟨ji50, hji50⟩ : ∃ j_ : Int, (mx (ji49) (wrap64 (-x10_2))) = j_ := ⟨_, rfl⟩
                      replace H : (some (decide ((ji50) ≤ (wrap64 (t9 * (y1.length : Int)))))) = some r := by first | (rw [hji50] at H; exact H) | (simp only [hji50] at H ⊢; exact H)
                      have hji50_ : (if (ji49) < (wrap64 (-x10_2)) then (wrap64 (-x10_2)) else (ji49)) = ji50 := hji50
                      obtain rfl := Option.some.inj H
                      go_wp2
                      repeat (go_quiet (fail); try go_wp2)
                      go_ret
                      exact ⟨by first | rfl | (simp [errW_none, errW_some] <;> rfl) | (simp only [← hji3, ← hji48, ← hji49, ← hji50]; first | rfl | (simp [errW_none, errW_some] <;> rfl)) | (simp [*, errW_none, errW_some] <;> rfl), by repeat (first | (with_reducible first | exact HB.out | apply below_alloc | apply pw_below_drewN | apply below_drew1) | exact HB.out)⟩
              · rw [if_neg c20] at H
                exact absurd H (by simp)
      · rw [if_neg c8] at H
        have c8b0 : (t6 == 0) = false := beq_eq_false_iff_ne.mpr c8
        have c8b1 : (t6 != 0) = true := bne_iff_ne.mpr c8
        replace H := Option.bind_eq_some_iff.mp H
        obtain ⟨t11, A510, H⟩ := H
        replace H : (if t11 = true then (if t10 = t6 then (some ((t5.length : Int) == 0)) else (some false)) else (some false)) = some r := H
        have A51 := Aside0.mk A510
        clear A510
        by_cases c52 : t11 = true
        · subst c52
          have H1 : (if t10 = t6 then (some ((t5.length : Int) == 0)) else (some false)) = some r := by rw [if_pos rfl] at H; exact H
          clear H
          have H := H1
          clear H1
          by_cases c53 : t10 = t6
          · rw [if_pos c53] at H
            have c53b0 : (t10 == t6) = true := beq_iff_eq.mpr c53
            have c53b1 : (t10 != t6) = false := bne_eq_false_iff_eq.mpr c53
            clear c53
            obtain rfl := Option.some.inj H
            have q54 : ((ji3) : Int) ≤ ((l0.length : Int) : Int) := of_decide_eq_true (by first | (with_reducible assumption) | assumption)
            obtain ⟨i054, hi054, _, hsz54, _⟩ := info_parts info41
            have hroom54 : l0.length ≤ c0 := HC0.out
            have hC54 : Kd.C k41 _ A0 l0.length l0 := HR0.out
            have hcut54 := cut_to (P := Try.prog) 22 41 .i64 Try.underlying22 hi054 A0 l0.length c0 (ji3) (of_decide_eq_true (by first | (with_reducible assumption) | assumption)) q54 hroom54
            have hr54 := Kd.C_take (m := ((ji3) : Int).toNat) hC54 (by omega)
            have hy54 : y1.length = ((ji3) : Int).toNat := (by rw [Ny1.out, List.length_take]; omega)
            rw [← Ny1.out] at hr54
            rw [← hy54] at hcut54
            have HR4 := Aside0.mk hr54
            have HC4 := Aside0.mk (show y1.length ≤ c0 from by omega)
            clear hr54 hC54 hroom54 hi054 hsz54
            have KY54 := Aside0.mk hy54
            clear hy54
            replace q54 := eq_true q54
            go_enter Try.func6, Try.ntmps6
            go_wp2_with (first | (go_at_call 11; (with_reducible refine (dft_All.calls k _ _ y1 a1 t5 t6 _ ?side1 ?side2 A6.out).mono ?_); (case side1 => repeat (first | exact HR4.out | (with_reducible refine Kd.C_alloc ?_ _) | (with_reducible refine Kd.C_drewN ?_ _) | (with_reducible refine Kd.C_drew ?_))); (case side2 => exact HC4.out); rintro e w55 ⟨v7, rfl, ho0, hb⟩; have n0_ := Aside0.mk (Kd.R_lower ho0 (below_size (by repeat (first | (with_reducible first | exact HB.out | apply below_alloc | apply pw_below_drewN | apply below_drew1) | exact HB.out)))); have n1_ := Aside0.mk (below_step (by repeat (first | (with_reducible first | exact HB.out | apply below_alloc | apply pw_below_drewN | apply below_drew1) | exact HB.out)) hb); clear HB; have HO8 := n0_; have HB := n1_; clear n0_ n1_; (try clear hb); (try clear hb2); (try clear hk); (try clear hi); (try clear ho0)) | (go_at_call 21; (with_reducible refine (dft_Slack.calls k _ _ y1 t9 t10 _ ?side1 ?side2 A7.out).mono ?_); (case side1 => repeat (first | exact (Kd.C_below HR4.out HB.out) | (with_reducible refine Kd.C_alloc ?_ _) | (with_reducible refine Kd.C_drewN ?_ _) | (with_reducible refine Kd.C_drew ?_))); (case side2 => exact HC4.out); rintro e w56 ⟨rfl, hb⟩; have n0_ := Aside0.mk (Kd.R_below (by (with_reducible repeat (first | apply Kd.R_alloc | apply Kd.R_drewN | apply Kd.R_drew)); exact HO8.out) hb); have n1_ := Aside0.mk (below_step (by repeat (first | (with_reducible first | exact HB.out | apply below_alloc | apply pw_below_drewN | apply below_drew1) | exact HB.out)) hb); clear HO8; clear HB; have HO8 := n0_; have HB := n1_; clear n0_ n1_; (try clear hb); (try clear hb2); (try clear hk); (try clear hi)) | (go_at_call 13; (with_reducible refine (headroomlaw16_alive.calls k  true _ A51.out).mono ?_); rintro e w57 ⟨rfl, hb⟩; have n0_ := Aside0.mk (Kd.R_below (by (with_reducible repeat (first | apply Kd.R_alloc | apply Kd.R_drewN | apply Kd.R_drew)); exact HO8.out) hb); have n1_ := Aside0.mk (below_step (by repeat (first | (with_reducible first | exact HB.out | apply below_alloc | apply pw_below_drewN | apply below_drew1) | exact HB.out)) hb); clear HO8; clear HB; have HO8 := n0_; have HB := n1_; clear n0_ n1_; (try clear hb); (try clear hb2); (try clear hk); (try clear hi); obtain ⟨Ao58, co58, eo58⟩ := Kd.R_slice HO8.out; subst eo58))
            repeat (go_quiet (first | (go_at_call 11; (with_reducible refine (dft_All.calls k _ _ y1 a1 t5 t6 _ ?side1 ?side2 A6.out).mono ?_); (case side1 => repeat (first | exact HR4.out | (with_reducible refine Kd.C_alloc ?_ _) | (with_reducible refine Kd.C_drewN ?_ _) | (with_reducible refine Kd.C_drew ?_))); (case side2 => exact HC4.out); rintro e w55 ⟨v7, rfl, ho0, hb⟩; have n0_ := Aside0.mk (Kd.R_lower ho0 (below_size (by repeat (first | (with_reducible first | exact HB.out | apply below_alloc | apply pw_below_drewN | apply below_drew1) | exact HB.out)))); have n1_ := Aside0.mk (below_step (by repeat (first | (with_reducible first | exact HB.out | apply below_alloc | apply pw_below_drewN | apply below_drew1) | exact HB.out)) hb); clear HB; have HO8 := n0_; have HB := n1_; clear n0_ n1_; (try clear hb); (try clear hb2); (try clear hk); (try clear hi); (try clear ho0)) | (go_at_call 21; (with_reducible refine (dft_Slack.calls k _ _ y1 t9 t10 _ ?side1 ?side2 A7.out).mono ?_); (case side1 => repeat (first | exact (Kd.C_below HR4.out HB.out) | (with_reducible refine Kd.C_alloc ?_ _) | (with_reducible refine Kd.C_drewN ?_ _) | (with_reducible refine Kd.C_drew ?_))); (case side2 => exact HC4.out); rintro e w56 ⟨rfl, hb⟩; have n0_ := Aside0.mk (Kd.R_below (by (with_reducible repeat (first | apply Kd.R_alloc | apply Kd.R_drewN | apply Kd.R_drew)); exact HO8.out) hb); have n1_ := Aside0.mk (below_step (by repeat (first | (with_reducible first | exact HB.out | apply below_alloc | apply pw_below_drewN | apply below_drew1) | exact HB.out)) hb); clear HO8; clear HB; have HO8 := n0_; have HB := n1_; clear n0_ n1_; (try clear hb); (try clear hb2); (try clear hk); (try clear hi)) | (go_at_call 13; (with_reducible refine (headroomlaw16_alive.calls k  true _ A51.out).mono ?_); rintro e w57 ⟨rfl, hb⟩; have n0_ := Aside0.mk (Kd.R_below (by (with_reducible repeat (first | apply Kd.R_alloc | apply Kd.R_drewN | apply Kd.R_drew)); exact HO8.out) hb); have n1_ := Aside0.mk (below_step (by repeat (first | (with_reducible first | exact HB.out | apply below_alloc | apply pw_below_drewN | apply below_drew1) | exact HB.out)) hb); clear HO8; clear HB; have HO8 := n0_; have HB := n1_; clear n0_ n1_; (try clear hb); (try clear hb2); (try clear hk); (try clear hi); obtain ⟨Ao58, co58, eo58⟩ := Kd.R_slice HO8.out; subst eo58)); try go_wp2_with (first | (go_at_call 11; (with_reducible refine (dft_All.calls k _ _ y1 a1 t5 t6 _ ?side1 ?side2 A6.out).mono ?_); (case side1 => repeat (first | exact HR4.out | (with_reducible refine Kd.C_alloc ?_ _) | (with_reducible refine Kd.C_drewN ?_ _) | (with_reducible refine Kd.C_drew ?_))); (case side2 => exact HC4.out); rintro e w55 ⟨v7, rfl, ho0, hb⟩; have n0_ := Aside0.mk (Kd.R_lower ho0 (below_size (by repeat (first | (with_reducible first | exact HB.out | apply below_alloc | apply pw_below_drewN | apply below_drew1) | exact HB.out)))); have n1_ := Aside0.mk (below_step (by repeat (first | (with_reducible first | exact HB.out | apply below_alloc | apply pw_below_drewN | apply below_drew1) | exact HB.out)) hb); clear HB; have HO8 := n0_; have HB := n1_; clear n0_ n1_; (try clear hb); (try clear hb2); (try clear hk); (try clear hi); (try clear ho0)) | (go_at_call 21; (with_reducible refine (dft_Slack.calls k _ _ y1 t9 t10 _ ?side1 ?side2 A7.out).mono ?_); (case side1 => repeat (first | exact (Kd.C_below HR4.out HB.out) | (with_reducible refine Kd.C_alloc ?_ _) | (with_reducible refine Kd.C_drewN ?_ _) | (with_reducible refine Kd.C_drew ?_))); (case side2 => exact HC4.out); rintro e w56 ⟨rfl, hb⟩; have n0_ := Aside0.mk (Kd.R_below (by (with_reducible repeat (first | apply Kd.R_alloc | apply Kd.R_drewN | apply Kd.R_drew)); exact HO8.out) hb); have n1_ := Aside0.mk (below_step (by repeat (first | (with_reducible first | exact HB.out | apply below_alloc | apply pw_below_drewN | apply below_drew1) | exact HB.out)) hb); clear HO8; clear HB; have HO8 := n0_; have HB := n1_; clear n0_ n1_; (try clear hb); (try clear hb2); (try clear hk); (try clear hi)) | (go_at_call 13; (with_reducible refine (headroomlaw16_alive.calls k  true _ A51.out).mono ?_); rintro e w57 ⟨rfl, hb⟩; have n0_ := Aside0.mk (Kd.R_below (by (with_reducible repeat (first | apply Kd.R_alloc | apply Kd.R_drewN | apply Kd.R_drew)); exact HO8.out) hb); have n1_ := Aside0.mk (below_step (by repeat (first | (with_reducible first | exact HB.out | apply below_alloc | apply pw_below_drewN | apply below_drew1) | exact HB.out)) hb); clear HO8; clear HB; have HO8 := n0_; have HB := n1_; clear n0_ n1_; (try clear hb); (try clear hb2); (try clear hk); (try clear hi); obtain ⟨Ao58, co58, eo58⟩ := Kd.R_slice HO8.out; subst eo58)))
            go_ret
            exact ⟨by first | rfl | (simp [errW_none, errW_some] <;> rfl) | (simp only [← hji3]; first | rfl | (simp [errW_none, errW_some] <;> rfl)) | (simp [*, errW_none, errW_some] <;> rfl), by repeat (first | (with_reducible first | exact HB.out | apply below_alloc | apply pw_below_drewN | apply below_drew1) | exact HB.out)⟩
          · rw [if_neg c53] at H
            have c53b0 : (t10 == t6) = false := beq_eq_false_iff_ne.mpr c53
            have c53b1 : (t10 != t6) = true := bne_iff_ne.mpr c53
            obtain rfl := Option.some.inj H
            have q59 : ((ji3) : Int) ≤ ((l0.length : Int) : Int) := of_decide_eq_true (by first | (with_reducible assumption) | assumption)
            obtain ⟨i059, hi059, _, hsz59, _⟩ := info_parts info41
            have hroom59 : l0.length ≤ c0 := HC0.out
            have hC59 : Kd.C k41 _ A0 l0.length l0 := HR0.out
            have hcut59 := cut_to (P := Try.prog) 22 41 .i64 Try.underlying22 hi059 A0 l0.length c0 (ji3) (of_decide_eq_true (by first | (with_reducible assumption) | assumption)) q59 hroom59
            have hr59 := Kd.C_take (m := ((ji3) : Int).toNat) hC59 (by omega)
            have hy59 : y1.length = ((ji3) : Int).toNat := (by rw [Ny1.out, List.length_take]; omega)
            rw [← Ny1.out] at hr59
            rw [← hy59] at hcut59
            have HR4 := Aside0.mk hr59
            have HC4 := Aside0.mk (show y1.length ≤ c0 from by omega)
            clear hr59 hC59 hroom59 hi059 hsz59
            have KY59 := Aside0.mk hy59
            clear hy59
            replace q59 := eq_true q59
            go_enter Try.func6, Try.ntmps6
            go_wp2_with (first | (go_at_call 11; (with_reducible refine (dft_All.calls k _ _ y1 a1 t5 t6 _ ?side1 ?side2 A6.out).mono ?_); (case side1 => repeat (first | exact HR4.out | (with_reducible refine Kd.C_alloc ?_ _) | (with_reducible refine Kd.C_drewN ?_ _) | (with_reducible refine Kd.C_drew ?_))); (case side2 => exact HC4.out); rintro e w60 ⟨v7, rfl, ho0, hb⟩; have n0_ := Aside0.mk (Kd.R_lower ho0 (below_size (by repeat (first | (with_reducible first | exact HB.out | apply below_alloc | apply pw_below_drewN | apply below_drew1) | exact HB.out)))); have n1_ := Aside0.mk (below_step (by repeat (first | (with_reducible first | exact HB.out | apply below_alloc | apply pw_below_drewN | apply below_drew1) | exact HB.out)) hb); clear HB; have HO8 := n0_; have HB := n1_; clear n0_ n1_; (try clear hb); (try clear hb2); (try clear hk); (try clear hi); (try clear ho0)) | (go_at_call 21; (with_reducible refine (dft_Slack.calls k _ _ y1 t9 t10 _ ?side1 ?side2 A7.out).mono ?_); (case side1 => repeat (first | exact (Kd.C_below HR4.out HB.out) | (with_reducible refine Kd.C_alloc ?_ _) | (with_reducible refine Kd.C_drewN ?_ _) | (with_reducible refine Kd.C_drew ?_))); (case side2 => exact HC4.out); rintro e w61 ⟨rfl, hb⟩; have n0_ := Aside0.mk (Kd.R_below (by (with_reducible repeat (first | apply Kd.R_alloc | apply Kd.R_drewN | apply Kd.R_drew)); exact HO8.out) hb); have n1_ := Aside0.mk (below_step (by repeat (first | (with_reducible first | exact HB.out | apply below_alloc | apply pw_below_drewN | apply below_drew1) | exact HB.out)) hb); clear HO8; clear HB; have HO8 := n0_; have HB := n1_; clear n0_ n1_; (try clear hb); (try clear hb2); (try clear hk); (try clear hi)) | (go_at_call 13; (with_reducible refine (headroomlaw16_alive.calls k  true _ A51.out).mono ?_); rintro e w62 ⟨rfl, hb⟩; have n0_ := Aside0.mk (Kd.R_below (by (with_reducible repeat (first | apply Kd.R_alloc | apply Kd.R_drewN | apply Kd.R_drew)); exact HO8.out) hb); have n1_ := Aside0.mk (below_step (by repeat (first | (with_reducible first | exact HB.out | apply below_alloc | apply pw_below_drewN | apply below_drew1) | exact HB.out)) hb); clear HO8; clear HB; have HO8 := n0_; have HB := n1_; clear n0_ n1_; (try clear hb); (try clear hb2); (try clear hk); (try clear hi)))
            repeat (go_quiet (first | (go_at_call 11; (with_reducible refine (dft_All.calls k _ _ y1 a1 t5 t6 _ ?side1 ?side2 A6.out).mono ?_); (case side1 => repeat (first | exact HR4.out | (with_reducible refine Kd.C_alloc ?_ _) | (with_reducible refine Kd.C_drewN ?_ _) | (with_reducible refine Kd.C_drew ?_))); (case side2 => exact HC4.out); rintro e w60 ⟨v7, rfl, ho0, hb⟩; have n0_ := Aside0.mk (Kd.R_lower ho0 (below_size (by repeat (first | (with_reducible first | exact HB.out | apply below_alloc | apply pw_below_drewN | apply below_drew1) | exact HB.out)))); have n1_ := Aside0.mk (below_step (by repeat (first | (with_reducible first | exact HB.out | apply below_alloc | apply pw_below_drewN | apply below_drew1) | exact HB.out)) hb); clear HB; have HO8 := n0_; have HB := n1_; clear n0_ n1_; (try clear hb); (try clear hb2); (try clear hk); (try clear hi); (try clear ho0)) | (go_at_call 21; (with_reducible refine (dft_Slack.calls k _ _ y1 t9 t10 _ ?side1 ?side2 A7.out).mono ?_); (case side1 => repeat (first | exact (Kd.C_below HR4.out HB.out) | (with_reducible refine Kd.C_alloc ?_ _) | (with_reducible refine Kd.C_drewN ?_ _) | (with_reducible refine Kd.C_drew ?_))); (case side2 => exact HC4.out); rintro e w61 ⟨rfl, hb⟩; have n0_ := Aside0.mk (Kd.R_below (by (with_reducible repeat (first | apply Kd.R_alloc | apply Kd.R_drewN | apply Kd.R_drew)); exact HO8.out) hb); have n1_ := Aside0.mk (below_step (by repeat (first | (with_reducible first | exact HB.out | apply below_alloc | apply pw_below_drewN | apply below_drew1) | exact HB.out)) hb); clear HO8; clear HB; have HO8 := n0_; have HB := n1_; clear n0_ n1_; (try clear hb); (try clear hb2); (try clear hk); (try clear hi)) | (go_at_call 13; (with_reducible refine (headroomlaw16_alive.calls k  true _ A51.out).mono ?_); rintro e w62 ⟨rfl, hb⟩; have n0_ := Aside0.mk (Kd.R_below (by (with_reducible repeat (first | apply Kd.R_alloc | apply Kd.R_drewN | apply Kd.R_drew)); exact HO8.out) hb); have n1_ := Aside0.mk (below_step (by repeat (first | (with_reducible first | exact HB.out | apply below_alloc | apply pw_below_drewN | apply below_drew1) | exact HB.out)) hb); clear HO8; clear HB; have HO8 := n0_; have HB := n1_; clear n0_ n1_; (try clear hb); (try clear hb2); (try clear hk); (try clear hi))); try go_wp2_with (first | (go_at_call 11; (with_reducible refine (dft_All.calls k _ _ y1 a1 t5 t6 _ ?side1 ?side2 A6.out).mono ?_); (case side1 => repeat (first | exact HR4.out | (with_reducible refine Kd.C_alloc ?_ _) | (with_reducible refine Kd.C_drewN ?_ _) | (with_reducible refine Kd.C_drew ?_))); (case side2 => exact HC4.out); rintro e w60 ⟨v7, rfl, ho0, hb⟩; have n0_ := Aside0.mk (Kd.R_lower ho0 (below_size (by repeat (first | (with_reducible first | exact HB.out | apply below_alloc | apply pw_below_drewN | apply below_drew1) | exact HB.out)))); have n1_ := Aside0.mk (below_step (by repeat (first | (with_reducible first | exact HB.out | apply below_alloc | apply pw_below_drewN | apply below_drew1) | exact HB.out)) hb); clear HB; have HO8 := n0_; have HB := n1_; clear n0_ n1_; (try clear hb); (try clear hb2); (try clear hk); (try clear hi); (try clear ho0)) | (go_at_call 21; (with_reducible refine (dft_Slack.calls k _ _ y1 t9 t10 _ ?side1 ?side2 A7.out).mono ?_); (case side1 => repeat (first | exact (Kd.C_below HR4.out HB.out) | (with_reducible refine Kd.C_alloc ?_ _) | (with_reducible refine Kd.C_drewN ?_ _) | (with_reducible refine Kd.C_drew ?_))); (case side2 => exact HC4.out); rintro e w61 ⟨rfl, hb⟩; have n0_ := Aside0.mk (Kd.R_below (by (with_reducible repeat (first | apply Kd.R_alloc | apply Kd.R_drewN | apply Kd.R_drew)); exact HO8.out) hb); have n1_ := Aside0.mk (below_step (by repeat (first | (with_reducible first | exact HB.out | apply below_alloc | apply pw_below_drewN | apply below_drew1) | exact HB.out)) hb); clear HO8; clear HB; have HO8 := n0_; have HB := n1_; clear n0_ n1_; (try clear hb); (try clear hb2); (try clear hk); (try clear hi)) | (go_at_call 13; (with_reducible refine (headroomlaw16_alive.calls k  true _ A51.out).mono ?_); rintro e w62 ⟨rfl, hb⟩; have n0_ := Aside0.mk (Kd.R_below (by (with_reducible repeat (first | apply Kd.R_alloc | apply Kd.R_drewN | apply Kd.R_drew)); exact HO8.out) hb); have n1_ := Aside0.mk (below_step (by repeat (first | (with_reducible first | exact HB.out | apply below_alloc | apply pw_below_drewN | apply below_drew1) | exact HB.out)) hb); clear HO8; clear HB; have HO8 := n0_; have HB := n1_; clear n0_ n1_; (try clear hb); (try clear hb2); (try clear hk); (try clear hi))))
            go_ret
            exact ⟨by first | rfl | (simp [errW_none, errW_some] <;> rfl) | (simp only [← hji3]; first | rfl | (simp [errW_none, errW_some] <;> rfl)) | (simp [*, errW_none, errW_some] <;> rfl), by repeat (first | (with_reducible first | exact HB.out | apply below_alloc | apply pw_below_drewN | apply below_drew1) | exact HB.out)⟩
        · replace c52 := Bool.eq_false_iff.mpr c52
          subst c52
          have H1 : (some false) = some r := by rw [if_neg (show ¬ (false = true) by decide)] at H; exact H
          clear H
          have H := H1
          clear H1
          obtain rfl := Option.some.inj H
          have q63 : ((ji3) : Int) ≤ ((l0.length : Int) : Int) := of_decide_eq_true (by first | (with_reducible assumption) | assumption)
          obtain ⟨i063, hi063, _, hsz63, _⟩ := info_parts info41
          have hroom63 : l0.length ≤ c0 := HC0.out
          have hC63 : Kd.C k41 _ A0 l0.length l0 := HR0.out
          have hcut63 := cut_to (P := Try.prog) 22 41 .i64 Try.underlying22 hi063 A0 l0.length c0 (ji3) (of_decide_eq_true (by first | (with_reducible assumption) | assumption)) q63 hroom63
          have hr63 := Kd.C_take (m := ((ji3) : Int).toNat) hC63 (by omega)
          have hy63 : y1.length = ((ji3) : Int).toNat := (by rw [Ny1.out, List.length_take]; omega)
          rw [← Ny1.out] at hr63
          rw [← hy63] at hcut63
          have HR4 := Aside0.mk hr63
          have HC4 := Aside0.mk (show y1.length ≤ c0 from by omega)
          clear hr63 hC63 hroom63 hi063 hsz63
          have KY63 := Aside0.mk hy63
          clear hy63
          replace q63 := eq_true q63
          go_enter Try.func6, Try.ntmps6
          go_wp2_with (first | (go_at_call 11; (with_reducible refine (dft_All.calls k _ _ y1 a1 t5 t6 _ ?side1 ?side2 A6.out).mono ?_); (case side1 => repeat (first | exact HR4.out | (with_reducible refine Kd.C_alloc ?_ _) | (with_reducible refine Kd.C_drewN ?_ _) | (with_reducible refine Kd.C_drew ?_))); (case side2 => exact HC4.out); rintro e w64 ⟨v7, rfl, ho0, hb⟩; have n0_ := Aside0.mk (Kd.R_lower ho0 (below_size (by repeat (first | (with_reducible first | exact HB.out | apply below_alloc | apply pw_below_drewN | apply below_drew1) | exact HB.out)))); have n1_ := Aside0.mk (below_step (by repeat (first | (with_reducible first | exact HB.out | apply below_alloc | apply pw_below_drewN | apply below_drew1) | exact HB.out)) hb); clear HB; have HO8 := n0_; have HB := n1_; clear n0_ n1_; (try clear hb); (try clear hb2); (try clear hk); (try clear hi); (try clear ho0)) | (go_at_call 21; (with_reducible refine (dft_Slack.calls k _ _ y1 t9 t10 _ ?side1 ?side2 A7.out).mono ?_); (case side1 => repeat (first | exact (Kd.C_below HR4.out HB.out) | (with_reducible refine Kd.C_alloc ?_ _) | (with_reducible refine Kd.C_drewN ?_ _) | (with_reducible refine Kd.C_drew ?_))); (case side2 => exact HC4.out); rintro e w65 ⟨rfl, hb⟩; have n0_ := Aside0.mk (Kd.R_below (by (with_reducible repeat (first | apply Kd.R_alloc | apply Kd.R_drewN | apply Kd.R_drew)); exact HO8.out) hb); have n1_ := Aside0.mk (below_step (by repeat (first | (with_reducible first | exact HB.out | apply below_alloc | apply pw_below_drewN | apply below_drew1) | exact HB.out)) hb); clear HO8; clear HB; have HO8 := n0_; have HB := n1_; clear n0_ n1_; (try clear hb); (try clear hb2); (try clear hk); (try clear hi)) | (go_at_call 13; (with_reducible refine (headroomlaw16_alive.calls k  false _ A51.out).mono ?_); rintro e w66 ⟨rfl, hb⟩; have n0_ := Aside0.mk (Kd.R_below (by (with_reducible repeat (first | apply Kd.R_alloc | apply Kd.R_drewN | apply Kd.R_drew)); exact HO8.out) hb); have n1_ := Aside0.mk (below_step (by repeat (first | (with_reducible first | exact HB.out | apply below_alloc | apply pw_below_drewN | apply below_drew1) | exact HB.out)) hb); clear HO8; clear HB; have HO8 := n0_; have HB := n1_; clear n0_ n1_; (try clear hb); (try clear hb2); (try clear hk); (try clear hi)))
          repeat (go_quiet (first | (go_at_call 11; (with_reducible refine (dft_All.calls k _ _ y1 a1 t5 t6 _ ?side1 ?side2 A6.out).mono ?_); (case side1 => repeat (first | exact HR4.out | (with_reducible refine Kd.C_alloc ?_ _) | (with_reducible refine Kd.C_drewN ?_ _) | (with_reducible refine Kd.C_drew ?_))); (case side2 => exact HC4.out); rintro e w64 ⟨v7, rfl, ho0, hb⟩; have n0_ := Aside0.mk (Kd.R_lower ho0 (below_size (by repeat (first | (with_reducible first | exact HB.out | apply below_alloc | apply pw_below_drewN | apply below_drew1) | exact HB.out)))); have n1_ := Aside0.mk (below_step (by repeat (first | (with_reducible first | exact HB.out | apply below_alloc | apply pw_below_drewN | apply below_drew1) | exact HB.out)) hb); clear HB; have HO8 := n0_; have HB := n1_; clear n0_ n1_; (try clear hb); (try clear hb2); (try clear hk); (try clear hi); (try clear ho0)) | (go_at_call 21; (with_reducible refine (dft_Slack.calls k _ _ y1 t9 t10 _ ?side1 ?side2 A7.out).mono ?_); (case side1 => repeat (first | exact (Kd.C_below HR4.out HB.out) | (with_reducible refine Kd.C_alloc ?_ _) | (with_reducible refine Kd.C_drewN ?_ _) | (with_reducible refine Kd.C_drew ?_))); (case side2 => exact HC4.out); rintro e w65 ⟨rfl, hb⟩; have n0_ := Aside0.mk (Kd.R_below (by (with_reducible repeat (first | apply Kd.R_alloc | apply Kd.R_drewN | apply Kd.R_drew)); exact HO8.out) hb); have n1_ := Aside0.mk (below_step (by repeat (first | (with_reducible first | exact HB.out | apply below_alloc | apply pw_below_drewN | apply below_drew1) | exact HB.out)) hb); clear HO8; clear HB; have HO8 := n0_; have HB := n1_; clear n0_ n1_; (try clear hb); (try clear hb2); (try clear hk); (try clear hi)) | (go_at_call 13; (with_reducible refine (headroomlaw16_alive.calls k  false _ A51.out).mono ?_); rintro e w66 ⟨rfl, hb⟩; have n0_ := Aside0.mk (Kd.R_below (by (with_reducible repeat (first | apply Kd.R_alloc | apply Kd.R_drewN | apply Kd.R_drew)); exact HO8.out) hb); have n1_ := Aside0.mk (below_step (by repeat (first | (with_reducible first | exact HB.out | apply below_alloc | apply pw_below_drewN | apply below_drew1) | exact HB.out)) hb); clear HO8; clear HB; have HO8 := n0_; have HB := n1_; clear n0_ n1_; (try clear hb); (try clear hb2); (try clear hk); (try clear hi))); try go_wp2_with (first | (go_at_call 11; (with_reducible refine (dft_All.calls k _ _ y1 a1 t5 t6 _ ?side1 ?side2 A6.out).mono ?_); (case side1 => repeat (first | exact HR4.out | (with_reducible refine Kd.C_alloc ?_ _) | (with_reducible refine Kd.C_drewN ?_ _) | (with_reducible refine Kd.C_drew ?_))); (case side2 => exact HC4.out); rintro e w64 ⟨v7, rfl, ho0, hb⟩; have n0_ := Aside0.mk (Kd.R_lower ho0 (below_size (by repeat (first | (with_reducible first | exact HB.out | apply below_alloc | apply pw_below_drewN | apply below_drew1) | exact HB.out)))); have n1_ := Aside0.mk (below_step (by repeat (first | (with_reducible first | exact HB.out | apply below_alloc | apply pw_below_drewN | apply below_drew1) | exact HB.out)) hb); clear HB; have HO8 := n0_; have HB := n1_; clear n0_ n1_; (try clear hb); (try clear hb2); (try clear hk); (try clear hi); (try clear ho0)) | (go_at_call 21; (with_reducible refine (dft_Slack.calls k _ _ y1 t9 t10 _ ?side1 ?side2 A7.out).mono ?_); (case side1 => repeat (first | exact (Kd.C_below HR4.out HB.out) | (with_reducible refine Kd.C_alloc ?_ _) | (with_reducible refine Kd.C_drewN ?_ _) | (with_reducible refine Kd.C_drew ?_))); (case side2 => exact HC4.out); rintro e w65 ⟨rfl, hb⟩; have n0_ := Aside0.mk (Kd.R_below (by (with_reducible repeat (first | apply Kd.R_alloc | apply Kd.R_drewN | apply Kd.R_drew)); exact HO8.out) hb); have n1_ := Aside0.mk (below_step (by repeat (first | (with_reducible first | exact HB.out | apply below_alloc | apply pw_below_drewN | apply below_drew1) | exact HB.out)) hb); clear HO8; clear HB; have HO8 := n0_; have HB := n1_; clear n0_ n1_; (try clear hb); (try clear hb2); (try clear hk); (try clear hi)) | (go_at_call 13; (with_reducible refine (headroomlaw16_alive.calls k  false _ A51.out).mono ?_); rintro e w66 ⟨rfl, hb⟩; have n0_ := Aside0.mk (Kd.R_below (by (with_reducible repeat (first | apply Kd.R_alloc | apply Kd.R_drewN | apply Kd.R_drew)); exact HO8.out) hb); have n1_ := Aside0.mk (below_step (by repeat (first | (with_reducible first | exact HB.out | apply below_alloc | apply pw_below_drewN | apply below_drew1) | exact HB.out)) hb); clear HO8; clear HB; have HO8 := n0_; have HB := n1_; clear n0_ n1_; (try clear hb); (try clear hb2); (try clear hk); (try clear hi))))
          go_ret
          exact ⟨by first | rfl | (simp [errW_none, errW_some] <;> rfl) | (simp only [← hji3]; first | rfl | (simp [errW_none, errW_some] <;> rfl)) | (simp [*, errW_none, errW_some] <;> rfl), by repeat (first | (with_reducible first | exact HB.out | apply below_alloc | apply pw_below_drewN | apply below_drew1) | exact HB.out)⟩
    · rw [if_neg c5] at H
      exact absurd H (by simp)
  · rw [if_neg c4] at H
    exact absurd H (by simp)

end Go.Proofs.Ytpmkkidljmedaaa.X
namespace Go.Proofs.Ytpmkkidljmedaaa.X
open Go.ChangeShapes Go.WideShapes Go.ChangeAt Go.RowKit Go.Proofs.YtpmkkidljmedaaaW.PrintWords Go.Proofs.YtpmkkidljmedaaaW.PrintLast Go.Proofs.YtpmkkidljmedaaaW.PrintMore
set_option linter.unusedVariables false

/-- Is each number one of 64 bits? -/
def Wf64 (x : Int) : Prop := (Lit.int .i64 x).wf = true
def WfCx (z : CxN) : Prop := Wf64 z.f0 ∧ Wf64 z.f1
theorem Wf64.bounds {x : Int} (h : Wf64 x) : -9223372036854775808 ≤ x ∧ x < 9223372036854775808 := by
  have h1 : (Lit.int .i64 x).wf = true := h
  simp only [Lit.wf, Bool.and_eq_true, decide_eq_true_eq] at h1
  have e0 : IntKind.i64.min = -9223372036854775808 := by decide
  have e1 : IntKind.i64.max = 9223372036854775807 := by decide
  omega

instance : Inhabited CxN := ⟨z41⟩
/-- A slice of complex numbers that comes in. -/
theorem open_cxs {H : Type} {enc : TypeId × Value → H} {W : World} {a : Option Addr} {len cap : Nat} {d : DataW H} {ps : List MemPlace}
    (h : DataW.Trod enc Try.prog W 0 (fun _ => true) true 22 (.slice a len cap) d ps) :
    ∃ zs : List CxN, zs.length = len ∧ len ≤ cap ∧ zs.length ≤ maxLen ∧ Kd.C k41 W a zs.length zs ∧ ∀ z ∈ zs, WfCx z := by
  obtain ⟨fuel, hf⟩ := h
  rcases Deep.open_slice_pairs (Try.underlying22) (Try.underlying41) (by kernel_rfl) rfl rfl (by kernel_rfl) (by kernel_rfl) hf with ⟨hcs, _⟩ | ⟨x, l, c, m, n, V0, V1, D0, D1, P0, P1, hcs, _, hl, hm, hmm, _, hall⟩
  · simp [Value.cells] at hcs
    obtain ⟨rfl, rfl, rfl⟩ := hcs
    refine ⟨[], rfl, Nat.le_refl _, by simp, ⟨rfl, by simp, fun h => absurd h (by simp)⟩, fun _ h => absurd h (by simp)⟩
  · simp [Value.cells] at hcs
    obtain ⟨rfl, rfl, rfl⟩ := hcs
    have hlm : len ≤ m := by rw [hmm]; split <;> omega
    have each : ∀ i, i < len → ∃ z : CxN, W.cell? (x.add (i * 2)) = some (.int .i64 z.f0) ∧ W.cell? (x.add (i * 2 + 1)) = some (.int .i64 z.f1) ∧ WfCx z := by
      intro i hi
      obtain ⟨c0, c1, t0, t1⟩ := hall i (by omega)
      obtain ⟨n0, e0, _, w0⟩ := DataW.trod_int Try.underlying3 t0
      obtain ⟨n1, e1, _, w1⟩ := DataW.trod_int Try.underlying3 t1
      simp at e0 e1
      exact ⟨⟨n0, n1⟩, by rw [c0, e0], by rw [c1, e1], w0, w1⟩
    obtain ⟨q, hq⟩ := Deep.choose_lt each
    have hlen : ((List.range len).map q).length = len := by simp
    refine ⟨(List.range len).map q, hlen, hl, by rw [hlen]; exact Nat.le_trans hl hm, ⟨rfl, by rw [hlen]; have : maxLen = 9223372036854775807 := rfl; omega, fun _ => ⟨x, rfl, ?_⟩⟩, ?_⟩
    · intro j p hj
      rw [List.getElem?_map] at hj
      obtain ⟨j', hj', rfl⟩ := Option.map_eq_some_iff.1 hj
      obtain ⟨hjl, rfl⟩ := List.getElem?_eq_some_iff.1 hj'
      simp at hjl
      simp only [List.getElem_range]
      obtain ⟨c0, c1, _⟩ := hq j hjl
      refine ⟨[.int .i64 (q j).f0, .int .i64 (q j).f1], rfl, k41_mk _ _, ?_⟩
      intro i u hu
      match i, hu with
      | 0, hu =>
        simp at hu
        subst hu
        exact c0
      | 1, hu =>
        simp at hu
        subst hu
        exact c1
      | (i + 2), hu => simp at hu
    · intro z hz
      obtain ⟨i, hi, rfl⟩ := List.mem_map.1 hz
      exact (hq i (List.mem_range.1 hi)).2.2
theorem cells_cx : Try.prog.cellsOf 41 = 2 := by kernel_rfl
theorem cells_int : Try.prog.cellsOf 3 = 1 := by kernel_rfl
set_option maxRecDepth 100000 in
/-- A complex number that comes in. -/
theorem open_cx {H : Type} {enc : TypeId × Value → H} {W : World} {r : Reach} {b0 : Nat} {v : Value} {d : DataW H} {p : List MemPlace}
    (hv : Value.okWide Try.prog W r b0 41 v) (h : DataW.Trod enc Try.prog W 0 (fun _ => true) true 41 v d p) :
    ∃ re im : Int, v = .agg #[.int .i64 re, .int .i64 im] ∧ d = .agg [.lit (.int .i64 re), .lit (.int .i64 im)] ∧ p = [] ∧ Wf64 re ∧ Wf64 im := by
  obtain ⟨v0, v1, y0, y1, n, rfl, rfl, rfl, h0, h1⟩ := Joins.open_agg2 Try.underlying41 (by simp [Deep.oneCellFields, cells_int, List.range_succ]) cells_cx hv h
  obtain ⟨n0, e0, rfl, w0⟩ := DataW.trod_int Try.underlying3 h0
  obtain ⟨n1, e1, rfl, w1⟩ := DataW.trod_int Try.underlying3 h1
  simp at e0 e1
  subst e0 e1
  exact ⟨n0, n1, rfl, rfl, rfl, w0, w1⟩
theorem shut_cx {H : Type} {enc : TypeId × Value → H} {W : World} {re im : Int} (w0 : Wf64 re) (w1 : Wf64 im) :
    DataW.Trod enc Try.prog W 0 (fun _ => true) true 41 (.agg #[.int .i64 re, .int .i64 im]) (.agg [.lit (.int .i64 re), .lit (.int .i64 im)]) [] :=
  Joins.shut_agg2 (P := Try.prog) (y0 := (.lit (.int .i64 re), [])) (y1 := (.lit (.int .i64 im), [])) Try.underlying41 (by simp [Deep.oneCellFields, cells_int, List.range_succ]) cells_cx
    (shut_int (n := re) Try.underlying3 w0) (shut_int (n := im) Try.underlying3 w1)
end Go.Proofs.Ytpmkkidljmedaaa.X
namespace Go.Proofs.Ytpmkkidljmedaaa.X
open Go.RowKit Go.Proofs.YtpmkkidljmedaaaW.PrintWords Go.Proofs.YtpmkkidljmedaaaW.PrintLast Go.Proofs.YtpmkkidljmedaaaW.PrintMore
attribute [local go_sem] max2_int min2_int max_two min_two max_three min_three max_four min_four   -- for this text's walks alone
set_option linter.unusedVariables false
set_option linter.unusedSimpArgs false

/-! ### headroomref01_Pow: function 56 -/
def headroomref01_Pow.l0 : Nat → Int → Int → Int → Option (Int)
  | 0, _, _, _ => none
  | k + 1, x0, x3, x4 => if x4 < x0 then (headroomref01_Pow.l0 k x0 (wrap64 (2 * x3)) (wrap64 (x4 + 1))) else (some x3)
def headroomref01_Pow.f (k : Nat) (a0 : Int) : Option (Int) := headroomref01_Pow.l0 k a0 1 0
theorem headroomref01_Pow.mono_l : ∀ k, (∀ y0 y1 y2, LeO (headroomref01_Pow.l0 k y0 y1 y2) (headroomref01_Pow.l0 (k + 1) y0 y1 y2))
  | 0 => fun _ _ _ r h => by simp [headroomref01_Pow.l0] at h
  | k + 1 => by
    have ih0 := headroomref01_Pow.mono_l k
    · intro y0 y1 y2
      unfold headroomref01_Pow.l0
      repeat' first
      | (with_reducible exact ih0 _ _ _)
      | (with_reducible exact LeO.refl _)
      | (with_reducible exact LeO.none _)
      | (with_reducible refine LeO.ite ?_ ?_)
      | (with_reducible refine LeO.bind ?_ (fun _ => ?_))
      | exact ih0 _ _ _
      | exact LeO.none _
      | refine LeO.ite ?_ ?_
      | refine LeO.bind ?_ (fun _ => ?_)
theorem headroomref01_Pow.mono : ∀ a0 k, LeO (headroomref01_Pow.f k a0) (headroomref01_Pow.f (k + 1) a0) := by
  intro a0 k
  have ih0 := headroomref01_Pow.mono_l k
  unfold headroomref01_Pow.f
  repeat' first
      | (with_reducible exact ih0 _ _ _)
      | (with_reducible exact LeO.refl _)
      | (with_reducible exact LeO.none _)
      | (with_reducible refine LeO.ite ?_ ?_)
      | (with_reducible refine LeO.bind ?_ (fun _ => ?_))
      | exact ih0 _ _ _
      | exact LeO.none _
      | refine LeO.ite ?_ ?_
      | refine LeO.bind ?_ (fun _ => ?_)
set_option maxHeartbeats 8000000 in
set_option maxRecDepth 100000 in
theorem headroomref01_Pow.calls (k : Nat) (a0 : Int) (r : Int) (w : World) (h : headroomref01_Pow.f k a0 = some r) :
    Calls Try.prog 56 #[.int .i64 a0] w fun e w' => e = .returned (.int .i64 r) ∧ Drawn0 w w' := by
  have H : (headroomref01_Pow.l0 k a0 1 0) = some r := h
  clear h
  have H' := Aside0.mk H
  clear H
  go_enter Try.func56, Try.ntmps56
  go_wp2
  go_loopg [3, 4] k (fun kq v3 v4 w' => ∃ (x3_1 : Int) (x4_1 : Int), v3 = .int .i64 x3_1 ∧ v4 = .int .i64 x4_1 ∧ Aside0 (headroomref01_Pow.l0 kq a0 x3_1 x4_1 = some r) ∧ Aside0 (kq ≤ k) ∧ Drawn0 w w')
  case atStart => exact ⟨(1), (0), (by first | rfl | (simp; done) | (simp [*]; done)), (by first | rfl | (simp; done) | (simp [*]; done)), H', ⟨Nat.le_refl _⟩, by repeat (first | exact Drawn0.refl _ | apply Drawn0.step)⟩
  case round =>
    clear H'
    obtain ⟨x3_1, x4_1, rfl, rfl, HA, HK1, ⟨m1, rfl⟩⟩ := hrel
    cases gk with
    | zero => exact absurd HA.out (by simp [headroomref01_Pow.l0])
    | succ k1 =>
      have H := HA.out
      clear HA
      simp only [headroomref01_Pow.l0] at H
      by_cases c2 : x4_1 < a0
      · rw [if_pos c2] at H
        have c2b0 : decide (x4_1 < a0) = true := decide_eq_true c2
        clear c2
        have H' := Aside0.mk H
        clear H
        go_wp2
        go_roundg k1
        case measure => have := HK1.out; omega
        case rel => exact ⟨(wrap64 (2 * x3_1)), (wrap64 (x4_1 + 1)), (by first | rfl | (simp; done) | (simp [*]; done)), (by first | rfl | (simp; done) | (simp [*]; done)), H', ⟨by have := HK1.out; omega⟩, by repeat (first | exact Drawn0.refl _ | apply Drawn0.step)⟩
      · rw [if_neg c2] at H
        have c2b0 : decide (x4_1 < a0) = false := decide_eq_false c2
        clear c2
        obtain rfl := Option.some.inj H
        go_wp2
        go_ret
        exact ⟨by first | rfl | (simp; done) | (simp [*]; done), by repeat (first | exact Drawn0.refl _ | apply Drawn0.step)⟩

end Go.Proofs.Ytpmkkidljmedaaa.X
namespace Go.Proofs.Ytpmkkidljmedaaa.X
open Go.RowKit Go.Proofs.YtpmkkidljmedaaaW.PrintWords Go.Proofs.YtpmkkidljmedaaaW.PrintLast Go.Proofs.YtpmkkidljmedaaaW.PrintMore
attribute [local go_sem] max2_int min2_int max_two min_two max_three min_three max_four min_four   -- for this text's walks alone
set_option linter.unusedVariables false
set_option linter.unusedSimpArgs false

/-! ### headroomref08_Log: function 24 -/
def headroomref08_Log.l0 : Nat → Int → Int → Option (Int)
  | 0, _, _ => none
  | k + 1, x0, x3 => if x3 ≤ 6 then ((headroomref01_Pow.f k x3).bind fun t1 => (if t1 = x0 then (some x3) else (headroomref08_Log.l0 k x0 (wrap64 (x3 + 1))))) else (some (-1))
def headroomref08_Log.f (k : Nat) (a0 : Int) : Option (Int) := headroomref08_Log.l0 k a0 2
theorem headroomref08_Log.mono_l : ∀ k, (∀ y0 y1, LeO (headroomref08_Log.l0 k y0 y1) (headroomref08_Log.l0 (k + 1) y0 y1))
  | 0 => fun _ _ r h => by simp [headroomref08_Log.l0] at h
  | k + 1 => by
    have ih0 := headroomref08_Log.mono_l k
    · intro y0 y1
      unfold headroomref08_Log.l0
      repeat' first
      | (with_reducible exact ih0 _ _)
      | (with_reducible exact headroomref01_Pow.mono _ _)
      | (with_reducible exact LeO.refl _)
      | (with_reducible exact LeO.none _)
      | (with_reducible refine LeO.ite ?_ ?_)
      | (with_reducible refine LeO.bind ?_ (fun _ => ?_))
      | exact ih0 _ _
      | exact headroomref01_Pow.mono _ _
      | exact LeO.none _
      | refine LeO.ite ?_ ?_
      | refine LeO.bind ?_ (fun _ => ?_)
theorem headroomref08_Log.mono : ∀ a0 k, LeO (headroomref08_Log.f k a0) (headroomref08_Log.f (k + 1) a0) := by
  intro a0 k
  have ih0 := headroomref08_Log.mono_l k
  unfold headroomref08_Log.f
  repeat' first
      | (with_reducible exact ih0 _ _)
      | (with_reducible exact headroomref01_Pow.mono _ _)
      | (with_reducible exact LeO.refl _)
      | (with_reducible exact LeO.none _)
      | (with_reducible refine LeO.ite ?_ ?_)
      | (with_reducible refine LeO.bind ?_ (fun _ => ?_))
      | exact ih0 _ _
      | exact headroomref01_Pow.mono _ _
      | exact LeO.none _
      | refine LeO.ite ?_ ?_
      | refine LeO.bind ?_ (fun _ => ?_)
set_option maxHeartbeats 8000000 in
set_option maxRecDepth 100000 in
theorem headroomref08_Log.calls (k : Nat) (a0 : Int) (r : Int) (w : World) (h : headroomref08_Log.f k a0 = some r) :
    Calls Try.prog 24 #[.int .i64 a0] w fun e w' => e = .returned (.int .i64 r) ∧ Drawn0 w w' := by
  have H : (headroomref08_Log.l0 k a0 2) = some r := h
  clear h
  have H' := Aside0.mk H
  clear H
  go_enter Try.func24, Try.ntmps24
  go_wp2
  go_loopg [3] k (fun kq v3 w' => ∃ (x3_1 : Int), v3 = .int .i64 x3_1 ∧ Aside0 (headroomref08_Log.l0 kq a0 x3_1 = some r) ∧ Aside0 (kq ≤ k) ∧ Drawn0 w w')
  case atStart => exact ⟨(2), (by first | rfl | (simp; done) | (simp [*]; done)), H', ⟨Nat.le_refl _⟩, by repeat (first | exact Drawn0.refl _ | apply Drawn0.step)⟩
  case round =>
    clear H'
    obtain ⟨x3_1, rfl, HA, HK1, ⟨m1, rfl⟩⟩ := hrel
    cases gk with
    | zero => exact absurd HA.out (by simp [headroomref08_Log.l0])
    | succ k1 =>
      have H := HA.out
      clear HA
      simp only [headroomref08_Log.l0] at H
      by_cases c2 : x3_1 ≤ 6
      · rw [if_pos c2] at H
        have c2b0 : decide (x3_1 ≤ 6) = true := decide_eq_true c2
        clear c2
        replace H := Option.bind_eq_some_iff.mp H
        obtain ⟨t1, A30, H⟩ := H
        replace H : (if t1 = a0 then (some x3_1) else (headroomref08_Log.l0 k1 a0 (wrap64 (x3_1 + 1)))) = some r := H
        have A3 := Aside0.mk A30
        clear A30
        by_cases c4 : t1 = a0
        · rw [if_pos c4] at H
          have c4b0 : (t1 == a0) = true := beq_iff_eq.mpr c4
          have c4b1 : (t1 != a0) = false := bne_eq_false_iff_eq.mpr c4
          clear c4
          obtain rfl := Option.some.inj H
          go_wp2_with (first | ((with_reducible refine gate_callee (f := 56) rfl ?_); refine goesL_ (some 9) rfl rfl Try.func56 (by kernel_rfl) rfl #[.int .i64 x3_1] rfl (by (try simp only [List.map_toArray, List.map_cons, List.map_nil]); first | done | rfl | (simp only [List.length_drop, List.length_take]; rfl)) ?_; (with_reducible refine (headroomref01_Pow.calls k1 x3_1 t1 _ A3.out).mono ?_); rintro e w' ⟨rfl, ⟨nd, rfl⟩⟩; refine ⟨_, rfl, ?_⟩))
          go_ret
          exact ⟨by first | rfl | (simp; done) | (simp [*]; done), by repeat (first | exact Drawn0.refl _ | apply Drawn0.step)⟩
        · rw [if_neg c4] at H
          have c4b0 : (t1 == a0) = false := beq_eq_false_iff_ne.mpr c4
          have c4b1 : (t1 != a0) = true := bne_iff_ne.mpr c4
          have H' := Aside0.mk H
          clear H
          go_wp2_with (first | ((with_reducible refine gate_callee (f := 56) rfl ?_); refine goesL_ (some 9) rfl rfl Try.func56 (by kernel_rfl) rfl #[.int .i64 x3_1] rfl (by (try simp only [List.map_toArray, List.map_cons, List.map_nil]); first | done | rfl | (simp only [List.length_drop, List.length_take]; rfl)) ?_; (with_reducible refine (headroomref01_Pow.calls k1 x3_1 t1 _ A3.out).mono ?_); rintro e w' ⟨rfl, ⟨nd, rfl⟩⟩; refine ⟨_, rfl, ?_⟩))
          go_roundg k1
          case measure => have := HK1.out; omega
          case rel => exact ⟨(wrap64 (x3_1 + 1)), (by first | rfl | (simp; done) | (simp [*]; done)), H', ⟨by have := HK1.out; omega⟩, by repeat (first | exact Drawn0.refl _ | apply Drawn0.step)⟩
      · rw [if_neg c2] at H
        have c2b0 : decide (x3_1 ≤ 6) = false := decide_eq_false c2
        clear c2
        obtain rfl := Option.some.inj H
        go_wp2
        go_ret
        exact ⟨by first | rfl | (simp; done) | (simp [*]; done), by repeat (first | exact Drawn0.refl _ | apply Drawn0.step)⟩

end Go.Proofs.Ytpmkkidljmedaaa.X
namespace Go.Proofs.Ytpmkkidljmedaaa.X
open Go.RowKit Go.Proofs.YtpmkkidljmedaaaW.PrintWords Go.Proofs.YtpmkkidljmedaaaW.PrintLast Go.Proofs.YtpmkkidljmedaaaW.PrintMore
attribute [local go_sem] max2_int min2_int max_two min_two max_three min_three max_four min_four   -- for this text's walks alone
set_option linter.unusedVariables false
set_option linter.unusedSimpArgs false

/-! ### headroomref03_Within: function 57 -/
def headroomref03_Within.f (a0_0 : Int) (a0_1 : Int) (a1 : Int) : Option (Bool) := if a0_0 ≤ a1 then (if a0_0 ≥ (wrap64 (-a1)) then (if a0_1 ≤ a1 then (some (decide (a0_1 ≥ (wrap64 (-a1))))) else (some false)) else (some false)) else (some false)
set_option maxHeartbeats 8000000 in
set_option maxRecDepth 100000 in
theorem headroomref03_Within.calls (a0_0 : Int) (a0_1 : Int) (a1 : Int) (r : Bool) (w : World) (h : headroomref03_Within.f a0_0 a0_1 a1 = some r) :
    Calls Try.prog 57 #[.agg #[.int .i64 a0_0, .int .i64 a0_1], .int .i64 a1] w fun e w' => e = .returned (.bool r) ∧ Below w.heap.size w w' := by
  have hu41 := Try.underlying41
  have HB := Aside0.mk (Below.refl w.heap.size w)
  have H : (if a0_0 ≤ a1 then (if a0_0 ≥ (wrap64 (-a1)) then (if a0_1 ≤ a1 then (some (decide (a0_1 ≥ (wrap64 (-a1))))) else (some false)) else (some false)) else (some false)) = some r := h
  clear h
  by_cases c3 : a0_0 ≤ a1
  · rw [if_pos c3] at H
    have c3b0 : decide (a0_0 ≤ a1) = true := decide_eq_true c3
    clear c3
    by_cases c4 : a0_0 ≥ (wrap64 (-a1))
    · rw [if_pos c4] at H
      have c4b0 : decide ((wrap64 (-a1)) ≤ a0_0) = true := decide_eq_true c4
      clear c4
      by_cases c5 : a0_1 ≤ a1
      · rw [if_pos c5] at H
        have c5b0 : decide (a0_1 ≤ a1) = true := decide_eq_true c5
        clear c5
        obtain rfl := Option.some.inj H
        go_enter Try.func57, Try.ntmps57
        go_wp2_with (first | ((with_reducible refine gate_dst (N := 2) rfl ?_); refine box_event ?hg (N := 2) ?hd (cs := #[.int .i64 a0_0, .int .i64 a0_1]) (t := 41) ?hr ?_; (case hd => rfl); (case hg => rfl); (case hr => first | (go_simp; done) | (go_simp; rfl)); intro gb1 hg w6 hbox hb; have n0_ := Aside0.mk (below_step (by repeat (first | (with_reducible first | exact HB.out | apply below_alloc | apply pw_below_drewN | apply below_drew1) | exact HB.out)) hb); have n1_ := Aside0.mk (hbox); have n2_ := Aside0.mk ((by rw [hg]; exact (below_size (by repeat (first | (with_reducible first | exact HB.out | apply below_alloc | apply pw_below_drewN | apply below_drew1) | exact HB.out))) : w.heap.size ≤ gb1)); have n3_ := Aside0.mk ((by rw [hg]; exact (below_size (by repeat (first | (with_reducible first | exact HB.out | apply below_alloc | apply pw_below_drewN | apply below_drew1) | exact HB.out))) : w.heap.size ≤ gb1)); clear HB; have HB := n0_; have BK1 := n1_; have GW1 := n2_; have GE1 := n3_; clear n0_ n1_ n2_ n3_; clear hb hbox hg; have hcz7_0 : w6.cell? ⟨gb1, 0, none⟩ = some (.int .i64 a0_0) := (blk_cell BK1.out 0).trans rfl; have hcz7_1 : w6.cell? ⟨gb1, 1, none⟩ = some (.int .i64 a0_1) := (blk_cell BK1.out 1).trans rfl; have hfz7_0 := blk_frozen BK1.out 0; have hfz7_1 := blk_frozen BK1.out 1))
        go_ret
        exact ⟨by first | rfl | (simp [errW_none, errW_some] <;> rfl) | (simp [*, errW_none, errW_some] <;> rfl), by repeat (first | (with_reducible first | exact HB.out | apply below_alloc | apply pw_below_drewN | apply below_drew1 | refine below_set ?_ GE1.out) | exact HB.out)⟩
      · rw [if_neg c5] at H
        have c5b0 : decide (a0_1 ≤ a1) = false := decide_eq_false c5
        clear c5
        obtain rfl := Option.some.inj H
        go_enter Try.func57, Try.ntmps57
        go_wp2_with (first | ((with_reducible refine gate_dst (N := 2) rfl ?_); refine box_event ?hg (N := 2) ?hd (cs := #[.int .i64 a0_0, .int .i64 a0_1]) (t := 41) ?hr ?_; (case hd => rfl); (case hg => rfl); (case hr => first | (go_simp; done) | (go_simp; rfl)); intro gb1 hg w8 hbox hb; have n0_ := Aside0.mk (below_step (by repeat (first | (with_reducible first | exact HB.out | apply below_alloc | apply pw_below_drewN | apply below_drew1) | exact HB.out)) hb); have n1_ := Aside0.mk (hbox); have n2_ := Aside0.mk ((by rw [hg]; exact (below_size (by repeat (first | (with_reducible first | exact HB.out | apply below_alloc | apply pw_below_drewN | apply below_drew1) | exact HB.out))) : w.heap.size ≤ gb1)); have n3_ := Aside0.mk ((by rw [hg]; exact (below_size (by repeat (first | (with_reducible first | exact HB.out | apply below_alloc | apply pw_below_drewN | apply below_drew1) | exact HB.out))) : w.heap.size ≤ gb1)); clear HB; have HB := n0_; have BK1 := n1_; have GW1 := n2_; have GE1 := n3_; clear n0_ n1_ n2_ n3_; clear hb hbox hg; have hcz9_0 : w8.cell? ⟨gb1, 0, none⟩ = some (.int .i64 a0_0) := (blk_cell BK1.out 0).trans rfl; have hcz9_1 : w8.cell? ⟨gb1, 1, none⟩ = some (.int .i64 a0_1) := (blk_cell BK1.out 1).trans rfl; have hfz9_0 := blk_frozen BK1.out 0; have hfz9_1 := blk_frozen BK1.out 1))
        go_ret
        exact ⟨by first | rfl | (simp [errW_none, errW_some] <;> rfl) | (simp [*, errW_none, errW_some] <;> rfl), by repeat (first | (with_reducible first | exact HB.out | apply below_alloc | apply pw_below_drewN | apply below_drew1 | refine below_set ?_ GE1.out) | exact HB.out)⟩
    · rw [if_neg c4] at H
      have c4b0 : decide ((wrap64 (-a1)) ≤ a0_0) = false := decide_eq_false c4
      clear c4
      obtain rfl := Option.some.inj H
      go_enter Try.func57, Try.ntmps57
      go_wp2_with (first | ((with_reducible refine gate_dst (N := 2) rfl ?_); refine box_event ?hg (N := 2) ?hd (cs := #[.int .i64 a0_0, .int .i64 a0_1]) (t := 41) ?hr ?_; (case hd => rfl); (case hg => rfl); (case hr => first | (go_simp; done) | (go_simp; rfl)); intro gb1 hg w10 hbox hb; have n0_ := Aside0.mk (below_step (by repeat (first | (with_reducible first | exact HB.out | apply below_alloc | apply pw_below_drewN | apply below_drew1) | exact HB.out)) hb); have n1_ := Aside0.mk (hbox); have n2_ := Aside0.mk ((by rw [hg]; exact (below_size (by repeat (first | (with_reducible first | exact HB.out | apply below_alloc | apply pw_below_drewN | apply below_drew1) | exact HB.out))) : w.heap.size ≤ gb1)); have n3_ := Aside0.mk ((by rw [hg]; exact (below_size (by repeat (first | (with_reducible first | exact HB.out | apply below_alloc | apply pw_below_drewN | apply below_drew1) | exact HB.out))) : w.heap.size ≤ gb1)); clear HB; have HB := n0_; have BK1 := n1_; have GW1 := n2_; have GE1 := n3_; clear n0_ n1_ n2_ n3_; clear hb hbox hg; have hcz11_0 : w10.cell? ⟨gb1, 0, none⟩ = some (.int .i64 a0_0) := (blk_cell BK1.out 0).trans rfl; have hcz11_1 : w10.cell? ⟨gb1, 1, none⟩ = some (.int .i64 a0_1) := (blk_cell BK1.out 1).trans rfl; have hfz11_0 := blk_frozen BK1.out 0; have hfz11_1 := blk_frozen BK1.out 1))
      go_ret
      exact ⟨by first | rfl | (simp [errW_none, errW_some] <;> rfl) | (simp [*, errW_none, errW_some] <;> rfl), by repeat (first | (with_reducible first | exact HB.out | apply below_alloc | apply pw_below_drewN | apply below_drew1 | refine below_set ?_ GE1.out) | exact HB.out)⟩
  · rw [if_neg c3] at H
    have c3b0 : decide (a0_0 ≤ a1) = false := decide_eq_false c3
    clear c3
    obtain rfl := Option.some.inj H
    go_enter Try.func57, Try.ntmps57
    go_wp2_with (first | ((with_reducible refine gate_dst (N := 2) rfl ?_); refine box_event ?hg (N := 2) ?hd (cs := #[.int .i64 a0_0, .int .i64 a0_1]) (t := 41) ?hr ?_; (case hd => rfl); (case hg => rfl); (case hr => first | (go_simp; done) | (go_simp; rfl)); intro gb1 hg w12 hbox hb; have n0_ := Aside0.mk (below_step (by repeat (first | (with_reducible first | exact HB.out | apply below_alloc | apply pw_below_drewN | apply below_drew1) | exact HB.out)) hb); have n1_ := Aside0.mk (hbox); have n2_ := Aside0.mk ((by rw [hg]; exact (below_size (by repeat (first | (with_reducible first | exact HB.out | apply below_alloc | apply pw_below_drewN | apply below_drew1) | exact HB.out))) : w.heap.size ≤ gb1)); have n3_ := Aside0.mk ((by rw [hg]; exact (below_size (by repeat (first | (with_reducible first | exact HB.out | apply below_alloc | apply pw_below_drewN | apply below_drew1) | exact HB.out))) : w.heap.size ≤ gb1)); clear HB; have HB := n0_; have BK1 := n1_; have GW1 := n2_; have GE1 := n3_; clear n0_ n1_ n2_ n3_; clear hb hbox hg; have hcz13_0 : w12.cell? ⟨gb1, 0, none⟩ = some (.int .i64 a0_0) := (blk_cell BK1.out 0).trans rfl; have hcz13_1 : w12.cell? ⟨gb1, 1, none⟩ = some (.int .i64 a0_1) := (blk_cell BK1.out 1).trans rfl; have hfz13_0 := blk_frozen BK1.out 0; have hfz13_1 := blk_frozen BK1.out 1))
    go_ret
    exact ⟨by first | rfl | (simp [errW_none, errW_some] <;> rfl) | (simp [*, errW_none, errW_some] <;> rfl), by repeat (first | (with_reducible first | exact HB.out | apply below_alloc | apply pw_below_drewN | apply below_drew1 | refine below_set ?_ GE1.out) | exact HB.out)⟩

end Go.Proofs.Ytpmkkidljmedaaa.X
namespace Go.Proofs.Ytpmkkidljmedaaa.X
open Go.RowKit Go.Proofs.YtpmkkidljmedaaaW.PrintWords Go.Proofs.YtpmkkidljmedaaaW.PrintLast Go.Proofs.YtpmkkidljmedaaaW.PrintMore
attribute [local go_sem] max2_int min2_int max_two min_two max_three min_three max_four min_four   -- for this text's walks alone
set_option linter.unusedVariables false
set_option linter.unusedSimpArgs false

/-! ### headroomref09_Narrow: function 37 -/
def headroomref09_Narrow.l0 : Nat → List (S41) → Int → Int → Option (Bool)
  | 0, _, _, _ => none
  | k + 1, x5, x6, x7 => if x7 < x6 then (if 0 ≤ x7 then (if x7 < (x5.length : Int) then ((headroomref01_Pow.f k 31).bind fun t3 => ((headroomref03_Within.f ((rd_T41 x5 x7).f0) ((rd_T41 x5 x7).f1) t3).bind fun t4 => (if t4 = true then (headroomref09_Narrow.l0 k x5 x6 (wrap64 (x7 + 1))) else (some false)))) else (none)) else (none)) else (some true)
def headroomref09_Narrow.f (k : Nat) (l0 : List (S41)) : Option (Bool) := headroomref09_Narrow.l0 k l0 (l0.length : Int) 0
theorem headroomref09_Narrow.mono_l : ∀ k, (∀ y0 y1 y2, LeO (headroomref09_Narrow.l0 k y0 y1 y2) (headroomref09_Narrow.l0 (k + 1) y0 y1 y2))
  | 0 => fun _ _ _ r h => by simp [headroomref09_Narrow.l0] at h
  | k + 1 => by
    have ih0 := headroomref09_Narrow.mono_l k
    · intro y0 y1 y2
      unfold headroomref09_Narrow.l0
      repeat' first
      | (with_reducible exact ih0 _ _ _)
      | (with_reducible exact headroomref01_Pow.mono _ _)
      | (with_reducible exact LeO.refl _)
      | (with_reducible exact LeO.none _)
      | (with_reducible refine LeO.ite ?_ ?_)
      | (with_reducible refine LeO.bind ?_ (fun _ => ?_))
      | exact ih0 _ _ _
      | exact headroomref01_Pow.mono _ _
      | exact LeO.none _
      | refine LeO.ite ?_ ?_
      | refine LeO.bind ?_ (fun _ => ?_)
theorem headroomref09_Narrow.mono : ∀ a0 k, LeO (headroomref09_Narrow.f k a0) (headroomref09_Narrow.f (k + 1) a0) := by
  intro a0 k
  have ih0 := headroomref09_Narrow.mono_l k
  unfold headroomref09_Narrow.f
  repeat' first
      | (with_reducible exact ih0 _ _ _)
      | (with_reducible exact headroomref01_Pow.mono _ _)
      | (with_reducible exact LeO.refl _)
      | (with_reducible exact LeO.none _)
      | (with_reducible refine LeO.ite ?_ ?_)
      | (with_reducible refine LeO.bind ?_ (fun _ => ?_))
      | exact ih0 _ _ _
      | exact headroomref01_Pow.mono _ _
      | exact LeO.none _
      | refine LeO.ite ?_ ?_
      | refine LeO.bind ?_ (fun _ => ?_)
set_option maxHeartbeats 8000000 in
set_option maxRecDepth 100000 in
theorem headroomref09_Narrow.calls (k : Nat) (A0 : Option Addr) (c0 : Nat) (l0 : List (S41)) (r : Bool) (w : World) (hr0 : Kd.C k41 w A0 l0.length l0) (hc0 : l0.length ≤ c0) (h : headroomref09_Narrow.f k l0 = some r) :
    Calls Try.prog 37 #[.slice A0 l0.length c0] w fun e w' => e = .returned (.bool r) ∧ Below w.heap.size w w' := by
  have hu41 := Try.underlying41
  have HR0 := Aside0.mk hr0
  have HC0 := Aside0.mk hc0
  clear hr0 hc0
  have HB := Aside0.mk (Below.refl w.heap.size w)
  have H : (headroomref09_Narrow.l0 k l0 (l0.length : Int) 0) = some r := h
  clear h
  have H' := Aside0.mk H
  clear H
  go_enter Try.func37, Try.ntmps37
  go_wp2
  go_loopg [7] k (fun kq v7 w' => ∃ (x7_1 : Int), v7 = .int .i64 x7_1 ∧ Aside0 (headroomref09_Narrow.l0 kq l0 (l0.length : Int) x7_1 = some r) ∧ Aside0 (kq ≤ k) ∧ Aside0 (Below w.heap.size w w'))
  case atStart => exact ⟨(0), (by first | rfl | (simp; done) | (simp [*]; done)), H', ⟨Nat.le_refl _⟩, ⟨by repeat (first | (with_reducible first | exact HB.out | apply below_alloc | apply pw_below_drewN | apply below_drew1) | exact HB.out)⟩⟩
  case round =>
    clear H'
    obtain ⟨x7_1, rfl, HA, HK1, HB⟩ := hrel
    cases gk with
    | zero => exact absurd HA.out (by simp [headroomref09_Narrow.l0])
    | succ k1 =>
      have H := HA.out
      clear HA
      simp only [headroomref09_Narrow.l0] at H
      by_cases c2 : x7_1 < (l0.length : Int)
      · rw [if_pos c2] at H
        have c2b0 : decide (x7_1 < (l0.length : Int)) = true := decide_eq_true c2
        clear c2
        by_cases c3 : 0 ≤ x7_1
        · rw [if_pos c3] at H
          have c3b0 : decide (0 ≤ x7_1) = true := decide_eq_true c3
          clear c3
          by_cases c4 : x7_1 < (l0.length : Int)
          · rw [if_pos c4] at H
            have c4b0 : decide (x7_1 < (l0.length : Int)) = true := decide_eq_true c4
            clear c4
            replace H := Option.bind_eq_some_iff.mp H
            obtain ⟨t3, A50, H⟩ := H
            replace H : ((headroomref03_Within.f ((rd_T41 l0 x7_1).f0) ((rd_T41 l0 x7_1).f1) t3).bind fun t4 => (if t4 = true then (headroomref09_Narrow.l0 k1 l0 (l0.length : Int) (wrap64 (x7_1 + 1))) else (some false))) = some r := H
            have A5 := Aside0.mk A50
            clear A50
            replace H := Option.bind_eq_some_iff.mp H
            obtain ⟨t4, A60, H⟩ := H
            replace H : (if t4 = true then (headroomref09_Narrow.l0 k1 l0 (l0.length : Int) (wrap64 (x7_1 + 1))) else (some false)) = some r := H
            have A6 := Aside0.mk A60
            clear A60
            by_cases c7 : t4 = true
            · subst c7
              have H1 : (headroomref09_Narrow.l0 k1 l0 (l0.length : Int) (wrap64 (x7_1 + 1))) = some r := by rw [if_pos rfl] at H; exact H
              clear H
              have H := H1
              clear H1
              have H' := Aside0.mk H
              clear H
              have p1 : 0 ≤ (x7_1 : Int) := of_decide_eq_true (by first | (with_reducible assumption) | assumption)
              have q1 : x7_1 < (l0.length : Int) := of_decide_eq_true (by first | (with_reducible assumption) | assumption)
              obtain ⟨ad1, e1, hx1_0, hx1_1⟩ := at_T41 HR0.out x7_1 p1 q1
              cases e1
              replace hx1_0 := (HB.out.cell (World.block_lt_of_cell? w _ hx1_0)).trans hx1_0
              replace hx1_1 := (HB.out.cell (World.block_lt_of_cell? w _ hx1_1)).trans hx1_1
              replace p1 := eq_true p1
              replace q1 := eq_true q1
              try go_wp2_with (first | ((with_reducible refine gate_dst (N := 4) rfl ?_); refine box_event ?hg (N := 4) ?hd (cs := #[.int .i64 0, .int .i64 0]) (t := 41) ?hr ?_; (case hd => rfl); (case hg => rfl); (case hr => first | (go_simp; done) | (go_simp; rfl)); intro gb2 hg w8 hbox hb; have n0_ := Aside0.mk (below_step (by repeat (first | (with_reducible first | exact HB.out | apply below_alloc | apply pw_below_drewN | apply below_drew1) | exact HB.out)) hb); have n1_ := Aside0.mk (hbox); have n2_ := Aside0.mk ((by rw [hg]; exact (below_size (by repeat (first | (with_reducible first | exact HB.out | apply below_alloc | apply pw_below_drewN | apply below_drew1) | exact HB.out))) : w.heap.size ≤ gb2)); have n3_ := Aside0.mk ((by rw [hg]; exact (below_size (by repeat (first | (with_reducible first | exact HB.out | apply below_alloc | apply pw_below_drewN | apply below_drew1) | exact HB.out))) : w.heap.size ≤ gb2)); clear HB; have HB := n0_; have BK2 := n1_; have GW2 := n2_; have GE2 := n3_; clear n0_ n1_ n2_ n3_; clear hb hbox hg; have hcz9_0 : w8.cell? ⟨gb2, 0, none⟩ = some (.int .i64 0) := (blk_cell BK2.out 0).trans rfl; have hcz9_1 : w8.cell? ⟨gb2, 1, none⟩ = some (.int .i64 0) := (blk_cell BK2.out 1).trans rfl; have hfz9_0 := blk_frozen BK2.out 0; have hfz9_1 := blk_frozen BK2.out 1))
              have n0_ : Aside0 (((w8.setCell ⟨gb2, 0, none⟩ (.int .i64 ((rd_T41 l0 x7_1).f0))).setCell ⟨gb2, 1, none⟩ (.int .i64 ((rd_T41 l0 x7_1).f1))).heap[gb2]? = some (.cells #[.int .i64 ((rd_T41 l0 x7_1).f0), .int .i64 ((rd_T41 l0 x7_1).f1)] 41 (0, 0))) := ⟨by (with_reducible repeat (first | refine blk_drewN ?_ _ | refine blk_drew ?_ | refine blk_alloc ?_ _)); refine blk_put (cs := #[.int .i64 ((rd_T41 l0 x7_1).f0), .int .i64 0]) ?_ 1 _ rfl; (with_reducible repeat (first | refine blk_drewN ?_ _ | refine blk_drew ?_ | refine blk_alloc ?_ _)); refine blk_put (cs := #[.int .i64 0, .int .i64 0]) ?_ 0 _ rfl; (with_reducible repeat (first | refine blk_drewN ?_ _ | refine blk_drew ?_ | refine blk_alloc ?_ _)); exact BK2.out⟩
              have n1_ : Aside0 (Below w.heap.size w ((w8.setCell ⟨gb2, 0, none⟩ (.int .i64 ((rd_T41 l0 x7_1).f0))).setCell ⟨gb2, 1, none⟩ (.int .i64 ((rd_T41 l0 x7_1).f1)))) := ⟨by repeat (first | (with_reducible first | exact HB.out | apply below_alloc | apply pw_below_drewN | apply below_drew1 | refine below_set ?_ GE2.out) | exact HB.out)⟩
              (try clear BK2)
              (try clear HB)
              generalize ((w8.setCell ⟨gb2, 0, none⟩ (.int .i64 ((rd_T41 l0 x7_1).f0))).setCell ⟨gb2, 1, none⟩ (.int .i64 ((rd_T41 l0 x7_1).f1))) = w10 at n0_ n1_ ⊢
              have BK2 := n0_
              have HB := n1_
              clear n0_ n1_
              have n0_ := Aside0.mk (blk_drew BK2.out)
              have n1_ := Aside0.mk (below_drew1 HB.out)
              clear BK2
              clear HB
              have BK2 := n0_
              have HB := n1_
              clear n0_ n1_
              refine start_ (n := 4) (S := fun w' => w'.cell? ⟨gb2, 0, none⟩ = some (.int .i64 ((rd_T41 l0 x7_1).f0)) ∧ w'.cell? ⟨gb2, 1, none⟩ = some (.int .i64 ((rd_T41 l0 x7_1).f1))) (ds := []) #[false, false, false, false] (by kernel_rfl) rfl rfl ⟨(blk_cell BK2.out 0).trans rfl, (blk_cell BK2.out 1).trans rfl⟩ (fun hHeld => ?_)
              generalize w10.drew = w11 at BK2 HB hHeld ⊢
              refine take_ (i := 0) (N := some 11) (v := ?_) (a' := ?_) #[true, false, false, false] rfl rfl (by kernel_rfl) (fun _ _ _ h => h) (Or.inl ⟨by rfl, ?_⟩) hHeld ?_ ?_
              rotate_left
              · rintro w' ⟨s0, s1⟩
                go_simp
                with_reducible rfl
              rotate_left
              · simp only [Act.put, List.setIfInBounds_toArray, List.set_cons_zero, List.set_cons_succ, i64_w, i32_w]
                rfl
              refine one_ (i := 1) (N := some 12) #[true, true, false, false] rfl rfl (by kernel_rfl) (by decide) (fun K hK => ?_)
              refine goes_ Try.func56 (by kernel_rfl) rfl #[.int .i64 31] (by rfl) rfl rfl (by (try simp only [List.map_toArray, List.map_cons, List.map_nil]); first | done | rfl | (simp only [List.length_drop, List.length_take]; rfl)) ?_
              with_reducible refine (headroomref01_Pow.calls k1 31 t3 _ A5.out).mono ?_
              rintro e w' ⟨rfl, ⟨nd, rfl⟩⟩
              refine ⟨_, rfl, ?_⟩
              refine hK.out _ _ ⟨(blk_cell BK2.out 0).trans rfl, (blk_cell BK2.out 1).trans rfl⟩ (fun hHeld => ?_)
              clear hK K
              refine norm_ (a' := ?_) ?_ ?_
              rotate_left
              · show Act.put _ (some 12) _ = _
                simp only [Act.put, List.setIfInBounds_toArray, List.set_cons_zero, List.set_cons_succ, i64_w, i32_w]
                rfl
              refine one_ (i := 2) (N := some 13) #[true, true, true, false] rfl rfl (by kernel_rfl) (by decide) (fun K hK => ?_)
              refine goes_ Try.func57 (by kernel_rfl) rfl #[.agg #[.int .i64 ((rd_T41 l0 x7_1).f0), .int .i64 ((rd_T41 l0 x7_1).f1)], .int .i64 t3] (by rfl) rfl rfl (by (try simp only [List.map_toArray, List.map_cons, List.map_nil]); first | done | rfl | (simp only [List.length_drop, List.length_take]; rfl)) ?_
              with_reducible refine (headroomref03_Within.calls ((rd_T41 l0 x7_1).f0) ((rd_T41 l0 x7_1).f1) t3 true _ A6.out).mono ?_
              rintro e w12 ⟨rfl, hb⟩
              refine ⟨_, rfl, ?_⟩
              have n0_ := Aside0.mk (blk_below (g := gb2) (o := .cells #[.int .i64 ((rd_T41 l0 x7_1).f0), .int .i64 ((rd_T41 l0 x7_1).f1)] 41 (0, 0)) (by (with_reducible repeat (first | refine blk_drewN ?_ _ | refine blk_drew ?_ | refine blk_alloc ?_ _)); exact BK2.out) hb)
              have n1_ := Aside0.mk (below_step (by repeat (first | (with_reducible first | exact HB.out | apply below_alloc | apply pw_below_drewN | apply below_drew1 | refine below_set ?_ GE2.out) | exact HB.out)) hb)
              clear BK2
              clear HB
              have BK2 := n0_
              have HB := n1_
              clear n0_ n1_
              (try clear hb)
              (try clear hb2)
              (try clear hk)
              (try clear hi)
              refine hK.out _ _ ⟨(blk_cell BK2.out 0).trans rfl, (blk_cell BK2.out 1).trans rfl⟩ (fun hHeld => ?_)
              clear hK K
              refine norm_ (a' := ?_) ?_ ?_
              rotate_left
              · show Act.put _ (some 13) _ = _
                simp only [Act.put, List.setIfInBounds_toArray, List.set_cons_zero, List.set_cons_succ, i64_w, i32_w]
                rfl
              refine pure_ (i := 3) (N := some 14) (v := ?_) (a' := ?_) #[true, true, true, true] rfl rfl (by kernel_rfl) (fun _ _ _ h => h) (Or.inl ⟨by rfl, ?_⟩) ?_ ?_
              rotate_left
              · intro w'
                go_simp
                with_reducible rfl
              rotate_left
              · simp only [Act.put, List.setIfInBounds_toArray, List.set_cons_zero, List.set_cons_succ, i64_w, i32_w]
                rfl
              refine done_ (by kernel_rfl) ?_
              try go_wp2
              go_roundg k1
              case measure => have := HK1.out; omega
              case rel => exact ⟨(wrap64 (x7_1 + 1)), (by first | rfl | (simp; done) | (simp [*]; done)), H', ⟨by have := HK1.out; omega⟩, ⟨by repeat (first | (with_reducible first | exact HB.out | apply below_alloc | apply pw_below_drewN | apply below_drew1 | refine below_set ?_ GE2.out) | exact HB.out)⟩⟩
            · replace c7 := Bool.eq_false_iff.mpr c7
              subst c7
              have H1 : (some false) = some r := by rw [if_neg (show ¬ (false = true) by decide)] at H; exact H
              clear H
              have H := H1
              clear H1
              obtain rfl := Option.some.inj H
              have p1 : 0 ≤ (x7_1 : Int) := of_decide_eq_true (by first | (with_reducible assumption) | assumption)
              have q1 : x7_1 < (l0.length : Int) := of_decide_eq_true (by first | (with_reducible assumption) | assumption)
              obtain ⟨ad1, e1, hx1_0, hx1_1⟩ := at_T41 HR0.out x7_1 p1 q1
              cases e1
              replace hx1_0 := (HB.out.cell (World.block_lt_of_cell? w _ hx1_0)).trans hx1_0
              replace hx1_1 := (HB.out.cell (World.block_lt_of_cell? w _ hx1_1)).trans hx1_1
              replace p1 := eq_true p1
              replace q1 := eq_true q1
              try go_wp2_with (first | ((with_reducible refine gate_dst (N := 4) rfl ?_); refine box_event ?hg (N := 4) ?hd (cs := #[.int .i64 0, .int .i64 0]) (t := 41) ?hr ?_; (case hd => rfl); (case hg => rfl); (case hr => first | (go_simp; done) | (go_simp; rfl)); intro gb2 hg w13 hbox hb; have n0_ := Aside0.mk (below_step (by repeat (first | (with_reducible first | exact HB.out | apply below_alloc | apply pw_below_drewN | apply below_drew1) | exact HB.out)) hb); have n1_ := Aside0.mk (hbox); have n2_ := Aside0.mk ((by rw [hg]; exact (below_size (by repeat (first | (with_reducible first | exact HB.out | apply below_alloc | apply pw_below_drewN | apply below_drew1) | exact HB.out))) : w.heap.size ≤ gb2)); have n3_ := Aside0.mk ((by rw [hg]; exact (below_size (by repeat (first | (with_reducible first | exact HB.out | apply below_alloc | apply pw_below_drewN | apply below_drew1) | exact HB.out))) : w.heap.size ≤ gb2)); clear HB; have HB := n0_; have BK2 := n1_; have GW2 := n2_; have GE2 := n3_; clear n0_ n1_ n2_ n3_; clear hb hbox hg; have hcz14_0 : w13.cell? ⟨gb2, 0, none⟩ = some (.int .i64 0) := (blk_cell BK2.out 0).trans rfl; have hcz14_1 : w13.cell? ⟨gb2, 1, none⟩ = some (.int .i64 0) := (blk_cell BK2.out 1).trans rfl; have hfz14_0 := blk_frozen BK2.out 0; have hfz14_1 := blk_frozen BK2.out 1))
              have n0_ : Aside0 (((w13.setCell ⟨gb2, 0, none⟩ (.int .i64 ((rd_T41 l0 x7_1).f0))).setCell ⟨gb2, 1, none⟩ (.int .i64 ((rd_T41 l0 x7_1).f1))).heap[gb2]? = some (.cells #[.int .i64 ((rd_T41 l0 x7_1).f0), .int .i64 ((rd_T41 l0 x7_1).f1)] 41 (0, 0))) := ⟨by (with_reducible repeat (first | refine blk_drewN ?_ _ | refine blk_drew ?_ | refine blk_alloc ?_ _)); refine blk_put (cs := #[.int .i64 ((rd_T41 l0 x7_1).f0), .int .i64 0]) ?_ 1 _ rfl; (with_reducible repeat (first | refine blk_drewN ?_ _ | refine blk_drew ?_ | refine blk_alloc ?_ _)); refine blk_put (cs := #[.int .i64 0, .int .i64 0]) ?_ 0 _ rfl; (with_reducible repeat (first | refine blk_drewN ?_ _ | refine blk_drew ?_ | refine blk_alloc ?_ _)); exact BK2.out⟩
              have n1_ : Aside0 (Below w.heap.size w ((w13.setCell ⟨gb2, 0, none⟩ (.int .i64 ((rd_T41 l0 x7_1).f0))).setCell ⟨gb2, 1, none⟩ (.int .i64 ((rd_T41 l0 x7_1).f1)))) := ⟨by repeat (first | (with_reducible first | exact HB.out | apply below_alloc | apply pw_below_drewN | apply below_drew1 | refine below_set ?_ GE2.out) | exact HB.out)⟩
              (try clear BK2)
              (try clear HB)
              generalize ((w13.setCell ⟨gb2, 0, none⟩ (.int .i64 ((rd_T41 l0 x7_1).f0))).setCell ⟨gb2, 1, none⟩ (.int .i64 ((rd_T41 l0 x7_1).f1))) = w15 at n0_ n1_ ⊢
              have BK2 := n0_
              have HB := n1_
              clear n0_ n1_
              have n0_ := Aside0.mk (blk_drew BK2.out)
              have n1_ := Aside0.mk (below_drew1 HB.out)
              clear BK2
              clear HB
              have BK2 := n0_
              have HB := n1_
              clear n0_ n1_
              refine start_ (n := 4) (S := fun w' => w'.cell? ⟨gb2, 0, none⟩ = some (.int .i64 ((rd_T41 l0 x7_1).f0)) ∧ w'.cell? ⟨gb2, 1, none⟩ = some (.int .i64 ((rd_T41 l0 x7_1).f1))) (ds := []) #[false, false, false, false] (by kernel_rfl) rfl rfl ⟨(blk_cell BK2.out 0).trans rfl, (blk_cell BK2.out 1).trans rfl⟩ (fun hHeld => ?_)
              generalize w15.drew = w16 at BK2 HB hHeld ⊢
              refine take_ (i := 0) (N := some 11) (v := ?_) (a' := ?_) #[true, false, false, false] rfl rfl (by kernel_rfl) (fun _ _ _ h => h) (Or.inl ⟨by rfl, ?_⟩) hHeld ?_ ?_
              rotate_left
              · rintro w' ⟨s0, s1⟩
                go_simp
                with_reducible rfl
              rotate_left
              · simp only [Act.put, List.setIfInBounds_toArray, List.set_cons_zero, List.set_cons_succ, i64_w, i32_w]
                rfl
              refine one_ (i := 1) (N := some 12) #[true, true, false, false] rfl rfl (by kernel_rfl) (by decide) (fun K hK => ?_)
              refine goes_ Try.func56 (by kernel_rfl) rfl #[.int .i64 31] (by rfl) rfl rfl (by (try simp only [List.map_toArray, List.map_cons, List.map_nil]); first | done | rfl | (simp only [List.length_drop, List.length_take]; rfl)) ?_
              with_reducible refine (headroomref01_Pow.calls k1 31 t3 _ A5.out).mono ?_
              rintro e w' ⟨rfl, ⟨nd, rfl⟩⟩
              refine ⟨_, rfl, ?_⟩
              refine hK.out _ _ ⟨(blk_cell BK2.out 0).trans rfl, (blk_cell BK2.out 1).trans rfl⟩ (fun hHeld => ?_)
              clear hK K
              refine norm_ (a' := ?_) ?_ ?_
              rotate_left
              · show Act.put _ (some 12) _ = _
                simp only [Act.put, List.setIfInBounds_toArray, List.set_cons_zero, List.set_cons_succ, i64_w, i32_w]
                rfl
              refine one_ (i := 2) (N := some 13) #[true, true, true, false] rfl rfl (by kernel_rfl) (by decide) (fun K hK => ?_)
              refine goes_ Try.func57 (by kernel_rfl) rfl #[.agg #[.int .i64 ((rd_T41 l0 x7_1).f0), .int .i64 ((rd_T41 l0 x7_1).f1)], .int .i64 t3] (by rfl) rfl rfl (by (try simp only [List.map_toArray, List.map_cons, List.map_nil]); first | done | rfl | (simp only [List.length_drop, List.length_take]; rfl)) ?_
              with_reducible refine (headroomref03_Within.calls ((rd_T41 l0 x7_1).f0) ((rd_T41 l0 x7_1).f1) t3 false _ A6.out).mono ?_
              rintro e w17 ⟨rfl, hb⟩
              refine ⟨_, rfl, ?_⟩
              have n0_ := Aside0.mk (blk_below (g := gb2) (o := .cells #[.int .i64 ((rd_T41 l0 x7_1).f0), .int .i64 ((rd_T41 l0 x7_1).f1)] 41 (0, 0)) (by (with_reducible repeat (first | refine blk_drewN ?_ _ | refine blk_drew ?_ | refine blk_alloc ?_ _)); exact BK2.out) hb)
              have n1_ := Aside0.mk (below_step (by repeat (first | (with_reducible first | exact HB.out | apply below_alloc | apply pw_below_drewN | apply below_drew1 | refine below_set ?_ GE2.out) | exact HB.out)) hb)
              clear BK2
              clear HB
              have BK2 := n0_
              have HB := n1_
              clear n0_ n1_
              (try clear hb)
              (try clear hb2)
              (try clear hk)
              (try clear hi)
              refine hK.out _ _ ⟨(blk_cell BK2.out 0).trans rfl, (blk_cell BK2.out 1).trans rfl⟩ (fun hHeld => ?_)
              clear hK K
              refine norm_ (a' := ?_) ?_ ?_
              rotate_left
              · show Act.put _ (some 13) _ = _
                simp only [Act.put, List.setIfInBounds_toArray, List.set_cons_zero, List.set_cons_succ, i64_w, i32_w]
                rfl
              refine pure_ (i := 3) (N := some 14) (v := ?_) (a' := ?_) #[true, true, true, true] rfl rfl (by kernel_rfl) (fun _ _ _ h => h) (Or.inl ⟨by rfl, ?_⟩) ?_ ?_
              rotate_left
              · intro w'
                go_simp
                with_reducible rfl
              rotate_left
              · simp only [Act.put, List.setIfInBounds_toArray, List.set_cons_zero, List.set_cons_succ, i64_w, i32_w]
                rfl
              refine done_ (by kernel_rfl) ?_
              try go_wp2
              go_ret
              exact ⟨by first | rfl | (simp [errW_none, errW_some] <;> rfl) | (simp [*, errW_none, errW_some] <;> rfl), by repeat (first | (with_reducible first | exact HB.out | apply below_alloc | apply pw_below_drewN | apply below_drew1 | refine below_set ?_ GE2.out) | exact HB.out)⟩
          · rw [if_neg c4] at H
            exact absurd H (by simp)
        · rw [if_neg c3] at H
          exact absurd H (by simp)
      · rw [if_neg c2] at H
        have c2b0 : decide (x7_1 < (l0.length : Int)) = false := decide_eq_false c2
        clear c2
        obtain rfl := Option.some.inj H
        go_wp2
        go_ret
        exact ⟨by first | rfl | (simp [errW_none, errW_some] <;> rfl) | (simp [*, errW_none, errW_some] <;> rfl), by repeat (first | (with_reducible first | exact HB.out | apply below_alloc | apply pw_below_drewN | apply below_drew1) | exact HB.out)⟩

end Go.Proofs.Ytpmkkidljmedaaa.X
namespace Go.Proofs.Ytpmkkidljmedaaa.X
open Go.RowKit Go.Proofs.YtpmkkidljmedaaaW.PrintWords Go.Proofs.YtpmkkidljmedaaaW.PrintLast Go.Proofs.YtpmkkidljmedaaaW.PrintMore
attribute [local go_sem] max2_int min2_int max_two min_two max_three min_three max_four min_four   -- for this text's walks alone
set_option linter.unusedVariables false
set_option linter.unusedSimpArgs false

/-! ### headroomref16_May: function 12 -/
def headroomref16_May.f (k : Nat) (l0 : List (S41)) : Option (Int) := (headroomref08_Log.f k (l0.length : Int)).bind fun t1 => (if t1 < 0 then (some 3) else ((headroomref09_Narrow.f k l0).bind fun t2 => (if t2 = true then (some 0) else (some 2))))
theorem headroomref16_May.mono : ∀ a0 k, LeO (headroomref16_May.f k a0) (headroomref16_May.f (k + 1) a0) := by
  intro a0 k
  unfold headroomref16_May.f
  repeat' first
      | (with_reducible exact headroomref08_Log.mono _ _)
      | (with_reducible exact headroomref09_Narrow.mono _ _)
      | (with_reducible exact LeO.refl _)
      | (with_reducible exact LeO.none _)
      | (with_reducible refine LeO.ite ?_ ?_)
      | (with_reducible refine LeO.bind ?_ (fun _ => ?_))
      | exact headroomref08_Log.mono _ _
      | exact headroomref09_Narrow.mono _ _
      | exact LeO.none _
      | refine LeO.ite ?_ ?_
      | refine LeO.bind ?_ (fun _ => ?_)
set_option maxHeartbeats 8000000 in
set_option maxRecDepth 100000 in
theorem headroomref16_May.calls (k : Nat) (A0 : Option Addr) (c0 : Nat) (l0 : List (S41)) (r : Int) (w : World) (hr0 : Kd.C k41 w A0 l0.length l0) (hc0 : l0.length ≤ c0) (h : headroomref16_May.f k l0 = some r) :
    Calls Try.prog 12 #[.slice A0 l0.length c0] w fun e w' => e = .returned (.int .i64 r) ∧ Below w.heap.size w w' := by
  have HR0 := Aside0.mk hr0
  have HC0 := Aside0.mk hc0
  clear hr0 hc0
  have HB := Aside0.mk (Below.refl w.heap.size w)
  have H : ((headroomref08_Log.f k (l0.length : Int)).bind fun t1 => (if t1 < 0 then (some 3) else ((headroomref09_Narrow.f k l0).bind fun t2 => (if t2 = true then (some 0) else (some 2))))) = some r := h
  clear h
  replace H := Option.bind_eq_some_iff.mp H
  obtain ⟨t1, A20, H⟩ := H
  replace H : (if t1 < 0 then (some 3) else ((headroomref09_Narrow.f k l0).bind fun t2 => (if t2 = true then (some 0) else (some 2)))) = some r := H
  have A2 := Aside0.mk A20
  clear A20
  by_cases c3 : t1 < 0
  · rw [if_pos c3] at H
    have c3b0 : decide (t1 < 0) = true := decide_eq_true c3
    clear c3
    obtain rfl := Option.some.inj H
    go_enter Try.func12, Try.ntmps12
    go_wp2_with (first | ((with_reducible refine gate_callee (f := 24) rfl ?_); refine goesL_ (some 5) rfl rfl Try.func24 (by kernel_rfl) rfl #[.int .i64 (l0.length : Int)] rfl (by (try simp only [List.map_toArray, List.map_cons, List.map_nil]); first | done | rfl | (simp only [List.length_drop, List.length_take]; rfl)) ?_; (with_reducible refine (headroomref08_Log.calls k (l0.length : Int) t1 _ A2.out).mono ?_); rintro e w' ⟨rfl, ⟨nd, rfl⟩⟩; refine ⟨_, rfl, ?_⟩))
    go_ret
    exact ⟨by first | rfl | (simp [errW_none, errW_some] <;> rfl) | (simp [*, errW_none, errW_some] <;> rfl), by repeat (first | (with_reducible first | exact HB.out | apply below_alloc | apply pw_below_drewN | apply below_drew1) | exact HB.out)⟩
  · rw [if_neg c3] at H
    have c3b0 : decide (t1 < 0) = false := decide_eq_false c3
    clear c3
    replace H := Option.bind_eq_some_iff.mp H
    obtain ⟨t2, A40, H⟩ := H
    replace H : (if t2 = true then (some 0) else (some 2)) = some r := H
    have A4 := Aside0.mk A40
    clear A40
    by_cases c5 : t2 = true
    · subst c5
      have H1 : (some 0) = some r := by rw [if_pos rfl] at H; exact H
      clear H
      have H := H1
      clear H1
      obtain rfl := Option.some.inj H
      go_enter Try.func12, Try.ntmps12
      go_wp2_with (first | ((with_reducible refine gate_callee (f := 24) rfl ?_); refine goesL_ (some 5) rfl rfl Try.func24 (by kernel_rfl) rfl #[.int .i64 (l0.length : Int)] rfl (by (try simp only [List.map_toArray, List.map_cons, List.map_nil]); first | done | rfl | (simp only [List.length_drop, List.length_take]; rfl)) ?_; (with_reducible refine (headroomref08_Log.calls k (l0.length : Int) t1 _ A2.out).mono ?_); rintro e w' ⟨rfl, ⟨nd, rfl⟩⟩; refine ⟨_, rfl, ?_⟩) | ((with_reducible refine gate_callee (f := 37) rfl ?_); refine goesL_ (some 8) rfl rfl Try.func37 (by kernel_rfl) rfl #[.slice A0 l0.length c0] rfl (by (try simp only [List.map_toArray, List.map_cons, List.map_nil]); first | done | rfl | (simp only [List.length_drop, List.length_take]; rfl)) ?_; (with_reducible refine (headroomref09_Narrow.calls k _ _ l0 true _ ?side1 ?side2 A4.out).mono ?_); (case side1 => repeat (first | exact HR0.out | (with_reducible refine Kd.C_alloc ?_ _) | (with_reducible refine Kd.C_drewN ?_ _) | (with_reducible refine Kd.C_drew ?_))); (case side2 => exact HC0.out); rintro e w6 ⟨rfl, hb⟩; refine ⟨_, rfl, ?_⟩; have n0_ := Aside0.mk (below_step (by repeat (first | (with_reducible first | exact HB.out | apply below_alloc | apply pw_below_drewN | apply below_drew1) | exact HB.out)) hb); clear HB; have HB := n0_; clear n0_; (try clear hb); (try clear hb2); (try clear hk); (try clear hi)))
      go_ret
      exact ⟨by first | rfl | (simp [errW_none, errW_some] <;> rfl) | (simp [*, errW_none, errW_some] <;> rfl), by repeat (first | (with_reducible first | exact HB.out | apply below_alloc | apply pw_below_drewN | apply below_drew1) | exact HB.out)⟩
    · replace c5 := Bool.eq_false_iff.mpr c5
      subst c5
      have H1 : (some 2) = some r := by rw [if_neg (show ¬ (false = true) by decide)] at H; exact H
      clear H
      have H := H1
      clear H1
      obtain rfl := Option.some.inj H
      go_enter Try.func12, Try.ntmps12
      go_wp2_with (first | ((with_reducible refine gate_callee (f := 24) rfl ?_); refine goesL_ (some 5) rfl rfl Try.func24 (by kernel_rfl) rfl #[.int .i64 (l0.length : Int)] rfl (by (try simp only [List.map_toArray, List.map_cons, List.map_nil]); first | done | rfl | (simp only [List.length_drop, List.length_take]; rfl)) ?_; (with_reducible refine (headroomref08_Log.calls k (l0.length : Int) t1 _ A2.out).mono ?_); rintro e w' ⟨rfl, ⟨nd, rfl⟩⟩; refine ⟨_, rfl, ?_⟩) | ((with_reducible refine gate_callee (f := 37) rfl ?_); refine goesL_ (some 8) rfl rfl Try.func37 (by kernel_rfl) rfl #[.slice A0 l0.length c0] rfl (by (try simp only [List.map_toArray, List.map_cons, List.map_nil]); first | done | rfl | (simp only [List.length_drop, List.length_take]; rfl)) ?_; (with_reducible refine (headroomref09_Narrow.calls k _ _ l0 false _ ?side1 ?side2 A4.out).mono ?_); (case side1 => repeat (first | exact HR0.out | (with_reducible refine Kd.C_alloc ?_ _) | (with_reducible refine Kd.C_drewN ?_ _) | (with_reducible refine Kd.C_drew ?_))); (case side2 => exact HC0.out); rintro e w7 ⟨rfl, hb⟩; refine ⟨_, rfl, ?_⟩; have n0_ := Aside0.mk (below_step (by repeat (first | (with_reducible first | exact HB.out | apply below_alloc | apply pw_below_drewN | apply below_drew1) | exact HB.out)) hb); clear HB; have HB := n0_; clear n0_; (try clear hb); (try clear hb2); (try clear hk); (try clear hi)))
      go_ret
      exact ⟨by first | rfl | (simp [errW_none, errW_some] <;> rfl) | (simp [*, errW_none, errW_some] <;> rfl), by repeat (first | (with_reducible first | exact HB.out | apply below_alloc | apply pw_below_drewN | apply below_drew1) | exact HB.out)⟩

end Go.Proofs.Ytpmkkidljmedaaa.X
