/- Part 2 of 4 of the proof of the given statement DftAll: for each function that it reaches, its answers as a plain Lean function, and that the machine's call comes to exactly these answers. No conditions but those in the statements. -/
import Derived.Test.YtpmkkidljmedaaaMDftAll1
import Derived.Lib.Hide
namespace Go.Proofs.Ytpmkkidljmedaaa.X
open Go.RowKit Go.Proofs.YtpmkkidljmedaaaW.PrintWords Go.Proofs.YtpmkkidljmedaaaW.PrintLast Go.Proofs.YtpmkkidljmedaaaW.PrintMore
attribute [local go_sem] max2_int min2_int max_two min_two max_three min_three max_four min_four
set_option linter.unusedVariables false
set_option linter.unusedSimpArgs false

/-- The first i of n things, and zeros behind them. -/
def rowTo (F : Nat → CxN) (n i : Nat) : List CxN := (List.range n).map fun j => if j < i then F j else ⟨0, 0⟩
theorem rowTo_length (F : Nat → CxN) (n i : Nat) : (rowTo F n i).length = n := by simp [rowTo]
theorem rowTo_zero (F : Nat → CxN) (n : Nat) : rowTo F n 0 = List.replicate n ⟨0, 0⟩ := by
  apply List.ext_getElem
  · simp [rowTo]
  · intro i h1 h2
    simp [rowTo]
theorem rowTo_full (F : Nat → CxN) (n : Nat) : rowTo F n n = (List.range n).map F := by
  unfold rowTo
  apply List.map_congr_left
  intro j hj
  rw [if_pos (List.mem_range.1 hj)]
theorem rowTo_get (F : Nat → CxN) (n i : Nat) (h : i < n) : (rowTo F n i)[i]? = some ⟨0, 0⟩ := by simp [rowTo, h]
theorem rowTo_set (F : Nat → CxN) (n i : Nat) (h : i < n) : (rowTo F n i).set i ⟨(F i).f0, (F i).f1⟩ = rowTo F n (i + 1) := by
  apply List.ext_getElem
  · simp [rowTo]
  · intro j h1 h2
    have hj : j < n := by simpa [rowTo] using h2
    rw [List.getElem_set]
    by_cases e : i = j
    · subst e; simp [rowTo]
    · rw [if_neg e]
      simp only [rowTo, List.getElem_map, List.getElem_range]
      by_cases l : j < i
      · rw [if_pos l, if_pos (by omega)]
      · rw [if_neg l, if_neg (by omega)]

theorem info_cx : ∃ i, Try.prog.info? 41 = some i ∧ i.zero = some (.agg #[.int .i64 0, .int .i64 0]) ∧ i.size = 2 ∧ i.bytes = 16 := by
  have h : (Try.prog.info? 41).map (fun i => (i.zero, i.size, i.bytes)) = some (some (.agg #[(.int .i64 0), (.int .i64 0)]), 2, 16) := by kernel_rfl
  obtain ⟨i, hi, he⟩ := Option.map_eq_some_iff.1 h
  simp only [Prod.mk.injEq] at he
  exact ⟨i, hi, he.1, he.2.1, he.2.2⟩
/-- make([]api.Cx, n). -/
theorem make_cx (n : Nat) (hn : n ≤ 4194304) (W : World) : (Instr.makeSlice 22 (.int .i64 (n : Int)) (.int .i64 (n : Int))).run Try.prog W = .ok (.slice (some ⟨W.heap.size, 0, none⟩) n n) (W.alloc (.cells (madeCells #[.int .i64 0, .int .i64 0] (n * 2)) 41)) := by
  obtain ⟨i, hi, hz, hs, hb⟩ := info_cx
  have := run_make (P := Try.prog) W 22 41 i _ Try.underlying22 hi hz .i64 .i64 (n : Int) (n : Int) (by omega) (by omega) (by rw [hb]; omega) (by omega)
  simpa [hs, Value.cells] using this

theorem gather_walk (c n : Nat) (hn : n ≤ 4194304) (lb : Array Value) (F : Nat → CxN) (w : World) (he : ∀ (args : Array Value) (W : World), (callFunc c args).run Try.prog W = .ok (.enter c args) W)
    (hc : ∀ k : Nat, k < n → ∀ W, Below w.heap.size w W → Calls Try.prog c (#[.int .i64 (k : Int)] ++ lb) W fun e w' => e = .returned (.agg #[.int .i64 (F k).f0, .int .i64 (F k).f1]) ∧ Below W.heap.size W w') :
    Calls Try.prog 98 #[.int .i64 (n : Int), .func (.func c) #[] lb] w fun e w' => e = .returned (.slice (some ⟨w.heap.size, 0, none⟩) n n) ∧ CxBlk w' w.heap.size ((List.range n).map F) ∧ Below w.heap.size w w' := by
  have hmk := fun W => make_cx n hn W
  have HC := Aside0.mk hc
  clear hc
  go_enter Try.func98, Try.ntmps98
  go_wp2
  have G := CxBlk.made w n
  have HB := Aside0.mk (below_alloc (Below.refl _ w) (.cells (madeCells #[.int .i64 0, .int .i64 0] (n * 2)) 41 (0, 0)))
  rw [← rowTo_zero F n] at G
  replace G := Aside0.mk G
  clear hmk
  have hq := Nat.le_refl w.heap.size
  go_loopw [11] (fun v11 wr => ∃ i : Nat, i ≤ n ∧ v11 = .int .i64 i ∧ Aside0 (CxBlk wr w.heap.size (rowTo F n i)) ∧ Aside0 (Below w.heap.size w wr)) (fun v11 _ => n - (intOf v11).toNat)
  case atStart => exact ⟨0, by omega, rfl, G, HB⟩
  case round =>
    clear G HB
    obtain ⟨i, hi, rfl, G, HB⟩ := hrel
    by_cases hlt : i < n
    · have hcall := HC.out i hlt wr HB.out
      go_wp2_with fail
      refine hcall.mono ?_
      rintro e w2 ⟨rfl, hb⟩
      replace G := Aside0.mk (G.out.below hb)
      replace HB := Aside0.mk (below_step HB.out hb)
      clear hb hcall
      have c0 := G.out.cell0 i _ (rowTo_get F n i hlt)
      have c1 := G.out.cell1 i _ (rowTo_get F n i hlt)
      have f0 := G.out.frozen (i * 2)
      have f1 := G.out.frozen (i * 2 + 1)
      go_wp2
      go_roundw
      case rel => exact ⟨i + 1, by omega, by go_num, ⟨by rw [← rowTo_set F n i hlt]; exact G.out.set i _ _⟩, ⟨below_set (below_set HB.out hq) hq⟩⟩
      case measure => simp [intOf]; omega
    · obtain rfl : i = n := by omega
      clear HC he
      go_wp2
      go_ret
      exact ⟨rfl, by rw [← rowTo_full F i]; exact G.out, HB.out⟩

/-- One root. -/
theorem table1_calls (k log bits re im : Int) (hf : roots_root.f log k bits = some (re, im)) (g h : Nat) (w : World) (c0 : w.cell? ⟨g, 0, none⟩ = some (.int .i64 log)) (c1 : w.cell? ⟨h, 0, none⟩ = some (.int .i64 bits)) :
    Calls Try.prog 99 #[.int .i64 k, .pointer (some ⟨g, 0, none⟩), .pointer (some ⟨h, 0, none⟩)] w fun e w' => e = .returned (.agg #[.int .i64 re, .int .i64 im]) ∧ Below w.heap.size w w' := by
  have HF := Lib.hid hf
  have hg := World.block_lt_of_cell? w _ c0
  have hh := World.block_lt_of_cell? w _ c1
  have d0 : ∀ o, (w.alloc o).cell? ⟨g, 0, none⟩ = some (.int .i64 log) := fun o => (World.cell?_alloc_past _ _ _ hg).trans c0
  have d1 : ∀ o, (w.alloc o).cell? ⟨h, 0, none⟩ = some (.int .i64 bits) := fun o => (World.cell?_alloc_past _ _ _ hh).trans c1
  clear hf c0 c1 hg hh
  go_enter Try.func99, Try.ntmps99
  go_wp2_with fail
  have R := blk_new w (.cells #[.int .i64 0, .int .i64 0] 41 (0, 0))
  have HB := below_alloc (Below.refl _ w) (.cells #[.int .i64 0, .int .i64 0] 41 (0, 0))
  refine (roots_root.calls log k bits re im _ HF.out).mono ?_
  rintro e w1 ⟨rfl, hb⟩
  replace R := Aside0.mk (blk_below R hb)
  replace HB := Aside0.mk (below_step HB hb)
  clear hb d0 d1 HF
  have c0 := blk_cell R.out 0
  have c1 := blk_cell R.out 1
  have f0 := blk_frozen R.out 0
  have f1 := blk_frozen R.out 1
  go_wp2
  exact bodyPost_ret (results_cell_row rfl _ _ w.heap.size 41 #[.int .i64 re, .int .i64 im] (0, 0) _ rfl (blk_put (cs := #[.int .i64 re, .int .i64 0]) (blk_put R.out 0 _ rfl) 1 _ rfl) Try.underlying41 rfl (by kernel_rfl)) rfl ⟨rfl, below_set (below_set HB.out (Nat.le_refl _)) (Nat.le_refl _)⟩

/-- A root, or 0 where there is none. -/
def rootV (log bits : Int) (k : Nat) : CxN := match roots_root.f log k bits with | some (a, b) => ⟨a, b⟩ | none => ⟨0, 0⟩
/-- All roots of a length. -/
def tableV (log bits : Int) : List CxN := (List.range (2 ^ log.toNat)).map (rootV log bits)
/-- Are all of them told? -/
def tableOk (log bits : Int) : Bool := (List.range (2 ^ log.toNat)).all fun k => (roots_root.f log (k : Int) bits).isSome

def roots_Table.f (log bits : Int) : Option (List CxN × Int) :=
  (roots_may.f log bits).bind fun m => if m = true then (if log ≤ 6 ∧ 2 ≤ log ∧ tableOk log bits = true then some (tableV log bits, 0) else none) else some ([], 1)
theorem roots_Table.calls (a0 a1 : Int) (r1 : List CxN) (r2 : Int) (w : World) (h : roots_Table.f a0 a1 = some (r1, r2)) :
    Calls Try.prog 70 #[.int .i64 a0, .int .i64 a1] w fun e w' => ∃ v0_ : Value, e = .returned (.tuple #[v0_, .int .i64 r2]) ∧ Kd.R k41 41 w' w.heap.size (fun _ => True) v0_ r1 ∧ Below w.heap.size w w' := by
  have hmf : ∀ (fn : Fn) (first cap : Array Value) (w : World), (Instr.makeFunc fn first cap).run Try.prog w = .ok (.func fn first cap) w := fun _ _ _ _ => rfl
  unfold roots_Table.f at h
  obtain ⟨m, hm, h⟩ := Option.bind_eq_some_iff.mp h
  have HM1 := Lib.hid hm
  clear hm
  cases m with
  | false =>
    simp only [Bool.false_eq_true, if_false, Option.some.injEq, Prod.mk.injEq] at h
    obtain ⟨rfl, rfl⟩ := h
    go_enter Try.func70, Try.ntmps70
    go_wp2_with (go_at_call 97; refine (roots_may.calls a0 a1 false _ HM1.out).mono ?_; rintro e w1 ⟨rfl, hb⟩)
    go_ret2
    exact ⟨_, rfl, Kd.R_nil _ _ _ _ _, below_step (below_alloc (below_alloc (Below.refl _ w) (.cells #[.int .i64 a0] 3 (0, 0))) (.cells #[.int .i64 a1] 3 (0, 0))) hb⟩
  | true =>
    rw [if_pos rfl] at h
    split at h
    case isFalse => cases h
    rename_i hv
    simp only [Option.some.injEq, Prod.mk.injEq] at h
    obtain ⟨rfl, rfl⟩ := h
    obtain ⟨h6, h2, hok⟩ := hv
    go_enter Try.func70, Try.ntmps70
    have HOK := Lib.hid hok
    clear hok
    go_wp2_with fail
    have BL := blk_alloc (blk_new w (.cells #[.int .i64 a0] 3 (0, 0))) (.cells #[.int .i64 a1] 3 (0, 0))
    have BB := blk_new (w.alloc (.cells #[.int .i64 a0] 3 (0, 0))) (.cells #[.int .i64 a1] 3 (0, 0))
    have HB := below_alloc (below_alloc (Below.refl _ w) (.cells #[.int .i64 a0] 3 (0, 0))) (.cells #[.int .i64 a1] 3 (0, 0))
    simp only [World.size_alloc] at BB
    refine (roots_may.calls a0 a1 true _ HM1.out).mono ?_
    rintro e w1 ⟨rfl, hb⟩
    replace BL := blk_below BL hb
    replace BB := blk_below BB hb
    replace HB := below_step HB hb
    clear hb HM1
    have c0 := blk_cell BL 0
    have hp := HM.pow_pos a0.toNat
    have hm := HM.pow_lt62 (i := a0.toNat) (by omega)
    have hn6 : 2 ^ a0.toNat ≤ 2 ^ 6 := Nat.pow_le_pow_right (by omega) (show a0.toNat ≤ 6 by omega)
    have hw : wrap64 (2 ^ a0.toNat) = ((2 ^ a0.toNat : Nat) : Int) := by
      rw [HM.wrap64_id _ (by omega) (by omega)]
      norm_cast
    have HW := Lib.hid hw
    have HN := Lib.hid hn6
    clear hp hm hw hn6
    go_wp2_with fail
    rw [HW.out]
    have hc : ∀ k : Nat, k < 2 ^ a0.toNat → ∀ W, Below w1.heap.size w1 W → Calls Try.prog 99 (#[.int .i64 (k : Int)] ++ #[.pointer (some ⟨w.heap.size, 0, none⟩), .pointer (some ⟨w.heap.size + 1, 0, none⟩)]) W fun e w' => e = .returned (.agg #[.int .i64 (rootV a0 a1 k).f0, .int .i64 (rootV a0 a1 k).f1]) ∧ Below W.heap.size W w' := by
      intro k hk W hW
      have hs := List.all_eq_true.1 HOK.out k (List.mem_range.2 hk)
      obtain ⟨⟨re, im⟩, hr⟩ := Option.isSome_iff_exists.1 hs
      have := table1_calls k a0 a1 re im hr w.heap.size (w.heap.size + 1) W ((blk_cell (blk_below BL hW) 0).trans rfl) ((blk_cell (blk_below BB hW) 0).trans rfl)
      simpa [rootV, hr] using this
    refine (gather_walk 99 (2 ^ a0.toNat) (by have := HN.out; omega) _ (rootV a0 a1) _ (fun args W => enters_ Try.func99 (by kernel_rfl) rfl args W) hc).mono ?_
    rintro e w2 ⟨rfl, G, hb⟩
    have hl : (tableV a0 a1).length = 2 ^ a0.toNat := by simp [tableV]
    have hR := CxBlk.owns (base := w.heap.size) G HB.size (by have := HN.out; rw [List.length_map, List.length_range]; omega)
    replace HB := below_step HB hb
    have e1 : ((List.range (2 ^ a0.toNat)).map (rootV a0 a1)).length = 2 ^ a0.toNat := by simp
    rw [e1] at hR
    clear hb hc c0 BL BB G
    have HR := Lib.hid hR
    have HL := Lib.hid hl
    have HE := Lib.hid e1
    clear hR hl e1
    go_wp2
    go_ret2
    exact ⟨_, rfl, HR.out, HB⟩
end Go.Proofs.Ytpmkkidljmedaaa.X
namespace Go.Proofs.Ytpmkkidljmedaaa.X
open Go.RowKit Go.Proofs.YtpmkkidljmedaaaW.PrintWords Go.Proofs.YtpmkkidljmedaaaW.PrintLast Go.Proofs.YtpmkkidljmedaaaW.PrintMore
attribute [local go_sem] max2_int min2_int max_two min_two max_three min_three max_four min_four   -- for this text's walks alone
set_option linter.unusedVariables false
set_option linter.unusedSimpArgs false

/-! ### flip_Log: function 40 -/
def flip_Log.l0 : Nat → Int → Int → Option (Int × Int)
  | 0, _, _ => none
  | k + 1, x0, x4 => if x4 ≤ 6 then (if 0 ≤ x4 then (if x0 = (shl .i64 1 x4) then (some (x4, 0)) else (flip_Log.l0 k x0 (wrap64 (x4 + 1)))) else (none)) else (some (0, 3))
def flip_Log.f (k : Nat) (a0 : Int) : Option (Int × Int) := flip_Log.l0 k a0 2
theorem flip_Log.mono_l : ∀ k, (∀ y0 y1, LeO (flip_Log.l0 k y0 y1) (flip_Log.l0 (k + 1) y0 y1))
  | 0 => fun _ _ r h => by simp [flip_Log.l0] at h
  | k + 1 => by
    have ih0 := flip_Log.mono_l k
    · intro y0 y1
      unfold flip_Log.l0
      repeat' first
      | (with_reducible exact ih0 _ _)
      | (with_reducible exact LeO.refl _)
      | (with_reducible exact LeO.none _)
      | (with_reducible refine LeO.ite ?_ ?_)
      | (with_reducible refine LeO.bind ?_ (fun _ => ?_))
      | exact ih0 _ _
      | exact LeO.none _
      | refine LeO.ite ?_ ?_
      | refine LeO.bind ?_ (fun _ => ?_)
theorem flip_Log.mono : ∀ a0 k, LeO (flip_Log.f k a0) (flip_Log.f (k + 1) a0) := by
  intro a0 k
  have ih0 := flip_Log.mono_l k
  unfold flip_Log.f
  repeat' first
      | (with_reducible exact ih0 _ _)
      | (with_reducible exact LeO.refl _)
      | (with_reducible exact LeO.none _)
      | (with_reducible refine LeO.ite ?_ ?_)
      | (with_reducible refine LeO.bind ?_ (fun _ => ?_))
      | exact ih0 _ _
      | exact LeO.none _
      | refine LeO.ite ?_ ?_
      | refine LeO.bind ?_ (fun _ => ?_)
set_option maxHeartbeats 8000000 in
set_option maxRecDepth 100000 in
theorem flip_Log.calls (k : Nat) (a0 : Int) (r1 : Int) (r2 : Int) (w : World) (h : flip_Log.f k a0 = some (r1, r2)) :
    Calls Try.prog 40 #[.int .i64 a0] w fun e w' => e = .returned (.tuple #[.int .i64 r1, .int .i64 r2]) ∧ Drawn0 w w' := by
  have H : (flip_Log.l0 k a0 2) = some (r1, r2) := h
  clear h
  have H' := Aside0.mk H
  clear H
  go_enter Try.func40, Try.ntmps40
  go_wp2
  go_loopg [4] k (fun kq v4 w' => ∃ (x4_1 : Int), v4 = .int .i64 x4_1 ∧ Aside0 (flip_Log.l0 kq a0 x4_1 = some (r1, r2)) ∧ Aside0 (kq ≤ k) ∧ Drawn0 w w')
  case atStart => exact ⟨(2), (by first | rfl | (simp; done) | (simp [*]; done)), H', ⟨Nat.le_refl _⟩, by repeat (first | exact Drawn0.refl _ | apply Drawn0.step)⟩
  case round =>
    clear H'
    obtain ⟨x4_1, rfl, HA, HK1, ⟨m1, rfl⟩⟩ := hrel
    cases gk with
    | zero => exact absurd HA.out (by simp [flip_Log.l0])
    | succ k1 =>
      have H := HA.out
      clear HA
      simp only [flip_Log.l0] at H
      by_cases c2 : x4_1 ≤ 6
      · rw [if_pos c2] at H
        have c2b0 : decide (x4_1 ≤ 6) = true := decide_eq_true c2
        clear c2
        by_cases c3 : 0 ≤ x4_1
        · rw [if_pos c3] at H
          have c3b0 := eq_true c3
          have c3b1 : decide (0 ≤ x4_1) = true := decide_eq_true c3
          clear c3
          obtain ⟨ji4, hji4⟩ : ∃ j_ : Int, (shl .i64 1 x4_1) = j_ := ⟨_, rfl⟩
          replace H : (if a0 = (ji4) then (some (x4_1, 0)) else (flip_Log.l0 k1 a0 (wrap64 (x4_1 + 1)))) = some (r1, r2) := by first | (rw [hji4] at H; exact H) | (simp only [hji4] at H ⊢; exact H)
          have hji4_ : (IntKind.i64.wrap (1 * 2 ^ min x4_1.toNat 64)) = ji4 := hji4
          have hji4z : x4_1 ≤ 64 → (IntKind.i64.wrap (1 * 2 ^ x4_1.toNat)) = ji4 := shl_small hji4
          have hji4u : (IntKind.i64.wrap (2 ^ min x4_1.toNat 64)) = ji4 := by have h_ := hji4_; rw [Int.one_mul] at h_; exact h_
          have hji4v : x4_1 ≤ 64 → (IntKind.i64.wrap (2 ^ x4_1.toNat)) = ji4 := fun hle_ => by have h_ := hji4z hle_; rw [Int.one_mul] at h_; exact h_
          have hji4y : (wrap64 (1 * 2 ^ min x4_1.toNat 64)) = ji4 := (i64_w _).symm.trans hji4_
          have hji4x : x4_1 ≤ 64 → (wrap64 (1 * 2 ^ x4_1.toNat)) = ji4 := fun h_ => (i64_w _).symm.trans (hji4z h_)
          by_cases c5 : a0 = (ji4)
          · rw [if_pos c5] at H
            have c5b0 : (a0 == (ji4)) = true := beq_iff_eq.mpr c5
            have c5b1 : (a0 != (ji4)) = false := bne_eq_false_iff_eq.mpr c5
            clear c5
            simp only [Option.some.injEq, Prod.mk.injEq] at H
            obtain ⟨rfl, rfl⟩ := H
            go_wp2
            go_ret2
            exact ⟨by first | rfl | (simp; done) | (simp only [← hji4] <;> (first | rfl | simp)) | (simp [*]; done), by repeat (first | exact Drawn0.refl _ | apply Drawn0.step)⟩
          · rw [if_neg c5] at H
            have c5b0 : (a0 == (ji4)) = false := beq_eq_false_iff_ne.mpr c5
            have c5b1 : (a0 != (ji4)) = true := bne_iff_ne.mpr c5
            have H' := Aside0.mk H
            clear H
            go_wp2
            go_roundg k1
            case measure => have := HK1.out; omega
            case rel => exact ⟨(wrap64 (x4_1 + 1)), (by first | rfl | (simp; done) | (simp [*]; done)), H', ⟨by have := HK1.out; omega⟩, by repeat (first | exact Drawn0.refl _ | apply Drawn0.step)⟩
        · rw [if_neg c3] at H
          exact absurd H (by simp)
      · rw [if_neg c2] at H
        have c2b0 : decide (x4_1 ≤ 6) = false := decide_eq_false c2
        clear c2
        simp only [Option.some.injEq, Prod.mk.injEq] at H
        obtain ⟨rfl, rfl⟩ := H
        go_wp2
        go_ret2
        exact ⟨by first | rfl | (simp; done) | (simp [*]; done), by repeat (first | exact Drawn0.refl _ | apply Drawn0.step)⟩

end Go.Proofs.Ytpmkkidljmedaaa.X
namespace Go.Proofs.Ytpmkkidljmedaaa.X
open Go.RowKit Go.Proofs.YtpmkkidljmedaaaW.PrintWords Go.Proofs.YtpmkkidljmedaaaW.PrintLast Go.Proofs.YtpmkkidljmedaaaW.PrintMore
attribute [local go_sem] max2_int min2_int max_two min_two max_three min_three max_four min_four   -- for this text's walks alone
set_option linter.unusedVariables false
set_option linter.unusedSimpArgs false

/-! ### scan_greatest: function 85 -/
def scan_greatest.l0 : Nat → Int → List Int → Int → Int → Option (Int)
  | 0, _, _, _, _ => none
  | k + 1, x3, x6, x7, x8 => if x8 < x7 then (if 0 ≤ x8 then (if x8 < (x6.length : Int) then (scan_greatest.l0 k (mx (mx x3 (rd x6 x8)) (wrap64 (-(rd x6 x8)))) x6 x7 (wrap64 (x8 + 1))) else (none)) else (none)) else (some x3)
def scan_greatest.f (k : Nat) (l0 : List Int) : Option (Int) := scan_greatest.l0 k 0 l0 (l0.length : Int) 0
theorem scan_greatest.mono_l : ∀ k, (∀ y0 y1 y2 y3, LeO (scan_greatest.l0 k y0 y1 y2 y3) (scan_greatest.l0 (k + 1) y0 y1 y2 y3))
  | 0 => fun _ _ _ _ r h => by simp [scan_greatest.l0] at h
  | k + 1 => by
    have ih0 := scan_greatest.mono_l k
    · intro y0 y1 y2 y3
      unfold scan_greatest.l0
      repeat' first
      | (with_reducible exact ih0 _ _ _ _)
      | (with_reducible exact LeO.refl _)
      | (with_reducible exact LeO.none _)
      | (with_reducible refine LeO.ite ?_ ?_)
      | (with_reducible refine LeO.bind ?_ (fun _ => ?_))
      | exact ih0 _ _ _ _
      | exact LeO.none _
      | refine LeO.ite ?_ ?_
      | refine LeO.bind ?_ (fun _ => ?_)
theorem scan_greatest.mono : ∀ a0 k, LeO (scan_greatest.f k a0) (scan_greatest.f (k + 1) a0) := by
  intro a0 k
  have ih0 := scan_greatest.mono_l k
  unfold scan_greatest.f
  repeat' first
      | (with_reducible exact ih0 _ _ _ _)
      | (with_reducible exact LeO.refl _)
      | (with_reducible exact LeO.none _)
      | (with_reducible refine LeO.ite ?_ ?_)
      | (with_reducible refine LeO.bind ?_ (fun _ => ?_))
      | exact ih0 _ _ _ _
      | exact LeO.none _
      | refine LeO.ite ?_ ?_
      | refine LeO.bind ?_ (fun _ => ?_)
set_option maxHeartbeats 8000000 in
set_option maxRecDepth 100000 in
theorem scan_greatest.calls (k : Nat) (A0 : Option Addr) (c0 : Nat) (l0 : List Int) (r : Int) (w : World) (hr0 : Kd.C (Kd.int .i64) w A0 l0.length l0) (hc0 : l0.length ≤ c0) (h : scan_greatest.f k l0 = some r) :
    Calls Try.prog 85 #[.slice A0 l0.length c0] w fun e w' => e = .returned (.int .i64 r) ∧ Below w.heap.size w w' := by
  have HR0 := Aside0.mk hr0
  have HC0 := Aside0.mk hc0
  clear hr0 hc0
  have HB := Aside0.mk (Below.refl w.heap.size w)
  have H : (scan_greatest.l0 k 0 l0 (l0.length : Int) 0) = some r := h
  clear h
  have H' := Aside0.mk H
  clear H
  go_enter Try.func85, Try.ntmps85
  go_wp2
  go_loopg [3, 8] k (fun kq v3 v8 w' => ∃ (x3_1 : Int) (x8_1 : Int), v3 = .int .i64 x3_1 ∧ v8 = .int .i64 x8_1 ∧ Aside0 (scan_greatest.l0 kq x3_1 l0 (l0.length : Int) x8_1 = some r) ∧ Aside0 (kq ≤ k) ∧ Aside0 (Below w.heap.size w w'))
  case atStart => exact ⟨(0), (0), (by first | rfl | (simp; done) | (simp [*]; done)), (by first | rfl | (simp; done) | (simp [*]; done)), H', ⟨Nat.le_refl _⟩, ⟨by repeat (first | (with_reducible first | exact HB.out | apply below_alloc | apply pw_below_drewN | apply below_drew1) | exact HB.out)⟩⟩
  case round =>
    clear H'
    obtain ⟨x3_1, x8_1, rfl, rfl, HA, HK1, HB⟩ := hrel
    cases gk with
    | zero => exact absurd HA.out (by simp [scan_greatest.l0])
    | succ k1 =>
      have H := HA.out
      clear HA
      simp only [scan_greatest.l0] at H
      by_cases c2 : x8_1 < (l0.length : Int)
      · rw [if_pos c2] at H
        have c2b0 : decide (x8_1 < (l0.length : Int)) = true := decide_eq_true c2
        clear c2
        by_cases c3 : 0 ≤ x8_1
        · rw [if_pos c3] at H
          have c3b0 : decide (0 ≤ x8_1) = true := decide_eq_true c3
          clear c3
          by_cases c4 : x8_1 < (l0.length : Int)
          · rw [if_pos c4] at H
            have c4b0 : decide (x8_1 < (l0.length : Int)) = true := decide_eq_true c4
            clear c4
            obtain ⟨ji5, hji5⟩ : ∃ j_ : Int, (mx x3_1 (rd l0 x8_1)) = j_ := ⟨_, rfl⟩
            replace H : (scan_greatest.l0 k1 (mx (ji5) (wrap64 (-(rd l0 x8_1)))) l0 (l0.length : Int) (wrap64 (x8_1 + 1))) = some r := by first | (rw [hji5] at H; exact H) | (simp only [hji5] at H ⊢; exact H)
            have hji5_ : (if x3_1 < (rd l0 x8_1) then (rd l0 x8_1) else x3_1) = ji5 := hji5
            obtain ⟨ji6, hji6⟩ : ∃ j_ : Int, (mx (ji5) (wrap64 (-(rd l0 x8_1)))) = j_ := ⟨_, rfl⟩
            replace H : (scan_greatest.l0 k1 ji6 l0 (l0.length : Int) (wrap64 (x8_1 + 1))) = some r := by first | (rw [hji6] at H; exact H) | (simp only [hji6] at H ⊢; exact H)
            have hji6_ : (if (ji5) < (wrap64 (-(rd l0 x8_1))) then (wrap64 (-(rd l0 x8_1))) else (ji5)) = ji6 := hji6
            have H' := Aside0.mk H
            clear H
            have p1 : 0 ≤ (x8_1 : Int) := of_decide_eq_true (by first | (with_reducible assumption) | assumption)
            have q1 : x8_1 < (l0.length : Int) := of_decide_eq_true (by first | (with_reducible assumption) | assumption)
            obtain ⟨ad1, e1, hx1_0⟩ := Kd.at_int HR0.out x8_1 p1 q1
            cases e1
            replace hx1_0 := (HB.out.cell (World.block_lt_of_cell? w _ hx1_0)).trans hx1_0
            replace p1 := eq_true p1
            replace q1 := eq_true q1
            go_wp2
            go_roundg k1
            case measure => have := HK1.out; omega
            case rel => exact ⟨(ji6), (wrap64 (x8_1 + 1)), (by first | rfl | (simp; done) | (simp only [← hji6] <;> (first | rfl | simp)) | (simp [*]; done)), (by first | rfl | (simp; done) | (simp [*]; done)), H', ⟨by have := HK1.out; omega⟩, ⟨by repeat (first | (with_reducible first | exact HB.out | apply below_alloc | apply pw_below_drewN | apply below_drew1) | exact HB.out)⟩⟩
          · rw [if_neg c4] at H
            exact absurd H (by simp)
        · rw [if_neg c3] at H
          exact absurd H (by simp)
      · rw [if_neg c2] at H
        have c2b0 : decide (x8_1 < (l0.length : Int)) = false := decide_eq_false c2
        clear c2
        obtain rfl := Option.some.inj H
        go_wp2
        go_ret
        exact ⟨by first | rfl | (simp [errW_none, errW_some] <;> rfl) | (simp [*, errW_none, errW_some] <;> rfl), by repeat (first | (with_reducible first | exact HB.out | apply below_alloc | apply pw_below_drewN | apply below_drew1) | exact HB.out)⟩

end Go.Proofs.Ytpmkkidljmedaaa.X
namespace Go.Proofs.Ytpmkkidljmedaaa.X
open Go.RowKit Go.Proofs.YtpmkkidljmedaaaW.PrintWords Go.Proofs.YtpmkkidljmedaaaW.PrintLast Go.Proofs.YtpmkkidljmedaaaW.PrintMore
attribute [local go_sem] max2_int min2_int max_two min_two max_three min_three max_four min_four   -- for this text's walks alone
set_option linter.unusedVariables false
set_option linter.unusedSimpArgs false

/-! ### scan_Max: function 49 -/
def scan_Max.l0 : Nat → Int → List (S41) → Int → Int → Option (Int × Int)
  | 0, _, _, _, _ => none
  | k + 1, x4, x7, x8, x9 => if x9 < x8 then (if 0 ≤ x9 then (if x9 < (x7.length : Int) then (if (mn ((rd_T41 x7 x9).f0) ((rd_T41 x7 x9).f1)) < (-2147483648) then (some (0, 2)) else (if (mx ((rd_T41 x7 x9).f0) ((rd_T41 x7 x9).f1)) > 2147483648 then (some (0, 2)) else ((scan_greatest.f k (([x4, (rd_T41 x7 x9).f0, (rd_T41 x7 x9).f1] : List Int))).bind fun t6 => (scan_Max.l0 k t6 x7 x8 (wrap64 (x9 + 1)))))) else (none)) else (none)) else (some (x4, 0))
def scan_Max.f (k : Nat) (l0 : List (S41)) : Option (Int × Int) := scan_Max.l0 k 0 l0 (l0.length : Int) 0
theorem scan_Max.mono_l : ∀ k, (∀ y0 y1 y2 y3, LeO (scan_Max.l0 k y0 y1 y2 y3) (scan_Max.l0 (k + 1) y0 y1 y2 y3))
  | 0 => fun _ _ _ _ r h => by simp [scan_Max.l0] at h
  | k + 1 => by
    have ih0 := scan_Max.mono_l k
    · intro y0 y1 y2 y3
      unfold scan_Max.l0
      repeat' first
      | (with_reducible exact ih0 _ _ _ _)
      | (with_reducible exact scan_greatest.mono _ _)
      | (with_reducible exact LeO.refl _)
      | (with_reducible exact LeO.none _)
      | (with_reducible refine LeO.ite ?_ ?_)
      | (with_reducible refine LeO.bind ?_ (fun _ => ?_))
      | exact ih0 _ _ _ _
      | exact scan_greatest.mono _ _
      | exact LeO.none _
      | refine LeO.ite ?_ ?_
      | refine LeO.bind ?_ (fun _ => ?_)
theorem scan_Max.mono : ∀ a0 k, LeO (scan_Max.f k a0) (scan_Max.f (k + 1) a0) := by
  intro a0 k
  have ih0 := scan_Max.mono_l k
  unfold scan_Max.f
  repeat' first
      | (with_reducible exact ih0 _ _ _ _)
      | (with_reducible exact scan_greatest.mono _ _)
      | (with_reducible exact LeO.refl _)
      | (with_reducible exact LeO.none _)
      | (with_reducible refine LeO.ite ?_ ?_)
      | (with_reducible refine LeO.bind ?_ (fun _ => ?_))
      | exact ih0 _ _ _ _
      | exact scan_greatest.mono _ _
      | exact LeO.none _
      | refine LeO.ite ?_ ?_
      | refine LeO.bind ?_ (fun _ => ?_)
set_option maxHeartbeats 8000000 in
set_option maxRecDepth 100000 in
theorem scan_Max.calls (k : Nat) (A0 : Option Addr) (c0 : Nat) (l0 : List (S41)) (r1 : Int) (r2 : Int) (w : World) (hr0 : Kd.C k41 w A0 l0.length l0) (hc0 : l0.length ≤ c0) (h : scan_Max.f k l0 = some (r1, r2)) :
    Calls Try.prog 49 #[.slice A0 l0.length c0] w fun e w' => e = .returned (.tuple #[.int .i64 r1, .int .i64 r2]) ∧ Below w.heap.size w w' := by
  have hu41 := Try.underlying41
  have HR0 := Aside0.mk hr0
  have HC0 := Aside0.mk hc0
  clear hr0 hc0
  have HB := Aside0.mk (Below.refl w.heap.size w)
  have H : (scan_Max.l0 k 0 l0 (l0.length : Int) 0) = some (r1, r2) := h
  clear h
  have H' := Aside0.mk H
  clear H
  go_enter Try.func49, Try.ntmps49
  go_wp2
  go_loopg [4, 9] k (fun kq v4 v9 w' => ∃ (x4_1 : Int) (x9_1 : Int), v4 = .int .i64 x4_1 ∧ v9 = .int .i64 x9_1 ∧ Aside0 (scan_Max.l0 kq x4_1 l0 (l0.length : Int) x9_1 = some (r1, r2)) ∧ Aside0 (kq ≤ k) ∧ Aside0 (Below w.heap.size w w'))
  case atStart => exact ⟨(0), (0), (by first | rfl | (simp; done) | (simp [*]; done)), (by first | rfl | (simp; done) | (simp [*]; done)), H', ⟨Nat.le_refl _⟩, ⟨by repeat (first | (with_reducible first | exact HB.out | apply below_alloc | apply pw_below_drewN | apply below_drew1) | exact HB.out)⟩⟩
  case round =>
    clear H'
    obtain ⟨x4_1, x9_1, rfl, rfl, HA, HK1, HB⟩ := hrel
    cases gk with
    | zero => exact absurd HA.out (by simp [scan_Max.l0])
    | succ k1 =>
      have H := HA.out
      clear HA
      simp only [scan_Max.l0] at H
      by_cases c2 : x9_1 < (l0.length : Int)
      · rw [if_pos c2] at H
        have c2b0 : decide (x9_1 < (l0.length : Int)) = true := decide_eq_true c2
        clear c2
        by_cases c3 : 0 ≤ x9_1
        · rw [if_pos c3] at H
          have c3b0 : decide (0 ≤ x9_1) = true := decide_eq_true c3
          clear c3
          by_cases c4 : x9_1 < (l0.length : Int)
          · rw [if_pos c4] at H
            have c4b0 : decide (x9_1 < (l0.length : Int)) = true := decide_eq_true c4
            clear c4
            obtain ⟨ji5, hji5⟩ : ∃ j_ : Int, (mn ((rd_T41 l0 x9_1).f0) ((rd_T41 l0 x9_1).f1)) = j_ := ⟨_, rfl⟩
            replace H : (if (ji5) < (-2147483648) then (some (0, 2)) else (if (mx ((rd_T41 l0 x9_1).f0) ((rd_T41 l0 x9_1).f1)) > 2147483648 then (some (0, 2)) else ((scan_greatest.f k1 (([x4_1, (rd_T41 l0 x9_1).f0, (rd_T41 l0 x9_1).f1] : List Int))).bind fun t6 => (scan_Max.l0 k1 t6 l0 (l0.length : Int) (wrap64 (x9_1 + 1)))))) = some (r1, r2) := by first | (rw [hji5] at H; exact H) | (simp only [hji5] at H ⊢; exact H)
            have hji5_ : (if ((rd_T41 l0 x9_1).f1) < ((rd_T41 l0 x9_1).f0) then ((rd_T41 l0 x9_1).f1) else ((rd_T41 l0 x9_1).f0)) = ji5 := hji5
            by_cases c6 : (ji5) < (-2147483648)
            · rw [if_pos c6] at H
              have c6b0 : decide ((ji5) < (-2147483648)) = true := decide_eq_true c6
              clear c6
              simp only [Option.some.injEq, Prod.mk.injEq] at H
              obtain ⟨rfl, rfl⟩ := H
              have p1 : 0 ≤ (x9_1 : Int) := of_decide_eq_true (by first | (with_reducible assumption) | assumption)
              have q1 : x9_1 < (l0.length : Int) := of_decide_eq_true (by first | (with_reducible assumption) | assumption)
              obtain ⟨ad1, e1, hx1_0, hx1_1⟩ := at_T41 HR0.out x9_1 p1 q1
              cases e1
              replace hx1_0 := (HB.out.cell (World.block_lt_of_cell? w _ hx1_0)).trans hx1_0
              replace hx1_1 := (HB.out.cell (World.block_lt_of_cell? w _ hx1_1)).trans hx1_1
              replace p1 := eq_true p1
              replace q1 := eq_true q1
              go_wp2_with (first | ((with_reducible refine gate_dst (N := 6) rfl ?_); (try (refine gate_guard (by rfl) ?_; dsimp only)); refine box_event ?hg (N := 6) ?hd (cs := #[.int .i64 0, .int .i64 0]) (t := 41) ?hr ?_; (case hd => rfl); (case hg => rfl); (case hr => first | (go_simp; done) | (go_simp; rfl)); intro gb2 hg w7 hbox hb; have n0_ := Aside0.mk (below_step (by repeat (first | (with_reducible first | exact HB.out | apply below_alloc | apply pw_below_drewN | apply below_drew1) | exact HB.out)) hb); have n1_ := Aside0.mk (hbox); have n2_ := Aside0.mk ((by rw [hg]; exact (below_size (by repeat (first | (with_reducible first | exact HB.out | apply below_alloc | apply pw_below_drewN | apply below_drew1) | exact HB.out))) : w.heap.size ≤ gb2)); have n3_ := Aside0.mk ((by rw [hg]; exact (below_size (by repeat (first | (with_reducible first | exact HB.out | apply below_alloc | apply pw_below_drewN | apply below_drew1) | exact HB.out))) : w.heap.size ≤ gb2)); clear HB; have HB := n0_; have BK2 := n1_; have GW2 := n2_; have GE2 := n3_; clear n0_ n1_ n2_ n3_; clear hb hbox hg; have hcz8_0 : w7.cell? ⟨gb2, 0, none⟩ = some (.int .i64 0) := (blk_cell BK2.out 0).trans rfl; have hcz8_1 : w7.cell? ⟨gb2, 1, none⟩ = some (.int .i64 0) := (blk_cell BK2.out 1).trans rfl; have hfz8_0 := blk_frozen BK2.out 0; have hfz8_1 := blk_frozen BK2.out 1))
              go_ret2
              exact ⟨by first | rfl | (simp [errW_none, errW_some] <;> rfl) | (simp only [← hji5]; first | rfl | (simp [errW_none, errW_some] <;> rfl)) | (simp [*, errW_none, errW_some] <;> rfl), by repeat (first | (with_reducible first | exact HB.out | apply below_alloc | apply pw_below_drewN | apply below_drew1 | refine below_set ?_ GE2.out) | exact HB.out)⟩
            · rw [if_neg c6] at H
              have c6b0 : decide ((ji5) < (-2147483648)) = false := decide_eq_false c6
              clear c6
              obtain ⟨ji9, hji9⟩ : ∃ j_ : Int, (mx ((rd_T41 l0 x9_1).f0) ((rd_T41 l0 x9_1).f1)) = j_ := ⟨_, rfl⟩
              replace H : (if (ji9) > 2147483648 then (some (0, 2)) else ((scan_greatest.f k1 (([x4_1, (rd_T41 l0 x9_1).f0, (rd_T41 l0 x9_1).f1] : List Int))).bind fun t6 => (scan_Max.l0 k1 t6 l0 (l0.length : Int) (wrap64 (x9_1 + 1))))) = some (r1, r2) := by first | (rw [hji9] at H; exact H) | (simp only [hji9] at H ⊢; exact H)
              have hji9_ : (if ((rd_T41 l0 x9_1).f0) < ((rd_T41 l0 x9_1).f1) then ((rd_T41 l0 x9_1).f1) else ((rd_T41 l0 x9_1).f0)) = ji9 := hji9
              by_cases c10 : (ji9) > 2147483648
              · rw [if_pos c10] at H
                have c10b0 : decide (2147483648 < (ji9)) = true := decide_eq_true c10
                clear c10
                simp only [Option.some.injEq, Prod.mk.injEq] at H
                obtain ⟨rfl, rfl⟩ := H
                have p1 : 0 ≤ (x9_1 : Int) := of_decide_eq_true (by first | (with_reducible assumption) | assumption)
                have q1 : x9_1 < (l0.length : Int) := of_decide_eq_true (by first | (with_reducible assumption) | assumption)
                obtain ⟨ad1, e1, hx1_0, hx1_1⟩ := at_T41 HR0.out x9_1 p1 q1
                cases e1
                replace hx1_0 := (HB.out.cell (World.block_lt_of_cell? w _ hx1_0)).trans hx1_0
                replace hx1_1 := (HB.out.cell (World.block_lt_of_cell? w _ hx1_1)).trans hx1_1
                replace p1 := eq_true p1
                replace q1 := eq_true q1
                go_wp2_with (first | ((with_reducible refine gate_dst (N := 6) rfl ?_); (try (refine gate_guard (by rfl) ?_; dsimp only)); refine box_event ?hg (N := 6) ?hd (cs := #[.int .i64 0, .int .i64 0]) (t := 41) ?hr ?_; (case hd => rfl); (case hg => rfl); (case hr => first | (go_simp; done) | (go_simp; rfl)); intro gb2 hg w11 hbox hb; have n0_ := Aside0.mk (below_step (by repeat (first | (with_reducible first | exact HB.out | apply below_alloc | apply pw_below_drewN | apply below_drew1) | exact HB.out)) hb); have n1_ := Aside0.mk (hbox); have n2_ := Aside0.mk ((by rw [hg]; exact (below_size (by repeat (first | (with_reducible first | exact HB.out | apply below_alloc | apply pw_below_drewN | apply below_drew1) | exact HB.out))) : w.heap.size ≤ gb2)); have n3_ := Aside0.mk ((by rw [hg]; exact (below_size (by repeat (first | (with_reducible first | exact HB.out | apply below_alloc | apply pw_below_drewN | apply below_drew1) | exact HB.out))) : w.heap.size ≤ gb2)); clear HB; have HB := n0_; have BK2 := n1_; have GW2 := n2_; have GE2 := n3_; clear n0_ n1_ n2_ n3_; clear hb hbox hg; have hcz12_0 : w11.cell? ⟨gb2, 0, none⟩ = some (.int .i64 0) := (blk_cell BK2.out 0).trans rfl; have hcz12_1 : w11.cell? ⟨gb2, 1, none⟩ = some (.int .i64 0) := (blk_cell BK2.out 1).trans rfl; have hfz12_0 := blk_frozen BK2.out 0; have hfz12_1 := blk_frozen BK2.out 1))
                go_ret2
                exact ⟨by first | rfl | (simp [errW_none, errW_some] <;> rfl) | (simp only [← hji5, ← hji9]; first | rfl | (simp [errW_none, errW_some] <;> rfl)) | (simp [*, errW_none, errW_some] <;> rfl), by repeat (first | (with_reducible first | exact HB.out | apply below_alloc | apply pw_below_drewN | apply below_drew1 | refine below_set ?_ GE2.out) | exact HB.out)⟩
              · rw [if_neg c10] at H
                have c10b0 : decide (2147483648 < (ji9)) = false := decide_eq_false c10
                clear c10
                obtain ⟨y3, hy3⟩ : ∃ y_ : List Int, y_ = (([x4_1, (rd_T41 l0 x9_1).f0, (rd_T41 l0 x9_1).f1] : List Int)) := ⟨_, rfl⟩
                replace H : ((scan_greatest.f k1 y3).bind fun t6 => (scan_Max.l0 k1 t6 l0 (l0.length : Int) (wrap64 (x9_1 + 1)))) = some (r1, r2) := by first | (rw [hy3]; with_reducible exact H) | (have H2_ := (Option.bind_some _ _).symm.trans H; rw [hy3]; with_reducible exact H2_) | (have H2_ := (Option.bind_some _ _).symm.trans H; with_reducible exact H2_) | with_reducible exact H | (rw [hy3]; exact H) | exact H
                have Ny3 := Aside0.mk hy3
                clear hy3
                replace H := Option.bind_eq_some_iff.mp H
                obtain ⟨t6, A130, H⟩ := H
                replace H : (scan_Max.l0 k1 t6 l0 (l0.length : Int) (wrap64 (x9_1 + 1))) = some (r1, r2) := H
                have A13 := Aside0.mk A130
                clear A130
                have H' := Aside0.mk H
                clear H
                have p1 : 0 ≤ (x9_1 : Int) := of_decide_eq_true (by first | (with_reducible assumption) | assumption)
                have q1 : x9_1 < (l0.length : Int) := of_decide_eq_true (by first | (with_reducible assumption) | assumption)
                obtain ⟨ad1, e1, hx1_0, hx1_1⟩ := at_T41 HR0.out x9_1 p1 q1
                cases e1
                replace hx1_0 := (HB.out.cell (World.block_lt_of_cell? w _ hx1_0)).trans hx1_0
                replace hx1_1 := (HB.out.cell (World.block_lt_of_cell? w _ hx1_1)).trans hx1_1
                replace p1 := eq_true p1
                replace q1 := eq_true q1
                go_wp2_with (first | ((with_reducible refine gate_dst (N := 6) rfl ?_); (try (refine gate_guard (by rfl) ?_; dsimp only)); refine box_event ?hg (N := 6) ?hd (cs := #[.int .i64 0, .int .i64 0]) (t := 41) ?hr ?_; (case hd => rfl); (case hg => rfl); (case hr => first | (go_simp; done) | (go_simp; rfl)); intro gb2 hg w14 hbox hb; have n0_ := Aside0.mk (below_step (by repeat (first | (with_reducible first | exact HB.out | apply below_alloc | apply pw_below_drewN | apply below_drew1) | exact HB.out)) hb); have n1_ := Aside0.mk (hbox); have n2_ := Aside0.mk ((by rw [hg]; exact (below_size (by repeat (first | (with_reducible first | exact HB.out | apply below_alloc | apply pw_below_drewN | apply below_drew1) | exact HB.out))) : w.heap.size ≤ gb2)); have n3_ := Aside0.mk ((by rw [hg]; exact (below_size (by repeat (first | (with_reducible first | exact HB.out | apply below_alloc | apply pw_below_drewN | apply below_drew1) | exact HB.out))) : w.heap.size ≤ gb2)); clear HB; have HB := n0_; have BK2 := n1_; have GW2 := n2_; have GE2 := n3_; clear n0_ n1_ n2_ n3_; clear hb hbox hg; have hcz15_0 : w14.cell? ⟨gb2, 0, none⟩ = some (.int .i64 0) := (blk_cell BK2.out 0).trans rfl; have hcz15_1 : w14.cell? ⟨gb2, 1, none⟩ = some (.int .i64 0) := (blk_cell BK2.out 1).trans rfl; have hfz15_0 := blk_frozen BK2.out 0; have hfz15_1 := blk_frozen BK2.out 1) | ((with_reducible refine gate_dst (N := 32) rfl ?_); (try (refine gate_guard (by rfl) ?_; dsimp only)); refine Kd.R_lit (Kd.int .i64) _ 3 ?hg (N := 32) ?hd (xs := ([x4_1, (rd_T41 l0 x9_1).f0, (rd_T41 l0 x9_1).f1] : List Int)) (inner := [.int .i64 x4_1, .int .i64 ((rd_T41 l0 x9_1).f0), .int .i64 ((rd_T41 l0 x9_1).f1)]) (ok := fun _ => True) (okp := fun _ => True) ?hr ?hp (fun _ hk => hk) trivial (Below.refl _ _) (Nat.le_refl _) (by simp) ?_; (case hd => rfl); (case hg => rfl); (case hr => first | (go_simp; done) | (go_simp; rfl)); (case hp => exact (Reps.one (show Kd.M (Kd.int .i64) _ _ _ x4_1 [.int .i64 x4_1] from rfl) (Reps.one (show Kd.M (Kd.int .i64) _ _ _ ((rd_T41 l0 x9_1).f0) [.int .i64 ((rd_T41 l0 x9_1).f0)] from rfl) (Reps.one (show Kd.M (Kd.int .i64) _ _ _ ((rd_T41 l0 x9_1).f1) [.int .i64 ((rd_T41 l0 x9_1).f1)] from rfl) (Reps.none _ _))))); intro v4 w16 ho17 hb hg_ hnew_; clear hg_ hnew_; (first | rw [← Ny3.out] at ho17 | (simp only [Int.reduceToNat] at ho17; rw [← Ny3.out] at ho17)); have n0_ := Aside0.mk (Kd.R_lower ho17 (below_size (by repeat (first | (with_reducible first | exact HB.out | apply below_alloc | apply pw_below_drewN | apply below_drew1 | refine below_set ?_ GE2.out) | exact HB.out)))); have n1_ := Aside0.mk (blk_below (g := gb2) (o := .cells #[.int .i64 ((rd_T41 l0 x9_1).f0), .int .i64 ((rd_T41 l0 x9_1).f1)] 41 (0, 0)) (by (with_reducible repeat (first | refine blk_drewN ?_ _ | refine blk_drew ?_ | refine blk_alloc ?_ _)); refine blk_put (cs := #[.int .i64 ((rd_T41 l0 x9_1).f0), .int .i64 0]) ?_ 1 _ rfl; (with_reducible repeat (first | refine blk_drewN ?_ _ | refine blk_drew ?_ | refine blk_alloc ?_ _)); refine blk_put (cs := #[.int .i64 0, .int .i64 0]) ?_ 0 _ rfl; (with_reducible repeat (first | refine blk_drewN ?_ _ | refine blk_drew ?_ | refine blk_alloc ?_ _)); exact BK2.out) hb); have n2_ := Aside0.mk (below_step (by repeat (first | (with_reducible first | exact HB.out | apply below_alloc | apply pw_below_drewN | apply below_drew1 | refine below_set ?_ GE2.out) | exact HB.out)) hb); clear BK2; clear HB; have HO5 := n0_; have BK2 := n1_; have HB := n2_; clear n0_ n1_ n2_; clear hb ho17; obtain ⟨Ao18, co18, eo18⟩ := Kd.R_slice HO5.out; subst eo18) | ((with_reducible refine gate_callee (f := 85) rfl ?_); refine goesL_ (some 33) rfl rfl Try.func85 (by kernel_rfl) rfl #[.slice Ao18 y3.length co18] rfl (by (try simp only [List.map_toArray, List.map_cons, List.map_nil]); first | done | rfl | (simp only [List.length_drop, List.length_take]; rfl)) ?_; (with_reducible refine (scan_greatest.calls k1 _ _ y3 t6 _ ?side1 ?side2 A13.out).mono ?_); (case side1 => repeat (first | exact (Kd.R_reads' HO5.out).2.2 | (with_reducible refine Kd.C_alloc ?_ _) | (with_reducible refine Kd.C_drewN ?_ _) | (with_reducible refine Kd.C_drew ?_))); (case side2 => exact (Kd.R_reads' HO5.out).2.1); rintro e w19 ⟨rfl, hb⟩; refine ⟨_, rfl, ?_⟩; have n0_ := Aside0.mk (Kd.R_below (by (with_reducible repeat (first | apply Kd.R_alloc | apply Kd.R_drewN | apply Kd.R_drew)); exact HO5.out) hb); have n1_ := Aside0.mk (blk_below (g := gb2) (o := .cells #[.int .i64 ((rd_T41 l0 x9_1).f0), .int .i64 ((rd_T41 l0 x9_1).f1)] 41 (0, 0)) (by (with_reducible repeat (first | refine blk_drewN ?_ _ | refine blk_drew ?_ | refine blk_alloc ?_ _)); exact BK2.out) hb); have n2_ := Aside0.mk (below_step (by repeat (first | (with_reducible first | exact HB.out | apply below_alloc | apply pw_below_drewN | apply below_drew1 | refine below_set ?_ GE2.out) | exact HB.out)) hb); clear HO5; clear BK2; clear HB; have HO5 := n0_; have BK2 := n1_; have HB := n2_; clear n0_ n1_ n2_; (try clear hb); (try clear hb2); (try clear hk); (try clear hi)))
                go_roundg k1
                case measure => have := HK1.out; omega
                case rel => exact ⟨(t6), (wrap64 (x9_1 + 1)), (by first | rfl | (simp; done) | (simp [*]; done)), (by first | rfl | (simp; done) | (simp [*]; done)), H', ⟨by have := HK1.out; omega⟩, ⟨by repeat (first | (with_reducible first | exact HB.out | apply below_alloc | apply pw_below_drewN | apply below_drew1 | refine below_set ?_ GE2.out) | exact HB.out)⟩⟩
          · rw [if_neg c4] at H
            exact absurd H (by simp)
        · rw [if_neg c3] at H
          exact absurd H (by simp)
      · rw [if_neg c2] at H
        have c2b0 : decide (x9_1 < (l0.length : Int)) = false := decide_eq_false c2
        clear c2
        simp only [Option.some.injEq, Prod.mk.injEq] at H
        obtain ⟨rfl, rfl⟩ := H
        go_wp2
        go_ret2
        exact ⟨by first | rfl | (simp [errW_none, errW_some] <;> rfl) | (simp [*, errW_none, errW_some] <;> rfl), by repeat (first | (with_reducible first | exact HB.out | apply below_alloc | apply pw_below_drewN | apply below_drew1) | exact HB.out)⟩

end Go.Proofs.Ytpmkkidljmedaaa.X
namespace Go.Proofs.Ytpmkkidljmedaaa.X
open Go.RowKit Go.Proofs.YtpmkkidljmedaaaW.PrintWords Go.Proofs.YtpmkkidljmedaaaW.PrintLast Go.Proofs.YtpmkkidljmedaaaW.PrintMore
attribute [local go_sem] max2_int min2_int max_two min_two max_three min_three max_four min_four   -- for this text's walks alone
set_option linter.unusedVariables false
set_option linter.unusedSimpArgs false

/-! ### dft_may: function 35 -/
def dft_may.f (k : Nat) (l0 : List (S41)) : Option ((List (S41)) × Int) := (flip_Log.f k (l0.length : Int)).bind fun bt1 => (if bt1.2 = 0 then ((scan_Max.f k l0).bind fun bt3 => (if bt3.2 = 0 then ((roots_Table.f bt1.1 40).bind fun bt5 => (some (bt5.1, bt5.2))) else (some (([] : List (S41)), bt3.2)))) else (some (([] : List (S41)), bt1.2)))
theorem dft_may.mono : ∀ a0 k, LeO (dft_may.f k a0) (dft_may.f (k + 1) a0) := by
  intro a0 k
  unfold dft_may.f
  repeat' first
      | (with_reducible exact flip_Log.mono _ _)
      | (with_reducible exact scan_Max.mono _ _)
      | (with_reducible exact LeO.refl _)
      | (with_reducible exact LeO.none _)
      | (with_reducible refine LeO.ite ?_ ?_)
      | (with_reducible refine LeO.bind ?_ (fun _ => ?_))
      | exact flip_Log.mono _ _
      | exact scan_Max.mono _ _
      | exact LeO.none _
      | refine LeO.ite ?_ ?_
      | refine LeO.bind ?_ (fun _ => ?_)
set_option maxHeartbeats 8000000 in
set_option maxRecDepth 100000 in
theorem dft_may.calls (k : Nat) (A0 : Option Addr) (c0 : Nat) (l0 : List (S41)) (r1 : List (S41)) (r2 : Int) (w : World) (hr0 : Kd.C k41 w A0 l0.length l0) (hc0 : l0.length ≤ c0) (h : dft_may.f k l0 = some (r1, r2)) :
    Calls Try.prog 35 #[.slice A0 l0.length c0] w fun e w' => ∃ v0_ : Value, e = .returned (.tuple #[v0_, .int .i64 r2]) ∧ Kd.R k41 41 w' w.heap.size (fun _ => True) v0_ r1 ∧ Below w.heap.size w w' := by
  have HR0 := Aside0.mk hr0
  have HC0 := Aside0.mk hc0
  clear hr0 hc0
  have HB := Aside0.mk (Below.refl w.heap.size w)
  have H : ((flip_Log.f k (l0.length : Int)).bind fun bt1 => (if bt1.2 = 0 then ((scan_Max.f k l0).bind fun bt3 => (if bt3.2 = 0 then ((roots_Table.f bt1.1 40).bind fun bt5 => (some (bt5.1, bt5.2))) else (some (([] : List (S41)), bt3.2)))) else (some (([] : List (S41)), bt1.2)))) = some (r1, r2) := h
  clear h
  replace H := Option.bind_eq_some_iff.mp H
  obtain ⟨⟨t1, t2⟩, A20, H⟩ := H
  replace H : (if t2 = 0 then ((scan_Max.f k l0).bind fun bt3 => (if bt3.2 = 0 then ((roots_Table.f t1 40).bind fun bt5 => (some (bt5.1, bt5.2))) else (some (([] : List (S41)), bt3.2)))) else (some (([] : List (S41)), t2))) = some (r1, r2) := H
  have A2 := Aside0.mk A20
  clear A20
  by_cases c3 : t2 = 0
  · rw [if_pos c3] at H
    have c3b0 : (t2 == 0) = true := beq_iff_eq.mpr c3
    have c3b1 : (t2 != 0) = false := bne_eq_false_iff_eq.mpr c3
    clear c3
    replace H := Option.bind_eq_some_iff.mp H
    obtain ⟨⟨t3, t4⟩, A40, H⟩ := H
    replace H : (if t4 = 0 then ((roots_Table.f t1 40).bind fun bt5 => (some (bt5.1, bt5.2))) else (some (([] : List (S41)), t4))) = some (r1, r2) := H
    have A4 := Aside0.mk A40
    clear A40
    by_cases c5 : t4 = 0
    · rw [if_pos c5] at H
      have c5b0 : (t4 == 0) = true := beq_iff_eq.mpr c5
      have c5b1 : (t4 != 0) = false := bne_eq_false_iff_eq.mpr c5
      clear c5
      replace H := Option.bind_eq_some_iff.mp H
      obtain ⟨⟨t5, t6⟩, A60, H⟩ := H
      replace H : (some (t5, t6)) = some (r1, r2) := H
      have A6 := Aside0.mk A60
      clear A60
      simp only [Option.some.injEq, Prod.mk.injEq] at H
      obtain ⟨rfl, rfl⟩ := H
      go_enter Try.func35, Try.ntmps35
      go_wp2_with (first | ((with_reducible refine gate_callee (f := 40) rfl ?_); refine goesL_ (some 11) rfl rfl Try.func40 (by kernel_rfl) rfl #[.int .i64 (l0.length : Int)] rfl (by (try simp only [List.map_toArray, List.map_cons, List.map_nil]); first | done | rfl | (simp only [List.length_drop, List.length_take]; rfl)) ?_; (with_reducible refine (flip_Log.calls k (l0.length : Int) t1 t2 _ A2.out).mono ?_); rintro e w' ⟨rfl, ⟨nd, rfl⟩⟩; refine ⟨_, rfl, ?_⟩) | ((with_reducible refine gate_callee (f := 49) rfl ?_); refine goesL_ (some 19) rfl rfl Try.func49 (by kernel_rfl) rfl #[.slice A0 l0.length c0] rfl (by (try simp only [List.map_toArray, List.map_cons, List.map_nil]); first | done | rfl | (simp only [List.length_drop, List.length_take]; rfl)) ?_; (with_reducible refine (scan_Max.calls k _ _ l0 t3 t4 _ ?side1 ?side2 A4.out).mono ?_); (case side1 => repeat (first | exact HR0.out | (with_reducible refine Kd.C_alloc ?_ _) | (with_reducible refine Kd.C_drewN ?_ _) | (with_reducible refine Kd.C_drew ?_))); (case side2 => exact HC0.out); rintro e w7 ⟨rfl, hb⟩; refine ⟨_, rfl, ?_⟩; have n0_ := Aside0.mk (below_step (by repeat (first | (with_reducible first | exact HB.out | apply below_alloc | apply pw_below_drewN | apply below_drew1) | exact HB.out)) hb); clear HB; have HB := n0_; clear n0_; (try clear hb); (try clear hb2); (try clear hk); (try clear hi)) | ((with_reducible refine gate_callee (f := 70) rfl ?_); refine goesL_ (some 26) rfl rfl Try.func70 (by kernel_rfl) rfl #[.int .i64 t1, .int .i64 40] rfl (by (try simp only [List.map_toArray, List.map_cons, List.map_nil]); first | done | rfl | (simp only [List.length_drop, List.length_take]; rfl)) ?_; (with_reducible refine (roots_Table.calls t1 40 t5 t6 _ A6.out).mono ?_); rintro e w8 ⟨v7, rfl, ho0, hb⟩; refine ⟨_, rfl, ?_⟩; have n0_ := Aside0.mk (Kd.R_lower ho0 (below_size (by repeat (first | (with_reducible first | exact HB.out | apply below_alloc | apply pw_below_drewN | apply below_drew1) | exact HB.out)))); have n1_ := Aside0.mk (below_step (by repeat (first | (with_reducible first | exact HB.out | apply below_alloc | apply pw_below_drewN | apply below_drew1) | exact HB.out)) hb); clear HB; have HO8 := n0_; have HB := n1_; clear n0_ n1_; (try clear hb); (try clear hb2); (try clear hk); (try clear hi); (try clear ho0)))
      go_ret2
      exact ⟨_, by first | rfl | (simp [errW_none, errW_some] <;> rfl) | (simp [*, errW_none, errW_some] <;> rfl), by (with_reducible repeat (first | apply Kd.R_alloc | apply Kd.R_drewN | apply Kd.R_drew)); exact HO8.out, by repeat (first | (with_reducible first | exact HB.out | apply below_alloc | apply pw_below_drewN | apply below_drew1) | exact HB.out)⟩
    · rw [if_neg c5] at H
      have c5b0 : (t4 == 0) = false := beq_eq_false_iff_ne.mpr c5
      have c5b1 : (t4 != 0) = true := bne_iff_ne.mpr c5
      simp only [Option.some.injEq, Prod.mk.injEq] at H
      obtain ⟨rfl, rfl⟩ := H
      go_enter Try.func35, Try.ntmps35
      go_wp2_with (first | ((with_reducible refine gate_callee (f := 40) rfl ?_); refine goesL_ (some 11) rfl rfl Try.func40 (by kernel_rfl) rfl #[.int .i64 (l0.length : Int)] rfl (by (try simp only [List.map_toArray, List.map_cons, List.map_nil]); first | done | rfl | (simp only [List.length_drop, List.length_take]; rfl)) ?_; (with_reducible refine (flip_Log.calls k (l0.length : Int) t1 t2 _ A2.out).mono ?_); rintro e w' ⟨rfl, ⟨nd, rfl⟩⟩; refine ⟨_, rfl, ?_⟩) | ((with_reducible refine gate_callee (f := 49) rfl ?_); refine goesL_ (some 19) rfl rfl Try.func49 (by kernel_rfl) rfl #[.slice A0 l0.length c0] rfl (by (try simp only [List.map_toArray, List.map_cons, List.map_nil]); first | done | rfl | (simp only [List.length_drop, List.length_take]; rfl)) ?_; (with_reducible refine (scan_Max.calls k _ _ l0 t3 t4 _ ?side1 ?side2 A4.out).mono ?_); (case side1 => repeat (first | exact HR0.out | (with_reducible refine Kd.C_alloc ?_ _) | (with_reducible refine Kd.C_drewN ?_ _) | (with_reducible refine Kd.C_drew ?_))); (case side2 => exact HC0.out); rintro e w9 ⟨rfl, hb⟩; refine ⟨_, rfl, ?_⟩; have n0_ := Aside0.mk (below_step (by repeat (first | (with_reducible first | exact HB.out | apply below_alloc | apply pw_below_drewN | apply below_drew1) | exact HB.out)) hb); clear HB; have HB := n0_; clear n0_; (try clear hb); (try clear hb2); (try clear hk); (try clear hi)))
      go_ret2
      exact ⟨_, by first | rfl | (simp [errW_none, errW_some] <;> rfl) | (simp [*, errW_none, errW_some] <;> rfl), by first | exact Kd.R_nil _ _ _ _ _ | exact Kd.N_nil _ _ _ _ _ | exact Kd.V_nil _ _ _ _ _ | exact Kd.Q_nil _ _ _ _ _ | exact Kd.S_nil _ _ _ _ _, by repeat (first | (with_reducible first | exact HB.out | apply below_alloc | apply pw_below_drewN | apply below_drew1) | exact HB.out)⟩
  · rw [if_neg c3] at H
    have c3b0 : (t2 == 0) = false := beq_eq_false_iff_ne.mpr c3
    have c3b1 : (t2 != 0) = true := bne_iff_ne.mpr c3
    simp only [Option.some.injEq, Prod.mk.injEq] at H
    obtain ⟨rfl, rfl⟩ := H
    go_enter Try.func35, Try.ntmps35
    go_wp2_with (first | ((with_reducible refine gate_callee (f := 40) rfl ?_); refine goesL_ (some 11) rfl rfl Try.func40 (by kernel_rfl) rfl #[.int .i64 (l0.length : Int)] rfl (by (try simp only [List.map_toArray, List.map_cons, List.map_nil]); first | done | rfl | (simp only [List.length_drop, List.length_take]; rfl)) ?_; (with_reducible refine (flip_Log.calls k (l0.length : Int) t1 t2 _ A2.out).mono ?_); rintro e w' ⟨rfl, ⟨nd, rfl⟩⟩; refine ⟨_, rfl, ?_⟩))
    go_ret2
    exact ⟨_, by first | rfl | (simp [errW_none, errW_some] <;> rfl) | (simp [*, errW_none, errW_some] <;> rfl), by first | exact Kd.R_nil _ _ _ _ _ | exact Kd.N_nil _ _ _ _ _ | exact Kd.V_nil _ _ _ _ _ | exact Kd.Q_nil _ _ _ _ _ | exact Kd.S_nil _ _ _ _ _, by repeat (first | (with_reducible first | exact HB.out | apply below_alloc | apply pw_below_drewN | apply below_drew1) | exact HB.out)⟩

end Go.Proofs.Ytpmkkidljmedaaa.X
namespace Go.Proofs.Ytpmkkidljmedaaa.X
open Go.RowKit Go.Proofs.YtpmkkidljmedaaaW.PrintWords Go.Proofs.YtpmkkidljmedaaaW.PrintLast Go.Proofs.YtpmkkidljmedaaaW.PrintMore
attribute [local go_sem] max2_int min2_int max_two min_two max_three min_three max_four min_four   -- for this text's walks alone
set_option linter.unusedVariables false
set_option linter.unusedSimpArgs false

/-! ### dft_All: function 11 -/
def dft_All.l0 : Nat → List (S41) → Bool → List (S41) → List (S41) → Int → Int → Option ((List (S41)) × Int)
  | 0, _, _, _, _, _, _ => none
  | k + 1, x0, x1, x6, x8, x19, x20 => if x20 < x19 then ((dft_bin.f x0 x6 x20 x1).bind fun bt5 => (if x8.length < 8796093022208 then (dft_All.l0 k x0 x1 x6 (x8 ++ [(⟨bt5.1, bt5.2⟩ : S41)]) x19 (wrap64 (x20 + 1))) else (none))) else (some (x8, 0))
def dft_All.f (k : Nat) (l0 : List (S41)) (a1 : Bool) : Option ((List (S41)) × Int) := (dft_may.f k l0).bind fun bt1 => (if bt1.2 = 0 then (dft_All.l0 k l0 a1 bt1.1 ([] : List (S41)) (l0.length : Int) 0) else (some (([] : List (S41)), bt1.2)))
theorem dft_All.mono_l : ∀ k, (∀ y0 y1 y2 y3 y4 y5, LeO (dft_All.l0 k y0 y1 y2 y3 y4 y5) (dft_All.l0 (k + 1) y0 y1 y2 y3 y4 y5))
  | 0 => fun _ _ _ _ _ _ r h => by simp [dft_All.l0] at h
  | k + 1 => by
    have ih0 := dft_All.mono_l k
    · intro y0 y1 y2 y3 y4 y5
      unfold dft_All.l0
      repeat' first
      | (with_reducible exact ih0 _ _ _ _ _ _)
      | (with_reducible exact dft_may.mono _ _)
      | (with_reducible exact LeO.refl _)
      | (with_reducible exact LeO.none _)
      | (with_reducible refine LeO.ite ?_ ?_)
      | (with_reducible refine LeO.bind ?_ (fun _ => ?_))
      | exact ih0 _ _ _ _ _ _
      | exact dft_may.mono _ _
      | exact LeO.none _
      | refine LeO.ite ?_ ?_
      | refine LeO.bind ?_ (fun _ => ?_)
theorem dft_All.mono : ∀ a0 a1 k, LeO (dft_All.f k a0 a1) (dft_All.f (k + 1) a0 a1) := by
  intro a0 a1 k
  have ih0 := dft_All.mono_l k
  unfold dft_All.f
  repeat' first
      | (with_reducible exact ih0 _ _ _ _ _ _)
      | (with_reducible exact dft_may.mono _ _)
      | (with_reducible exact LeO.refl _)
      | (with_reducible exact LeO.none _)
      | (with_reducible refine LeO.ite ?_ ?_)
      | (with_reducible refine LeO.bind ?_ (fun _ => ?_))
      | exact ih0 _ _ _ _ _ _
      | exact dft_may.mono _ _
      | exact LeO.none _
      | refine LeO.ite ?_ ?_
      | refine LeO.bind ?_ (fun _ => ?_)
set_option maxHeartbeats 8000000 in
set_option maxRecDepth 100000 in
theorem dft_All.calls (k : Nat) (A0 : Option Addr) (c0 : Nat) (l0 : List (S41)) (a1 : Bool) (r1 : List (S41)) (r2 : Int) (w : World) (hr0 : Kd.C k41 w A0 l0.length l0) (hc0 : l0.length ≤ c0) (h : dft_All.f k l0 a1 = some (r1, r2)) :
    Calls Try.prog 11 #[.slice A0 l0.length c0, .bool a1] w fun e w' => ∃ v0_ : Value, e = .returned (.tuple #[v0_, .int .i64 r2]) ∧ Kd.R k41 41 w' w.heap.size (fun _ => True) v0_ r1 ∧ Below w.heap.size w w' := by
  have HR0 := Aside0.mk hr0
  have HC0 := Aside0.mk hc0
  clear hr0 hc0
  have HB := Aside0.mk (Below.refl w.heap.size w)
  have H : ((dft_may.f k l0).bind fun bt1 => (if bt1.2 = 0 then (dft_All.l0 k l0 a1 bt1.1 ([] : List (S41)) (l0.length : Int) 0) else (some (([] : List (S41)), bt1.2)))) = some (r1, r2) := h
  clear h
  replace H := Option.bind_eq_some_iff.mp H
  obtain ⟨⟨t1, t2⟩, A30, H⟩ := H
  replace H : (if t2 = 0 then (dft_All.l0 k l0 a1 t1 ([] : List (S41)) (l0.length : Int) 0) else (some (([] : List (S41)), t2))) = some (r1, r2) := H
  have A3 := Aside0.mk A30
  clear A30
  by_cases c4 : t2 = 0
  · rw [if_pos c4] at H
    have c4b0 : (t2 == 0) = true := beq_iff_eq.mpr c4
    have c4b1 : (t2 != 0) = false := bne_eq_false_iff_eq.mpr c4
    clear c4
    have H' := Aside0.mk H
    clear H
    go_enter Try.func11, Try.ntmps11
    go_wp2_with (first | ((with_reducible refine gate_callee (f := 35) rfl ?_); refine goesL_ (some 12) rfl rfl Try.func35 (by kernel_rfl) rfl #[.slice A0 l0.length c0] rfl (by (try simp only [List.map_toArray, List.map_cons, List.map_nil]); first | done | rfl | (simp only [List.length_drop, List.length_take]; rfl)) ?_; (with_reducible refine (dft_may.calls k _ _ l0 t1 t2 _ ?side1 ?side2 A3.out).mono ?_); (case side1 => repeat (first | exact HR0.out | (with_reducible refine Kd.C_alloc ?_ _) | (with_reducible refine Kd.C_drewN ?_ _) | (with_reducible refine Kd.C_drew ?_))); (case side2 => exact HC0.out); rintro e w5 ⟨v3, rfl, ho0, hb⟩; refine ⟨_, rfl, ?_⟩; have n0_ := Aside0.mk (Kd.R_lower ho0 (below_size (by repeat (first | (with_reducible first | exact HB.out | apply below_alloc | apply pw_below_drewN | apply below_drew1) | exact HB.out)))); have n1_ := Aside0.mk (below_step (by repeat (first | (with_reducible first | exact HB.out | apply below_alloc | apply pw_below_drewN | apply below_drew1) | exact HB.out)) hb); clear HB; have HO4 := n0_; have HB := n1_; clear n0_ n1_; (try clear hb); (try clear hb2); (try clear hk); (try clear hi); (try clear ho0)))
    go_loopg [8, 20] k (fun kq v8 v20 w' => ∃ (x8_1 : List (S41)) (x20_1 : Int), v20 = .int .i64 x20_1 ∧ Aside0 (dft_All.l0 kq l0 a1 t1 x8_1 (l0.length : Int) x20_1 = some (r1, r2)) ∧ Aside0 (kq ≤ k) ∧ Aside0 (Kd.R k41 41 w' w.heap.size (fun k_ => some k_ ≠ (v8 : Value).ownBlock) v3 t1) ∧ Aside0 (Kd.R k41 41 w' w.heap.size (fun k_ => some k_ ≠ (v3 : Value).ownBlock) v8 x8_1) ∧ Aside0 (Below w.heap.size w w'))
    case atStart => exact ⟨(([] : List (S41))), (0), (by first | rfl | (simp; done) | (simp [*]; done)), H', ⟨Nat.le_refl _⟩, ⟨by (with_reducible repeat (first | apply Kd.R_alloc | apply Kd.R_drewN | apply Kd.R_drew)); exact Kd.R_mono HO4.out (fun _ hk => (by simp [Value.ownBlock]))⟩, ⟨by first | exact Kd.R_nil _ _ _ _ _ | exact Kd.N_nil _ _ _ _ _ | exact Kd.V_nil _ _ _ _ _ | exact Kd.Q_nil _ _ _ _ _ | exact Kd.S_nil _ _ _ _ _⟩, ⟨by repeat (first | (with_reducible first | exact HB.out | apply below_alloc | apply pw_below_drewN | apply below_drew1) | exact HB.out)⟩⟩
    case round =>
      clear H'
      try clear c1
      try clear p2
      try clear c3
      try clear c4
      try clear c4b0
      try clear c4b1
      obtain ⟨x8_1, x20_1, rfl, HA, HK1, HO_6, HO_8, HB⟩ := hrel
      cases gk with
      | zero => exact absurd HA.out (by simp [dft_All.l0])
      | succ k1 =>
        have H := HA.out
        clear HA
        simp only [dft_All.l0] at H
        by_cases c6 : x20_1 < (l0.length : Int)
        · rw [if_pos c6] at H
          have c6b0 : decide (x20_1 < (l0.length : Int)) = true := decide_eq_true c6
          clear c6
          replace H := Option.bind_eq_some_iff.mp H
          obtain ⟨⟨t5, t6⟩, A70, H⟩ := H
          replace H : (if x8_1.length < 8796093022208 then (dft_All.l0 k1 l0 a1 t1 (x8_1 ++ [(⟨t5, t6⟩ : S41)]) (l0.length : Int) (wrap64 (x20_1 + 1))) else (none)) = some (r1, r2) := H
          have A7 := Aside0.mk A70
          clear A70
          by_cases c8 : x8_1.length < 8796093022208
          · rw [if_pos c8] at H
            have LMc8 := Aside0.mk c8
            clear c8
            obtain ⟨y7, hy7⟩ : ∃ y_ : List (S41), y_ = (x8_1 ++ [(⟨t5, t6⟩ : S41)]) := ⟨_, rfl⟩
            replace H : (dft_All.l0 k1 l0 a1 t1 y7 (l0.length : Int) (wrap64 (x20_1 + 1))) = some (r1, r2) := by first | (rw [hy7]; with_reducible exact H) | (have H2_ := (Option.bind_some _ _).symm.trans H; rw [hy7]; with_reducible exact H2_) | (have H2_ := (Option.bind_some _ _).symm.trans H; with_reducible exact H2_) | with_reducible exact H | (rw [hy7]; exact H) | exact H
            have Ny7 := Aside0.mk hy7
            clear hy7
            have H' := Aside0.mk H
            clear H
            obtain ⟨Ao9, co9, eo9⟩ := Kd.R_slice HO_6.out
            subst eo9
            go_wp2_with (first | ((with_reducible refine gate_callee (f := 36) rfl ?_); refine goesL_ (some 28) rfl rfl Try.func36 (by kernel_rfl) rfl #[.slice A0 l0.length c0, .slice Ao9 t1.length co9, .int .i64 x20_1, .bool a1] rfl (by (try simp only [List.map_toArray, List.map_cons, List.map_nil]); first | done | rfl | (simp only [List.length_drop, List.length_take]; rfl)) ?_; (with_reducible refine (dft_bin.calls _ _ l0 _ _ t1 x20_1 a1 t5 t6 _ ?side1 ?side2 ?side3 ?side4 A7.out).mono ?_); (case side1 => repeat (first | exact (Kd.C_below HR0.out HB.out) | (with_reducible refine Kd.C_alloc ?_ _) | (with_reducible refine Kd.C_drewN ?_ _) | (with_reducible refine Kd.C_drew ?_))); (case side2 => exact HC0.out); (case side3 => repeat (first | exact (Kd.R_reads' HO_6.out).2.2 | (with_reducible refine Kd.C_alloc ?_ _) | (with_reducible refine Kd.C_drewN ?_ _) | (with_reducible refine Kd.C_drew ?_))); (case side4 => exact (Kd.R_reads' HO_6.out).2.1); rintro e w10 ⟨rfl, hb⟩; refine ⟨_, rfl, ?_⟩; have n0_ := Aside0.mk (Kd.R_below (by (with_reducible repeat (first | apply Kd.R_alloc | apply Kd.R_drewN | apply Kd.R_drew)); exact HO_6.out) hb); have n1_ := Aside0.mk (Kd.R_below (by (with_reducible repeat (first | apply Kd.R_alloc | apply Kd.R_drewN | apply Kd.R_drew)); exact HO_8.out) hb); have n2_ := Aside0.mk (below_step (by repeat (first | (with_reducible first | exact HB.out | apply below_alloc | apply pw_below_drewN | apply below_drew1) | exact HB.out)) hb); clear HO_6; clear HO_8; clear HB; have HO_6 := n0_; have HO_8 := n1_; have HB := n2_; clear n0_ n1_ n2_; (try clear hb); (try clear hb2); (try clear hk); (try clear hi)) | ((with_reducible refine gate_builtin (b := .append) (xs := #[.tmp 23, .tmp 29]) rfl ?_); at_builtin; refine Kd.R_append k41 (w0 := w) w.heap.size rfl (.tmp 23) (.tmp 29) 22 41 (.agg #[(.int .i64 0), (.int .i64 0)]) 16 rfl Try.underlying22 info41 rfl (by decide) (by omega) u8 x8_1 (⟨t5, t6⟩ : S41) [.int .i64 t5, .int .i64 t6] (fun k_ => some k_ ≠ (.slice Ao9 t1.length co9 : Value).ownBlock) (fun _ => False) rfl rfl ?aP (fun _ hk => hk.elim) ?aF ?aO ?aB ?aS ?aL ?_; (case aP => exact k41_mkM _ _ _ (⟨t5, t6⟩ : S41)); (case aB => exact (by repeat (first | (with_reducible first | exact HB.out | apply below_alloc | apply pw_below_drewN | apply below_drew1) | exact HB.out))); (case aF => exact (fun k_ hk => Kd.fresh' (Kd.R_lt (by (with_reducible repeat (first | apply Kd.R_alloc | apply Kd.R_drewN | apply Kd.R_drew)); exact HO_6.out)) k_ hk)); (case aO => exact (by (with_reducible repeat (first | apply Kd.R_alloc | apply Kd.R_drewN | apply Kd.R_drew)); exact HO_8.out)); (case aS => exact (below_size (by repeat (first | (with_reducible first | exact HB.out | apply below_alloc | apply pw_below_drewN | apply below_drew1) | exact HB.out)))); (case aL => have := LMc8.out; omega); intro v8 w11 ho hb hg hat; rw [← Ny7.out] at ho; have n0_ := Aside0.mk (Kd.R_after (ok := (fun _ => True)) (by (with_reducible repeat (first | apply Kd.R_alloc | apply Kd.R_drewN | apply Kd.R_drew)); exact Kd.R_mono HO_6.out (fun _ hk => ⟨trivial, hk⟩)) hg hat); have n1_ := Aside0.mk (hb); have n2_ := Aside0.mk (ho); clear HO_6; clear HB; clear HO_8; have HO_6 := n0_; have HB := n1_; have HO9 := n2_; clear n0_ n1_ n2_; clear ho hb hg hat))
            go_roundg k1
            case measure => have := HK1.out; omega
            case rel => exact ⟨(y7), (wrap64 (x20_1 + 1)), (by first | rfl | (simp; done) | (simp [*]; done)), H', ⟨by have := HK1.out; omega⟩, ⟨by (with_reducible repeat (first | apply Kd.R_alloc | apply Kd.R_drewN | apply Kd.R_drew)); exact Kd.R_mono HO_6.out (fun _ hk => hk.2)⟩, ⟨by (with_reducible repeat (first | apply Kd.R_alloc | apply Kd.R_drewN | apply Kd.R_drew)); exact HO9.out⟩, ⟨by repeat (first | (with_reducible first | exact HB.out | apply below_alloc | apply pw_below_drewN | apply below_drew1) | exact HB.out)⟩⟩
          · rw [if_neg c8] at H
            exact absurd H (by simp)
        · rw [if_neg c6] at H
          have c6b0 : decide (x20_1 < (l0.length : Int)) = false := decide_eq_false c6
          clear c6
          simp only [Option.some.injEq, Prod.mk.injEq] at H
          obtain ⟨rfl, rfl⟩ := H
          go_wp2
          go_ret2
          exact ⟨_, by first | rfl | (simp [errW_none, errW_some] <;> rfl) | (simp [*, errW_none, errW_some] <;> rfl), by (with_reducible repeat (first | apply Kd.R_alloc | apply Kd.R_drewN | apply Kd.R_drew)); exact Kd.R_mono HO_8.out (fun _ hk => trivial), by repeat (first | (with_reducible first | exact HB.out | apply below_alloc | apply pw_below_drewN | apply below_drew1) | exact HB.out)⟩
  · rw [if_neg c4] at H
    have c4b0 : (t2 == 0) = false := beq_eq_false_iff_ne.mpr c4
    have c4b1 : (t2 != 0) = true := bne_iff_ne.mpr c4
    simp only [Option.some.injEq, Prod.mk.injEq] at H
    obtain ⟨rfl, rfl⟩ := H
    go_enter Try.func11, Try.ntmps11
    go_wp2_with (first | ((with_reducible refine gate_callee (f := 35) rfl ?_); refine goesL_ (some 12) rfl rfl Try.func35 (by kernel_rfl) rfl #[.slice A0 l0.length c0] rfl (by (try simp only [List.map_toArray, List.map_cons, List.map_nil]); first | done | rfl | (simp only [List.length_drop, List.length_take]; rfl)) ?_; (with_reducible refine (dft_may.calls k _ _ l0 t1 t2 _ ?side1 ?side2 A3.out).mono ?_); (case side1 => repeat (first | exact HR0.out | (with_reducible refine Kd.C_alloc ?_ _) | (with_reducible refine Kd.C_drewN ?_ _) | (with_reducible refine Kd.C_drew ?_))); (case side2 => exact HC0.out); rintro e w12 ⟨v3, rfl, ho0, hb⟩; refine ⟨_, rfl, ?_⟩; have n0_ := Aside0.mk (Kd.R_lower ho0 (below_size (by repeat (first | (with_reducible first | exact HB.out | apply below_alloc | apply pw_below_drewN | apply below_drew1) | exact HB.out)))); have n1_ := Aside0.mk (below_step (by repeat (first | (with_reducible first | exact HB.out | apply below_alloc | apply pw_below_drewN | apply below_drew1) | exact HB.out)) hb); clear HB; have HO4 := n0_; have HB := n1_; clear n0_ n1_; (try clear hb); (try clear hb2); (try clear hk); (try clear hi); (try clear ho0)))
    go_ret2
    exact ⟨_, by first | rfl | (simp [errW_none, errW_some] <;> rfl) | (simp [*, errW_none, errW_some] <;> rfl), by first | exact Kd.R_nil _ _ _ _ _ | exact Kd.N_nil _ _ _ _ _ | exact Kd.V_nil _ _ _ _ _ | exact Kd.Q_nil _ _ _ _ _ | exact Kd.S_nil _ _ _ _ _, by repeat (first | (with_reducible first | exact HB.out | apply below_alloc | apply pw_below_drewN | apply below_drew1) | exact HB.out)⟩

end Go.Proofs.Ytpmkkidljmedaaa.X
namespace Go.Proofs.Ytpmkkidljmedaaa.X
open Go.RowKit Go.Proofs.YtpmkkidljmedaaaW.PrintWords Go.Proofs.YtpmkkidljmedaaaW.PrintLast Go.Proofs.YtpmkkidljmedaaaW.PrintMore
attribute [local go_sem] max2_int min2_int max_two min_two max_three min_three max_four min_four   -- for this text's walks alone
set_option linter.unusedVariables false
set_option linter.unusedSimpArgs false

/-! ### headroomref01_Pow: function 56 -/
def headroomref01_Pow.l0 : Nat → Int → Int → Int → Option (Int)
  | 0, _, _, _ => none
  | k + 1, x0, x3, x4 => if x4 < x0 then (headroomref01_Pow.l0 k x0 (wrap64 (2 * x3)) (wrap64 (x4 + 1))) else (some x3)
def headroomref01_Pow.f (k : Nat) (a0 : Int) : Option (Int) := headroomref01_Pow.l0 k a0 1 0
theorem headroomref01_Pow.mono_l : ∀ k, (∀ y0 y1 y2, LeO (headroomref01_Pow.l0 k y0 y1 y2) (headroomref01_Pow.l0 (k + 1) y0 y1 y2))
  | 0 => fun _ _ _ r h => by simp [headroomref01_Pow.l0] at h
  | k + 1 => by
    have ih0 := headroomref01_Pow.mono_l k
    · intro y0 y1 y2
      unfold headroomref01_Pow.l0
      repeat' first
      | (with_reducible exact ih0 _ _ _)
      | (with_reducible exact LeO.refl _)
      | (with_reducible exact LeO.none _)
      | (with_reducible refine LeO.ite ?_ ?_)
      | (with_reducible refine LeO.bind ?_ (fun _ => ?_))
      | exact ih0 _ _ _
      | exact LeO.none _
      | refine LeO.ite ?_ ?_
      | refine LeO.bind ?_ (fun _ => ?_)
theorem headroomref01_Pow.mono : ∀ a0 k, LeO (headroomref01_Pow.f k a0) (headroomref01_Pow.f (k + 1) a0) := by
  intro a0 k
  have ih0 := headroomref01_Pow.mono_l k
  unfold headroomref01_Pow.f
  repeat' first
      | (with_reducible exact ih0 _ _ _)
      | (with_reducible exact LeO.refl _)
      | (with_reducible exact LeO.none _)
      | (with_reducible refine LeO.ite ?_ ?_)
      | (with_reducible refine LeO.bind ?_ (fun _ => ?_))
      | exact ih0 _ _ _
      | exact LeO.none _
      | refine LeO.ite ?_ ?_
      | refine LeO.bind ?_ (fun _ => ?_)
set_option maxHeartbeats 8000000 in
set_option maxRecDepth 100000 in
theorem headroomref01_Pow.calls (k : Nat) (a0 : Int) (r : Int) (w : World) (h : headroomref01_Pow.f k a0 = some r) :
    Calls Try.prog 56 #[.int .i64 a0] w fun e w' => e = .returned (.int .i64 r) ∧ Drawn0 w w' := by
  have H : (headroomref01_Pow.l0 k a0 1 0) = some r := h
  clear h
  have H' := Aside0.mk H
  clear H
  go_enter Try.func56, Try.ntmps56
  go_wp2
  go_loopg [3, 4] k (fun kq v3 v4 w' => ∃ (x3_1 : Int) (x4_1 : Int), v3 = .int .i64 x3_1 ∧ v4 = .int .i64 x4_1 ∧ Aside0 (headroomref01_Pow.l0 kq a0 x3_1 x4_1 = some r) ∧ Aside0 (kq ≤ k) ∧ Drawn0 w w')
  case atStart => exact ⟨(1), (0), (by first | rfl | (simp; done) | (simp [*]; done)), (by first | rfl | (simp; done) | (simp [*]; done)), H', ⟨Nat.le_refl _⟩, by repeat (first | exact Drawn0.refl _ | apply Drawn0.step)⟩
  case round =>
    clear H'
    obtain ⟨x3_1, x4_1, rfl, rfl, HA, HK1, ⟨m1, rfl⟩⟩ := hrel
    cases gk with
    | zero => exact absurd HA.out (by simp [headroomref01_Pow.l0])
    | succ k1 =>
      have H := HA.out
      clear HA
      simp only [headroomref01_Pow.l0] at H
      by_cases c2 : x4_1 < a0
      · rw [if_pos c2] at H
        have c2b0 : decide (x4_1 < a0) = true := decide_eq_true c2
        clear c2
        have H' := Aside0.mk H
        clear H
        go_wp2
        go_roundg k1
        case measure => have := HK1.out; omega
        case rel => exact ⟨(wrap64 (2 * x3_1)), (wrap64 (x4_1 + 1)), (by first | rfl | (simp; done) | (simp [*]; done)), (by first | rfl | (simp; done) | (simp [*]; done)), H', ⟨by have := HK1.out; omega⟩, by repeat (first | exact Drawn0.refl _ | apply Drawn0.step)⟩
      · rw [if_neg c2] at H
        have c2b0 : decide (x4_1 < a0) = false := decide_eq_false c2
        clear c2
        obtain rfl := Option.some.inj H
        go_wp2
        go_ret
        exact ⟨by first | rfl | (simp; done) | (simp [*]; done), by repeat (first | exact Drawn0.refl _ | apply Drawn0.step)⟩

end Go.Proofs.Ytpmkkidljmedaaa.X
namespace Go.Proofs.Ytpmkkidljmedaaa.X
open Go.RowKit Go.Proofs.YtpmkkidljmedaaaW.PrintWords Go.Proofs.YtpmkkidljmedaaaW.PrintLast Go.Proofs.YtpmkkidljmedaaaW.PrintMore
attribute [local go_sem] max2_int min2_int max_two min_two max_three min_three max_four min_four   -- for this text's walks alone
set_option linter.unusedVariables false
set_option linter.unusedSimpArgs false

/-! ### headroomref08_Log: function 24 -/
def headroomref08_Log.l0 : Nat → Int → Int → Option (Int)
  | 0, _, _ => none
  | k + 1, x0, x3 => if x3 ≤ 6 then ((headroomref01_Pow.f k x3).bind fun t1 => (if t1 = x0 then (some x3) else (headroomref08_Log.l0 k x0 (wrap64 (x3 + 1))))) else (some (-1))
def headroomref08_Log.f (k : Nat) (a0 : Int) : Option (Int) := headroomref08_Log.l0 k a0 2
theorem headroomref08_Log.mono_l : ∀ k, (∀ y0 y1, LeO (headroomref08_Log.l0 k y0 y1) (headroomref08_Log.l0 (k + 1) y0 y1))
  | 0 => fun _ _ r h => by simp [headroomref08_Log.l0] at h
  | k + 1 => by
    have ih0 := headroomref08_Log.mono_l k
    · intro y0 y1
      unfold headroomref08_Log.l0
      repeat' first
      | (with_reducible exact ih0 _ _)
      | (with_reducible exact headroomref01_Pow.mono _ _)
      | (with_reducible exact LeO.refl _)
      | (with_reducible exact LeO.none _)
      | (with_reducible refine LeO.ite ?_ ?_)
      | (with_reducible refine LeO.bind ?_ (fun _ => ?_))
      | exact ih0 _ _
      | exact headroomref01_Pow.mono _ _
      | exact LeO.none _
      | refine LeO.ite ?_ ?_
      | refine LeO.bind ?_ (fun _ => ?_)
theorem headroomref08_Log.mono : ∀ a0 k, LeO (headroomref08_Log.f k a0) (headroomref08_Log.f (k + 1) a0) := by
  intro a0 k
  have ih0 := headroomref08_Log.mono_l k
  unfold headroomref08_Log.f
  repeat' first
      | (with_reducible exact ih0 _ _)
      | (with_reducible exact headroomref01_Pow.mono _ _)
      | (with_reducible exact LeO.refl _)
      | (with_reducible exact LeO.none _)
      | (with_reducible refine LeO.ite ?_ ?_)
      | (with_reducible refine LeO.bind ?_ (fun _ => ?_))
      | exact ih0 _ _
      | exact headroomref01_Pow.mono _ _
      | exact LeO.none _
      | refine LeO.ite ?_ ?_
      | refine LeO.bind ?_ (fun _ => ?_)
set_option maxHeartbeats 8000000 in
set_option maxRecDepth 100000 in
theorem headroomref08_Log.calls (k : Nat) (a0 : Int) (r : Int) (w : World) (h : headroomref08_Log.f k a0 = some r) :
    Calls Try.prog 24 #[.int .i64 a0] w fun e w' => e = .returned (.int .i64 r) ∧ Drawn0 w w' := by
  have H : (headroomref08_Log.l0 k a0 2) = some r := h
  clear h
  have H' := Aside0.mk H
  clear H
  go_enter Try.func24, Try.ntmps24
  go_wp2
  go_loopg [3] k (fun kq v3 w' => ∃ (x3_1 : Int), v3 = .int .i64 x3_1 ∧ Aside0 (headroomref08_Log.l0 kq a0 x3_1 = some r) ∧ Aside0 (kq ≤ k) ∧ Drawn0 w w')
  case atStart => exact ⟨(2), (by first | rfl | (simp; done) | (simp [*]; done)), H', ⟨Nat.le_refl _⟩, by repeat (first | exact Drawn0.refl _ | apply Drawn0.step)⟩
  case round =>
    clear H'
    obtain ⟨x3_1, rfl, HA, HK1, ⟨m1, rfl⟩⟩ := hrel
    cases gk with
    | zero => exact absurd HA.out (by simp [headroomref08_Log.l0])
    | succ k1 =>
      have H := HA.out
      clear HA
      simp only [headroomref08_Log.l0] at H
      by_cases c2 : x3_1 ≤ 6
      · rw [if_pos c2] at H
        have c2b0 : decide (x3_1 ≤ 6) = true := decide_eq_true c2
        clear c2
        replace H := Option.bind_eq_some_iff.mp H
        obtain ⟨t1, A30, H⟩ := H
        replace H : (if t1 = a0 then (some x3_1) else (headroomref08_Log.l0 k1 a0 (wrap64 (x3_1 + 1)))) = some r := H
        have A3 := Aside0.mk A30
        clear A30
        by_cases c4 : t1 = a0
        · rw [if_pos c4] at H
          have c4b0 : (t1 == a0) = true := beq_iff_eq.mpr c4
          have c4b1 : (t1 != a0) = false := bne_eq_false_iff_eq.mpr c4
          clear c4
          obtain rfl := Option.some.inj H
          go_wp2_with (first | ((with_reducible refine gate_callee (f := 56) rfl ?_); refine goesL_ (some 9) rfl rfl Try.func56 (by kernel_rfl) rfl #[.int .i64 x3_1] rfl (by (try simp only [List.map_toArray, List.map_cons, List.map_nil]); first | done | rfl | (simp only [List.length_drop, List.length_take]; rfl)) ?_; (with_reducible refine (headroomref01_Pow.calls k1 x3_1 t1 _ A3.out).mono ?_); rintro e w' ⟨rfl, ⟨nd, rfl⟩⟩; refine ⟨_, rfl, ?_⟩))
          go_ret
          exact ⟨by first | rfl | (simp; done) | (simp [*]; done), by repeat (first | exact Drawn0.refl _ | apply Drawn0.step)⟩
        · rw [if_neg c4] at H
          have c4b0 : (t1 == a0) = false := beq_eq_false_iff_ne.mpr c4
          have c4b1 : (t1 != a0) = true := bne_iff_ne.mpr c4
          have H' := Aside0.mk H
          clear H
          go_wp2_with (first | ((with_reducible refine gate_callee (f := 56) rfl ?_); refine goesL_ (some 9) rfl rfl Try.func56 (by kernel_rfl) rfl #[.int .i64 x3_1] rfl (by (try simp only [List.map_toArray, List.map_cons, List.map_nil]); first | done | rfl | (simp only [List.length_drop, List.length_take]; rfl)) ?_; (with_reducible refine (headroomref01_Pow.calls k1 x3_1 t1 _ A3.out).mono ?_); rintro e w' ⟨rfl, ⟨nd, rfl⟩⟩; refine ⟨_, rfl, ?_⟩))
          go_roundg k1
          case measure => have := HK1.out; omega
          case rel => exact ⟨(wrap64 (x3_1 + 1)), (by first | rfl | (simp; done) | (simp [*]; done)), H', ⟨by have := HK1.out; omega⟩, by repeat (first | exact Drawn0.refl _ | apply Drawn0.step)⟩
      · rw [if_neg c2] at H
        have c2b0 : decide (x3_1 ≤ 6) = false := decide_eq_false c2
        clear c2
        obtain rfl := Option.some.inj H
        go_wp2
        go_ret
        exact ⟨by first | rfl | (simp; done) | (simp [*]; done), by repeat (first | exact Drawn0.refl _ | apply Drawn0.step)⟩

end Go.Proofs.Ytpmkkidljmedaaa.X
namespace Go.Proofs.Ytpmkkidljmedaaa.X
open Go.RowKit Go.Proofs.YtpmkkidljmedaaaW.PrintWords Go.Proofs.YtpmkkidljmedaaaW.PrintLast Go.Proofs.YtpmkkidljmedaaaW.PrintMore
attribute [local go_sem] max2_int min2_int max_two min_two max_three min_three max_four min_four   -- for this text's walks alone
set_option linter.unusedVariables false
set_option linter.unusedSimpArgs false

/-! ### headroomref03_Within: function 57 -/
def headroomref03_Within.f (a0_0 : Int) (a0_1 : Int) (a1 : Int) : Option (Bool) := if a0_0 ≤ a1 then (if a0_0 ≥ (wrap64 (-a1)) then (if a0_1 ≤ a1 then (some (decide (a0_1 ≥ (wrap64 (-a1))))) else (some false)) else (some false)) else (some false)
set_option maxHeartbeats 8000000 in
set_option maxRecDepth 100000 in
theorem headroomref03_Within.calls (a0_0 : Int) (a0_1 : Int) (a1 : Int) (r : Bool) (w : World) (h : headroomref03_Within.f a0_0 a0_1 a1 = some r) :
    Calls Try.prog 57 #[.agg #[.int .i64 a0_0, .int .i64 a0_1], .int .i64 a1] w fun e w' => e = .returned (.bool r) ∧ Below w.heap.size w w' := by
  have hu41 := Try.underlying41
  have HB := Aside0.mk (Below.refl w.heap.size w)
  have H : (if a0_0 ≤ a1 then (if a0_0 ≥ (wrap64 (-a1)) then (if a0_1 ≤ a1 then (some (decide (a0_1 ≥ (wrap64 (-a1))))) else (some false)) else (some false)) else (some false)) = some r := h
  clear h
  by_cases c3 : a0_0 ≤ a1
  · rw [if_pos c3] at H
    have c3b0 : decide (a0_0 ≤ a1) = true := decide_eq_true c3
    clear c3
    by_cases c4 : a0_0 ≥ (wrap64 (-a1))
    · rw [if_pos c4] at H
      have c4b0 : decide ((wrap64 (-a1)) ≤ a0_0) = true := decide_eq_true c4
      clear c4
      by_cases c5 : a0_1 ≤ a1
      · rw [if_pos c5] at H
        have c5b0 : decide (a0_1 ≤ a1) = true := decide_eq_true c5
        clear c5
        obtain rfl := Option.some.inj H
        go_enter Try.func57, Try.ntmps57
        go_wp2_with (first | ((with_reducible refine gate_dst (N := 2) rfl ?_); refine box_event ?hg (N := 2) ?hd (cs := #[.int .i64 a0_0, .int .i64 a0_1]) (t := 41) ?hr ?_; (case hd => rfl); (case hg => rfl); (case hr => first | (go_simp; done) | (go_simp; rfl)); intro gb1 hg w6 hbox hb; have n0_ := Aside0.mk (below_step (by repeat (first | (with_reducible first | exact HB.out | apply below_alloc | apply pw_below_drewN | apply below_drew1) | exact HB.out)) hb); have n1_ := Aside0.mk (hbox); have n2_ := Aside0.mk ((by rw [hg]; exact (below_size (by repeat (first | (with_reducible first | exact HB.out | apply below_alloc | apply pw_below_drewN | apply below_drew1) | exact HB.out))) : w.heap.size ≤ gb1)); have n3_ := Aside0.mk ((by rw [hg]; exact (below_size (by repeat (first | (with_reducible first | exact HB.out | apply below_alloc | apply pw_below_drewN | apply below_drew1) | exact HB.out))) : w.heap.size ≤ gb1)); clear HB; have HB := n0_; have BK1 := n1_; have GW1 := n2_; have GE1 := n3_; clear n0_ n1_ n2_ n3_; clear hb hbox hg; have hcz7_0 : w6.cell? ⟨gb1, 0, none⟩ = some (.int .i64 a0_0) := (blk_cell BK1.out 0).trans rfl; have hcz7_1 : w6.cell? ⟨gb1, 1, none⟩ = some (.int .i64 a0_1) := (blk_cell BK1.out 1).trans rfl; have hfz7_0 := blk_frozen BK1.out 0; have hfz7_1 := blk_frozen BK1.out 1))
        go_ret
        exact ⟨by first | rfl | (simp [errW_none, errW_some] <;> rfl) | (simp [*, errW_none, errW_some] <;> rfl), by repeat (first | (with_reducible first | exact HB.out | apply below_alloc | apply pw_below_drewN | apply below_drew1 | refine below_set ?_ GE1.out) | exact HB.out)⟩
      · rw [if_neg c5] at H
        have c5b0 : decide (a0_1 ≤ a1) = false := decide_eq_false c5
        clear c5
        obtain rfl := Option.some.inj H
        go_enter Try.func57, Try.ntmps57
        go_wp2_with (first | ((with_reducible refine gate_dst (N := 2) rfl ?_); refine box_event ?hg (N := 2) ?hd (cs := #[.int .i64 a0_0, .int .i64 a0_1]) (t := 41) ?hr ?_; (case hd => rfl); (case hg => rfl); (case hr => first | (go_simp; done) | (go_simp; rfl)); intro gb1 hg w8 hbox hb; have n0_ := Aside0.mk (below_step (by repeat (first | (with_reducible first | exact HB.out | apply below_alloc | apply pw_below_drewN | apply below_drew1) | exact HB.out)) hb); have n1_ := Aside0.mk (hbox); have n2_ := Aside0.mk ((by rw [hg]; exact (below_size (by repeat (first | (with_reducible first | exact HB.out | apply below_alloc | apply pw_below_drewN | apply below_drew1) | exact HB.out))) : w.heap.size ≤ gb1)); have n3_ := Aside0.mk ((by rw [hg]; exact (below_size (by repeat (first | (with_reducible first | exact HB.out | apply below_alloc | apply pw_below_drewN | apply below_drew1) | exact HB.out))) : w.heap.size ≤ gb1)); clear HB; have HB := n0_; have BK1 := n1_; have GW1 := n2_; have GE1 := n3_; clear n0_ n1_ n2_ n3_; clear hb hbox hg; have hcz9_0 : w8.cell? ⟨gb1, 0, none⟩ = some (.int .i64 a0_0) := (blk_cell BK1.out 0).trans rfl; have hcz9_1 : w8.cell? ⟨gb1, 1, none⟩ = some (.int .i64 a0_1) := (blk_cell BK1.out 1).trans rfl; have hfz9_0 := blk_frozen BK1.out 0; have hfz9_1 := blk_frozen BK1.out 1))
        go_ret
        exact ⟨by first | rfl | (simp [errW_none, errW_some] <;> rfl) | (simp [*, errW_none, errW_some] <;> rfl), by repeat (first | (with_reducible first | exact HB.out | apply below_alloc | apply pw_below_drewN | apply below_drew1 | refine below_set ?_ GE1.out) | exact HB.out)⟩
    · rw [if_neg c4] at H
      have c4b0 : decide ((wrap64 (-a1)) ≤ a0_0) = false := decide_eq_false c4
      clear c4
      obtain rfl := Option.some.inj H
      go_enter Try.func57, Try.ntmps57
      go_wp2_with (first | ((with_reducible refine gate_dst (N := 2) rfl ?_); refine box_event ?hg (N := 2) ?hd (cs := #[.int .i64 a0_0, .int .i64 a0_1]) (t := 41) ?hr ?_; (case hd => rfl); (case hg => rfl); (case hr => first | (go_simp; done) | (go_simp; rfl)); intro gb1 hg w10 hbox hb; have n0_ := Aside0.mk (below_step (by repeat (first | (with_reducible first | exact HB.out | apply below_alloc | apply pw_below_drewN | apply below_drew1) | exact HB.out)) hb); have n1_ := Aside0.mk (hbox); have n2_ := Aside0.mk ((by rw [hg]; exact (below_size (by repeat (first | (with_reducible first | exact HB.out | apply below_alloc | apply pw_below_drewN | apply below_drew1) | exact HB.out))) : w.heap.size ≤ gb1)); have n3_ := Aside0.mk ((by rw [hg]; exact (below_size (by repeat (first | (with_reducible first | exact HB.out | apply below_alloc | apply pw_below_drewN | apply below_drew1) | exact HB.out))) : w.heap.size ≤ gb1)); clear HB; have HB := n0_; have BK1 := n1_; have GW1 := n2_; have GE1 := n3_; clear n0_ n1_ n2_ n3_; clear hb hbox hg; have hcz11_0 : w10.cell? ⟨gb1, 0, none⟩ = some (.int .i64 a0_0) := (blk_cell BK1.out 0).trans rfl; have hcz11_1 : w10.cell? ⟨gb1, 1, none⟩ = some (.int .i64 a0_1) := (blk_cell BK1.out 1).trans rfl; have hfz11_0 := blk_frozen BK1.out 0; have hfz11_1 := blk_frozen BK1.out 1))
      go_ret
      exact ⟨by first | rfl | (simp [errW_none, errW_some] <;> rfl) | (simp [*, errW_none, errW_some] <;> rfl), by repeat (first | (with_reducible first | exact HB.out | apply below_alloc | apply pw_below_drewN | apply below_drew1 | refine below_set ?_ GE1.out) | exact HB.out)⟩
  · rw [if_neg c3] at H
    have c3b0 : decide (a0_0 ≤ a1) = false := decide_eq_false c3
    clear c3
    obtain rfl := Option.some.inj H
    go_enter Try.func57, Try.ntmps57
    go_wp2_with (first | ((with_reducible refine gate_dst (N := 2) rfl ?_); refine box_event ?hg (N := 2) ?hd (cs := #[.int .i64 a0_0, .int .i64 a0_1]) (t := 41) ?hr ?_; (case hd => rfl); (case hg => rfl); (case hr => first | (go_simp; done) | (go_simp; rfl)); intro gb1 hg w12 hbox hb; have n0_ := Aside0.mk (below_step (by repeat (first | (with_reducible first | exact HB.out | apply below_alloc | apply pw_below_drewN | apply below_drew1) | exact HB.out)) hb); have n1_ := Aside0.mk (hbox); have n2_ := Aside0.mk ((by rw [hg]; exact (below_size (by repeat (first | (with_reducible first | exact HB.out | apply below_alloc | apply pw_below_drewN | apply below_drew1) | exact HB.out))) : w.heap.size ≤ gb1)); have n3_ := Aside0.mk ((by rw [hg]; exact (below_size (by repeat (first | (with_reducible first | exact HB.out | apply below_alloc | apply pw_below_drewN | apply below_drew1) | exact HB.out))) : w.heap.size ≤ gb1)); clear HB; have HB := n0_; have BK1 := n1_; have GW1 := n2_; have GE1 := n3_; clear n0_ n1_ n2_ n3_; clear hb hbox hg; have hcz13_0 : w12.cell? ⟨gb1, 0, none⟩ = some (.int .i64 a0_0) := (blk_cell BK1.out 0).trans rfl; have hcz13_1 : w12.cell? ⟨gb1, 1, none⟩ = some (.int .i64 a0_1) := (blk_cell BK1.out 1).trans rfl; have hfz13_0 := blk_frozen BK1.out 0; have hfz13_1 := blk_frozen BK1.out 1))
    go_ret
    exact ⟨by first | rfl | (simp [errW_none, errW_some] <;> rfl) | (simp [*, errW_none, errW_some] <;> rfl), by repeat (first | (with_reducible first | exact HB.out | apply below_alloc | apply pw_below_drewN | apply below_drew1 | refine below_set ?_ GE1.out) | exact HB.out)⟩

end Go.Proofs.Ytpmkkidljmedaaa.X
namespace Go.Proofs.Ytpmkkidljmedaaa.X
open Go.RowKit Go.Proofs.YtpmkkidljmedaaaW.PrintWords Go.Proofs.YtpmkkidljmedaaaW.PrintLast Go.Proofs.YtpmkkidljmedaaaW.PrintMore
attribute [local go_sem] max2_int min2_int max_two min_two max_three min_three max_four min_four   -- for this text's walks alone
set_option linter.unusedVariables false
set_option linter.unusedSimpArgs false

/-! ### headroomref09_Narrow: function 37 -/
def headroomref09_Narrow.l0 : Nat → List (S41) → Int → Int → Option (Bool)
  | 0, _, _, _ => none
  | k + 1, x5, x6, x7 => if x7 < x6 then (if 0 ≤ x7 then (if x7 < (x5.length : Int) then ((headroomref01_Pow.f k 31).bind fun t3 => ((headroomref03_Within.f ((rd_T41 x5 x7).f0) ((rd_T41 x5 x7).f1) t3).bind fun t4 => (if t4 = true then (headroomref09_Narrow.l0 k x5 x6 (wrap64 (x7 + 1))) else (some false)))) else (none)) else (none)) else (some true)
def headroomref09_Narrow.f (k : Nat) (l0 : List (S41)) : Option (Bool) := headroomref09_Narrow.l0 k l0 (l0.length : Int) 0
theorem headroomref09_Narrow.mono_l : ∀ k, (∀ y0 y1 y2, LeO (headroomref09_Narrow.l0 k y0 y1 y2) (headroomref09_Narrow.l0 (k + 1) y0 y1 y2))
  | 0 => fun _ _ _ r h => by simp [headroomref09_Narrow.l0] at h
  | k + 1 => by
    have ih0 := headroomref09_Narrow.mono_l k
    · intro y0 y1 y2
      unfold headroomref09_Narrow.l0
      repeat' first
      | (with_reducible exact ih0 _ _ _)
      | (with_reducible exact headroomref01_Pow.mono _ _)
      | (with_reducible exact LeO.refl _)
      | (with_reducible exact LeO.none _)
      | (with_reducible refine LeO.ite ?_ ?_)
      | (with_reducible refine LeO.bind ?_ (fun _ => ?_))
      | exact ih0 _ _ _
      | exact headroomref01_Pow.mono _ _
      | exact LeO.none _
      | refine LeO.ite ?_ ?_
      | refine LeO.bind ?_ (fun _ => ?_)
theorem headroomref09_Narrow.mono : ∀ a0 k, LeO (headroomref09_Narrow.f k a0) (headroomref09_Narrow.f (k + 1) a0) := by
  intro a0 k
  have ih0 := headroomref09_Narrow.mono_l k
  unfold headroomref09_Narrow.f
  repeat' first
      | (with_reducible exact ih0 _ _ _)
      | (with_reducible exact headroomref01_Pow.mono _ _)
      | (with_reducible exact LeO.refl _)
      | (with_reducible exact LeO.none _)
      | (with_reducible refine LeO.ite ?_ ?_)
      | (with_reducible refine LeO.bind ?_ (fun _ => ?_))
      | exact ih0 _ _ _
      | exact headroomref01_Pow.mono _ _
      | exact LeO.none _
      | refine LeO.ite ?_ ?_
      | refine LeO.bind ?_ (fun _ => ?_)
set_option maxHeartbeats 8000000 in
set_option maxRecDepth 100000 in
theorem headroomref09_Narrow.calls (k : Nat) (A0 : Option Addr) (c0 : Nat) (l0 : List (S41)) (r : Bool) (w : World) (hr0 : Kd.C k41 w A0 l0.length l0) (hc0 : l0.length ≤ c0) (h : headroomref09_Narrow.f k l0 = some r) :
    Calls Try.prog 37 #[.slice A0 l0.length c0] w fun e w' => e = .returned (.bool r) ∧ Below w.heap.size w w' := by
  have hu41 := Try.underlying41
  have HR0 := Aside0.mk hr0
  have HC0 := Aside0.mk hc0
  clear hr0 hc0
  have HB := Aside0.mk (Below.refl w.heap.size w)
  have H : (headroomref09_Narrow.l0 k l0 (l0.length : Int) 0) = some r := h
  clear h
  have H' := Aside0.mk H
  clear H
  go_enter Try.func37, Try.ntmps37
  go_wp2
  go_loopg [7] k (fun kq v7 w' => ∃ (x7_1 : Int), v7 = .int .i64 x7_1 ∧ Aside0 (headroomref09_Narrow.l0 kq l0 (l0.length : Int) x7_1 = some r) ∧ Aside0 (kq ≤ k) ∧ Aside0 (Below w.heap.size w w'))
  case atStart => exact ⟨(0), (by first | rfl | (simp; done) | (simp [*]; done)), H', ⟨Nat.le_refl _⟩, ⟨by repeat (first | (with_reducible first | exact HB.out | apply below_alloc | apply pw_below_drewN | apply below_drew1) | exact HB.out)⟩⟩
  case round =>
    clear H'
    obtain ⟨x7_1, rfl, HA, HK1, HB⟩ := hrel
    cases gk with
    | zero => exact absurd HA.out (by simp [headroomref09_Narrow.l0])
    | succ k1 =>
      have H := HA.out
      clear HA
      simp only [headroomref09_Narrow.l0] at H
      by_cases c2 : x7_1 < (l0.length : Int)
      · rw [if_pos c2] at H
        have c2b0 : decide (x7_1 < (l0.length : Int)) = true := decide_eq_true c2
        clear c2
        by_cases c3 : 0 ≤ x7_1
        · rw [if_pos c3] at H
          have c3b0 : decide (0 ≤ x7_1) = true := decide_eq_true c3
          clear c3
          by_cases c4 : x7_1 < (l0.length : Int)
          · rw [if_pos c4] at H
            have c4b0 : decide (x7_1 < (l0.length : Int)) = true := decide_eq_true c4
            clear c4
            replace H := Option.bind_eq_some_iff.mp H
            obtain ⟨t3, A50, H⟩ := H
            replace H : ((headroomref03_Within.f ((rd_T41 l0 x7_1).f0) ((rd_T41 l0 x7_1).f1) t3).bind fun t4 => (if t4 = true then (headroomref09_Narrow.l0 k1 l0 (l0.length : Int) (wrap64 (x7_1 + 1))) else (some false))) = some r := H
            have A5 := Aside0.mk A50
            clear A50
            replace H := Option.bind_eq_some_iff.mp H
            obtain ⟨t4, A60, H⟩ := H
            replace H : (if t4 = true then (headroomref09_Narrow.l0 k1 l0 (l0.length : Int) (wrap64 (x7_1 + 1))) else (some false)) = some r := H
            have A6 := Aside0.mk A60
            clear A60
            by_cases c7 : t4 = true
            · subst c7
              have H1 : (headroomref09_Narrow.l0 k1 l0 (l0.length : Int) (wrap64 (x7_1 + 1))) = some r := by rw [if_pos rfl] at H; exact H
              clear H
              have H := H1
              clear H1
              have H' := Aside0.mk H
              clear H
              have p1 : 0 ≤ (x7_1 : Int) := of_decide_eq_true (by first | (with_reducible assumption) | assumption)
              have q1 : x7_1 < (l0.length : Int) := of_decide_eq_true (by first | (with_reducible assumption) | assumption)
              obtain ⟨ad1, e1, hx1_0, hx1_1⟩ := at_T41 HR0.out x7_1 p1 q1
              cases e1
              replace hx1_0 := (HB.out.cell (World.block_lt_of_cell? w _ hx1_0)).trans hx1_0
              replace hx1_1 := (HB.out.cell (World.block_lt_of_cell? w _ hx1_1)).trans hx1_1
              replace p1 := eq_true p1
              replace q1 := eq_true q1
              try go_wp2_with (first | ((with_reducible refine gate_dst (N := 4) rfl ?_); refine box_event ?hg (N := 4) ?hd (cs := #[.int .i64 0, .int .i64 0]) (t := 41) ?hr ?_; (case hd => rfl); (case hg => rfl); (case hr => first | (go_simp; done) | (go_simp; rfl)); intro gb2 hg w8 hbox hb; have n0_ := Aside0.mk (below_step (by repeat (first | (with_reducible first | exact HB.out | apply below_alloc | apply pw_below_drewN | apply below_drew1) | exact HB.out)) hb); have n1_ := Aside0.mk (hbox); have n2_ := Aside0.mk ((by rw [hg]; exact (below_size (by repeat (first | (with_reducible first | exact HB.out | apply below_alloc | apply pw_below_drewN | apply below_drew1) | exact HB.out))) : w.heap.size ≤ gb2)); have n3_ := Aside0.mk ((by rw [hg]; exact (below_size (by repeat (first | (with_reducible first | exact HB.out | apply below_alloc | apply pw_below_drewN | apply below_drew1) | exact HB.out))) : w.heap.size ≤ gb2)); clear HB; have HB := n0_; have BK2 := n1_; have GW2 := n2_; have GE2 := n3_; clear n0_ n1_ n2_ n3_; clear hb hbox hg; have hcz9_0 : w8.cell? ⟨gb2, 0, none⟩ = some (.int .i64 0) := (blk_cell BK2.out 0).trans rfl; have hcz9_1 : w8.cell? ⟨gb2, 1, none⟩ = some (.int .i64 0) := (blk_cell BK2.out 1).trans rfl; have hfz9_0 := blk_frozen BK2.out 0; have hfz9_1 := blk_frozen BK2.out 1))
              have n0_ : Aside0 (((w8.setCell ⟨gb2, 0, none⟩ (.int .i64 ((rd_T41 l0 x7_1).f0))).setCell ⟨gb2, 1, none⟩ (.int .i64 ((rd_T41 l0 x7_1).f1))).heap[gb2]? = some (.cells #[.int .i64 ((rd_T41 l0 x7_1).f0), .int .i64 ((rd_T41 l0 x7_1).f1)] 41 (0, 0))) := ⟨by (with_reducible repeat (first | refine blk_drewN ?_ _ | refine blk_drew ?_ | refine blk_alloc ?_ _)); refine blk_put (cs := #[.int .i64 ((rd_T41 l0 x7_1).f0), .int .i64 0]) ?_ 1 _ rfl; (with_reducible repeat (first | refine blk_drewN ?_ _ | refine blk_drew ?_ | refine blk_alloc ?_ _)); refine blk_put (cs := #[.int .i64 0, .int .i64 0]) ?_ 0 _ rfl; (with_reducible repeat (first | refine blk_drewN ?_ _ | refine blk_drew ?_ | refine blk_alloc ?_ _)); exact BK2.out⟩
              have n1_ : Aside0 (Below w.heap.size w ((w8.setCell ⟨gb2, 0, none⟩ (.int .i64 ((rd_T41 l0 x7_1).f0))).setCell ⟨gb2, 1, none⟩ (.int .i64 ((rd_T41 l0 x7_1).f1)))) := ⟨by repeat (first | (with_reducible first | exact HB.out | apply below_alloc | apply pw_below_drewN | apply below_drew1 | refine below_set ?_ GE2.out) | exact HB.out)⟩
              (try clear BK2)
              (try clear HB)
              generalize ((w8.setCell ⟨gb2, 0, none⟩ (.int .i64 ((rd_T41 l0 x7_1).f0))).setCell ⟨gb2, 1, none⟩ (.int .i64 ((rd_T41 l0 x7_1).f1))) = w10 at n0_ n1_ ⊢
              have BK2 := n0_
              have HB := n1_
              clear n0_ n1_
              have n0_ := Aside0.mk (blk_drew BK2.out)
              have n1_ := Aside0.mk (below_drew1 HB.out)
              clear BK2
              clear HB
              have BK2 := n0_
              have HB := n1_
              clear n0_ n1_
              refine start_ (n := 4) (S := fun w' => w'.cell? ⟨gb2, 0, none⟩ = some (.int .i64 ((rd_T41 l0 x7_1).f0)) ∧ w'.cell? ⟨gb2, 1, none⟩ = some (.int .i64 ((rd_T41 l0 x7_1).f1))) (ds := []) #[false, false, false, false] (by kernel_rfl) rfl rfl ⟨(blk_cell BK2.out 0).trans rfl, (blk_cell BK2.out 1).trans rfl⟩ (fun hHeld => ?_)
              generalize w10.drew = w11 at BK2 HB hHeld ⊢
              refine take_ (i := 0) (N := some 11) (v := ?_) (a' := ?_) #[true, false, false, false] rfl rfl (by kernel_rfl) (fun _ _ _ h => h) (Or.inl ⟨by rfl, ?_⟩) hHeld ?_ ?_
              rotate_left
              · rintro w' ⟨s0, s1⟩
                go_simp
                with_reducible rfl
              rotate_left
              · simp only [Act.put, List.setIfInBounds_toArray, List.set_cons_zero, List.set_cons_succ, i64_w, i32_w]
                rfl
              refine one_ (i := 1) (N := some 12) #[true, true, false, false] rfl rfl (by kernel_rfl) (by decide) (fun K hK => ?_)
              refine goes_ Try.func56 (by kernel_rfl) rfl #[.int .i64 31] (by rfl) rfl rfl (by (try simp only [List.map_toArray, List.map_cons, List.map_nil]); first | done | rfl | (simp only [List.length_drop, List.length_take]; rfl)) ?_
              with_reducible refine (headroomref01_Pow.calls k1 31 t3 _ A5.out).mono ?_
              rintro e w' ⟨rfl, ⟨nd, rfl⟩⟩
              refine ⟨_, rfl, ?_⟩
              refine hK.out _ _ ⟨(blk_cell BK2.out 0).trans rfl, (blk_cell BK2.out 1).trans rfl⟩ (fun hHeld => ?_)
              clear hK K
              refine norm_ (a' := ?_) ?_ ?_
              rotate_left
              · show Act.put _ (some 12) _ = _
                simp only [Act.put, List.setIfInBounds_toArray, List.set_cons_zero, List.set_cons_succ, i64_w, i32_w]
                rfl
              refine one_ (i := 2) (N := some 13) #[true, true, true, false] rfl rfl (by kernel_rfl) (by decide) (fun K hK => ?_)
              refine goes_ Try.func57 (by kernel_rfl) rfl #[.agg #[.int .i64 ((rd_T41 l0 x7_1).f0), .int .i64 ((rd_T41 l0 x7_1).f1)], .int .i64 t3] (by rfl) rfl rfl (by (try simp only [List.map_toArray, List.map_cons, List.map_nil]); first | done | rfl | (simp only [List.length_drop, List.length_take]; rfl)) ?_
              with_reducible refine (headroomref03_Within.calls ((rd_T41 l0 x7_1).f0) ((rd_T41 l0 x7_1).f1) t3 true _ A6.out).mono ?_
              rintro e w12 ⟨rfl, hb⟩
              refine ⟨_, rfl, ?_⟩
              have n0_ := Aside0.mk (blk_below (g := gb2) (o := .cells #[.int .i64 ((rd_T41 l0 x7_1).f0), .int .i64 ((rd_T41 l0 x7_1).f1)] 41 (0, 0)) (by (with_reducible repeat (first | refine blk_drewN ?_ _ | refine blk_drew ?_ | refine blk_alloc ?_ _)); exact BK2.out) hb)
              have n1_ := Aside0.mk (below_step (by repeat (first | (with_reducible first | exact HB.out | apply below_alloc | apply pw_below_drewN | apply below_drew1 | refine below_set ?_ GE2.out) | exact HB.out)) hb)
              clear BK2
              clear HB
              have BK2 := n0_
              have HB := n1_
              clear n0_ n1_
              (try clear hb)
              (try clear hb2)
              (try clear hk)
              (try clear hi)
              refine hK.out _ _ ⟨(blk_cell BK2.out 0).trans rfl, (blk_cell BK2.out 1).trans rfl⟩ (fun hHeld => ?_)
              clear hK K
              refine norm_ (a' := ?_) ?_ ?_
              rotate_left
              · show Act.put _ (some 13) _ = _
                simp only [Act.put, List.setIfInBounds_toArray, List.set_cons_zero, List.set_cons_succ, i64_w, i32_w]
                rfl
              refine pure_ (i := 3) (N := some 14) (v := ?_) (a' := ?_) #[true, true, true, true] rfl rfl (by kernel_rfl) (fun _ _ _ h => h) (Or.inl ⟨by rfl, ?_⟩) ?_ ?_
              rotate_left
              · intro w'
                go_simp
                with_reducible rfl
              rotate_left
              · simp only [Act.put, List.setIfInBounds_toArray, List.set_cons_zero, List.set_cons_succ, i64_w, i32_w]
                rfl
              refine done_ (by kernel_rfl) ?_
              try go_wp2
              go_roundg k1
              case measure => have := HK1.out; omega
              case rel => exact ⟨(wrap64 (x7_1 + 1)), (by first | rfl | (simp; done) | (simp [*]; done)), H', ⟨by have := HK1.out; omega⟩, ⟨by repeat (first | (with_reducible first | exact HB.out | apply below_alloc | apply pw_below_drewN | apply below_drew1 | refine below_set ?_ GE2.out) | exact HB.out)⟩⟩
            · replace c7 := Bool.eq_false_iff.mpr c7
              subst c7
              have H1 : (some false) = some r := by rw [if_neg (show ¬ (false = true) by decide)] at H; exact H
              clear H
              have H := H1
              clear H1
              obtain rfl := Option.some.inj H
              have p1 : 0 ≤ (x7_1 : Int) := of_decide_eq_true (by first | (with_reducible assumption) | assumption)
              have q1 : x7_1 < (l0.length : Int) := of_decide_eq_true (by first | (with_reducible assumption) | assumption)
              obtain ⟨ad1, e1, hx1_0, hx1_1⟩ := at_T41 HR0.out x7_1 p1 q1
              cases e1
              replace hx1_0 := (HB.out.cell (World.block_lt_of_cell? w _ hx1_0)).trans hx1_0
              replace hx1_1 := (HB.out.cell (World.block_lt_of_cell? w _ hx1_1)).trans hx1_1
              replace p1 := eq_true p1
              replace q1 := eq_true q1
              try go_wp2_with (first | ((with_reducible refine gate_dst (N := 4) rfl ?_); refine box_event ?hg (N := 4) ?hd (cs := #[.int .i64 0, .int .i64 0]) (t := 41) ?hr ?_; (case hd => rfl); (case hg => rfl); (case hr => first | (go_simp; done) | (go_simp; rfl)); intro gb2 hg w13 hbox hb; have n0_ := Aside0.mk (below_step (by repeat (first | (with_reducible first | exact HB.out | apply below_alloc | apply pw_below_drewN | apply below_drew1) | exact HB.out)) hb); have n1_ := Aside0.mk (hbox); have n2_ := Aside0.mk ((by rw [hg]; exact (below_size (by repeat (first | (with_reducible first | exact HB.out | apply below_alloc | apply pw_below_drewN | apply below_drew1) | exact HB.out))) : w.heap.size ≤ gb2)); have n3_ := Aside0.mk ((by rw [hg]; exact (below_size (by repeat (first | (with_reducible first | exact HB.out | apply below_alloc | apply pw_below_drewN | apply below_drew1) | exact HB.out))) : w.heap.size ≤ gb2)); clear HB; have HB := n0_; have BK2 := n1_; have GW2 := n2_; have GE2 := n3_; clear n0_ n1_ n2_ n3_; clear hb hbox hg; have hcz14_0 : w13.cell? ⟨gb2, 0, none⟩ = some (.int .i64 0) := (blk_cell BK2.out 0).trans rfl; have hcz14_1 : w13.cell? ⟨gb2, 1, none⟩ = some (.int .i64 0) := (blk_cell BK2.out 1).trans rfl; have hfz14_0 := blk_frozen BK2.out 0; have hfz14_1 := blk_frozen BK2.out 1))
              have n0_ : Aside0 (((w13.setCell ⟨gb2, 0, none⟩ (.int .i64 ((rd_T41 l0 x7_1).f0))).setCell ⟨gb2, 1, none⟩ (.int .i64 ((rd_T41 l0 x7_1).f1))).heap[gb2]? = some (.cells #[.int .i64 ((rd_T41 l0 x7_1).f0), .int .i64 ((rd_T41 l0 x7_1).f1)] 41 (0, 0))) := ⟨by (with_reducible repeat (first | refine blk_drewN ?_ _ | refine blk_drew ?_ | refine blk_alloc ?_ _)); refine blk_put (cs := #[.int .i64 ((rd_T41 l0 x7_1).f0), .int .i64 0]) ?_ 1 _ rfl; (with_reducible repeat (first | refine blk_drewN ?_ _ | refine blk_drew ?_ | refine blk_alloc ?_ _)); refine blk_put (cs := #[.int .i64 0, .int .i64 0]) ?_ 0 _ rfl; (with_reducible repeat (first | refine blk_drewN ?_ _ | refine blk_drew ?_ | refine blk_alloc ?_ _)); exact BK2.out⟩
              have n1_ : Aside0 (Below w.heap.size w ((w13.setCell ⟨gb2, 0, none⟩ (.int .i64 ((rd_T41 l0 x7_1).f0))).setCell ⟨gb2, 1, none⟩ (.int .i64 ((rd_T41 l0 x7_1).f1)))) := ⟨by repeat (first | (with_reducible first | exact HB.out | apply below_alloc | apply pw_below_drewN | apply below_drew1 | refine below_set ?_ GE2.out) | exact HB.out)⟩
              (try clear BK2)
              (try clear HB)
              generalize ((w13.setCell ⟨gb2, 0, none⟩ (.int .i64 ((rd_T41 l0 x7_1).f0))).setCell ⟨gb2, 1, none⟩ (.int .i64 ((rd_T41 l0 x7_1).f1))) = w15 at n0_ n1_ ⊢
              have BK2 := n0_
              have HB := n1_
              clear n0_ n1_
              have n0_ := Aside0.mk (blk_drew BK2.out)
              have n1_ := Aside0.mk (below_drew1 HB.out)
              clear BK2
              clear HB
              have BK2 := n0_
              have HB := n1_
              clear n0_ n1_
              refine start_ (n := 4) (S := fun w' => w'.cell? ⟨gb2, 0, none⟩ = some (.int .i64 ((rd_T41 l0 x7_1).f0)) ∧ w'.cell? ⟨gb2, 1, none⟩ = some (.int .i64 ((rd_T41 l0 x7_1).f1))) (ds := []) #[false, false, false, false] (by kernel_rfl) rfl rfl ⟨(blk_cell BK2.out 0).trans rfl, (blk_cell BK2.out 1).trans rfl⟩ (fun hHeld => ?_)
              generalize w15.drew = w16 at BK2 HB hHeld ⊢
              refine take_ (i := 0) (N := some 11) (v := ?_) (a' := ?_) #[true, false, false, false] rfl rfl (by kernel_rfl) (fun _ _ _ h => h) (Or.inl ⟨by rfl, ?_⟩) hHeld ?_ ?_
              rotate_left
              · rintro w' ⟨s0, s1⟩
                go_simp
                with_reducible rfl
              rotate_left
              · simp only [Act.put, List.setIfInBounds_toArray, List.set_cons_zero, List.set_cons_succ, i64_w, i32_w]
                rfl
              refine one_ (i := 1) (N := some 12) #[true, true, false, false] rfl rfl (by kernel_rfl) (by decide) (fun K hK => ?_)
              refine goes_ Try.func56 (by kernel_rfl) rfl #[.int .i64 31] (by rfl) rfl rfl (by (try simp only [List.map_toArray, List.map_cons, List.map_nil]); first | done | rfl | (simp only [List.length_drop, List.length_take]; rfl)) ?_
              with_reducible refine (headroomref01_Pow.calls k1 31 t3 _ A5.out).mono ?_
              rintro e w' ⟨rfl, ⟨nd, rfl⟩⟩
              refine ⟨_, rfl, ?_⟩
              refine hK.out _ _ ⟨(blk_cell BK2.out 0).trans rfl, (blk_cell BK2.out 1).trans rfl⟩ (fun hHeld => ?_)
              clear hK K
              refine norm_ (a' := ?_) ?_ ?_
              rotate_left
              · show Act.put _ (some 12) _ = _
                simp only [Act.put, List.setIfInBounds_toArray, List.set_cons_zero, List.set_cons_succ, i64_w, i32_w]
                rfl
              refine one_ (i := 2) (N := some 13) #[true, true, true, false] rfl rfl (by kernel_rfl) (by decide) (fun K hK => ?_)
              refine goes_ Try.func57 (by kernel_rfl) rfl #[.agg #[.int .i64 ((rd_T41 l0 x7_1).f0), .int .i64 ((rd_T41 l0 x7_1).f1)], .int .i64 t3] (by rfl) rfl rfl (by (try simp only [List.map_toArray, List.map_cons, List.map_nil]); first | done | rfl | (simp only [List.length_drop, List.length_take]; rfl)) ?_
              with_reducible refine (headroomref03_Within.calls ((rd_T41 l0 x7_1).f0) ((rd_T41 l0 x7_1).f1) t3 false _ A6.out).mono ?_
              rintro e w17 ⟨rfl, hb⟩
              refine ⟨_, rfl, ?_⟩
              have n0_ := Aside0.mk (blk_below (g := gb2) (o := .cells #[.int .i64 ((rd_T41 l0 x7_1).f0), .int .i64 ((rd_T41 l0 x7_1).f1)] 41 (0, 0)) (by (with_reducible repeat (first | refine blk_drewN ?_ _ | refine blk_drew ?_ | refine blk_alloc ?_ _)); exact BK2.out) hb)
              have n1_ := Aside0.mk (below_step (by repeat (first | (with_reducible first | exact HB.out | apply below_alloc | apply pw_below_drewN | apply below_drew1 | refine below_set ?_ GE2.out) | exact HB.out)) hb)
              clear BK2
              clear HB
              have BK2 := n0_
              have HB := n1_
              clear n0_ n1_
              (try clear hb)
              (try clear hb2)
              (try clear hk)
              (try clear hi)
              refine hK.out _ _ ⟨(blk_cell BK2.out 0).trans rfl, (blk_cell BK2.out 1).trans rfl⟩ (fun hHeld => ?_)
              clear hK K
              refine norm_ (a' := ?_) ?_ ?_
              rotate_left
              · show Act.put _ (some 13) _ = _
                simp only [Act.put, List.setIfInBounds_toArray, List.set_cons_zero, List.set_cons_succ, i64_w, i32_w]
                rfl
              refine pure_ (i := 3) (N := some 14) (v := ?_) (a' := ?_) #[true, true, true, true] rfl rfl (by kernel_rfl) (fun _ _ _ h => h) (Or.inl ⟨by rfl, ?_⟩) ?_ ?_
              rotate_left
              · intro w'
                go_simp
                with_reducible rfl
              rotate_left
              · simp only [Act.put, List.setIfInBounds_toArray, List.set_cons_zero, List.set_cons_succ, i64_w, i32_w]
                rfl
              refine done_ (by kernel_rfl) ?_
              try go_wp2
              go_ret
              exact ⟨by first | rfl | (simp [errW_none, errW_some] <;> rfl) | (simp [*, errW_none, errW_some] <;> rfl), by repeat (first | (with_reducible first | exact HB.out | apply below_alloc | apply pw_below_drewN | apply below_drew1 | refine below_set ?_ GE2.out) | exact HB.out)⟩
          · rw [if_neg c4] at H
            exact absurd H (by simp)
        · rw [if_neg c3] at H
          exact absurd H (by simp)
      · rw [if_neg c2] at H
        have c2b0 : decide (x7_1 < (l0.length : Int)) = false := decide_eq_false c2
        clear c2
        obtain rfl := Option.some.inj H
        go_wp2
        go_ret
        exact ⟨by first | rfl | (simp [errW_none, errW_some] <;> rfl) | (simp [*, errW_none, errW_some] <;> rfl), by repeat (first | (with_reducible first | exact HB.out | apply below_alloc | apply pw_below_drewN | apply below_drew1) | exact HB.out)⟩

end Go.Proofs.Ytpmkkidljmedaaa.X
namespace Go.Proofs.Ytpmkkidljmedaaa.X
open Go.RowKit Go.Proofs.YtpmkkidljmedaaaW.PrintWords Go.Proofs.YtpmkkidljmedaaaW.PrintLast Go.Proofs.YtpmkkidljmedaaaW.PrintMore
attribute [local go_sem] max2_int min2_int max_two min_two max_three min_three max_four min_four   -- for this text's walks alone
set_option linter.unusedVariables false
set_option linter.unusedSimpArgs false

/-! ### headroomref16_May: function 12 -/
def headroomref16_May.f (k : Nat) (l0 : List (S41)) : Option (Int) := (headroomref08_Log.f k (l0.length : Int)).bind fun t1 => (if t1 < 0 then (some 3) else ((headroomref09_Narrow.f k l0).bind fun t2 => (if t2 = true then (some 0) else (some 2))))
theorem headroomref16_May.mono : ∀ a0 k, LeO (headroomref16_May.f k a0) (headroomref16_May.f (k + 1) a0) := by
  intro a0 k
  unfold headroomref16_May.f
  repeat' first
      | (with_reducible exact headroomref08_Log.mono _ _)
      | (with_reducible exact headroomref09_Narrow.mono _ _)
      | (with_reducible exact LeO.refl _)
      | (with_reducible exact LeO.none _)
      | (with_reducible refine LeO.ite ?_ ?_)
      | (with_reducible refine LeO.bind ?_ (fun _ => ?_))
      | exact headroomref08_Log.mono _ _
      | exact headroomref09_Narrow.mono _ _
      | exact LeO.none _
      | refine LeO.ite ?_ ?_
      | refine LeO.bind ?_ (fun _ => ?_)
set_option maxHeartbeats 8000000 in
set_option maxRecDepth 100000 in
theorem headroomref16_May.calls (k : Nat) (A0 : Option Addr) (c0 : Nat) (l0 : List (S41)) (r : Int) (w : World) (hr0 : Kd.C k41 w A0 l0.length l0) (hc0 : l0.length ≤ c0) (h : headroomref16_May.f k l0 = some r) :
    Calls Try.prog 12 #[.slice A0 l0.length c0] w fun e w' => e = .returned (.int .i64 r) ∧ Below w.heap.size w w' := by
  have HR0 := Aside0.mk hr0
  have HC0 := Aside0.mk hc0
  clear hr0 hc0
  have HB := Aside0.mk (Below.refl w.heap.size w)
  have H : ((headroomref08_Log.f k (l0.length : Int)).bind fun t1 => (if t1 < 0 then (some 3) else ((headroomref09_Narrow.f k l0).bind fun t2 => (if t2 = true then (some 0) else (some 2))))) = some r := h
  clear h
  replace H := Option.bind_eq_some_iff.mp H
  obtain ⟨t1, A20, H⟩ := H
  replace H : (if t1 < 0 then (some 3) else ((headroomref09_Narrow.f k l0).bind fun t2 => (if t2 = true then (some 0) else (some 2)))) = some r := H
  have A2 := Aside0.mk A20
  clear A20
  by_cases c3 : t1 < 0
  · rw [if_pos c3] at H
    have c3b0 : decide (t1 < 0) = true := decide_eq_true c3
    clear c3
    obtain rfl := Option.some.inj H
    go_enter Try.func12, Try.ntmps12
    go_wp2_with (first | ((with_reducible refine gate_callee (f := 24) rfl ?_); refine goesL_ (some 5) rfl rfl Try.func24 (by kernel_rfl) rfl #[.int .i64 (l0.length : Int)] rfl (by (try simp only [List.map_toArray, List.map_cons, List.map_nil]); first | done | rfl | (simp only [List.length_drop, List.length_take]; rfl)) ?_; (with_reducible refine (headroomref08_Log.calls k (l0.length : Int) t1 _ A2.out).mono ?_); rintro e w' ⟨rfl, ⟨nd, rfl⟩⟩; refine ⟨_, rfl, ?_⟩))
    go_ret
    exact ⟨by first | rfl | (simp [errW_none, errW_some] <;> rfl) | (simp [*, errW_none, errW_some] <;> rfl), by repeat (first | (with_reducible first | exact HB.out | apply below_alloc | apply pw_below_drewN | apply below_drew1) | exact HB.out)⟩
  · rw [if_neg c3] at H
    have c3b0 : decide (t1 < 0) = false := decide_eq_false c3
    clear c3
    replace H := Option.bind_eq_some_iff.mp H
    obtain ⟨t2, A40, H⟩ := H
    replace H : (if t2 = true then (some 0) else (some 2)) = some r := H
    have A4 := Aside0.mk A40
    clear A40
    by_cases c5 : t2 = true
    · subst c5
      have H1 : (some 0) = some r := by rw [if_pos rfl] at H; exact H
      clear H
      have H := H1
      clear H1
      obtain rfl := Option.some.inj H
      go_enter Try.func12, Try.ntmps12
      go_wp2_with (first | ((with_reducible refine gate_callee (f := 24) rfl ?_); refine goesL_ (some 5) rfl rfl Try.func24 (by kernel_rfl) rfl #[.int .i64 (l0.length : Int)] rfl (by (try simp only [List.map_toArray, List.map_cons, List.map_nil]); first | done | rfl | (simp only [List.length_drop, List.length_take]; rfl)) ?_; (with_reducible refine (headroomref08_Log.calls k (l0.length : Int) t1 _ A2.out).mono ?_); rintro e w' ⟨rfl, ⟨nd, rfl⟩⟩; refine ⟨_, rfl, ?_⟩) | ((with_reducible refine gate_callee (f := 37) rfl ?_); refine goesL_ (some 8) rfl rfl Try.func37 (by kernel_rfl) rfl #[.slice A0 l0.length c0] rfl (by (try simp only [List.map_toArray, List.map_cons, List.map_nil]); first | done | rfl | (simp only [List.length_drop, List.length_take]; rfl)) ?_; (with_reducible refine (headroomref09_Narrow.calls k _ _ l0 true _ ?side1 ?side2 A4.out).mono ?_); (case side1 => repeat (first | exact HR0.out | (with_reducible refine Kd.C_alloc ?_ _) | (with_reducible refine Kd.C_drewN ?_ _) | (with_reducible refine Kd.C_drew ?_))); (case side2 => exact HC0.out); rintro e w6 ⟨rfl, hb⟩; refine ⟨_, rfl, ?_⟩; have n0_ := Aside0.mk (below_step (by repeat (first | (with_reducible first | exact HB.out | apply below_alloc | apply pw_below_drewN | apply below_drew1) | exact HB.out)) hb); clear HB; have HB := n0_; clear n0_; (try clear hb); (try clear hb2); (try clear hk); (try clear hi)))
      go_ret
      exact ⟨by first | rfl | (simp [errW_none, errW_some] <;> rfl) | (simp [*, errW_none, errW_some] <;> rfl), by repeat (first | (with_reducible first | exact HB.out | apply below_alloc | apply pw_below_drewN | apply below_drew1) | exact HB.out)⟩
    · replace c5 := Bool.eq_false_iff.mpr c5
      subst c5
      have H1 : (some 2) = some r := by rw [if_neg (show ¬ (false = true) by decide)] at H; exact H
      clear H
      have H := H1
      clear H1
      obtain rfl := Option.some.inj H
      go_enter Try.func12, Try.ntmps12
      go_wp2_with (first | ((with_reducible refine gate_callee (f := 24) rfl ?_); refine goesL_ (some 5) rfl rfl Try.func24 (by kernel_rfl) rfl #[.int .i64 (l0.length : Int)] rfl (by (try simp only [List.map_toArray, List.map_cons, List.map_nil]); first | done | rfl | (simp only [List.length_drop, List.length_take]; rfl)) ?_; (with_reducible refine (headroomref08_Log.calls k (l0.length : Int) t1 _ A2.out).mono ?_); rintro e w' ⟨rfl, ⟨nd, rfl⟩⟩; refine ⟨_, rfl, ?_⟩) | ((with_reducible refine gate_callee (f := 37) rfl ?_); refine goesL_ (some 8) rfl rfl Try.func37 (by kernel_rfl) rfl #[.slice A0 l0.length c0] rfl (by (try simp only [List.map_toArray, List.map_cons, List.map_nil]); first | done | rfl | (simp only [List.length_drop, List.length_take]; rfl)) ?_; (with_reducible refine (headroomref09_Narrow.calls k _ _ l0 false _ ?side1 ?side2 A4.out).mono ?_); (case side1 => repeat (first | exact HR0.out | (with_reducible refine Kd.C_alloc ?_ _) | (with_reducible refine Kd.C_drewN ?_ _) | (with_reducible refine Kd.C_drew ?_))); (case side2 => exact HC0.out); rintro e w7 ⟨rfl, hb⟩; refine ⟨_, rfl, ?_⟩; have n0_ := Aside0.mk (below_step (by repeat (first | (with_reducible first | exact HB.out | apply below_alloc | apply pw_below_drewN | apply below_drew1) | exact HB.out)) hb); clear HB; have HB := n0_; clear n0_; (try clear hb); (try clear hb2); (try clear hk); (try clear hi)))
      go_ret
      exact ⟨by first | rfl | (simp [errW_none, errW_some] <;> rfl) | (simp [*, errW_none, errW_some] <;> rfl), by repeat (first | (with_reducible first | exact HB.out | apply below_alloc | apply pw_below_drewN | apply below_drew1) | exact HB.out)⟩

end Go.Proofs.Ytpmkkidljmedaaa.X
namespace Go.Proofs.Ytpmkkidljmedaaa.X
open Go.RowKit Go.Proofs.YtpmkkidljmedaaaW.PrintWords Go.Proofs.YtpmkkidljmedaaaW.PrintLast Go.Proofs.YtpmkkidljmedaaaW.PrintMore
attribute [local go_sem] max2_int min2_int max_two min_two max_three min_three max_four min_four   -- for this text's walks alone
set_option linter.unusedVariables false
set_option linter.unusedSimpArgs false

theorem eqA41 (d : Nat) (w : World) (x0 y0 : Int) (x1 y1 : Int) :
    (Op.equalIn (d + 2) 41 (.agg #[.int .i64 x0, .int .i64 x1]) (.agg #[.int .i64 y0, .int .i64 y1])).run Try.prog w = .ok (x0 == y0 && (x1 == y1)) w := by
  refine eqA_of Try.underlying41 (by kernel_rfl) ?_
  refine eqf_cons (by rfl) (by go_simp; rfl) (by go_simp; rfl) (by go_simp) ?_
  exact eqf_last (by rfl) (by go_simp; rfl) (by go_simp; rfl) (by go_simp)
end Go.Proofs.Ytpmkkidljmedaaa.X
namespace Go.Proofs.Ytpmkkidljmedaaa.X
open Go.RowKit Go.Proofs.YtpmkkidljmedaaaW.PrintWords Go.Proofs.YtpmkkidljmedaaaW.PrintLast Go.Proofs.YtpmkkidljmedaaaW.PrintMore
attribute [local go_sem] max2_int min2_int max_two min_two max_three min_three max_four min_four   -- for this text's walks alone
set_option linter.unusedVariables false
set_option linter.unusedSimpArgs false

/-! ### dft_Bin: function 22 -/
def dft_Bin.f (k : Nat) (l0 : List (S41)) (a1 : Int) (a2 : Bool) : Option (Int × Int × Int) := (dft_may.f k l0).bind fun bt2 => (if bt2.2 = 0 then ((dft_bin.f l0 bt2.1 (Go.bits .and .i64 a1 (wrap64 ((l0.length : Int) - 1))) a2).bind fun bt6 => (some (bt6.1, bt6.2, 0))) else (some (0, 0, bt2.2)))
theorem dft_Bin.mono : ∀ a0 a1 a2 k, LeO (dft_Bin.f k a0 a1 a2) (dft_Bin.f (k + 1) a0 a1 a2) := by
  intro a0 a1 a2 k
  unfold dft_Bin.f
  repeat' first
      | (with_reducible exact dft_may.mono _ _)
      | (with_reducible exact LeO.refl _)
      | (with_reducible exact LeO.none _)
      | (with_reducible refine LeO.ite ?_ ?_)
      | (with_reducible refine LeO.bind ?_ (fun _ => ?_))
      | exact dft_may.mono _ _
      | exact LeO.none _
      | refine LeO.ite ?_ ?_
      | refine LeO.bind ?_ (fun _ => ?_)
set_option maxHeartbeats 8000000 in
set_option maxRecDepth 100000 in
theorem dft_Bin.calls (k : Nat) (A0 : Option Addr) (c0 : Nat) (l0 : List (S41)) (a1 : Int) (a2 : Bool) (r1 : Int) (r2 : Int) (r3 : Int) (w : World) (hr0 : Kd.C k41 w A0 l0.length l0) (hc0 : l0.length ≤ c0) (h : dft_Bin.f k l0 a1 a2 = some (r1, r2, r3)) :
    Calls Try.prog 22 #[.slice A0 l0.length c0, .int .i64 a1, .bool a2] w fun e w' => e = .returned (.tuple #[.agg #[.int .i64 r1, .int .i64 r2], .int .i64 r3]) ∧ Below w.heap.size w w' := by
  have hu41 := Try.underlying41
  have HR0 := Aside0.mk hr0
  have HC0 := Aside0.mk hc0
  clear hr0 hc0
  have HB := Aside0.mk (Below.refl w.heap.size w)
  have H : ((dft_may.f k l0).bind fun bt2 => (if bt2.2 = 0 then ((dft_bin.f l0 bt2.1 (Go.bits .and .i64 a1 (wrap64 ((l0.length : Int) - 1))) a2).bind fun bt6 => (some (bt6.1, bt6.2, 0))) else (some (0, 0, bt2.2)))) = some (r1, r2, r3) := h
  clear h
  replace H := Option.bind_eq_some_iff.mp H
  obtain ⟨⟨t2, t3⟩, A40, H⟩ := H
  replace H : (if t3 = 0 then ((dft_bin.f l0 t2 (Go.bits .and .i64 a1 (wrap64 ((l0.length : Int) - 1))) a2).bind fun bt6 => (some (bt6.1, bt6.2, 0))) else (some (0, 0, t3))) = some (r1, r2, r3) := H
  have A4 := Aside0.mk A40
  clear A40
  by_cases c5 : t3 = 0
  · rw [if_pos c5] at H
    have c5b0 : (t3 == 0) = true := beq_iff_eq.mpr c5
    have c5b1 : (t3 != 0) = false := bne_eq_false_iff_eq.mpr c5
    clear c5
    replace H := Option.bind_eq_some_iff.mp H
    obtain ⟨⟨t6, t7⟩, A60, H⟩ := H
    replace H : (some (t6, t7, 0)) = some (r1, r2, r3) := H
    have A6 := Aside0.mk A60
    clear A60
    simp only [Option.some.injEq, Prod.mk.injEq] at H
    obtain ⟨rfl, rfl, rfl⟩ := H
    go_enter Try.func22, Try.ntmps22
    go_wp2_with (first | ((with_reducible refine gate_dst (N := 6) rfl ?_); refine box_event ?hg (N := 6) ?hd (cs := #[.int .i64 0, .int .i64 0]) (t := 41) ?hr ?_; (case hd => rfl); (case hg => rfl); (case hr => first | (go_simp; done) | (go_simp; rfl)); intro gb1 hg w7 hbox hb; have n0_ := Aside0.mk (below_step (by repeat (first | (with_reducible first | exact HB.out | apply below_alloc | apply pw_below_drewN | apply below_drew1) | exact HB.out)) hb); have n1_ := Aside0.mk (hbox); have n2_ := Aside0.mk ((by rw [hg]; exact (below_size (by repeat (first | (with_reducible first | exact HB.out | apply below_alloc | apply pw_below_drewN | apply below_drew1) | exact HB.out))) : w.heap.size ≤ gb1)); have n3_ := Aside0.mk ((by rw [hg]; exact (below_size (by repeat (first | (with_reducible first | exact HB.out | apply below_alloc | apply pw_below_drewN | apply below_drew1) | exact HB.out))) : w.heap.size ≤ gb1)); clear HB; have HB := n0_; have BK1 := n1_; have GW1 := n2_; have GE1 := n3_; clear n0_ n1_ n2_ n3_; clear hb hbox hg) | ((with_reducible refine gate_callee (f := 35) rfl ?_); refine goesL_ (some 12) rfl rfl Try.func35 (by kernel_rfl) rfl #[.slice A0 l0.length c0] rfl (by (try simp only [List.map_toArray, List.map_cons, List.map_nil]); first | done | rfl | (simp only [List.length_drop, List.length_take]; rfl)) ?_; (with_reducible refine (dft_may.calls k _ _ l0 t2 t3 _ ?side1 ?side2 A4.out).mono ?_); (case side1 => repeat (first | exact (Kd.C_below HR0.out HB.out) | (with_reducible refine Kd.C_alloc ?_ _) | (with_reducible refine Kd.C_drewN ?_ _) | (with_reducible refine Kd.C_drew ?_))); (case side2 => exact HC0.out); rintro e w8 ⟨v4, rfl, ho0, hb⟩; refine ⟨_, rfl, ?_⟩; have n0_ := Aside0.mk (Kd.R_lower (Kd.R_newB ho0 (g := gb1) (o := .cells #[.int .i64 0, .int .i64 0] 41 (0, 0)) (by (with_reducible repeat (first | refine blk_drewN ?_ _ | refine blk_drew ?_ | refine blk_alloc ?_ _)); exact BK1.out)) (below_size (by repeat (first | (with_reducible first | exact HB.out | apply below_alloc | apply pw_below_drewN | apply below_drew1 | refine below_set ?_ GE1.out) | exact HB.out)))); have n1_ := Aside0.mk (blk_below (g := gb1) (o := .cells #[.int .i64 0, .int .i64 0] 41 (0, 0)) (by (with_reducible repeat (first | refine blk_drewN ?_ _ | refine blk_drew ?_ | refine blk_alloc ?_ _)); exact BK1.out) hb); have n2_ := Aside0.mk (below_step (by repeat (first | (with_reducible first | exact HB.out | apply below_alloc | apply pw_below_drewN | apply below_drew1 | refine below_set ?_ GE1.out) | exact HB.out)) hb); clear BK1; clear HB; have HO5 := n0_; have BK1 := n1_; have HB := n2_; clear n0_ n1_ n2_; (try clear hb); (try clear hb2); (try clear hk); (try clear hi); (try clear ho0); obtain ⟨Ao9, co9, eo9⟩ := Kd.R_slice HO5.out; subst eo9) | ((with_reducible refine gate_callee (f := 36) rfl ?_); refine goesL_ (some 27) rfl rfl Try.func36 (by kernel_rfl) rfl #[.slice A0 l0.length c0, .slice Ao9 t2.length co9, .int .i64 (Go.bits .and .i64 a1 (wrap64 ((l0.length : Int) - 1))), .bool a2] rfl (by (try simp only [List.map_toArray, List.map_cons, List.map_nil]); first | done | rfl | (simp only [List.length_drop, List.length_take]; rfl)) ?_; (with_reducible refine (dft_bin.calls _ _ l0 _ _ t2 (Go.bits .and .i64 a1 (wrap64 ((l0.length : Int) - 1))) a2 t6 t7 _ ?side1 ?side2 ?side3 ?side4 A6.out).mono ?_); (case side1 => repeat (first | exact (Kd.C_below HR0.out HB.out) | (with_reducible refine Kd.C_alloc ?_ _) | (with_reducible refine Kd.C_drewN ?_ _) | (with_reducible refine Kd.C_drew ?_))); (case side2 => exact HC0.out); (case side3 => repeat (first | exact (Kd.R_reads' HO5.out).2.2 | (with_reducible refine Kd.C_alloc ?_ _) | (with_reducible refine Kd.C_drewN ?_ _) | (with_reducible refine Kd.C_drew ?_))); (case side4 => exact (Kd.R_reads' HO5.out).2.1); rintro e w10 ⟨rfl, hb⟩; refine ⟨_, rfl, ?_⟩; have n0_ := Aside0.mk (Kd.R_below (by (with_reducible repeat (first | apply Kd.R_alloc | apply Kd.R_drewN | apply Kd.R_drew)); exact HO5.out) hb); have n1_ := Aside0.mk (blk_below (g := gb1) (o := .cells #[.int .i64 0, .int .i64 0] 41 (0, 0)) (by (with_reducible repeat (first | refine blk_drewN ?_ _ | refine blk_drew ?_ | refine blk_alloc ?_ _)); exact BK1.out) hb); have n2_ := Aside0.mk (below_step (by repeat (first | (with_reducible first | exact HB.out | apply below_alloc | apply pw_below_drewN | apply below_drew1 | refine below_set ?_ GE1.out) | exact HB.out)) hb); clear HO5; clear BK1; clear HB; have HO5 := n0_; have BK1 := n1_; have HB := n2_; clear n0_ n1_ n2_; (try clear hb); (try clear hb2); (try clear hk); (try clear hi); have hcz11_0 : w10.cell? ⟨gb1, 0, none⟩ = some (.int .i64 0) := (blk_cell BK1.out 0).trans rfl; have hcz11_1 : w10.cell? ⟨gb1, 1, none⟩ = some (.int .i64 0) := (blk_cell BK1.out 1).trans rfl; have hfz11_0 := blk_frozen BK1.out 0; have hfz11_1 := blk_frozen BK1.out 1))
    refine bodyPost_ret (results_ct rfl _ _ gb1 41 #[.int .i64 t6, .int .i64 t7] (0, 0) _ rfl (by (with_reducible repeat (first | refine blk_drewN ?_ _ | refine blk_drew ?_ | refine blk_alloc ?_ _)); refine blk_put (cs := #[.int .i64 t6, .int .i64 0]) ?_ 1 _ rfl; (with_reducible repeat (first | refine blk_drewN ?_ _ | refine blk_drew ?_ | refine blk_alloc ?_ _)); refine blk_put (cs := #[.int .i64 0, .int .i64 0]) ?_ 0 _ rfl; (with_reducible repeat (first | refine blk_drewN ?_ _ | refine blk_drew ?_ | refine blk_alloc ?_ _)); exact BK1.out) Try.underlying41 rfl (by kernel_rfl)) rfl ?_
    exact ⟨by first | rfl | (simp [errW_none, errW_some] <;> rfl) | (simp [*, errW_none, errW_some] <;> rfl), by repeat (first | (with_reducible first | exact HB.out | apply below_alloc | apply pw_below_drewN | apply below_drew1 | refine below_set ?_ GE1.out) | exact HB.out)⟩
  · rw [if_neg c5] at H
    have c5b0 : (t3 == 0) = false := beq_eq_false_iff_ne.mpr c5
    have c5b1 : (t3 != 0) = true := bne_iff_ne.mpr c5
    simp only [Option.some.injEq, Prod.mk.injEq] at H
    obtain ⟨rfl, rfl, rfl⟩ := H
    go_enter Try.func22, Try.ntmps22
    go_wp2_with (first | ((with_reducible refine gate_dst (N := 6) rfl ?_); refine box_event ?hg (N := 6) ?hd (cs := #[.int .i64 0, .int .i64 0]) (t := 41) ?hr ?_; (case hd => rfl); (case hg => rfl); (case hr => first | (go_simp; done) | (go_simp; rfl)); intro gb1 hg w12 hbox hb; have n0_ := Aside0.mk (below_step (by repeat (first | (with_reducible first | exact HB.out | apply below_alloc | apply pw_below_drewN | apply below_drew1) | exact HB.out)) hb); have n1_ := Aside0.mk (hbox); have n2_ := Aside0.mk ((by rw [hg]; exact (below_size (by repeat (first | (with_reducible first | exact HB.out | apply below_alloc | apply pw_below_drewN | apply below_drew1) | exact HB.out))) : w.heap.size ≤ gb1)); have n3_ := Aside0.mk ((by rw [hg]; exact (below_size (by repeat (first | (with_reducible first | exact HB.out | apply below_alloc | apply pw_below_drewN | apply below_drew1) | exact HB.out))) : w.heap.size ≤ gb1)); clear HB; have HB := n0_; have BK1 := n1_; have GW1 := n2_; have GE1 := n3_; clear n0_ n1_ n2_ n3_; clear hb hbox hg) | ((with_reducible refine gate_callee (f := 35) rfl ?_); refine goesL_ (some 12) rfl rfl Try.func35 (by kernel_rfl) rfl #[.slice A0 l0.length c0] rfl (by (try simp only [List.map_toArray, List.map_cons, List.map_nil]); first | done | rfl | (simp only [List.length_drop, List.length_take]; rfl)) ?_; (with_reducible refine (dft_may.calls k _ _ l0 t2 t3 _ ?side1 ?side2 A4.out).mono ?_); (case side1 => repeat (first | exact (Kd.C_below HR0.out HB.out) | (with_reducible refine Kd.C_alloc ?_ _) | (with_reducible refine Kd.C_drewN ?_ _) | (with_reducible refine Kd.C_drew ?_))); (case side2 => exact HC0.out); rintro e w13 ⟨v4, rfl, ho0, hb⟩; refine ⟨_, rfl, ?_⟩; have n0_ := Aside0.mk (Kd.R_lower (Kd.R_newB ho0 (g := gb1) (o := .cells #[.int .i64 0, .int .i64 0] 41 (0, 0)) (by (with_reducible repeat (first | refine blk_drewN ?_ _ | refine blk_drew ?_ | refine blk_alloc ?_ _)); exact BK1.out)) (below_size (by repeat (first | (with_reducible first | exact HB.out | apply below_alloc | apply pw_below_drewN | apply below_drew1 | refine below_set ?_ GE1.out) | exact HB.out)))); have n1_ := Aside0.mk (blk_below (g := gb1) (o := .cells #[.int .i64 0, .int .i64 0] 41 (0, 0)) (by (with_reducible repeat (first | refine blk_drewN ?_ _ | refine blk_drew ?_ | refine blk_alloc ?_ _)); exact BK1.out) hb); have n2_ := Aside0.mk (below_step (by repeat (first | (with_reducible first | exact HB.out | apply below_alloc | apply pw_below_drewN | apply below_drew1 | refine below_set ?_ GE1.out) | exact HB.out)) hb); clear BK1; clear HB; have HO5 := n0_; have BK1 := n1_; have HB := n2_; clear n0_ n1_ n2_; (try clear hb); (try clear hb2); (try clear hk); (try clear hi); (try clear ho0); have hcz14_0 : w13.cell? ⟨gb1, 0, none⟩ = some (.int .i64 0) := (blk_cell BK1.out 0).trans rfl; have hcz14_1 : w13.cell? ⟨gb1, 1, none⟩ = some (.int .i64 0) := (blk_cell BK1.out 1).trans rfl; have hfz14_0 := blk_frozen BK1.out 0; have hfz14_1 := blk_frozen BK1.out 1))
    refine bodyPost_ret (results_ct rfl _ _ gb1 41 #[.int .i64 0, .int .i64 0] (0, 0) _ rfl (by (with_reducible repeat (first | refine blk_drewN ?_ _ | refine blk_drew ?_ | refine blk_alloc ?_ _)); refine blk_put (cs := #[.int .i64 0, .int .i64 0]) ?_ 1 _ rfl; (with_reducible repeat (first | refine blk_drewN ?_ _ | refine blk_drew ?_ | refine blk_alloc ?_ _)); refine blk_put (cs := #[.int .i64 0, .int .i64 0]) ?_ 0 _ rfl; (with_reducible repeat (first | refine blk_drewN ?_ _ | refine blk_drew ?_ | refine blk_alloc ?_ _)); exact BK1.out) Try.underlying41 rfl (by kernel_rfl)) rfl ?_
    exact ⟨by first | rfl | (simp [errW_none, errW_some] <;> rfl) | (simp [*, errW_none, errW_some] <;> rfl), by repeat (first | (with_reducible first | exact HB.out | apply below_alloc | apply pw_below_drewN | apply below_drew1 | refine below_set ?_ GE1.out) | exact HB.out)⟩

end Go.Proofs.Ytpmkkidljmedaaa.X
namespace Go.Proofs.Ytpmkkidljmedaaa.X
open Go.RowKit Go.Proofs.YtpmkkidljmedaaaW.PrintWords Go.Proofs.YtpmkkidljmedaaaW.PrintLast Go.Proofs.YtpmkkidljmedaaaW.PrintMore
attribute [local go_sem] max2_int min2_int max_two min_two max_three min_three max_four min_four   -- for this text's walks alone
set_option linter.unusedVariables false
set_option linter.unusedSimpArgs false

attribute [local go_sem high] eqA41
/-! ### headroomlaw16_alive: function 13 -/
def headroomlaw16_alive.f (k : Nat)  : Option (Bool) := (dft_Bin.f k (([(⟨1, 0⟩ : S41), (⟨2, 0⟩ : S41), (⟨3, 0⟩ : S41), (⟨4, 0⟩ : S41)] : List (S41))) 1 false).bind fun bt4 => (if bt4.2.2 = 0 then (some (bt4.1 == (-512) && (bt4.2.1 == 512))) else (some false))
theorem headroomlaw16_alive.mono : ∀ k, LeO (headroomlaw16_alive.f k ) (headroomlaw16_alive.f (k + 1) ) := by
  intro  k
  unfold headroomlaw16_alive.f
  repeat' first
      | (with_reducible exact dft_Bin.mono _ _ _ _)
      | (with_reducible exact LeO.refl _)
      | (with_reducible exact LeO.none _)
      | (with_reducible refine LeO.ite ?_ ?_)
      | (with_reducible refine LeO.bind ?_ (fun _ => ?_))
      | exact dft_Bin.mono _ _ _ _
      | exact LeO.none _
      | refine LeO.ite ?_ ?_
      | refine LeO.bind ?_ (fun _ => ?_)
set_option maxHeartbeats 8000000 in
set_option maxRecDepth 100000 in
theorem headroomlaw16_alive.calls (k : Nat)  (r : Bool) (w : World) (h : headroomlaw16_alive.f k  = some r) :
    Calls Try.prog 13 #[] w fun e w' => e = .returned (.bool r) ∧ Below w.heap.size w w' := by
  have hu41 := Try.underlying41
  have HB := Aside0.mk (Below.refl w.heap.size w)
  have H : ((dft_Bin.f k (([(⟨1, 0⟩ : S41), (⟨2, 0⟩ : S41), (⟨3, 0⟩ : S41), (⟨4, 0⟩ : S41)] : List (S41))) 1 false).bind fun bt4 => (if bt4.2.2 = 0 then (some (bt4.1 == (-512) && (bt4.2.1 == 512))) else (some false))) = some r := h
  clear h
  obtain ⟨y1, hy1⟩ : ∃ y_ : List (S41), y_ = (([(⟨1, 0⟩ : S41), (⟨2, 0⟩ : S41), (⟨3, 0⟩ : S41), (⟨4, 0⟩ : S41)] : List (S41))) := ⟨_, rfl⟩
  replace H : ((dft_Bin.f k y1 1 false).bind fun bt4 => (if bt4.2.2 = 0 then (some (bt4.1 == (-512) && (bt4.2.1 == 512))) else (some false))) = some r := by first | (rw [hy1]; with_reducible exact H) | (have H2_ := (Option.bind_some _ _).symm.trans H; rw [hy1]; with_reducible exact H2_) | (have H2_ := (Option.bind_some _ _).symm.trans H; with_reducible exact H2_) | with_reducible exact H | (rw [hy1]; exact H) | exact H
  have Ny1 := Aside0.mk hy1
  clear hy1
  replace H := Option.bind_eq_some_iff.mp H
  obtain ⟨⟨t4, t5, t6⟩, A10, H⟩ := H
  replace H : (if t6 = 0 then (some (t4 == (-512) && (t5 == 512))) else (some false)) = some r := H
  have A1 := Aside0.mk A10
  clear A10
  by_cases c2 : t6 = 0
  · rw [if_pos c2] at H
    have c2b0 : (t6 == 0) = true := beq_iff_eq.mpr c2
    have c2b1 : (t6 != 0) = false := bne_eq_false_iff_eq.mpr c2
    clear c2
    obtain rfl := Option.some.inj H
    go_enter Try.func13, Try.ntmps13
    go_wp2_with (first | ((with_reducible refine gate_dst (N := 8) rfl ?_); refine Kd.R_lit k41 _ 41 ?hg (N := 8) ?hd (xs := ([(⟨1, 0⟩ : S41), (⟨2, 0⟩ : S41), (⟨3, 0⟩ : S41), (⟨4, 0⟩ : S41)] : List (S41))) (inner := [.int .i64 1, .int .i64 0, .int .i64 2, .int .i64 0, .int .i64 3, .int .i64 0, .int .i64 4, .int .i64 0]) (ok := fun _ => True) (okp := fun _ => True) ?hr ?hp (fun _ hk => hk) trivial (Below.refl _ _) (Nat.le_refl _) (by simp) ?_; (case hd => rfl); (case hg => rfl); (case hr => first | (go_simp; done) | (go_simp; rfl)); (case hp => exact (Reps.c2 (show Kd.M k41 _ _ _ (⟨1, 0⟩ : S41) [.int .i64 1, .int .i64 0] from (k41_mkM _ _ _ (⟨1, 0⟩ : S41) )) (Reps.c2 (show Kd.M k41 _ _ _ (⟨2, 0⟩ : S41) [.int .i64 2, .int .i64 0] from (k41_mkM _ _ _ (⟨2, 0⟩ : S41) )) (Reps.c2 (show Kd.M k41 _ _ _ (⟨3, 0⟩ : S41) [.int .i64 3, .int .i64 0] from (k41_mkM _ _ _ (⟨3, 0⟩ : S41) )) (Reps.c2 (show Kd.M k41 _ _ _ (⟨4, 0⟩ : S41) [.int .i64 4, .int .i64 0] from (k41_mkM _ _ _ (⟨4, 0⟩ : S41) )) (Reps.none _ _)))))); intro v2 w3 ho4 hb hg_ hnew_; clear hg_ hnew_; (first | rw [← Ny1.out] at ho4 | (simp only [Int.reduceToNat] at ho4; rw [← Ny1.out] at ho4)); have n0_ := Aside0.mk (Kd.R_lower ho4 (below_size (by repeat (first | (with_reducible first | exact HB.out | apply below_alloc | apply pw_below_drewN | apply below_drew1) | exact HB.out)))); have n1_ := Aside0.mk (below_step (by repeat (first | (with_reducible first | exact HB.out | apply below_alloc | apply pw_below_drewN | apply below_drew1) | exact HB.out)) hb); clear HB; have HO3 := n0_; have HB := n1_; clear n0_ n1_; clear hb ho4; obtain ⟨Ao5, co5, eo5⟩ := Kd.R_slice HO3.out; subst eo5) | ((with_reducible refine gate_callee (f := 22) rfl ?_); refine goesL_ (some 9) rfl rfl Try.func22 (by kernel_rfl) rfl #[.slice Ao5 y1.length co5, .int .i64 1, .bool false] rfl (by (try simp only [List.map_toArray, List.map_cons, List.map_nil]); first | done | rfl | (simp only [List.length_drop, List.length_take]; rfl)) ?_; (with_reducible refine (dft_Bin.calls k _ _ y1 1 false t4 t5 t6 _ ?side1 ?side2 A1.out).mono ?_); (case side1 => repeat (first | exact (Kd.R_reads' HO3.out).2.2 | (with_reducible refine Kd.C_alloc ?_ _) | (with_reducible refine Kd.C_drewN ?_ _) | (with_reducible refine Kd.C_drew ?_))); (case side2 => exact (Kd.R_reads' HO3.out).2.1); rintro e w6 ⟨rfl, hb⟩; refine ⟨_, rfl, ?_⟩; have n0_ := Aside0.mk (Kd.R_below (by (with_reducible repeat (first | apply Kd.R_alloc | apply Kd.R_drewN | apply Kd.R_drew)); exact HO3.out) hb); have n1_ := Aside0.mk (below_step (by repeat (first | (with_reducible first | exact HB.out | apply below_alloc | apply pw_below_drewN | apply below_drew1) | exact HB.out)) hb); clear HO3; clear HB; have HO3 := n0_; have HB := n1_; clear n0_ n1_; (try clear hb); (try clear hb2); (try clear hk); (try clear hi)) | ((with_reducible refine gate_dst (N := 1) rfl ?_); refine box_event ?hg (N := 1) ?hd (cs := #[.int .i64 0, .int .i64 0]) (t := 41) ?hr ?_; (case hd => rfl); (case hg => rfl); (case hr => first | (go_simp; done) | (go_simp; rfl)); intro gb7 hg w7 hbox hb; have n0_ := Aside0.mk (Kd.R_below (Kd.R_elderB (by (with_reducible repeat (first | apply Kd.R_alloc | apply Kd.R_drewN | apply Kd.R_drew)); exact HO3.out) gb7 (Nat.le_of_eq hg.symm)) hb); have n1_ := Aside0.mk (below_step (by repeat (first | (with_reducible first | exact HB.out | apply below_alloc | apply pw_below_drewN | apply below_drew1) | exact HB.out)) hb); have n2_ := Aside0.mk (hbox); have n3_ := Aside0.mk ((by rw [hg]; exact (below_size (by repeat (first | (with_reducible first | exact HB.out | apply below_alloc | apply pw_below_drewN | apply below_drew1) | exact HB.out))) : w.heap.size ≤ gb7)); have n4_ := Aside0.mk ((by rw [hg]; exact (below_size (by repeat (first | (with_reducible first | exact HB.out | apply below_alloc | apply pw_below_drewN | apply below_drew1) | exact HB.out))) : w.heap.size ≤ gb7)); clear HO3; clear HB; have HO3 := n0_; have HB := n1_; have BK7 := n2_; have GW7 := n3_; have GE7 := n4_; clear n0_ n1_ n2_ n3_ n4_; clear hb hbox hg; have hcz8_0 : w7.cell? ⟨gb7, 0, none⟩ = some (.int .i64 0) := (blk_cell BK7.out 0).trans rfl; have hcz8_1 : w7.cell? ⟨gb7, 1, none⟩ = some (.int .i64 0) := (blk_cell BK7.out 1).trans rfl; have hfz8_0 := blk_frozen BK7.out 0; have hfz8_1 := blk_frozen BK7.out 1))
    go_ret
    exact ⟨by first | rfl | (simp [errW_none, errW_some] <;> rfl) | (simp [*, errW_none, errW_some] <;> rfl), by repeat (first | (with_reducible first | exact HB.out | apply below_alloc | apply pw_below_drewN | apply below_drew1 | refine below_set ?_ GE7.out) | exact HB.out)⟩
  · rw [if_neg c2] at H
    have c2b0 : (t6 == 0) = false := beq_eq_false_iff_ne.mpr c2
    have c2b1 : (t6 != 0) = true := bne_iff_ne.mpr c2
    obtain rfl := Option.some.inj H
    go_enter Try.func13, Try.ntmps13
    go_wp2_with (first | ((with_reducible refine gate_dst (N := 8) rfl ?_); refine Kd.R_lit k41 _ 41 ?hg (N := 8) ?hd (xs := ([(⟨1, 0⟩ : S41), (⟨2, 0⟩ : S41), (⟨3, 0⟩ : S41), (⟨4, 0⟩ : S41)] : List (S41))) (inner := [.int .i64 1, .int .i64 0, .int .i64 2, .int .i64 0, .int .i64 3, .int .i64 0, .int .i64 4, .int .i64 0]) (ok := fun _ => True) (okp := fun _ => True) ?hr ?hp (fun _ hk => hk) trivial (Below.refl _ _) (Nat.le_refl _) (by simp) ?_; (case hd => rfl); (case hg => rfl); (case hr => first | (go_simp; done) | (go_simp; rfl)); (case hp => exact (Reps.c2 (show Kd.M k41 _ _ _ (⟨1, 0⟩ : S41) [.int .i64 1, .int .i64 0] from (k41_mkM _ _ _ (⟨1, 0⟩ : S41) )) (Reps.c2 (show Kd.M k41 _ _ _ (⟨2, 0⟩ : S41) [.int .i64 2, .int .i64 0] from (k41_mkM _ _ _ (⟨2, 0⟩ : S41) )) (Reps.c2 (show Kd.M k41 _ _ _ (⟨3, 0⟩ : S41) [.int .i64 3, .int .i64 0] from (k41_mkM _ _ _ (⟨3, 0⟩ : S41) )) (Reps.c2 (show Kd.M k41 _ _ _ (⟨4, 0⟩ : S41) [.int .i64 4, .int .i64 0] from (k41_mkM _ _ _ (⟨4, 0⟩ : S41) )) (Reps.none _ _)))))); intro v2 w9 ho10 hb hg_ hnew_; clear hg_ hnew_; (first | rw [← Ny1.out] at ho10 | (simp only [Int.reduceToNat] at ho10; rw [← Ny1.out] at ho10)); have n0_ := Aside0.mk (Kd.R_lower ho10 (below_size (by repeat (first | (with_reducible first | exact HB.out | apply below_alloc | apply pw_below_drewN | apply below_drew1) | exact HB.out)))); have n1_ := Aside0.mk (below_step (by repeat (first | (with_reducible first | exact HB.out | apply below_alloc | apply pw_below_drewN | apply below_drew1) | exact HB.out)) hb); clear HB; have HO3 := n0_; have HB := n1_; clear n0_ n1_; clear hb ho10; obtain ⟨Ao11, co11, eo11⟩ := Kd.R_slice HO3.out; subst eo11) | ((with_reducible refine gate_callee (f := 22) rfl ?_); refine goesL_ (some 9) rfl rfl Try.func22 (by kernel_rfl) rfl #[.slice Ao11 y1.length co11, .int .i64 1, .bool false] rfl (by (try simp only [List.map_toArray, List.map_cons, List.map_nil]); first | done | rfl | (simp only [List.length_drop, List.length_take]; rfl)) ?_; (with_reducible refine (dft_Bin.calls k _ _ y1 1 false t4 t5 t6 _ ?side1 ?side2 A1.out).mono ?_); (case side1 => repeat (first | exact (Kd.R_reads' HO3.out).2.2 | (with_reducible refine Kd.C_alloc ?_ _) | (with_reducible refine Kd.C_drewN ?_ _) | (with_reducible refine Kd.C_drew ?_))); (case side2 => exact (Kd.R_reads' HO3.out).2.1); rintro e w12 ⟨rfl, hb⟩; refine ⟨_, rfl, ?_⟩; have n0_ := Aside0.mk (Kd.R_below (by (with_reducible repeat (first | apply Kd.R_alloc | apply Kd.R_drewN | apply Kd.R_drew)); exact HO3.out) hb); have n1_ := Aside0.mk (below_step (by repeat (first | (with_reducible first | exact HB.out | apply below_alloc | apply pw_below_drewN | apply below_drew1) | exact HB.out)) hb); clear HO3; clear HB; have HO3 := n0_; have HB := n1_; clear n0_ n1_; (try clear hb); (try clear hb2); (try clear hk); (try clear hi)) | ((with_reducible refine gate_dst (N := 1) rfl ?_); refine box_event ?hg (N := 1) ?hd (cs := #[.int .i64 0, .int .i64 0]) (t := 41) ?hr ?_; (case hd => rfl); (case hg => rfl); (case hr => first | (go_simp; done) | (go_simp; rfl)); intro gb7 hg w13 hbox hb; have n0_ := Aside0.mk (Kd.R_below (Kd.R_elderB (by (with_reducible repeat (first | apply Kd.R_alloc | apply Kd.R_drewN | apply Kd.R_drew)); exact HO3.out) gb7 (Nat.le_of_eq hg.symm)) hb); have n1_ := Aside0.mk (below_step (by repeat (first | (with_reducible first | exact HB.out | apply below_alloc | apply pw_below_drewN | apply below_drew1) | exact HB.out)) hb); have n2_ := Aside0.mk (hbox); have n3_ := Aside0.mk ((by rw [hg]; exact (below_size (by repeat (first | (with_reducible first | exact HB.out | apply below_alloc | apply pw_below_drewN | apply below_drew1) | exact HB.out))) : w.heap.size ≤ gb7)); have n4_ := Aside0.mk ((by rw [hg]; exact (below_size (by repeat (first | (with_reducible first | exact HB.out | apply below_alloc | apply pw_below_drewN | apply below_drew1) | exact HB.out))) : w.heap.size ≤ gb7)); clear HO3; clear HB; have HO3 := n0_; have HB := n1_; have BK7 := n2_; have GW7 := n3_; have GE7 := n4_; clear n0_ n1_ n2_ n3_ n4_; clear hb hbox hg; have hcz14_0 : w13.cell? ⟨gb7, 0, none⟩ = some (.int .i64 0) := (blk_cell BK7.out 0).trans rfl; have hcz14_1 : w13.cell? ⟨gb7, 1, none⟩ = some (.int .i64 0) := (blk_cell BK7.out 1).trans rfl; have hfz14_0 := blk_frozen BK7.out 0; have hfz14_1 := blk_frozen BK7.out 1))
    go_ret
    exact ⟨by first | rfl | (simp [errW_none, errW_some] <;> rfl) | (simp [*, errW_none, errW_some] <;> rfl), by repeat (first | (with_reducible first | exact HB.out | apply below_alloc | apply pw_below_drewN | apply below_drew1 | refine below_set ?_ GE7.out) | exact HB.out)⟩

end Go.Proofs.Ytpmkkidljmedaaa.X
namespace Go.Proofs.Ytpmkkidljmedaaa.X
open Go.RowKit Go.Proofs.YtpmkkidljmedaaaW.PrintWords Go.Proofs.YtpmkkidljmedaaaW.PrintLast Go.Proofs.YtpmkkidljmedaaaW.PrintMore
attribute [local go_sem] max2_int min2_int max_two min_two max_three min_three max_four min_four   -- for this text's walks alone
set_option linter.unusedVariables false
set_option linter.unusedSimpArgs false

attribute [local go_sem high] eqA41
/-! ### headroomref03_Same: function 14 -/
def headroomref03_Same.l0 : Nat → List (S41) → List (S41) → Int → Int → Option (Bool)
  | 0, _, _, _, _ => none
  | k + 1, x0, x1, x12, x13 => if x13 < x12 then (if 0 ≤ x13 then (if x13 < (x0.length : Int) then (if x13 < (x1.length : Int) then (if (!(((rd_T41 x0 x13).f0) == ((rd_T41 x1 x13).f0)) || (!(((rd_T41 x0 x13).f1) == ((rd_T41 x1 x13).f1)))) = true then (some false) else (headroomref03_Same.l0 k x0 x1 x12 (wrap64 (x13 + 1)))) else (none)) else (none)) else (none)) else (some true)
def headroomref03_Same.f (k : Nat) (l0 : List (S41)) (l1 : List (S41)) : Option (Bool) := if (l0.length : Int) = (l1.length : Int) then (headroomref03_Same.l0 k l0 l1 (l0.length : Int) 0) else (some false)
theorem headroomref03_Same.mono_l : ∀ k, (∀ y0 y1 y2 y3, LeO (headroomref03_Same.l0 k y0 y1 y2 y3) (headroomref03_Same.l0 (k + 1) y0 y1 y2 y3))
  | 0 => fun _ _ _ _ r h => by simp [headroomref03_Same.l0] at h
  | k + 1 => by
    have ih0 := headroomref03_Same.mono_l k
    · intro y0 y1 y2 y3
      unfold headroomref03_Same.l0
      repeat' first
      | (with_reducible exact ih0 _ _ _ _)
      | (with_reducible exact LeO.refl _)
      | (with_reducible exact LeO.none _)
      | (with_reducible refine LeO.ite ?_ ?_)
      | (with_reducible refine LeO.bind ?_ (fun _ => ?_))
      | exact ih0 _ _ _ _
      | exact LeO.none _
      | refine LeO.ite ?_ ?_
      | refine LeO.bind ?_ (fun _ => ?_)
theorem headroomref03_Same.mono : ∀ a0 a1 k, LeO (headroomref03_Same.f k a0 a1) (headroomref03_Same.f (k + 1) a0 a1) := by
  intro a0 a1 k
  have ih0 := headroomref03_Same.mono_l k
  unfold headroomref03_Same.f
  repeat' first
      | (with_reducible exact ih0 _ _ _ _)
      | (with_reducible exact LeO.refl _)
      | (with_reducible exact LeO.none _)
      | (with_reducible refine LeO.ite ?_ ?_)
      | (with_reducible refine LeO.bind ?_ (fun _ => ?_))
      | exact ih0 _ _ _ _
      | exact LeO.none _
      | refine LeO.ite ?_ ?_
      | refine LeO.bind ?_ (fun _ => ?_)
set_option maxHeartbeats 8000000 in
set_option maxRecDepth 100000 in
theorem headroomref03_Same.calls (k : Nat) (A0 : Option Addr) (c0 : Nat) (l0 : List (S41)) (A1 : Option Addr) (c1 : Nat) (l1 : List (S41)) (r : Bool) (w : World) (hr0 : Kd.C k41 w A0 l0.length l0) (hc0 : l0.length ≤ c0) (hr1 : Kd.C k41 w A1 l1.length l1) (hc1 : l1.length ≤ c1) (h : headroomref03_Same.f k l0 l1 = some r) :
    Calls Try.prog 14 #[.slice A0 l0.length c0, .slice A1 l1.length c1] w fun e w' => e = .returned (.bool r) ∧ Drawn0 w w' := by
  have hu41 := Try.underlying41
  have HR0 := Aside0.mk hr0
  have HC0 := Aside0.mk hc0
  clear hr0 hc0
  have HR1 := Aside0.mk hr1
  have HC1 := Aside0.mk hc1
  clear hr1 hc1
  have H : (if (l0.length : Int) = (l1.length : Int) then (headroomref03_Same.l0 k l0 l1 (l0.length : Int) 0) else (some false)) = some r := h
  clear h
  by_cases c3 : (l0.length : Int) = (l1.length : Int)
  · rw [if_pos c3] at H
    have c3b0 : ((l0.length : Int) == (l1.length : Int)) = true := beq_iff_eq.mpr c3
    have c3b1 : ((l0.length : Int) != (l1.length : Int)) = false := bne_eq_false_iff_eq.mpr c3
    have c3b2 : (l0.length == l1.length) = true := by first | simpa using c3 | (simp at c3 ⊢; omega)
    clear c3
    have H' := Aside0.mk H
    clear H
    go_enter Try.func14, Try.ntmps14
    go_wp2
    repeat (go_quiet (fail); try go_wp2)
    go_loopg [13] k (fun kq v13 w' => ∃ (x13_1 : Int), v13 = .int .i64 x13_1 ∧ Aside0 (headroomref03_Same.l0 kq l0 l1 (l0.length : Int) x13_1 = some r) ∧ Aside0 (kq ≤ k) ∧ Drawn0 w w')
    case atStart => exact ⟨(0), (by first | rfl | (simp; done) | (simp [*]; done)), H', ⟨Nat.le_refl _⟩, by repeat (first | exact Drawn0.refl _ | apply Drawn0.step)⟩
    case round =>
      clear H'
      try clear c1
      try clear p2
      try clear c3
      try clear c3b0
      try clear c3b1
      try clear c3b2
      obtain ⟨x13_1, rfl, HA, HK1, ⟨m1, rfl⟩⟩ := hrel
      cases gk with
      | zero => exact absurd HA.out (by simp [headroomref03_Same.l0])
      | succ k1 =>
        have H := HA.out
        clear HA
        simp only [headroomref03_Same.l0] at H
        by_cases c4 : x13_1 < (l0.length : Int)
        · rw [if_pos c4] at H
          have c4b0 : decide (x13_1 < (l0.length : Int)) = true := decide_eq_true c4
          clear c4
          by_cases c5 : 0 ≤ x13_1
          · rw [if_pos c5] at H
            have c5b0 : decide (0 ≤ x13_1) = true := decide_eq_true c5
            clear c5
            by_cases c6 : x13_1 < (l0.length : Int)
            · rw [if_pos c6] at H
              have c6b0 : decide (x13_1 < (l0.length : Int)) = true := decide_eq_true c6
              clear c6
              by_cases c7 : x13_1 < (l1.length : Int)
              · rw [if_pos c7] at H
                have c7b0 : decide (x13_1 < (l1.length : Int)) = true := decide_eq_true c7
                clear c7
                by_cases c8 : (!(((rd_T41 l0 x13_1).f0) == ((rd_T41 l1 x13_1).f0)) || (!(((rd_T41 l0 x13_1).f1) == ((rd_T41 l1 x13_1).f1)))) = true
                · rw [if_pos c8] at H
                  have c8b0 : (!(((rd_T41 l0 x13_1).f0) == ((rd_T41 l1 x13_1).f0)) || (!(((rd_T41 l0 x13_1).f1) == ((rd_T41 l1 x13_1).f1)))) = true := c8
                  clear c8
                  obtain rfl := Option.some.inj H
                  have p1 : 0 ≤ (x13_1 : Int) := of_decide_eq_true (by first | (with_reducible assumption) | assumption)
                  have q1 : x13_1 < (l0.length : Int) := of_decide_eq_true (by first | (with_reducible assumption) | assumption)
                  obtain ⟨ad1, e1, hx1_0, hx1_1⟩ := at_T41 HR0.out x13_1 p1 q1
                  cases e1
                  replace p1 := eq_true p1
                  replace q1 := eq_true q1
                  have p2 : 0 ≤ (x13_1 : Int) := of_decide_eq_true (by first | (with_reducible assumption) | assumption)
                  have q2 : x13_1 < (l1.length : Int) := of_decide_eq_true (by first | (with_reducible assumption) | assumption)
                  obtain ⟨ad2, e2, hx2_0, hx2_1⟩ := at_T41 HR1.out x13_1 p2 q2
                  cases e2
                  replace p2 := eq_true p2
                  replace q2 := eq_true q2
                  go_wp2
                  repeat (go_quiet (fail); try go_wp2)
                  go_ret
                  exact ⟨by first | rfl | (simp; done) | (simp [*]; done), by repeat (first | exact Drawn0.refl _ | apply Drawn0.step)⟩
                · rw [if_neg c8] at H
                  have c8b0 : (!(((rd_T41 l0 x13_1).f0) == ((rd_T41 l1 x13_1).f0)) || (!(((rd_T41 l0 x13_1).f1) == ((rd_T41 l1 x13_1).f1)))) = false := by simpa using c8
                  clear c8
                  have H' := Aside0.mk H
                  clear H
                  have p1 : 0 ≤ (x13_1 : Int) := of_decide_eq_true (by first | (with_reducible assumption) | assumption)
                  have q1 : x13_1 < (l0.length : Int) := of_decide_eq_true (by first | (with_reducible assumption) | assumption)
                  obtain ⟨ad1, e1, hx1_0, hx1_1⟩ := at_T41 HR0.out x13_1 p1 q1
                  cases e1
                  replace p1 := eq_true p1
                  replace q1 := eq_true q1
                  have p2 : 0 ≤ (x13_1 : Int) := of_decide_eq_true (by first | (with_reducible assumption) | assumption)
                  have q2 : x13_1 < (l1.length : Int) := of_decide_eq_true (by first | (with_reducible assumption) | assumption)
                  obtain ⟨ad2, e2, hx2_0, hx2_1⟩ := at_T41 HR1.out x13_1 p2 q2
                  cases e2
                  replace p2 := eq_true p2
                  replace q2 := eq_true q2
                  go_wp2
                  repeat (go_quiet (fail); try go_wp2)
                  go_roundg k1
                  case measure => have := HK1.out; omega
                  case rel => exact ⟨(wrap64 (x13_1 + 1)), (by first | rfl | (simp; done) | (simp [*]; done)), H', ⟨by have := HK1.out; omega⟩, by repeat (first | exact Drawn0.refl _ | apply Drawn0.step)⟩
              · rw [if_neg c7] at H
                exact absurd H (by simp)
            · rw [if_neg c6] at H
              exact absurd H (by simp)
          · rw [if_neg c5] at H
            exact absurd H (by simp)
        · rw [if_neg c4] at H
          have c4b0 : decide (x13_1 < (l0.length : Int)) = false := decide_eq_false c4
          clear c4
          obtain rfl := Option.some.inj H
          go_wp2
          repeat (go_quiet (fail); try go_wp2)
          go_ret
          exact ⟨by first | rfl | (simp; done) | (simp [*]; done), by repeat (first | exact Drawn0.refl _ | apply Drawn0.step)⟩
  · rw [if_neg c3] at H
    have c3b0 : ((l0.length : Int) == (l1.length : Int)) = false := beq_eq_false_iff_ne.mpr c3
    have c3b1 : ((l0.length : Int) != (l1.length : Int)) = true := bne_iff_ne.mpr c3
    have c3b2 : (l0.length == l1.length) = false := by first | simpa using c3 | (simp at c3 ⊢; omega)
    obtain rfl := Option.some.inj H
    go_enter Try.func14, Try.ntmps14
    go_wp2
    repeat (go_quiet (fail); try go_wp2)
    go_ret
    exact ⟨by first | rfl | (simp; done) | (simp [*]; done), by repeat (first | exact Drawn0.refl _ | apply Drawn0.step)⟩

end Go.Proofs.Ytpmkkidljmedaaa.X
namespace Go.Proofs.Ytpmkkidljmedaaa.X
open Go.RowKit Go.Proofs.YtpmkkidljmedaaaW.PrintWords Go.Proofs.YtpmkkidljmedaaaW.PrintLast Go.Proofs.YtpmkkidljmedaaaW.PrintMore
attribute [local go_sem] max2_int min2_int max_two min_two max_three min_three max_four min_four   -- for this text's walks alone
set_option linter.unusedVariables false
set_option linter.unusedSimpArgs false

/-! ### headroomref01_Div: function 114 -/
def headroomref01_Div.f (a0 : Int) (a1 : Int) : Option (Int) := if a1 = 0 then (none) else (if a0 < 0 then (if (wrap64 ((wrap64 (Int.tdiv a0 a1)) * a1)) = a0 then (some (wrap64 (Int.tdiv a0 a1))) else (some (wrap64 ((wrap64 (Int.tdiv a0 a1)) - 1)))) else (some (wrap64 (Int.tdiv a0 a1))))
set_option maxHeartbeats 8000000 in
set_option maxRecDepth 100000 in
theorem headroomref01_Div.calls (a0 : Int) (a1 : Int) (r : Int) (w : World) (h : headroomref01_Div.f a0 a1 = some r) :
    Calls Try.prog 114 #[.int .i64 a0, .int .i64 a1] w fun e w' => e = .returned (.int .i64 r) ∧ Drawn0 w w' := by
  have H : (if a1 = 0 then (none) else (if a0 < 0 then (if (wrap64 ((wrap64 (Int.tdiv a0 a1)) * a1)) = a0 then (some (wrap64 (Int.tdiv a0 a1))) else (some (wrap64 ((wrap64 (Int.tdiv a0 a1)) - 1)))) else (some (wrap64 (Int.tdiv a0 a1))))) = some r := h
  clear h
  by_cases c3 : a1 = 0
  · rw [if_pos c3] at H
    exact absurd H (by simp)
  · rw [if_neg c3] at H
    have c3b0 : (a1 == 0) = false := beq_eq_false_iff_ne.mpr c3
    have c3b1 : (a1 != 0) = true := bne_iff_ne.mpr c3
    by_cases c4 : a0 < 0
    · rw [if_pos c4] at H
      have c4b0 : decide (a0 < 0) = true := decide_eq_true c4
      clear c4
      by_cases c5 : (wrap64 ((wrap64 (Int.tdiv a0 a1)) * a1)) = a0
      · rw [if_pos c5] at H
        have c5b0 : ((wrap64 ((wrap64 (Int.tdiv a0 a1)) * a1)) == a0) = true := beq_iff_eq.mpr c5
        have c5b1 : ((wrap64 ((wrap64 (Int.tdiv a0 a1)) * a1)) != a0) = false := bne_eq_false_iff_eq.mpr c5
        clear c5
        obtain rfl := Option.some.inj H
        go_enter Try.func114, Try.ntmps114
        go_wp2
        go_ret
        exact ⟨by first | rfl | (simp; done) | (simp [*]; done), by repeat (first | exact Drawn0.refl _ | apply Drawn0.step)⟩
      · rw [if_neg c5] at H
        have c5b0 : ((wrap64 ((wrap64 (Int.tdiv a0 a1)) * a1)) == a0) = false := beq_eq_false_iff_ne.mpr c5
        have c5b1 : ((wrap64 ((wrap64 (Int.tdiv a0 a1)) * a1)) != a0) = true := bne_iff_ne.mpr c5
        obtain rfl := Option.some.inj H
        go_enter Try.func114, Try.ntmps114
        go_wp2
        go_ret
        exact ⟨by first | rfl | (simp; done) | (simp [*]; done), by repeat (first | exact Drawn0.refl _ | apply Drawn0.step)⟩
    · rw [if_neg c4] at H
      have c4b0 : decide (a0 < 0) = false := decide_eq_false c4
      clear c4
      obtain rfl := Option.some.inj H
      go_enter Try.func114, Try.ntmps114
      go_wp2
      go_ret
      exact ⟨by first | rfl | (simp; done) | (simp [*]; done), by repeat (first | exact Drawn0.refl _ | apply Drawn0.step)⟩

end Go.Proofs.Ytpmkkidljmedaaa.X
namespace Go.Proofs.Ytpmkkidljmedaaa.X
open Go.RowKit Go.Proofs.YtpmkkidljmedaaaW.PrintWords Go.Proofs.YtpmkkidljmedaaaW.PrintLast Go.Proofs.YtpmkkidljmedaaaW.PrintMore
attribute [local go_sem] max2_int min2_int max_two min_two max_three min_three max_four min_four   -- for this text's walks alone
set_option linter.unusedVariables false
set_option linter.unusedSimpArgs false

/-! ### headroomref04_P: function 142 -/
def headroomref04_P.l0 : Nat → Int → Int → Int → Int → Option (Int)
  | 0, _, _, _, _ => none
  | k + 1, x0, x1, x5, x6 => if x6 < x1 then ((headroomref01_Div.f x5 x0).bind fun t3 => ((headroomref01_Div.f t3 x0).bind fun t4 => (headroomref04_P.l0 k x0 x1 t4 (wrap64 (x6 + 1))))) else (some x5)
def headroomref04_P.f (k : Nat) (a0 : Int) (a1 : Int) : Option (Int) := (headroomref01_Pow.f k 56).bind fun t1 => ((headroomref01_Div.f t1 a0).bind fun t2 => (headroomref04_P.l0 k a0 a1 t2 0))
theorem headroomref04_P.mono_l : ∀ k, (∀ y0 y1 y2 y3, LeO (headroomref04_P.l0 k y0 y1 y2 y3) (headroomref04_P.l0 (k + 1) y0 y1 y2 y3))
  | 0 => fun _ _ _ _ r h => by simp [headroomref04_P.l0] at h
  | k + 1 => by
    have ih0 := headroomref04_P.mono_l k
    · intro y0 y1 y2 y3
      unfold headroomref04_P.l0
      repeat' first
      | (with_reducible exact ih0 _ _ _ _)
      | (with_reducible exact headroomref01_Pow.mono _ _)
      | (with_reducible exact LeO.refl _)
      | (with_reducible exact LeO.none _)
      | (with_reducible refine LeO.ite ?_ ?_)
      | (with_reducible refine LeO.bind ?_ (fun _ => ?_))
      | exact ih0 _ _ _ _
      | exact headroomref01_Pow.mono _ _
      | exact LeO.none _
      | refine LeO.ite ?_ ?_
      | refine LeO.bind ?_ (fun _ => ?_)
theorem headroomref04_P.mono : ∀ a0 a1 k, LeO (headroomref04_P.f k a0 a1) (headroomref04_P.f (k + 1) a0 a1) := by
  intro a0 a1 k
  have ih0 := headroomref04_P.mono_l k
  unfold headroomref04_P.f
  repeat' first
      | (with_reducible exact ih0 _ _ _ _)
      | (with_reducible exact headroomref01_Pow.mono _ _)
      | (with_reducible exact LeO.refl _)
      | (with_reducible exact LeO.none _)
      | (with_reducible refine LeO.ite ?_ ?_)
      | (with_reducible refine LeO.bind ?_ (fun _ => ?_))
      | exact ih0 _ _ _ _
      | exact headroomref01_Pow.mono _ _
      | exact LeO.none _
      | refine LeO.ite ?_ ?_
      | refine LeO.bind ?_ (fun _ => ?_)
set_option maxHeartbeats 8000000 in
set_option maxRecDepth 100000 in
theorem headroomref04_P.calls (k : Nat) (a0 : Int) (a1 : Int) (r : Int) (w : World) (h : headroomref04_P.f k a0 a1 = some r) :
    Calls Try.prog 142 #[.int .i64 a0, .int .i64 a1] w fun e w' => e = .returned (.int .i64 r) ∧ Drawn0 w w' := by
  have H : ((headroomref01_Pow.f k 56).bind fun t1 => ((headroomref01_Div.f t1 a0).bind fun t2 => (headroomref04_P.l0 k a0 a1 t2 0))) = some r := h
  clear h
  replace H := Option.bind_eq_some_iff.mp H
  obtain ⟨t1, A30, H⟩ := H
  replace H : ((headroomref01_Div.f t1 a0).bind fun t2 => (headroomref04_P.l0 k a0 a1 t2 0)) = some r := H
  have A3 := Aside0.mk A30
  clear A30
  replace H := Option.bind_eq_some_iff.mp H
  obtain ⟨t2, A40, H⟩ := H
  replace H : (headroomref04_P.l0 k a0 a1 t2 0) = some r := H
  have A4 := Aside0.mk A40
  clear A40
  have H' := Aside0.mk H
  clear H
  go_enter Try.func142, Try.ntmps142
  go_wp2_with (first | ((with_reducible refine gate_callee (f := 56) rfl ?_); refine goesL_ (some 7) rfl rfl Try.func56 (by kernel_rfl) rfl #[.int .i64 56] rfl (by (try simp only [List.map_toArray, List.map_cons, List.map_nil]); first | done | rfl | (simp only [List.length_drop, List.length_take]; rfl)) ?_; (with_reducible refine (headroomref01_Pow.calls k 56 t1 _ A3.out).mono ?_); rintro e w' ⟨rfl, ⟨nd, rfl⟩⟩; refine ⟨_, rfl, ?_⟩) | ((with_reducible refine gate_callee (f := 114) rfl ?_); refine goesL_ (some 9) rfl rfl Try.func114 (by kernel_rfl) rfl #[.int .i64 t1, .int .i64 a0] rfl (by (try simp only [List.map_toArray, List.map_cons, List.map_nil]); first | done | rfl | (simp only [List.length_drop, List.length_take]; rfl)) ?_; (with_reducible refine (headroomref01_Div.calls t1 a0 t2 _ A4.out).mono ?_); rintro e w' ⟨rfl, ⟨nd, rfl⟩⟩; refine ⟨_, rfl, ?_⟩))
  go_loopg [5, 6] k (fun kq v5 v6 w' => ∃ (x5_1 : Int) (x6_1 : Int), v5 = .int .i64 x5_1 ∧ v6 = .int .i64 x6_1 ∧ Aside0 (headroomref04_P.l0 kq a0 a1 x5_1 x6_1 = some r) ∧ Aside0 (kq ≤ k) ∧ Drawn0 w w')
  case atStart => exact ⟨(t2), (0), (by first | rfl | (simp; done) | (simp [*]; done)), (by first | rfl | (simp; done) | (simp [*]; done)), H', ⟨Nat.le_refl _⟩, by repeat (first | exact Drawn0.refl _ | apply Drawn0.step)⟩
  case round =>
    clear H'
    try clear c1
    try clear p2
    obtain ⟨x5_1, x6_1, rfl, rfl, HA, HK1, ⟨m1, rfl⟩⟩ := hrel
    cases gk with
    | zero => exact absurd HA.out (by simp [headroomref04_P.l0])
    | succ k1 =>
      have H := HA.out
      clear HA
      simp only [headroomref04_P.l0] at H
      by_cases c5 : x6_1 < a1
      · rw [if_pos c5] at H
        have c5b0 : decide (x6_1 < a1) = true := decide_eq_true c5
        clear c5
        replace H := Option.bind_eq_some_iff.mp H
        obtain ⟨t3, A60, H⟩ := H
        replace H : ((headroomref01_Div.f t3 a0).bind fun t4 => (headroomref04_P.l0 k1 a0 a1 t4 (wrap64 (x6_1 + 1)))) = some r := H
        have A6 := Aside0.mk A60
        clear A60
        replace H := Option.bind_eq_some_iff.mp H
        obtain ⟨t4, A70, H⟩ := H
        replace H : (headroomref04_P.l0 k1 a0 a1 t4 (wrap64 (x6_1 + 1))) = some r := H
        have A7 := Aside0.mk A70
        clear A70
        have H' := Aside0.mk H
        clear H
        go_wp2_with (first | ((with_reducible refine gate_callee (f := 114) rfl ?_); refine goesL_ (some 17) rfl rfl Try.func114 (by kernel_rfl) rfl #[.int .i64 x5_1, .int .i64 a0] rfl (by (try simp only [List.map_toArray, List.map_cons, List.map_nil]); first | done | rfl | (simp only [List.length_drop, List.length_take]; rfl)) ?_; (with_reducible refine (headroomref01_Div.calls x5_1 a0 t3 _ A6.out).mono ?_); rintro e w' ⟨rfl, ⟨nd, rfl⟩⟩; refine ⟨_, rfl, ?_⟩) | ((with_reducible refine gate_callee (f := 114) rfl ?_); refine goesL_ (some 19) rfl rfl Try.func114 (by kernel_rfl) rfl #[.int .i64 t3, .int .i64 a0] rfl (by (try simp only [List.map_toArray, List.map_cons, List.map_nil]); first | done | rfl | (simp only [List.length_drop, List.length_take]; rfl)) ?_; (with_reducible refine (headroomref01_Div.calls t3 a0 t4 _ A7.out).mono ?_); rintro e w' ⟨rfl, ⟨nd, rfl⟩⟩; refine ⟨_, rfl, ?_⟩))
        go_roundg k1
        case measure => have := HK1.out; omega
        case rel => exact ⟨(t4), (wrap64 (x6_1 + 1)), (by first | rfl | (simp; done) | (simp [*]; done)), (by first | rfl | (simp; done) | (simp [*]; done)), H', ⟨by have := HK1.out; omega⟩, by repeat (first | exact Drawn0.refl _ | apply Drawn0.step)⟩
      · rw [if_neg c5] at H
        have c5b0 : decide (x6_1 < a1) = false := decide_eq_false c5
        clear c5
        obtain rfl := Option.some.inj H
        go_wp2
        go_ret
        exact ⟨by first | rfl | (simp; done) | (simp [*]; done), by repeat (first | exact Drawn0.refl _ | apply Drawn0.step)⟩

end Go.Proofs.Ytpmkkidljmedaaa.X
namespace Go.Proofs.Ytpmkkidljmedaaa.X
open Go.RowKit Go.Proofs.YtpmkkidljmedaaaW.PrintWords Go.Proofs.YtpmkkidljmedaaaW.PrintLast Go.Proofs.YtpmkkidljmedaaaW.PrintMore
attribute [local go_sem] max2_int min2_int max_two min_two max_three min_three max_four min_four   -- for this text's walks alone
set_option linter.unusedVariables false
set_option linter.unusedSimpArgs false

/-! ### headroomref04_Terms: function 137 -/
def headroomref04_Terms.l0 : Nat → Int → List Int → Int → Option (List Int)
  | 0, _, _, _ => none
  | k + 1, x0, x3, x4 => (headroomref04_P.f k x0 x4).bind fun t4 => (if t4 > 0 then ((headroomref04_P.f k x0 x4).bind fun t5 => ((headroomref01_Div.f t5 (wrap64 ((wrap64 (2 * x4)) + 1))).bind fun t6 => (if (Int.tmod x4 2) = 1 then (if x3.length < 17592186044416 then (headroomref04_Terms.l0 k x0 (x3 ++ [wrap64 (-t6)]) (wrap64 (x4 + 1))) else (none)) else (if x3.length < 17592186044416 then (headroomref04_Terms.l0 k x0 (x3 ++ [t6]) (wrap64 (x4 + 1))) else (none))))) else (some x3))
def headroomref04_Terms.f (k : Nat) (a0 : Int) : Option (List Int) := headroomref04_Terms.l0 k a0 (([] : List Int)) 0
theorem headroomref04_Terms.mono_l : ∀ k, (∀ y0 y1 y2, LeO (headroomref04_Terms.l0 k y0 y1 y2) (headroomref04_Terms.l0 (k + 1) y0 y1 y2))
  | 0 => fun _ _ _ r h => by simp [headroomref04_Terms.l0] at h
  | k + 1 => by
    have ih0 := headroomref04_Terms.mono_l k
    · intro y0 y1 y2
      unfold headroomref04_Terms.l0
      repeat' first
      | (with_reducible exact ih0 _ _ _)
      | (with_reducible exact headroomref04_P.mono _ _ _)
      | (with_reducible exact LeO.refl _)
      | (with_reducible exact LeO.none _)
      | (with_reducible refine LeO.ite ?_ ?_)
      | (with_reducible refine LeO.bind ?_ (fun _ => ?_))
      | exact ih0 _ _ _
      | exact headroomref04_P.mono _ _ _
      | exact LeO.none _
      | refine LeO.ite ?_ ?_
      | refine LeO.bind ?_ (fun _ => ?_)
theorem headroomref04_Terms.mono : ∀ a0 k, LeO (headroomref04_Terms.f k a0) (headroomref04_Terms.f (k + 1) a0) := by
  intro a0 k
  have ih0 := headroomref04_Terms.mono_l k
  unfold headroomref04_Terms.f
  repeat' first
      | (with_reducible exact ih0 _ _ _)
      | (with_reducible exact headroomref04_P.mono _ _ _)
      | (with_reducible exact LeO.refl _)
      | (with_reducible exact LeO.none _)
      | (with_reducible refine LeO.ite ?_ ?_)
      | (with_reducible refine LeO.bind ?_ (fun _ => ?_))
      | exact ih0 _ _ _
      | exact headroomref04_P.mono _ _ _
      | exact LeO.none _
      | refine LeO.ite ?_ ?_
      | refine LeO.bind ?_ (fun _ => ?_)
set_option maxHeartbeats 8000000 in
set_option maxRecDepth 100000 in
theorem headroomref04_Terms.calls (k : Nat) (a0 : Int) (r : List Int) (w : World) (h : headroomref04_Terms.f k a0 = some r) :
    Calls Try.prog 137 #[.int .i64 a0] w fun e w' => ∃ v0_ : Value, e = .returned (v0_) ∧ Kd.R (Kd.int .i64) 3 w' w.heap.size (fun _ => True) v0_ r ∧ Below w.heap.size w w' := by
  have HB := Aside0.mk (Below.refl w.heap.size w)
  have H : (headroomref04_Terms.l0 k a0 (([] : List Int)) 0) = some r := h
  clear h
  obtain ⟨y1, hy1⟩ : ∃ y_ : List Int, y_ = (([] : List Int)) := ⟨_, rfl⟩
  replace H : (headroomref04_Terms.l0 k a0 y1 0) = some r := by first | (rw [hy1]; with_reducible exact H) | (have H2_ := (Option.bind_some _ _).symm.trans H; rw [hy1]; with_reducible exact H2_) | (have H2_ := (Option.bind_some _ _).symm.trans H; with_reducible exact H2_) | with_reducible exact H | (rw [hy1]; exact H) | exact H
  have Ny1 := Aside0.mk hy1
  clear hy1
  have H' := Aside0.mk H
  clear H
  go_enter Try.func137, Try.ntmps137
  go_wp2_with (first | ((with_reducible refine gate_dst (N := 6) rfl ?_); refine Kd.R_lit (Kd.int .i64) _ 3 ?hg (N := 6) ?hd (xs := ([] : List Int)) (inner := []) (ok := fun _ => True) (okp := fun _ => True) ?hr ?hp (fun _ hk => hk) trivial (Below.refl _ _) (Nat.le_refl _) (by simp) ?_; (case hd => rfl); (case hg => rfl); (case hr => first | (go_simp; done) | (go_simp; rfl)); (case hp => exact (Reps.none _ _)); intro v2 w2 ho3 hb hg_ hnew_; clear hg_ hnew_; (first | rw [← Ny1.out] at ho3 | (simp only [Int.reduceToNat] at ho3; rw [← Ny1.out] at ho3)); have n0_ := Aside0.mk (Kd.R_lower ho3 (below_size (by repeat (first | (with_reducible first | exact HB.out | apply below_alloc | apply pw_below_drewN | apply below_drew1) | exact HB.out)))); have n1_ := Aside0.mk (below_step (by repeat (first | (with_reducible first | exact HB.out | apply below_alloc | apply pw_below_drewN | apply below_drew1) | exact HB.out)) hb); clear HB; have HO3 := n0_; have HB := n1_; clear n0_ n1_; clear hb ho3))
  go_loopg [3, 4] k (fun kq v3 v4 w' => ∃ (x3_1 : List Int) (x4_1 : Int), v4 = .int .i64 x4_1 ∧ Aside0 (headroomref04_Terms.l0 kq a0 x3_1 x4_1 = some r) ∧ Aside0 (kq ≤ k) ∧ Aside0 (Kd.R (Kd.int .i64) 3 w' w.heap.size (fun _ => True) v3 x3_1) ∧ Aside0 (Below w.heap.size w w'))
  case atStart => exact ⟨(y1), (0), (by first | rfl | (simp; done) | (simp [*]; done)), H', ⟨Nat.le_refl _⟩, ⟨by (with_reducible repeat (first | apply Kd.R_alloc | apply Kd.R_drewN | apply Kd.R_drew)); exact HO3.out⟩, ⟨by repeat (first | (with_reducible first | exact HB.out | apply below_alloc | apply pw_below_drewN | apply below_drew1) | exact HB.out)⟩⟩
  case round =>
    clear H'
    try clear c1
    try clear p2
    obtain ⟨x3_1, x4_1, rfl, HA, HK1, HO_3, HB⟩ := hrel
    cases gk with
    | zero => exact absurd HA.out (by simp [headroomref04_Terms.l0])
    | succ k1 =>
      have H := HA.out
      clear HA
      simp only [headroomref04_Terms.l0] at H
      replace H := Option.bind_eq_some_iff.mp H
      obtain ⟨t4, A40, H⟩ := H
      replace H : (if t4 > 0 then ((headroomref04_P.f k1 a0 x4_1).bind fun t5 => ((headroomref01_Div.f t5 (wrap64 ((wrap64 (2 * x4_1)) + 1))).bind fun t6 => (if (Int.tmod x4_1 2) = 1 then (if x3_1.length < 17592186044416 then (headroomref04_Terms.l0 k1 a0 (x3_1 ++ [wrap64 (-t6)]) (wrap64 (x4_1 + 1))) else (none)) else (if x3_1.length < 17592186044416 then (headroomref04_Terms.l0 k1 a0 (x3_1 ++ [t6]) (wrap64 (x4_1 + 1))) else (none))))) else (some x3_1)) = some r := H
      have A4 := Aside0.mk A40
      clear A40
      by_cases c5 : t4 > 0
      · rw [if_pos c5] at H
        have c5b0 : decide (0 < t4) = true := decide_eq_true c5
        clear c5
        replace H := Option.bind_eq_some_iff.mp H
        obtain ⟨t5, A60, H⟩ := H
        replace H : ((headroomref01_Div.f t5 (wrap64 ((wrap64 (2 * x4_1)) + 1))).bind fun t6 => (if (Int.tmod x4_1 2) = 1 then (if x3_1.length < 17592186044416 then (headroomref04_Terms.l0 k1 a0 (x3_1 ++ [wrap64 (-t6)]) (wrap64 (x4_1 + 1))) else (none)) else (if x3_1.length < 17592186044416 then (headroomref04_Terms.l0 k1 a0 (x3_1 ++ [t6]) (wrap64 (x4_1 + 1))) else (none)))) = some r := H
        have A6 := Aside0.mk A60
        clear A60
        replace H := Option.bind_eq_some_iff.mp H
        obtain ⟨t6, A70, H⟩ := H
        replace H : (if (Int.tmod x4_1 2) = 1 then (if x3_1.length < 17592186044416 then (headroomref04_Terms.l0 k1 a0 (x3_1 ++ [wrap64 (-t6)]) (wrap64 (x4_1 + 1))) else (none)) else (if x3_1.length < 17592186044416 then (headroomref04_Terms.l0 k1 a0 (x3_1 ++ [t6]) (wrap64 (x4_1 + 1))) else (none))) = some r := H
        have A7 := Aside0.mk A70
        clear A70
        by_cases c8 : (Int.tmod x4_1 2) = 1
        · rw [if_pos c8] at H
          have c8b0 : ((Int.tmod x4_1 2) == 1) = true := beq_iff_eq.mpr c8
          have c8b1 : ((Int.tmod x4_1 2) != 1) = false := bne_eq_false_iff_eq.mpr c8
          clear c8
          by_cases c9 : x3_1.length < 17592186044416
          · rw [if_pos c9] at H
            have LMc9 := Aside0.mk c9
            clear c9
            obtain ⟨y7, hy7⟩ : ∃ y_ : List Int, y_ = (x3_1 ++ [wrap64 (-t6)]) := ⟨_, rfl⟩
            replace H : (headroomref04_Terms.l0 k1 a0 y7 (wrap64 (x4_1 + 1))) = some r := by first | (rw [hy7]; with_reducible exact H) | (have H2_ := (Option.bind_some _ _).symm.trans H; rw [hy7]; with_reducible exact H2_) | (have H2_ := (Option.bind_some _ _).symm.trans H; with_reducible exact H2_) | with_reducible exact H | (rw [hy7]; exact H) | exact H
            have Ny7 := Aside0.mk hy7
            clear hy7
            have H' := Aside0.mk H
            clear H
            go_wp2_with (first | ((with_reducible refine gate_callee (f := 142) rfl ?_); refine goesL_ (some 9) rfl rfl Try.func142 (by kernel_rfl) rfl #[.int .i64 a0, .int .i64 x4_1] rfl (by (try simp only [List.map_toArray, List.map_cons, List.map_nil]); first | done | rfl | (simp only [List.length_drop, List.length_take]; rfl)) ?_; (with_reducible refine (headroomref04_P.calls k1 a0 x4_1 t4 _ A4.out).mono ?_); rintro e w' ⟨rfl, ⟨nd, rfl⟩⟩; refine ⟨_, rfl, ?_⟩) | ((with_reducible refine gate_callee (f := 142) rfl ?_); refine goesL_ (some 15) rfl rfl Try.func142 (by kernel_rfl) rfl #[.int .i64 a0, .int .i64 x4_1] rfl (by (try simp only [List.map_toArray, List.map_cons, List.map_nil]); first | done | rfl | (simp only [List.length_drop, List.length_take]; rfl)) ?_; (with_reducible refine (headroomref04_P.calls k1 a0 x4_1 t5 _ A6.out).mono ?_); rintro e w' ⟨rfl, ⟨nd, rfl⟩⟩; refine ⟨_, rfl, ?_⟩) | ((with_reducible refine gate_callee (f := 114) rfl ?_); refine goesL_ (some 19) rfl rfl Try.func114 (by kernel_rfl) rfl #[.int .i64 t5, .int .i64 (wrap64 ((wrap64 (2 * x4_1)) + 1))] rfl (by (try simp only [List.map_toArray, List.map_cons, List.map_nil]); first | done | rfl | (simp only [List.length_drop, List.length_take]; rfl)) ?_; (with_reducible refine (headroomref01_Div.calls t5 (wrap64 ((wrap64 (2 * x4_1)) + 1)) t6 _ A7.out).mono ?_); rintro e w' ⟨rfl, ⟨nd, rfl⟩⟩; refine ⟨_, rfl, ?_⟩) | ((with_reducible refine gate_builtin (b := .append) (xs := #[.tmp 25, .tmp 27]) rfl ?_); at_builtin; refine Kd.R_append (Kd.int .i64) (w0 := w) w.heap.size rfl (.tmp 25) (.tmp 27) 31 3 (.int .i64 0) 8 rfl Try.underlying31 info3 rfl (by decide) (by omega) u3 x3_1 (wrap64 (-t6)) [.int .i64 (wrap64 (-t6))] (fun _ => True) (fun _ => False) rfl rfl ?aP (fun _ hk => hk.elim) ?aF ?aO ?aB ?aS ?aL ?_; (case aP => exact rfl); (case aB => exact (by repeat (first | (with_reducible first | exact HB.out | apply below_alloc | apply pw_below_drewN | apply below_drew1) | exact HB.out))); (case aF => exact (fun _ _ => trivial)); (case aO => exact (by (with_reducible repeat (first | apply Kd.R_alloc | apply Kd.R_drewN | apply Kd.R_drew)); exact HO_3.out)); (case aS => exact (below_size (by repeat (first | (with_reducible first | exact HB.out | apply below_alloc | apply pw_below_drewN | apply below_drew1) | exact HB.out)))); (case aL => have := LMc9.out; omega); intro v8 w10 ho hb hg hat; rw [← Ny7.out] at ho; have n0_ := Aside0.mk (hb); have n1_ := Aside0.mk (ho); clear HB; clear HO_3; have HB := n0_; have HO9 := n1_; clear n0_ n1_; clear ho hb hg hat))
            go_roundg k1
            case measure => have := HK1.out; omega
            case rel => exact ⟨(y7), (wrap64 (x4_1 + 1)), (by first | rfl | (simp; done) | (simp [*]; done)), H', ⟨by have := HK1.out; omega⟩, ⟨by (with_reducible repeat (first | apply Kd.R_alloc | apply Kd.R_drewN | apply Kd.R_drew)); exact HO9.out⟩, ⟨by repeat (first | (with_reducible first | exact HB.out | apply below_alloc | apply pw_below_drewN | apply below_drew1) | exact HB.out)⟩⟩
          · rw [if_neg c9] at H
            exact absurd H (by simp)
        · rw [if_neg c8] at H
          have c8b0 : ((Int.tmod x4_1 2) == 1) = false := beq_eq_false_iff_ne.mpr c8
          have c8b1 : ((Int.tmod x4_1 2) != 1) = true := bne_iff_ne.mpr c8
          by_cases c11 : x3_1.length < 17592186044416
          · rw [if_pos c11] at H
            have LMc11 := Aside0.mk c11
            clear c11
            obtain ⟨y10, hy10⟩ : ∃ y_ : List Int, y_ = (x3_1 ++ [t6]) := ⟨_, rfl⟩
            replace H : (headroomref04_Terms.l0 k1 a0 y10 (wrap64 (x4_1 + 1))) = some r := by first | (rw [hy10]; with_reducible exact H) | (have H2_ := (Option.bind_some _ _).symm.trans H; rw [hy10]; with_reducible exact H2_) | (have H2_ := (Option.bind_some _ _).symm.trans H; with_reducible exact H2_) | with_reducible exact H | (rw [hy10]; exact H) | exact H
            have Ny10 := Aside0.mk hy10
            clear hy10
            have H' := Aside0.mk H
            clear H
            go_wp2_with (first | ((with_reducible refine gate_callee (f := 142) rfl ?_); refine goesL_ (some 9) rfl rfl Try.func142 (by kernel_rfl) rfl #[.int .i64 a0, .int .i64 x4_1] rfl (by (try simp only [List.map_toArray, List.map_cons, List.map_nil]); first | done | rfl | (simp only [List.length_drop, List.length_take]; rfl)) ?_; (with_reducible refine (headroomref04_P.calls k1 a0 x4_1 t4 _ A4.out).mono ?_); rintro e w' ⟨rfl, ⟨nd, rfl⟩⟩; refine ⟨_, rfl, ?_⟩) | ((with_reducible refine gate_callee (f := 142) rfl ?_); refine goesL_ (some 15) rfl rfl Try.func142 (by kernel_rfl) rfl #[.int .i64 a0, .int .i64 x4_1] rfl (by (try simp only [List.map_toArray, List.map_cons, List.map_nil]); first | done | rfl | (simp only [List.length_drop, List.length_take]; rfl)) ?_; (with_reducible refine (headroomref04_P.calls k1 a0 x4_1 t5 _ A6.out).mono ?_); rintro e w' ⟨rfl, ⟨nd, rfl⟩⟩; refine ⟨_, rfl, ?_⟩) | ((with_reducible refine gate_callee (f := 114) rfl ?_); refine goesL_ (some 19) rfl rfl Try.func114 (by kernel_rfl) rfl #[.int .i64 t5, .int .i64 (wrap64 ((wrap64 (2 * x4_1)) + 1))] rfl (by (try simp only [List.map_toArray, List.map_cons, List.map_nil]); first | done | rfl | (simp only [List.length_drop, List.length_take]; rfl)) ?_; (with_reducible refine (headroomref01_Div.calls t5 (wrap64 ((wrap64 (2 * x4_1)) + 1)) t6 _ A7.out).mono ?_); rintro e w' ⟨rfl, ⟨nd, rfl⟩⟩; refine ⟨_, rfl, ?_⟩) | ((with_reducible refine gate_builtin (b := .append) (xs := #[.tmp 25, .tmp 27]) rfl ?_); at_builtin; refine Kd.R_append (Kd.int .i64) (w0 := w) w.heap.size rfl (.tmp 25) (.tmp 27) 31 3 (.int .i64 0) 8 rfl Try.underlying31 info3 rfl (by decide) (by omega) u3 x3_1 t6 [.int .i64 t6] (fun _ => True) (fun _ => False) rfl rfl ?aP (fun _ hk => hk.elim) ?aF ?aO ?aB ?aS ?aL ?_; (case aP => exact rfl); (case aB => exact (by repeat (first | (with_reducible first | exact HB.out | apply below_alloc | apply pw_below_drewN | apply below_drew1) | exact HB.out))); (case aF => exact (fun _ _ => trivial)); (case aO => exact (by (with_reducible repeat (first | apply Kd.R_alloc | apply Kd.R_drewN | apply Kd.R_drew)); exact HO_3.out)); (case aS => exact (below_size (by repeat (first | (with_reducible first | exact HB.out | apply below_alloc | apply pw_below_drewN | apply below_drew1) | exact HB.out)))); (case aL => have := LMc11.out; omega); intro v11 w12 ho hb hg hat; rw [← Ny10.out] at ho; have n0_ := Aside0.mk (hb); have n1_ := Aside0.mk (ho); clear HB; clear HO_3; have HB := n0_; have HO12 := n1_; clear n0_ n1_; clear ho hb hg hat))
            go_roundg k1
            case measure => have := HK1.out; omega
            case rel => exact ⟨(y10), (wrap64 (x4_1 + 1)), (by first | rfl | (simp; done) | (simp [*]; done)), H', ⟨by have := HK1.out; omega⟩, ⟨by (with_reducible repeat (first | apply Kd.R_alloc | apply Kd.R_drewN | apply Kd.R_drew)); exact HO12.out⟩, ⟨by repeat (first | (with_reducible first | exact HB.out | apply below_alloc | apply pw_below_drewN | apply below_drew1) | exact HB.out)⟩⟩
          · rw [if_neg c11] at H
            exact absurd H (by simp)
      · rw [if_neg c5] at H
        have c5b0 : decide (0 < t4) = false := decide_eq_false c5
        clear c5
        obtain rfl := Option.some.inj H
        go_wp2_with (first | ((with_reducible refine gate_callee (f := 142) rfl ?_); refine goesL_ (some 9) rfl rfl Try.func142 (by kernel_rfl) rfl #[.int .i64 a0, .int .i64 x4_1] rfl (by (try simp only [List.map_toArray, List.map_cons, List.map_nil]); first | done | rfl | (simp only [List.length_drop, List.length_take]; rfl)) ?_; (with_reducible refine (headroomref04_P.calls k1 a0 x4_1 t4 _ A4.out).mono ?_); rintro e w' ⟨rfl, ⟨nd, rfl⟩⟩; refine ⟨_, rfl, ?_⟩))
        go_ret
        exact ⟨_, by first | rfl | (simp [errW_none, errW_some] <;> rfl) | (simp [*, errW_none, errW_some] <;> rfl), by (with_reducible repeat (first | apply Kd.R_alloc | apply Kd.R_drewN | apply Kd.R_drew)); exact HO_3.out, by repeat (first | (with_reducible first | exact HB.out | apply below_alloc | apply pw_below_drewN | apply below_drew1) | exact HB.out)⟩

end Go.Proofs.Ytpmkkidljmedaaa.X
namespace Go.Proofs.Ytpmkkidljmedaaa.X
open Go.RowKit Go.Proofs.YtpmkkidljmedaaaW.PrintWords Go.Proofs.YtpmkkidljmedaaaW.PrintLast Go.Proofs.YtpmkkidljmedaaaW.PrintMore
attribute [local go_sem] max2_int min2_int max_two min_two max_three min_three max_four min_four   -- for this text's walks alone
set_option linter.unusedVariables false
set_option linter.unusedSimpArgs false

/-! ### headroomref04_Arc: function 131 -/
def headroomref04_Arc.l0 : Nat → Int → List Int → Int → Int → Option (Int)
  | 0, _, _, _, _ => none
  | k + 1, x3, x7, x8, x9 => if x9 < x8 then (if 0 ≤ x9 then (if x9 < (x7.length : Int) then (headroomref04_Arc.l0 k (wrap64 (x3 + (rd x7 x9))) x7 x8 (wrap64 (x9 + 1))) else (none)) else (none)) else (some x3)
def headroomref04_Arc.f (k : Nat) (a0 : Int) : Option (Int) := (headroomref04_Terms.f k a0).bind fun t1 => (headroomref04_Arc.l0 k 0 t1 (t1.length : Int) 0)
theorem headroomref04_Arc.mono_l : ∀ k, (∀ y0 y1 y2 y3, LeO (headroomref04_Arc.l0 k y0 y1 y2 y3) (headroomref04_Arc.l0 (k + 1) y0 y1 y2 y3))
  | 0 => fun _ _ _ _ r h => by simp [headroomref04_Arc.l0] at h
  | k + 1 => by
    have ih0 := headroomref04_Arc.mono_l k
    · intro y0 y1 y2 y3
      unfold headroomref04_Arc.l0
      repeat' first
      | (with_reducible exact ih0 _ _ _ _)
      | (with_reducible exact headroomref04_Terms.mono _ _)
      | (with_reducible exact LeO.refl _)
      | (with_reducible exact LeO.none _)
      | (with_reducible refine LeO.ite ?_ ?_)
      | (with_reducible refine LeO.bind ?_ (fun _ => ?_))
      | exact ih0 _ _ _ _
      | exact headroomref04_Terms.mono _ _
      | exact LeO.none _
      | refine LeO.ite ?_ ?_
      | refine LeO.bind ?_ (fun _ => ?_)
theorem headroomref04_Arc.mono : ∀ a0 k, LeO (headroomref04_Arc.f k a0) (headroomref04_Arc.f (k + 1) a0) := by
  intro a0 k
  have ih0 := headroomref04_Arc.mono_l k
  unfold headroomref04_Arc.f
  repeat' first
      | (with_reducible exact ih0 _ _ _ _)
      | (with_reducible exact headroomref04_Terms.mono _ _)
      | (with_reducible exact LeO.refl _)
      | (with_reducible exact LeO.none _)
      | (with_reducible refine LeO.ite ?_ ?_)
      | (with_reducible refine LeO.bind ?_ (fun _ => ?_))
      | exact ih0 _ _ _ _
      | exact headroomref04_Terms.mono _ _
      | exact LeO.none _
      | refine LeO.ite ?_ ?_
      | refine LeO.bind ?_ (fun _ => ?_)
set_option maxHeartbeats 8000000 in
set_option maxRecDepth 100000 in
theorem headroomref04_Arc.calls (k : Nat) (a0 : Int) (r : Int) (w : World) (h : headroomref04_Arc.f k a0 = some r) :
    Calls Try.prog 131 #[.int .i64 a0] w fun e w' => e = .returned (.int .i64 r) ∧ Below w.heap.size w w' := by
  have HB := Aside0.mk (Below.refl w.heap.size w)
  have H : ((headroomref04_Terms.f k a0).bind fun t1 => (headroomref04_Arc.l0 k 0 t1 (t1.length : Int) 0)) = some r := h
  clear h
  replace H := Option.bind_eq_some_iff.mp H
  obtain ⟨t1, A20, H⟩ := H
  replace H : (headroomref04_Arc.l0 k 0 t1 (t1.length : Int) 0) = some r := H
  have A2 := Aside0.mk A20
  clear A20
  have H' := Aside0.mk H
  clear H
  go_enter Try.func131, Try.ntmps131
  go_wp2_with (first | ((with_reducible refine gate_callee (f := 137) rfl ?_); refine goesL_ (some 7) rfl rfl Try.func137 (by kernel_rfl) rfl #[.int .i64 a0] rfl (by (try simp only [List.map_toArray, List.map_cons, List.map_nil]); first | done | rfl | (simp only [List.length_drop, List.length_take]; rfl)) ?_; (with_reducible refine (headroomref04_Terms.calls k a0 t1 _ A2.out).mono ?_); rintro e w3 ⟨v2, rfl, ho0, hb⟩; refine ⟨_, rfl, ?_⟩; have n0_ := Aside0.mk (Kd.R_lower ho0 (below_size (by repeat (first | (with_reducible first | exact HB.out | apply below_alloc | apply pw_below_drewN | apply below_drew1) | exact HB.out)))); have n1_ := Aside0.mk (below_step (by repeat (first | (with_reducible first | exact HB.out | apply below_alloc | apply pw_below_drewN | apply below_drew1) | exact HB.out)) hb); clear HB; have HO3 := n0_; have HB := n1_; clear n0_ n1_; (try clear hb); (try clear hb2); (try clear hk); (try clear hi); (try clear ho0); obtain ⟨Ao4, co4, eo4⟩ := Kd.R_slice HO3.out; subst eo4))
  go_loopg [3, 9] k (fun kq v3 v9 w' => ∃ (x3_1 : Int) (x9_1 : Int), v3 = .int .i64 x3_1 ∧ v9 = .int .i64 x9_1 ∧ Aside0 (headroomref04_Arc.l0 kq x3_1 t1 (t1.length : Int) x9_1 = some r) ∧ Aside0 (kq ≤ k) ∧ Aside0 (Kd.R (Kd.int .i64) 3 w' w.heap.size (fun _ => True) (.slice Ao4 t1.length co4) t1) ∧ Aside0 (Below w.heap.size w w'))
  case atStart => exact ⟨(0), (0), (by first | rfl | (simp; done) | (simp [*]; done)), (by first | rfl | (simp; done) | (simp [*]; done)), H', ⟨Nat.le_refl _⟩, ⟨by (with_reducible repeat (first | apply Kd.R_alloc | apply Kd.R_drewN | apply Kd.R_drew)); exact HO3.out⟩, ⟨by repeat (first | (with_reducible first | exact HB.out | apply below_alloc | apply pw_below_drewN | apply below_drew1) | exact HB.out)⟩⟩
  case round =>
    clear H'
    try clear c1
    try clear p2
    obtain ⟨x3_1, x9_1, rfl, rfl, HA, HK1, HO_7, HB⟩ := hrel
    cases gk with
    | zero => exact absurd HA.out (by simp [headroomref04_Arc.l0])
    | succ k1 =>
      have H := HA.out
      clear HA
      simp only [headroomref04_Arc.l0] at H
      by_cases c5 : x9_1 < (t1.length : Int)
      · rw [if_pos c5] at H
        have c5b0 : decide (x9_1 < (t1.length : Int)) = true := decide_eq_true c5
        clear c5
        by_cases c6 : 0 ≤ x9_1
        · rw [if_pos c6] at H
          have c6b0 : decide (0 ≤ x9_1) = true := decide_eq_true c6
          clear c6
          by_cases c7 : x9_1 < (t1.length : Int)
          · rw [if_pos c7] at H
            have c7b0 : decide (x9_1 < (t1.length : Int)) = true := decide_eq_true c7
            clear c7
            have H' := Aside0.mk H
            clear H
            have p4 : 0 ≤ (x9_1 : Int) := of_decide_eq_true (by first | (with_reducible assumption) | assumption)
            have q4 : x9_1 < (t1.length : Int) := of_decide_eq_true (by first | (with_reducible assumption) | assumption)
            obtain ⟨ad4, e4, hx4_0⟩ := Kd.at_int (Kd.R_reads' HO_7.out).2.2 x9_1 p4 q4
            cases e4
            replace p4 := eq_true p4
            replace q4 := eq_true q4
            go_wp2
            go_roundg k1
            case measure => have := HK1.out; omega
            case rel => exact ⟨(wrap64 (x3_1 + (rd t1 x9_1))), (wrap64 (x9_1 + 1)), (by first | rfl | (simp; done) | (simp [*]; done)), (by first | rfl | (simp; done) | (simp [*]; done)), H', ⟨by have := HK1.out; omega⟩, ⟨by (with_reducible repeat (first | apply Kd.R_alloc | apply Kd.R_drewN | apply Kd.R_drew)); exact HO_7.out⟩, ⟨by repeat (first | (with_reducible first | exact HB.out | apply below_alloc | apply pw_below_drewN | apply below_drew1) | exact HB.out)⟩⟩
          · rw [if_neg c7] at H
            exact absurd H (by simp)
        · rw [if_neg c6] at H
          exact absurd H (by simp)
      · rw [if_neg c5] at H
        have c5b0 : decide (x9_1 < (t1.length : Int)) = false := decide_eq_false c5
        clear c5
        obtain rfl := Option.some.inj H
        go_wp2
        go_ret
        exact ⟨by first | rfl | (simp [errW_none, errW_some] <;> rfl) | (simp [*, errW_none, errW_some] <;> rfl), by repeat (first | (with_reducible first | exact HB.out | apply below_alloc | apply pw_below_drewN | apply below_drew1) | exact HB.out)⟩

end Go.Proofs.Ytpmkkidljmedaaa.X
namespace Go.Proofs.Ytpmkkidljmedaaa.X
open Go.RowKit Go.Proofs.YtpmkkidljmedaaaW.PrintWords Go.Proofs.YtpmkkidljmedaaaW.PrintLast Go.Proofs.YtpmkkidljmedaaaW.PrintMore
attribute [local go_sem] max2_int min2_int max_two min_two max_three min_three max_four min_four   -- for this text's walks alone
set_option linter.unusedVariables false
set_option linter.unusedSimpArgs false

/-! ### headroomref04_Quarter: function 130 -/
def headroomref04_Quarter.f (k : Nat)  : Option (Int) := (headroomref04_Arc.f k 2).bind fun t1 => ((headroomref04_Arc.f k 3).bind fun t2 => (some (wrap64 (t1 + t2))))
theorem headroomref04_Quarter.mono : ∀ k, LeO (headroomref04_Quarter.f k ) (headroomref04_Quarter.f (k + 1) ) := by
  intro  k
  unfold headroomref04_Quarter.f
  repeat' first
      | (with_reducible exact headroomref04_Arc.mono _ _)
      | (with_reducible exact LeO.refl _)
      | (with_reducible exact LeO.none _)
      | (with_reducible refine LeO.ite ?_ ?_)
      | (with_reducible refine LeO.bind ?_ (fun _ => ?_))
      | exact headroomref04_Arc.mono _ _
      | exact LeO.none _
      | refine LeO.ite ?_ ?_
      | refine LeO.bind ?_ (fun _ => ?_)
set_option maxHeartbeats 8000000 in
set_option maxRecDepth 100000 in
theorem headroomref04_Quarter.calls (k : Nat)  (r : Int) (w : World) (h : headroomref04_Quarter.f k  = some r) :
    Calls Try.prog 130 #[] w fun e w' => e = .returned (.int .i64 r) ∧ Below w.heap.size w w' := by
  have HB := Aside0.mk (Below.refl w.heap.size w)
  have H : ((headroomref04_Arc.f k 2).bind fun t1 => ((headroomref04_Arc.f k 3).bind fun t2 => (some (wrap64 (t1 + t2))))) = some r := h
  clear h
  replace H := Option.bind_eq_some_iff.mp H
  obtain ⟨t1, A10, H⟩ := H
  replace H : ((headroomref04_Arc.f k 3).bind fun t2 => (some (wrap64 (t1 + t2)))) = some r := H
  have A1 := Aside0.mk A10
  clear A10
  replace H := Option.bind_eq_some_iff.mp H
  obtain ⟨t2, A20, H⟩ := H
  replace H : (some (wrap64 (t1 + t2))) = some r := H
  have A2 := Aside0.mk A20
  clear A20
  obtain rfl := Option.some.inj H
  go_enter Try.func130, Try.ntmps130
  go_wp2_with (first | ((with_reducible refine gate_callee (f := 131) rfl ?_); refine goesL_ (some 1) rfl rfl Try.func131 (by kernel_rfl) rfl #[.int .i64 2] rfl (by (try simp only [List.map_toArray, List.map_cons, List.map_nil]); first | done | rfl | (simp only [List.length_drop, List.length_take]; rfl)) ?_; (with_reducible refine (headroomref04_Arc.calls k 2 t1 _ A1.out).mono ?_); rintro e w3 ⟨rfl, hb⟩; refine ⟨_, rfl, ?_⟩; have n0_ := Aside0.mk (below_step (by repeat (first | (with_reducible first | exact HB.out | apply below_alloc | apply pw_below_drewN | apply below_drew1) | exact HB.out)) hb); clear HB; have HB := n0_; clear n0_; (try clear hb); (try clear hb2); (try clear hk); (try clear hi)) | ((with_reducible refine gate_callee (f := 131) rfl ?_); refine goesL_ (some 2) rfl rfl Try.func131 (by kernel_rfl) rfl #[.int .i64 3] rfl (by (try simp only [List.map_toArray, List.map_cons, List.map_nil]); first | done | rfl | (simp only [List.length_drop, List.length_take]; rfl)) ?_; (with_reducible refine (headroomref04_Arc.calls k 3 t2 _ A2.out).mono ?_); rintro e w4 ⟨rfl, hb⟩; refine ⟨_, rfl, ?_⟩; have n0_ := Aside0.mk (below_step (by repeat (first | (with_reducible first | exact HB.out | apply below_alloc | apply pw_below_drewN | apply below_drew1) | exact HB.out)) hb); clear HB; have HB := n0_; clear n0_; (try clear hb); (try clear hb2); (try clear hk); (try clear hi)))
  go_ret
  exact ⟨by first | rfl | (simp [errW_none, errW_some] <;> rfl) | (simp [*, errW_none, errW_some] <;> rfl), by repeat (first | (with_reducible first | exact HB.out | apply below_alloc | apply pw_below_drewN | apply below_drew1) | exact HB.out)⟩

end Go.Proofs.Ytpmkkidljmedaaa.X
namespace Go.Proofs.Ytpmkkidljmedaaa.X
open Go.RowKit Go.Proofs.YtpmkkidljmedaaaW.PrintWords Go.Proofs.YtpmkkidljmedaaaW.PrintLast Go.Proofs.YtpmkkidljmedaaaW.PrintMore
attribute [local go_sem] max2_int min2_int max_two min_two max_three min_three max_four min_four   -- for this text's walks alone
set_option linter.unusedVariables false
set_option linter.unusedSimpArgs false

/-! ### headroomref05_Angle: function 126 -/
def headroomref05_Angle.f (k : Nat) (a0 : Int) : Option (Int) := if a0 = 0 then ((headroomref04_Quarter.f k).bind fun t1 => (some t1)) else ((headroomref01_Pow.f k a0).bind fun t2 => ((headroomref04_Arc.f k t2).bind fun t3 => (some t3)))
theorem headroomref05_Angle.mono : ∀ a0 k, LeO (headroomref05_Angle.f k a0) (headroomref05_Angle.f (k + 1) a0) := by
  intro a0 k
  unfold headroomref05_Angle.f
  repeat' first
      | (with_reducible exact headroomref01_Pow.mono _ _)
      | (with_reducible exact headroomref04_Arc.mono _ _)
      | (with_reducible exact headroomref04_Quarter.mono _)
      | (with_reducible exact LeO.refl _)
      | (with_reducible exact LeO.none _)
      | (with_reducible refine LeO.ite ?_ ?_)
      | (with_reducible refine LeO.bind ?_ (fun _ => ?_))
      | exact headroomref01_Pow.mono _ _
      | exact headroomref04_Arc.mono _ _
      | exact headroomref04_Quarter.mono _
      | exact LeO.none _
      | refine LeO.ite ?_ ?_
      | refine LeO.bind ?_ (fun _ => ?_)
set_option maxHeartbeats 8000000 in
set_option maxRecDepth 100000 in
theorem headroomref05_Angle.calls (k : Nat) (a0 : Int) (r : Int) (w : World) (h : headroomref05_Angle.f k a0 = some r) :
    Calls Try.prog 126 #[.int .i64 a0] w fun e w' => e = .returned (.int .i64 r) ∧ Below w.heap.size w w' := by
  have HB := Aside0.mk (Below.refl w.heap.size w)
  have H : (if a0 = 0 then ((headroomref04_Quarter.f k).bind fun t1 => (some t1)) else ((headroomref01_Pow.f k a0).bind fun t2 => ((headroomref04_Arc.f k t2).bind fun t3 => (some t3)))) = some r := h
  clear h
  by_cases c2 : a0 = 0
  · rw [if_pos c2] at H
    have c2b0 : (a0 == 0) = true := beq_iff_eq.mpr c2
    have c2b1 : (a0 != 0) = false := bne_eq_false_iff_eq.mpr c2
    clear c2
    replace H := Option.bind_eq_some_iff.mp H
    obtain ⟨t1, A30, H⟩ := H
    replace H : (some t1) = some r := H
    have A3 := Aside0.mk A30
    clear A30
    obtain rfl := Option.some.inj H
    go_enter Try.func126, Try.ntmps126
    go_wp2_with (first | ((with_reducible refine gate_callee (f := 130) rfl ?_); refine goesL_ (some 5) rfl rfl Try.func130 (by kernel_rfl) rfl #[] rfl (by (try simp only [List.map_toArray, List.map_cons, List.map_nil]); first | done | rfl | (simp only [List.length_drop, List.length_take]; rfl)) ?_; (with_reducible refine (headroomref04_Quarter.calls k  t1 _ A3.out).mono ?_); rintro e w4 ⟨rfl, hb⟩; refine ⟨_, rfl, ?_⟩; have n0_ := Aside0.mk (below_step (by repeat (first | (with_reducible first | exact HB.out | apply below_alloc | apply pw_below_drewN | apply below_drew1) | exact HB.out)) hb); clear HB; have HB := n0_; clear n0_; (try clear hb); (try clear hb2); (try clear hk); (try clear hi)))
    go_ret
    exact ⟨by first | rfl | (simp [errW_none, errW_some] <;> rfl) | (simp [*, errW_none, errW_some] <;> rfl), by repeat (first | (with_reducible first | exact HB.out | apply below_alloc | apply pw_below_drewN | apply below_drew1) | exact HB.out)⟩
  · rw [if_neg c2] at H
    have c2b0 : (a0 == 0) = false := beq_eq_false_iff_ne.mpr c2
    have c2b1 : (a0 != 0) = true := bne_iff_ne.mpr c2
    replace H := Option.bind_eq_some_iff.mp H
    obtain ⟨t2, A50, H⟩ := H
    replace H : ((headroomref04_Arc.f k t2).bind fun t3 => (some t3)) = some r := H
    have A5 := Aside0.mk A50
    clear A50
    replace H := Option.bind_eq_some_iff.mp H
    obtain ⟨t3, A60, H⟩ := H
    replace H : (some t3) = some r := H
    have A6 := Aside0.mk A60
    clear A60
    obtain rfl := Option.some.inj H
    go_enter Try.func126, Try.ntmps126
    go_wp2_with (first | ((with_reducible refine gate_callee (f := 56) rfl ?_); refine goesL_ (some 7) rfl rfl Try.func56 (by kernel_rfl) rfl #[.int .i64 a0] rfl (by (try simp only [List.map_toArray, List.map_cons, List.map_nil]); first | done | rfl | (simp only [List.length_drop, List.length_take]; rfl)) ?_; (with_reducible refine (headroomref01_Pow.calls k a0 t2 _ A5.out).mono ?_); rintro e w' ⟨rfl, ⟨nd, rfl⟩⟩; refine ⟨_, rfl, ?_⟩) | ((with_reducible refine gate_callee (f := 131) rfl ?_); refine goesL_ (some 8) rfl rfl Try.func131 (by kernel_rfl) rfl #[.int .i64 t2] rfl (by (try simp only [List.map_toArray, List.map_cons, List.map_nil]); first | done | rfl | (simp only [List.length_drop, List.length_take]; rfl)) ?_; (with_reducible refine (headroomref04_Arc.calls k t2 t3 _ A6.out).mono ?_); rintro e w7 ⟨rfl, hb⟩; refine ⟨_, rfl, ?_⟩; have n0_ := Aside0.mk (below_step (by repeat (first | (with_reducible first | exact HB.out | apply below_alloc | apply pw_below_drewN | apply below_drew1) | exact HB.out)) hb); clear HB; have HB := n0_; clear n0_; (try clear hb); (try clear hb2); (try clear hk); (try clear hi)))
    go_ret
    exact ⟨by first | rfl | (simp [errW_none, errW_some] <;> rfl) | (simp [*, errW_none, errW_some] <;> rfl), by repeat (first | (with_reducible first | exact HB.out | apply below_alloc | apply pw_below_drewN | apply below_drew1) | exact HB.out)⟩

end Go.Proofs.Ytpmkkidljmedaaa.X
namespace Go.Proofs.Ytpmkkidljmedaaa.X
open Go.RowKit Go.Proofs.YtpmkkidljmedaaaW.PrintWords Go.Proofs.YtpmkkidljmedaaaW.PrintLast Go.Proofs.YtpmkkidljmedaaaW.PrintMore
attribute [local go_sem] max2_int min2_int max_two min_two max_three min_three max_four min_four   -- for this text's walks alone
set_option linter.unusedVariables false
set_option linter.unusedSimpArgs false

/-! ### headroomref05_Angles: function 118 -/
def headroomref05_Angles.l0 : Nat → List Int → Int → Option (List Int)
  | 0, _, _ => none
  | k + 1, x1, x2 => if x2 < 45 then ((headroomref05_Angle.f k x2).bind fun t4 => (if x1.length < 17592186044416 then (headroomref05_Angles.l0 k (x1 ++ [t4]) (wrap64 (x2 + 1))) else (none))) else (some x1)
def headroomref05_Angles.f (k : Nat)  : Option (List Int) := headroomref05_Angles.l0 k (([] : List Int)) 0
theorem headroomref05_Angles.mono_l : ∀ k, (∀ y0 y1, LeO (headroomref05_Angles.l0 k y0 y1) (headroomref05_Angles.l0 (k + 1) y0 y1))
  | 0 => fun _ _ r h => by simp [headroomref05_Angles.l0] at h
  | k + 1 => by
    have ih0 := headroomref05_Angles.mono_l k
    · intro y0 y1
      unfold headroomref05_Angles.l0
      repeat' first
      | (with_reducible exact ih0 _ _)
      | (with_reducible exact headroomref05_Angle.mono _ _)
      | (with_reducible exact LeO.refl _)
      | (with_reducible exact LeO.none _)
      | (with_reducible refine LeO.ite ?_ ?_)
      | (with_reducible refine LeO.bind ?_ (fun _ => ?_))
      | exact ih0 _ _
      | exact headroomref05_Angle.mono _ _
      | exact LeO.none _
      | refine LeO.ite ?_ ?_
      | refine LeO.bind ?_ (fun _ => ?_)
theorem headroomref05_Angles.mono : ∀ k, LeO (headroomref05_Angles.f k ) (headroomref05_Angles.f (k + 1) ) := by
  intro  k
  have ih0 := headroomref05_Angles.mono_l k
  unfold headroomref05_Angles.f
  repeat' first
      | (with_reducible exact ih0 _ _)
      | (with_reducible exact headroomref05_Angle.mono _ _)
      | (with_reducible exact LeO.refl _)
      | (with_reducible exact LeO.none _)
      | (with_reducible refine LeO.ite ?_ ?_)
      | (with_reducible refine LeO.bind ?_ (fun _ => ?_))
      | exact ih0 _ _
      | exact headroomref05_Angle.mono _ _
      | exact LeO.none _
      | refine LeO.ite ?_ ?_
      | refine LeO.bind ?_ (fun _ => ?_)
set_option maxHeartbeats 8000000 in
set_option maxRecDepth 100000 in
theorem headroomref05_Angles.calls (k : Nat)  (r : List Int) (w : World) (h : headroomref05_Angles.f k  = some r) :
    Calls Try.prog 118 #[] w fun e w' => ∃ v0_ : Value, e = .returned (v0_) ∧ Kd.R (Kd.int .i64) 3 w' w.heap.size (fun _ => True) v0_ r ∧ Below w.heap.size w w' := by
  have HB := Aside0.mk (Below.refl w.heap.size w)
  have H : (headroomref05_Angles.l0 k (([] : List Int)) 0) = some r := h
  clear h
  obtain ⟨y1, hy1⟩ : ∃ y_ : List Int, y_ = (([] : List Int)) := ⟨_, rfl⟩
  replace H : (headroomref05_Angles.l0 k y1 0) = some r := by first | (rw [hy1]; with_reducible exact H) | (have H2_ := (Option.bind_some _ _).symm.trans H; rw [hy1]; with_reducible exact H2_) | (have H2_ := (Option.bind_some _ _).symm.trans H; with_reducible exact H2_) | with_reducible exact H | (rw [hy1]; exact H) | exact H
  have Ny1 := Aside0.mk hy1
  clear hy1
  have H' := Aside0.mk H
  clear H
  go_enter Try.func118, Try.ntmps118
  go_wp2_with (first | ((with_reducible refine gate_dst (N := 3) rfl ?_); refine Kd.R_lit (Kd.int .i64) _ 3 ?hg (N := 3) ?hd (xs := ([] : List Int)) (inner := []) (ok := fun _ => True) (okp := fun _ => True) ?hr ?hp (fun _ hk => hk) trivial (Below.refl _ _) (Nat.le_refl _) (by simp) ?_; (case hd => rfl); (case hg => rfl); (case hr => first | (go_simp; done) | (go_simp; rfl)); (case hp => exact (Reps.none _ _)); intro v2 w1 ho2 hb hg_ hnew_; clear hg_ hnew_; (first | rw [← Ny1.out] at ho2 | (simp only [Int.reduceToNat] at ho2; rw [← Ny1.out] at ho2)); have n0_ := Aside0.mk (Kd.R_lower ho2 (below_size (by repeat (first | (with_reducible first | exact HB.out | apply below_alloc | apply pw_below_drewN | apply below_drew1) | exact HB.out)))); have n1_ := Aside0.mk (below_step (by repeat (first | (with_reducible first | exact HB.out | apply below_alloc | apply pw_below_drewN | apply below_drew1) | exact HB.out)) hb); clear HB; have HO3 := n0_; have HB := n1_; clear n0_ n1_; clear hb ho2))
  go_loopg [1, 2] k (fun kq v1 v2 w' => ∃ (x1_1 : List Int) (x2_1 : Int), v2 = .int .i64 x2_1 ∧ Aside0 (headroomref05_Angles.l0 kq x1_1 x2_1 = some r) ∧ Aside0 (kq ≤ k) ∧ Aside0 (Kd.R (Kd.int .i64) 3 w' w.heap.size (fun _ => True) v1 x1_1) ∧ Aside0 (Below w.heap.size w w'))
  case atStart => exact ⟨(y1), (0), (by first | rfl | (simp; done) | (simp [*]; done)), H', ⟨Nat.le_refl _⟩, ⟨by (with_reducible repeat (first | apply Kd.R_alloc | apply Kd.R_drewN | apply Kd.R_drew)); exact HO3.out⟩, ⟨by repeat (first | (with_reducible first | exact HB.out | apply below_alloc | apply pw_below_drewN | apply below_drew1) | exact HB.out)⟩⟩
  case round =>
    clear H'
    try clear c1
    try clear p2
    obtain ⟨x1_1, x2_1, rfl, HA, HK1, HO_1, HB⟩ := hrel
    cases gk with
    | zero => exact absurd HA.out (by simp [headroomref05_Angles.l0])
    | succ k1 =>
      have H := HA.out
      clear HA
      simp only [headroomref05_Angles.l0] at H
      by_cases c3 : x2_1 < 45
      · rw [if_pos c3] at H
        have c3b0 : decide (x2_1 < 45) = true := decide_eq_true c3
        clear c3
        replace H := Option.bind_eq_some_iff.mp H
        obtain ⟨t4, A40, H⟩ := H
        replace H : (if x1_1.length < 17592186044416 then (headroomref05_Angles.l0 k1 (x1_1 ++ [t4]) (wrap64 (x2_1 + 1))) else (none)) = some r := H
        have A4 := Aside0.mk A40
        clear A40
        by_cases c5 : x1_1.length < 17592186044416
        · rw [if_pos c5] at H
          have LMc5 := Aside0.mk c5
          clear c5
          obtain ⟨y5, hy5⟩ : ∃ y_ : List Int, y_ = (x1_1 ++ [t4]) := ⟨_, rfl⟩
          replace H : (headroomref05_Angles.l0 k1 y5 (wrap64 (x2_1 + 1))) = some r := by first | (rw [hy5]; with_reducible exact H) | (have H2_ := (Option.bind_some _ _).symm.trans H; rw [hy5]; with_reducible exact H2_) | (have H2_ := (Option.bind_some _ _).symm.trans H; with_reducible exact H2_) | with_reducible exact H | (rw [hy5]; exact H) | exact H
          have Ny5 := Aside0.mk hy5
          clear hy5
          have H' := Aside0.mk H
          clear H
          go_wp2_with (first | ((with_reducible refine gate_callee (f := 126) rfl ?_); refine goesL_ (some 10) rfl rfl Try.func126 (by kernel_rfl) rfl #[.int .i64 x2_1] rfl (by (try simp only [List.map_toArray, List.map_cons, List.map_nil]); first | done | rfl | (simp only [List.length_drop, List.length_take]; rfl)) ?_; (with_reducible refine (headroomref05_Angle.calls k1 x2_1 t4 _ A4.out).mono ?_); rintro e w6 ⟨rfl, hb⟩; refine ⟨_, rfl, ?_⟩; have n0_ := Aside0.mk (Kd.R_below (by (with_reducible repeat (first | apply Kd.R_alloc | apply Kd.R_drewN | apply Kd.R_drew)); exact HO_1.out) hb); have n1_ := Aside0.mk (below_step (by repeat (first | (with_reducible first | exact HB.out | apply below_alloc | apply pw_below_drewN | apply below_drew1) | exact HB.out)) hb); clear HO_1; clear HB; have HO_1 := n0_; have HB := n1_; clear n0_ n1_; (try clear hb); (try clear hb2); (try clear hk); (try clear hi)) | ((with_reducible refine gate_builtin (b := .append) (xs := #[.tmp 8, .tmp 11]) rfl ?_); at_builtin; refine Kd.R_append (Kd.int .i64) (w0 := w) w.heap.size rfl (.tmp 8) (.tmp 11) 31 3 (.int .i64 0) 8 rfl Try.underlying31 info3 rfl (by decide) (by omega) u1 x1_1 t4 [.int .i64 t4] (fun _ => True) (fun _ => False) rfl rfl ?aP (fun _ hk => hk.elim) ?aF ?aO ?aB ?aS ?aL ?_; (case aP => exact rfl); (case aB => exact (by repeat (first | (with_reducible first | exact HB.out | apply below_alloc | apply pw_below_drewN | apply below_drew1) | exact HB.out))); (case aF => exact (fun _ _ => trivial)); (case aO => exact (by (with_reducible repeat (first | apply Kd.R_alloc | apply Kd.R_drewN | apply Kd.R_drew)); exact HO_1.out)); (case aS => exact (below_size (by repeat (first | (with_reducible first | exact HB.out | apply below_alloc | apply pw_below_drewN | apply below_drew1) | exact HB.out)))); (case aL => have := LMc5.out; omega); intro v6 w7 ho hb hg hat; rw [← Ny5.out] at ho; have n0_ := Aside0.mk (hb); have n1_ := Aside0.mk (ho); clear HB; clear HO_1; have HB := n0_; have HO7 := n1_; clear n0_ n1_; clear ho hb hg hat))
          go_roundg k1
          case measure => have := HK1.out; omega
          case rel => exact ⟨(y5), (wrap64 (x2_1 + 1)), (by first | rfl | (simp; done) | (simp [*]; done)), H', ⟨by have := HK1.out; omega⟩, ⟨by (with_reducible repeat (first | apply Kd.R_alloc | apply Kd.R_drewN | apply Kd.R_drew)); exact HO7.out⟩, ⟨by repeat (first | (with_reducible first | exact HB.out | apply below_alloc | apply pw_below_drewN | apply below_drew1) | exact HB.out)⟩⟩
        · rw [if_neg c5] at H
          exact absurd H (by simp)
      · rw [if_neg c3] at H
        have c3b0 : decide (x2_1 < 45) = false := decide_eq_false c3
        clear c3
        obtain rfl := Option.some.inj H
        go_wp2
        go_ret
        exact ⟨_, by first | rfl | (simp [errW_none, errW_some] <;> rfl) | (simp [*, errW_none, errW_some] <;> rfl), by (with_reducible repeat (first | apply Kd.R_alloc | apply Kd.R_drewN | apply Kd.R_drew)); exact HO_1.out, by repeat (first | (with_reducible first | exact HB.out | apply below_alloc | apply pw_below_drewN | apply below_drew1) | exact HB.out)⟩

end Go.Proofs.Ytpmkkidljmedaaa.X
namespace Go.Proofs.Ytpmkkidljmedaaa.X
open Go.RowKit Go.Proofs.YtpmkkidljmedaaaW.PrintWords Go.Proofs.YtpmkkidljmedaaaW.PrintLast Go.Proofs.YtpmkkidljmedaaaW.PrintMore
attribute [local go_sem] max2_int min2_int max_two min_two max_three min_three max_four min_four   -- for this text's walks alone
set_option linter.unusedVariables false
set_option linter.unusedSimpArgs false

/-! ### sat_Bits: function 41 -/
def sat_Bits.f (a0 : Int) : Option (Int × Int) := if a0 = 0 then (some (15, 0)) else (if a0 = 1 then (some (31, 0)) else (some (0, 1)))
set_option maxHeartbeats 8000000 in
set_option maxRecDepth 100000 in
theorem sat_Bits.calls (a0 : Int) (r1 : Int) (r2 : Int) (w : World) (h : sat_Bits.f a0 = some (r1, r2)) :
    Calls Try.prog 41 #[.int .i64 a0] w fun e w' => e = .returned (.tuple #[.int .i64 r1, .int .i64 r2]) ∧ Drawn0 w w' := by
  have H : (if a0 = 0 then (some (15, 0)) else (if a0 = 1 then (some (31, 0)) else (some (0, 1)))) = some (r1, r2) := h
  clear h
  by_cases c2 : a0 = 0
  · rw [if_pos c2] at H
    have c2b0 : (a0 == 0) = true := beq_iff_eq.mpr c2
    have c2b1 : (a0 != 0) = false := bne_eq_false_iff_eq.mpr c2
    clear c2
    simp only [Option.some.injEq, Prod.mk.injEq] at H
    obtain ⟨rfl, rfl⟩ := H
    go_enter Try.func41, Try.ntmps41
    go_wp2
    go_ret2
    exact ⟨by first | rfl | (simp; done) | (simp [*]; done), by repeat (first | exact Drawn0.refl _ | apply Drawn0.step)⟩
  · rw [if_neg c2] at H
    have c2b0 : (a0 == 0) = false := beq_eq_false_iff_ne.mpr c2
    have c2b1 : (a0 != 0) = true := bne_iff_ne.mpr c2
    by_cases c3 : a0 = 1
    · rw [if_pos c3] at H
      have c3b0 : (a0 == 1) = true := beq_iff_eq.mpr c3
      have c3b1 : (a0 != 1) = false := bne_eq_false_iff_eq.mpr c3
      clear c3
      simp only [Option.some.injEq, Prod.mk.injEq] at H
      obtain ⟨rfl, rfl⟩ := H
      go_enter Try.func41, Try.ntmps41
      go_wp2
      go_ret2
      exact ⟨by first | rfl | (simp; done) | (simp [*]; done), by repeat (first | exact Drawn0.refl _ | apply Drawn0.step)⟩
    · rw [if_neg c3] at H
      have c3b0 : (a0 == 1) = false := beq_eq_false_iff_ne.mpr c3
      have c3b1 : (a0 != 1) = true := bne_iff_ne.mpr c3
      simp only [Option.some.injEq, Prod.mk.injEq] at H
      obtain ⟨rfl, rfl⟩ := H
      go_enter Try.func41, Try.ntmps41
      go_wp2
      go_ret2
      exact ⟨by first | rfl | (simp; done) | (simp [*]; done), by repeat (first | exact Drawn0.refl _ | apply Drawn0.step)⟩

end Go.Proofs.Ytpmkkidljmedaaa.X
namespace Go.Proofs.Ytpmkkidljmedaaa.X
open Go.RowKit Go.Proofs.YtpmkkidljmedaaaW.PrintWords Go.Proofs.YtpmkkidljmedaaaW.PrintLast Go.Proofs.YtpmkkidljmedaaaW.PrintMore
attribute [local go_sem] max2_int min2_int max_two min_two max_three min_three max_four min_four   -- for this text's walks alone
set_option linter.unusedVariables false
set_option linter.unusedSimpArgs false

/-! ### headroomref01_half: function 115 -/
def headroomref01_half.f (a0 : Int) : Option (Int) := if (Int.tmod a0 2) = 0 then (some (wrap64 (Int.tdiv a0 2))) else (if a0 > 0 then (some (wrap64 (Int.tdiv a0 2))) else (some (wrap64 ((wrap64 (Int.tdiv a0 2)) - 1))))
set_option maxHeartbeats 8000000 in
set_option maxRecDepth 100000 in
theorem headroomref01_half.calls (a0 : Int) (r : Int) (w : World) (h : headroomref01_half.f a0 = some r) :
    Calls Try.prog 115 #[.int .i64 a0] w fun e w' => e = .returned (.int .i64 r) ∧ Drawn0 w w' := by
  have H : (if (Int.tmod a0 2) = 0 then (some (wrap64 (Int.tdiv a0 2))) else (if a0 > 0 then (some (wrap64 (Int.tdiv a0 2))) else (some (wrap64 ((wrap64 (Int.tdiv a0 2)) - 1))))) = some r := h
  clear h
  by_cases c2 : (Int.tmod a0 2) = 0
  · rw [if_pos c2] at H
    have c2b0 : ((Int.tmod a0 2) == 0) = true := beq_iff_eq.mpr c2
    have c2b1 : ((Int.tmod a0 2) != 0) = false := bne_eq_false_iff_eq.mpr c2
    clear c2
    obtain rfl := Option.some.inj H
    go_enter Try.func115, Try.ntmps115
    go_wp2
    go_ret
    exact ⟨by first | rfl | (simp; done) | (simp [*]; done), by repeat (first | exact Drawn0.refl _ | apply Drawn0.step)⟩
  · rw [if_neg c2] at H
    have c2b0 : ((Int.tmod a0 2) == 0) = false := beq_eq_false_iff_ne.mpr c2
    have c2b1 : ((Int.tmod a0 2) != 0) = true := bne_iff_ne.mpr c2
    by_cases c3 : a0 > 0
    · rw [if_pos c3] at H
      have c3b0 : decide (0 < a0) = true := decide_eq_true c3
      clear c3
      obtain rfl := Option.some.inj H
      go_enter Try.func115, Try.ntmps115
      go_wp2
      go_ret
      exact ⟨by first | rfl | (simp; done) | (simp [*]; done), by repeat (first | exact Drawn0.refl _ | apply Drawn0.step)⟩
    · rw [if_neg c3] at H
      have c3b0 : decide (0 < a0) = false := decide_eq_false c3
      clear c3
      obtain rfl := Option.some.inj H
      go_enter Try.func115, Try.ntmps115
      go_wp2
      go_ret
      exact ⟨by first | rfl | (simp; done) | (simp [*]; done), by repeat (first | exact Drawn0.refl _ | apply Drawn0.step)⟩

end Go.Proofs.Ytpmkkidljmedaaa.X
namespace Go.Proofs.Ytpmkkidljmedaaa.X
open Go.RowKit Go.Proofs.YtpmkkidljmedaaaW.PrintWords Go.Proofs.YtpmkkidljmedaaaW.PrintLast Go.Proofs.YtpmkkidljmedaaaW.PrintMore
attribute [local go_sem] max2_int min2_int max_two min_two max_three min_three max_four min_four   -- for this text's walks alone
set_option linter.unusedVariables false
set_option linter.unusedSimpArgs false

/-! ### headroomref01_Floor: function 83 -/
def headroomref01_Floor.l0 : Nat → Int → Int → Int → Option (Int)
  | 0, _, _, _ => none
  | k + 1, x0, x1, x5 => if x5 < x1 then ((headroomref01_half.f x0).bind fun t1 => (headroomref01_Floor.l0 k t1 x1 (wrap64 (x5 + 1)))) else (some x0)
def headroomref01_Floor.f (k : Nat) (a0 : Int) (a1 : Int) : Option (Int) := headroomref01_Floor.l0 k a0 a1 0
theorem headroomref01_Floor.mono_l : ∀ k, (∀ y0 y1 y2, LeO (headroomref01_Floor.l0 k y0 y1 y2) (headroomref01_Floor.l0 (k + 1) y0 y1 y2))
  | 0 => fun _ _ _ r h => by simp [headroomref01_Floor.l0] at h
  | k + 1 => by
    have ih0 := headroomref01_Floor.mono_l k
    · intro y0 y1 y2
      unfold headroomref01_Floor.l0
      repeat' first
      | (with_reducible exact ih0 _ _ _)
      | (with_reducible exact LeO.refl _)
      | (with_reducible exact LeO.none _)
      | (with_reducible refine LeO.ite ?_ ?_)
      | (with_reducible refine LeO.bind ?_ (fun _ => ?_))
      | exact ih0 _ _ _
      | exact LeO.none _
      | refine LeO.ite ?_ ?_
      | refine LeO.bind ?_ (fun _ => ?_)
theorem headroomref01_Floor.mono : ∀ a0 a1 k, LeO (headroomref01_Floor.f k a0 a1) (headroomref01_Floor.f (k + 1) a0 a1) := by
  intro a0 a1 k
  have ih0 := headroomref01_Floor.mono_l k
  unfold headroomref01_Floor.f
  repeat' first
      | (with_reducible exact ih0 _ _ _)
      | (with_reducible exact LeO.refl _)
      | (with_reducible exact LeO.none _)
      | (with_reducible refine LeO.ite ?_ ?_)
      | (with_reducible refine LeO.bind ?_ (fun _ => ?_))
      | exact ih0 _ _ _
      | exact LeO.none _
      | refine LeO.ite ?_ ?_
      | refine LeO.bind ?_ (fun _ => ?_)
set_option maxHeartbeats 8000000 in
set_option maxRecDepth 100000 in
theorem headroomref01_Floor.calls (k : Nat) (a0 : Int) (a1 : Int) (r : Int) (w : World) (h : headroomref01_Floor.f k a0 a1 = some r) :
    Calls Try.prog 83 #[.int .i64 a0, .int .i64 a1] w fun e w' => e = .returned (.int .i64 r) ∧ Drawn0 w w' := by
  have H : (headroomref01_Floor.l0 k a0 a1 0) = some r := h
  clear h
  have H' := Aside0.mk H
  clear H
  go_enter Try.func83, Try.ntmps83
  go_wp2
  go_loopg [0, 5] k (fun kq v0 v5 w' => ∃ (x0_1 : Int) (x5_1 : Int), v0 = .int .i64 x0_1 ∧ v5 = .int .i64 x5_1 ∧ Aside0 (headroomref01_Floor.l0 kq x0_1 a1 x5_1 = some r) ∧ Aside0 (kq ≤ k) ∧ Drawn0 w w')
  case atStart => exact ⟨(a0), (0), (by first | rfl | (simp; done) | (simp [*]; done)), (by first | rfl | (simp; done) | (simp [*]; done)), H', ⟨Nat.le_refl _⟩, by repeat (first | exact Drawn0.refl _ | apply Drawn0.step)⟩
  case round =>
    clear H'
    try clear p2
    obtain ⟨x0_1, x5_1, rfl, rfl, HA, HK1, ⟨m1, rfl⟩⟩ := hrel
    cases gk with
    | zero => exact absurd HA.out (by simp [headroomref01_Floor.l0])
    | succ k1 =>
      have H := HA.out
      clear HA
      simp only [headroomref01_Floor.l0] at H
      by_cases c3 : x5_1 < a1
      · rw [if_pos c3] at H
        have c3b0 : decide (x5_1 < a1) = true := decide_eq_true c3
        clear c3
        replace H := Option.bind_eq_some_iff.mp H
        obtain ⟨t1, A40, H⟩ := H
        replace H : (headroomref01_Floor.l0 k1 t1 a1 (wrap64 (x5_1 + 1))) = some r := H
        have A4 := Aside0.mk A40
        clear A40
        have H' := Aside0.mk H
        clear H
        go_wp2_with (first | ((with_reducible refine gate_callee (f := 115) rfl ?_); refine goesL_ (some 12) rfl rfl Try.func115 (by kernel_rfl) rfl #[.int .i64 x0_1] rfl (by (try simp only [List.map_toArray, List.map_cons, List.map_nil]); first | done | rfl | (simp only [List.length_drop, List.length_take]; rfl)) ?_; (with_reducible refine (headroomref01_half.calls x0_1 t1 _ A4.out).mono ?_); rintro e w' ⟨rfl, ⟨nd, rfl⟩⟩; refine ⟨_, rfl, ?_⟩))
        go_roundg k1
        case measure => have := HK1.out; omega
        case rel => exact ⟨(t1), (wrap64 (x5_1 + 1)), (by first | rfl | (simp; done) | (simp [*]; done)), (by first | rfl | (simp; done) | (simp [*]; done)), H', ⟨by have := HK1.out; omega⟩, by repeat (first | exact Drawn0.refl _ | apply Drawn0.step)⟩
      · rw [if_neg c3] at H
        have c3b0 : decide (x5_1 < a1) = false := decide_eq_false c3
        clear c3
        obtain rfl := Option.some.inj H
        go_wp2
        go_ret
        exact ⟨by first | rfl | (simp; done) | (simp [*]; done), by repeat (first | exact Drawn0.refl _ | apply Drawn0.step)⟩

end Go.Proofs.Ytpmkkidljmedaaa.X
namespace Go.Proofs.Ytpmkkidljmedaaa.X
open Go.RowKit Go.Proofs.YtpmkkidljmedaaaW.PrintWords Go.Proofs.YtpmkkidljmedaaaW.PrintLast Go.Proofs.YtpmkkidljmedaaaW.PrintMore
attribute [local go_sem] max2_int min2_int max_two min_two max_three min_three max_four min_four
set_option linter.unusedVariables false
set_option linter.unusedSimpArgs false

def headroomref03_Times.f (a0_0 : Int) (a0_1 : Int) (a1_0 : Int) (a1_1 : Int) : Option (Int × Int) := some (wrap64 (wrap64 (a0_0 * a1_0) - wrap64 (a0_1 * a1_1)), wrap64 (wrap64 (a0_0 * a1_1) + wrap64 (a0_1 * a1_0)))
theorem headroomref03_Times.calls (a0_0 a0_1 a1_0 a1_1 : Int) (r1 r2 : Int) (w : World) (h : headroomref03_Times.f a0_0 a0_1 a1_0 a1_1 = some (r1, r2)) :
    Calls Try.prog 67 #[.agg #[.int .i64 a0_0, .int .i64 a0_1], .agg #[.int .i64 a1_0, .int .i64 a1_1]] w fun e w' => e = .returned (.agg #[.int .i64 r1, .int .i64 r2]) ∧ Below w.heap.size w w' := by
  simp only [headroomref03_Times.f, Option.some.injEq, Prod.mk.injEq] at h
  obtain ⟨rfl, rfl⟩ := h
  go_enter Try.func67, Try.ntmps67
  go_wp2
  exact bodyPost_ret (v := .agg #[.int .i64 (wrap64 (wrap64 (a0_0 * a1_0) - wrap64 (a0_1 * a1_1))), .int .i64 (wrap64 (wrap64 (a0_0 * a1_1) + wrap64 (a0_1 * a1_0)))]) (by simp [results, Try.results67, go_sem]) rfl ⟨rfl, below_alloc (below_alloc (below_alloc (below_alloc (Below.refl _ _) _) _) _) _⟩

def headroomref05_step.f (k : Nat) (a0_0 : Int) (a0_1 : Int) (a0_2 : Int) (a1 : Int) (a2 : Int) : Option (Int × Int × Int) := (headroomref01_Floor.f k a0_0 a1).bind fun t188 => ((headroomref01_Floor.f k a0_1 a1).bind fun t189 => (if a0_2 ≥ 0 then (some (wrap64 (a0_0 - t189), wrap64 (a0_1 + t188), wrap64 (a0_2 - a2))) else (some (wrap64 (a0_0 + t189), wrap64 (a0_1 - t188), wrap64 (a0_2 + a2)))))
theorem headroomref05_step.mono : ∀ a0 a1 a2 a3 a4 k, LeO (headroomref05_step.f k a0 a1 a2 a3 a4) (headroomref05_step.f (k + 1) a0 a1 a2 a3 a4) := by
  intro a0 a1 a2 a3 a4 k
  unfold headroomref05_step.f
  refine LeO.bind (headroomref01_Floor.mono _ _ _) (fun _ => ?_)
  refine LeO.bind (headroomref01_Floor.mono _ _ _) (fun _ => ?_)
  exact LeO.refl _
theorem headroomref05_step.calls (k : Nat) (a0_0 : Int) (a0_1 : Int) (a0_2 : Int) (a1 : Int) (a2 : Int) (r1 : Int) (r2 : Int) (r3 : Int) (w : World) (h : headroomref05_step.f k a0_0 a0_1 a0_2 a1 a2 = some (r1, r2, r3)) :
    Calls Try.prog 138 #[.agg #[.int .i64 a0_0, .int .i64 a0_1, .int .i64 a0_2], .int .i64 a1, .int .i64 a2] w fun e w' => e = .returned (.agg #[.int .i64 r1, .int .i64 r2, .int .i64 r3]) ∧ Below w.heap.size w w' := by
  unfold headroomref05_step.f at h
  obtain ⟨t0, A0, K0⟩ := Option.bind_eq_some_iff.mp h
  obtain ⟨t1, A1, K⟩ := Option.bind_eq_some_iff.mp K0
  clear h K0
  have H0 := Lib.hid A0; have H1 := Lib.hid A1
  clear A0 A1
  by_cases c : 0 ≤ a0_2
  · rw [if_pos c] at K
    simp only [Option.some.injEq, Prod.mk.injEq] at K
    obtain ⟨rfl, rfl, rfl⟩ := K
    go_enter Try.func138, Try.ntmps138
    go_wp2_with fail
    have BR := blk_new (w.alloc (.cells #[.int .i64 a0_0, .int .i64 a0_1, .int .i64 a0_2] 140 (0, 0))) (.cells #[.int .i64 0, .int .i64 0, .int .i64 0] 140 (0, 0))
    have HB := below_alloc (below_alloc (Below.refl _ w) (.cells #[.int .i64 a0_0, .int .i64 a0_1, .int .i64 a0_2] 140 (0, 0))) (.cells #[.int .i64 0, .int .i64 0, .int .i64 0] 140 (0, 0))
    simp only [World.size_alloc] at BR
    have BR := Aside0.mk BR
    refine (headroomref01_Floor.calls k a0_0 a1 t0 _ H0.out).mono ?_
    rintro e w1 ⟨rfl, ⟨n1, rfl⟩⟩
    go_wp2_with fail
    refine (headroomref01_Floor.calls k a0_1 a1 t1 _ H1.out).mono ?_
    rintro e w1 ⟨rfl, ⟨n2, rfl⟩⟩
    go_wp2
    exact bodyPost_ret (results_cell_row rfl _ _ (w.heap.size + 1) 140 #[.int .i64 (wrap64 (a0_0 - t1)), .int .i64 (wrap64 (a0_1 + t0)), .int .i64 (wrap64 (a0_2 - a2))] (0, 0) _ rfl (blk_put (cs := #[.int .i64 (wrap64 (a0_0 - t1)), .int .i64 (wrap64 (a0_1 + t0)), .int .i64 0]) (blk_put (cs := #[.int .i64 (wrap64 (a0_0 - t1)), .int .i64 0, .int .i64 0]) (blk_put (blk_drewN BR.out _) 0 _ rfl) 1 _ rfl) 2 _ rfl) Try.underlying140 rfl (by kernel_rfl)) rfl ⟨rfl, below_set (below_set (below_set (pw_below_drewN HB _) (Nat.le_succ _)) (Nat.le_succ _)) (Nat.le_succ _)⟩
  · rw [if_neg c] at K
    simp only [Option.some.injEq, Prod.mk.injEq] at K
    obtain ⟨rfl, rfl, rfl⟩ := K
    go_enter Try.func138, Try.ntmps138
    go_wp2_with fail
    have BR := blk_new (w.alloc (.cells #[.int .i64 a0_0, .int .i64 a0_1, .int .i64 a0_2] 140 (0, 0))) (.cells #[.int .i64 0, .int .i64 0, .int .i64 0] 140 (0, 0))
    have HB := below_alloc (below_alloc (Below.refl _ w) (.cells #[.int .i64 a0_0, .int .i64 a0_1, .int .i64 a0_2] 140 (0, 0))) (.cells #[.int .i64 0, .int .i64 0, .int .i64 0] 140 (0, 0))
    simp only [World.size_alloc] at BR
    have BR := Aside0.mk BR
    refine (headroomref01_Floor.calls k a0_0 a1 t0 _ H0.out).mono ?_
    rintro e w1 ⟨rfl, ⟨n1, rfl⟩⟩
    go_wp2_with fail
    refine (headroomref01_Floor.calls k a0_1 a1 t1 _ H1.out).mono ?_
    rintro e w1 ⟨rfl, ⟨n2, rfl⟩⟩
    go_wp2
    exact bodyPost_ret (results_cell_row rfl _ _ (w.heap.size + 1) 140 #[.int .i64 (wrap64 (a0_0 + t1)), .int .i64 (wrap64 (a0_1 - t0)), .int .i64 (wrap64 (a0_2 + a2))] (0, 0) _ rfl (blk_put (cs := #[.int .i64 (wrap64 (a0_0 + t1)), .int .i64 (wrap64 (a0_1 - t0)), .int .i64 0]) (blk_put (cs := #[.int .i64 (wrap64 (a0_0 + t1)), .int .i64 0, .int .i64 0]) (blk_put (blk_drewN BR.out _) 0 _ rfl) 1 _ rfl) 2 _ rfl) Try.underlying140 rfl (by kernel_rfl)) rfl ⟨rfl, below_set (below_set (below_set (pw_below_drewN HB _) (Nat.le_succ _)) (Nat.le_succ _)) (Nat.le_succ _)⟩
/-- The mantissa next to a number. -/
def clampI (b : Nat) (x : Int) : Int := if x < -2 ^ b then -2 ^ b else if x > 2 ^ b - 1 then 2 ^ b - 1 else x
def sat_Clamp.f (x fmt : Int) : Option (Int × Bool × Int) := if fmt = 0 then some (clampI 15 x, clampI 15 x != x, 0) else if fmt = 1 then some (clampI 31 x, clampI 31 x != x, 0) else some (0, false, 1)
theorem clamp15_lo (a0 : Int) (w : World) (h : a0 < -32768) :
    Calls Try.prog 31 #[.int .i64 a0, .int .i64 0] w fun e w' => e = .returned (.tuple #[.int .i64 (-32768), .bool true, .int .i64 0]) ∧ Below w.heap.size w w' := by
  have hne : ((-32768 : Int) != a0) = true := by rw [bne_iff_ne]; omega
  have HB := Lib.hid (show sat_Bits.f 0 = some (15, 0) by rfl)
  skip
  go_enter Try.func31, Try.ntmps31
  go_wp2_with (go_at_call 41; refine (sat_Bits.calls 0 15 0 _ HB.out).mono ?_; rintro e w' ⟨rfl, ⟨n1, rfl⟩⟩)
  go_quiet (fail)
  go_wp2
  all_goals first
    | (exfalso; omega)
    | (go_ret3; exact ⟨rfl, pw_below_drewN (Below.refl _ _) _⟩)
theorem clamp15_hi (a0 : Int) (w : World) (h : 32767 < a0) :
    Calls Try.prog 31 #[.int .i64 a0, .int .i64 0] w fun e w' => e = .returned (.tuple #[.int .i64 32767, .bool true, .int .i64 0]) ∧ Below w.heap.size w w' := by
  have hne : ((32767 : Int) != a0) = true := by rw [bne_iff_ne]; omega
  have HB := Lib.hid (show sat_Bits.f 0 = some (15, 0) by rfl)
  skip
  go_enter Try.func31, Try.ntmps31
  go_wp2_with (go_at_call 41; refine (sat_Bits.calls 0 15 0 _ HB.out).mono ?_; rintro e w' ⟨rfl, ⟨n1, rfl⟩⟩)
  go_quiet (fail)
  go_wp2
  all_goals first
    | (exfalso; omega)
    | (go_ret3; exact ⟨rfl, pw_below_drewN (Below.refl _ _) _⟩)
theorem clamp15_in (a0 : Int) (w : World) (h : -32768 ≤ a0 ∧ a0 ≤ 32767) :
    Calls Try.prog 31 #[.int .i64 a0, .int .i64 0] w fun e w' => e = .returned (.tuple #[.int .i64 a0, .bool false, .int .i64 0]) ∧ Below w.heap.size w w' := by
  have hne : (a0 != a0) = false := bne_self_eq_false a0
  have HB := Lib.hid (show sat_Bits.f 0 = some (15, 0) by rfl)
  obtain ⟨h1, h2⟩ := h
  go_enter Try.func31, Try.ntmps31
  go_wp2_with (go_at_call 41; refine (sat_Bits.calls 0 15 0 _ HB.out).mono ?_; rintro e w' ⟨rfl, ⟨n1, rfl⟩⟩)
  go_quiet (fail)
  go_wp2
  all_goals first
    | (exfalso; omega)
    | (go_ret3; exact ⟨rfl, pw_below_drewN (Below.refl _ _) _⟩)
theorem clamp31_lo (a0 : Int) (w : World) (h : a0 < -2147483648) :
    Calls Try.prog 31 #[.int .i64 a0, .int .i64 1] w fun e w' => e = .returned (.tuple #[.int .i64 (-2147483648), .bool true, .int .i64 0]) ∧ Below w.heap.size w w' := by
  have hne : ((-2147483648 : Int) != a0) = true := by rw [bne_iff_ne]; omega
  have HB := Lib.hid (show sat_Bits.f 1 = some (31, 0) by rfl)
  skip
  go_enter Try.func31, Try.ntmps31
  go_wp2_with (go_at_call 41; refine (sat_Bits.calls 1 31 0 _ HB.out).mono ?_; rintro e w' ⟨rfl, ⟨n1, rfl⟩⟩)
  go_quiet (fail)
  go_wp2
  all_goals first
    | (exfalso; omega)
    | (go_ret3; exact ⟨rfl, pw_below_drewN (Below.refl _ _) _⟩)
theorem clamp31_hi (a0 : Int) (w : World) (h : 2147483647 < a0) :
    Calls Try.prog 31 #[.int .i64 a0, .int .i64 1] w fun e w' => e = .returned (.tuple #[.int .i64 2147483647, .bool true, .int .i64 0]) ∧ Below w.heap.size w w' := by
  have hne : ((2147483647 : Int) != a0) = true := by rw [bne_iff_ne]; omega
  have HB := Lib.hid (show sat_Bits.f 1 = some (31, 0) by rfl)
  skip
  go_enter Try.func31, Try.ntmps31
  go_wp2_with (go_at_call 41; refine (sat_Bits.calls 1 31 0 _ HB.out).mono ?_; rintro e w' ⟨rfl, ⟨n1, rfl⟩⟩)
  go_quiet (fail)
  go_wp2
  all_goals first
    | (exfalso; omega)
    | (go_ret3; exact ⟨rfl, pw_below_drewN (Below.refl _ _) _⟩)
theorem clamp31_in (a0 : Int) (w : World) (h : -2147483648 ≤ a0 ∧ a0 ≤ 2147483647) :
    Calls Try.prog 31 #[.int .i64 a0, .int .i64 1] w fun e w' => e = .returned (.tuple #[.int .i64 a0, .bool false, .int .i64 0]) ∧ Below w.heap.size w w' := by
  have hne : (a0 != a0) = false := bne_self_eq_false a0
  have HB := Lib.hid (show sat_Bits.f 1 = some (31, 0) by rfl)
  obtain ⟨h1, h2⟩ := h
  go_enter Try.func31, Try.ntmps31
  go_wp2_with (go_at_call 41; refine (sat_Bits.calls 1 31 0 _ HB.out).mono ?_; rintro e w' ⟨rfl, ⟨n1, rfl⟩⟩)
  go_quiet (fail)
  go_wp2
  all_goals first
    | (exfalso; omega)
    | (go_ret3; exact ⟨rfl, pw_below_drewN (Below.refl _ _) _⟩)
theorem clamp_bad (a0 a1 : Int) (w : World) (h0 : (a1 == 0) = false) (h1 : (a1 == 1) = false) :
    Calls Try.prog 31 #[.int .i64 a0, .int .i64 a1] w fun e w' => e = .returned (.tuple #[.int .i64 0, .bool false, .int .i64 1]) ∧ Below w.heap.size w w' := by
  have HB := Lib.hid (show sat_Bits.f a1 = some (0, 1) by unfold sat_Bits.f; rw [if_neg (beq_eq_false_iff_ne.1 h0), if_neg (beq_eq_false_iff_ne.1 h1)])
  clear h0 h1
  go_enter Try.func31, Try.ntmps31
  go_wp2_with (go_at_call 41; refine (sat_Bits.calls a1 0 1 _ HB.out).mono ?_; rintro e w' ⟨rfl, ⟨n1, rfl⟩⟩)
  go_ret3
  exact ⟨rfl, pw_below_drewN (Below.refl _ _) _⟩
theorem sat_Clamp.calls (a0 a1 : Int) (r1 : Int) (r2 : Bool) (r3 : Int) (w : World) (h : sat_Clamp.f a0 a1 = some (r1, r2, r3)) :
    Calls Try.prog 31 #[.int .i64 a0, .int .i64 a1] w fun e w' => e = .returned (.tuple #[.int .i64 r1, .bool r2, .int .i64 r3]) ∧ Below w.heap.size w w' := by
  have p15 : (2 : Int) ^ 15 = 32768 := by decide
  have p31 : (2 : Int) ^ 31 = 2147483648 := by decide
  unfold sat_Clamp.f at h
  by_cases c0 : a1 = 0
  · rw [if_pos c0] at h
    simp only [Option.some.injEq, Prod.mk.injEq, clampI, p15] at h
    obtain ⟨rfl, rfl, rfl⟩ := h
    subst c0
    by_cases l : a0 < -32768
    · simp only [if_pos l]
      rw [show ((-32768 : Int) != a0) = true by rw [bne_iff_ne]; omega]
      exact clamp15_lo a0 w l
    · simp only [if_neg l]
      by_cases l2 : a0 > 32768 - 1
      · simp only [if_pos l2]
        rw [show ((32768 - 1 : Int) != a0) = true by rw [bne_iff_ne]; omega]
        exact clamp15_hi a0 w (by omega)
      · simp only [if_neg l2, bne_self_eq_false]
        exact clamp15_in a0 w (by omega)
  · rw [if_neg c0] at h
    by_cases c1 : a1 = 1
    · rw [if_pos c1] at h
      simp only [Option.some.injEq, Prod.mk.injEq, clampI, p31] at h
      obtain ⟨rfl, rfl, rfl⟩ := h
      subst c1
      by_cases l : a0 < -2147483648
      · simp only [if_pos l]
        rw [show ((-2147483648 : Int) != a0) = true by rw [bne_iff_ne]; omega]
        exact clamp31_lo a0 w l
      · simp only [if_neg l]
        by_cases l2 : a0 > 2147483648 - 1
        · simp only [if_pos l2]
          rw [show ((2147483648 - 1 : Int) != a0) = true by rw [bne_iff_ne]; omega]
          exact clamp31_hi a0 w (by omega)
        · simp only [if_neg l2, bne_self_eq_false]
          exact clamp31_in a0 w (by omega)
    · rw [if_neg c1] at h
      simp only [Option.some.injEq, Prod.mk.injEq] at h
      obtain ⟨rfl, rfl, rfl⟩ := h
      exact clamp_bad a0 a1 w (beq_eq_false_iff_ne.2 c0) (beq_eq_false_iff_ne.2 c1)
end Go.Proofs.Ytpmkkidljmedaaa.X
namespace Go.Proofs.Ytpmkkidljmedaaa.X
open Go.RowKit Go.Proofs.YtpmkkidljmedaaaW.PrintWords Go.Proofs.YtpmkkidljmedaaaW.PrintLast Go.Proofs.YtpmkkidljmedaaaW.PrintMore
attribute [local go_sem] max2_int min2_int max_two min_two max_three min_three max_four min_four   -- for this text's walks alone
set_option linter.unusedVariables false
set_option linter.unusedSimpArgs false

/-! ### headroomref05_RunOf: function 133 -/
def headroomref05_RunOf.l0 : Nat → List Int → Int → Int → Int → Int → Int → Option (Int × Int × Int)
  | 0, _, _, _, _, _, _ => none
  | k + 1, x14, x15, x16, x3000, x3001, x3002 => if x16 < x15 then (if 0 ≤ x16 then (if x16 < (x14.length : Int) then ((headroomref05_step.f k x3000 x3001 x3002 x16 (rd x14 x16)).bind fun bt4 => (headroomref05_RunOf.l0 k x14 x15 (wrap64 (x16 + 1)) bt4.1 bt4.2.1 bt4.2.2)) else (none)) else (none)) else (some (x3000, x3001, x3002))
def headroomref05_RunOf.f (k : Nat) (l0 : List Int) (a1 : Int) (a2 : Int) : Option (Int × Int × Int) := headroomref05_RunOf.l0 k l0 (l0.length : Int) 0 a1 0 a2
theorem headroomref05_RunOf.mono_l : ∀ k, (∀ y0 y1 y2 y3 y4 y5, LeO (headroomref05_RunOf.l0 k y0 y1 y2 y3 y4 y5) (headroomref05_RunOf.l0 (k + 1) y0 y1 y2 y3 y4 y5))
  | 0 => fun _ _ _ _ _ _ r h => by simp [headroomref05_RunOf.l0] at h
  | k + 1 => by
    have ih0 := headroomref05_RunOf.mono_l k
    · intro y0 y1 y2 y3 y4 y5
      unfold headroomref05_RunOf.l0
      repeat' first
      | (with_reducible exact ih0 _ _ _ _ _ _)
      | (with_reducible exact headroomref05_step.mono _ _ _ _ _ _)
      | (with_reducible exact LeO.refl _)
      | (with_reducible exact LeO.none _)
      | (with_reducible refine LeO.ite ?_ ?_)
      | (with_reducible refine LeO.bind ?_ (fun _ => ?_))
      | exact ih0 _ _ _ _ _ _
      | exact headroomref05_step.mono _ _ _ _ _ _
      | exact LeO.none _
      | refine LeO.ite ?_ ?_
      | refine LeO.bind ?_ (fun _ => ?_)
theorem headroomref05_RunOf.mono : ∀ a0 a1 a2 k, LeO (headroomref05_RunOf.f k a0 a1 a2) (headroomref05_RunOf.f (k + 1) a0 a1 a2) := by
  intro a0 a1 a2 k
  have ih0 := headroomref05_RunOf.mono_l k
  unfold headroomref05_RunOf.f
  repeat' first
      | (with_reducible exact ih0 _ _ _ _ _ _)
      | (with_reducible exact headroomref05_step.mono _ _ _ _ _ _)
      | (with_reducible exact LeO.refl _)
      | (with_reducible exact LeO.none _)
      | (with_reducible refine LeO.ite ?_ ?_)
      | (with_reducible refine LeO.bind ?_ (fun _ => ?_))
      | exact ih0 _ _ _ _ _ _
      | exact headroomref05_step.mono _ _ _ _ _ _
      | exact LeO.none _
      | refine LeO.ite ?_ ?_
      | refine LeO.bind ?_ (fun _ => ?_)
set_option maxHeartbeats 8000000 in
set_option maxRecDepth 100000 in
theorem headroomref05_RunOf.calls (k : Nat) (A0 : Option Addr) (c0 : Nat) (l0 : List Int) (a1 : Int) (a2 : Int) (r1 : Int) (r2 : Int) (r3 : Int) (w : World) (hr0 : Kd.C (Kd.int .i64) w A0 l0.length l0) (hc0 : l0.length ≤ c0) (h : headroomref05_RunOf.f k l0 a1 a2 = some (r1, r2, r3)) :
    Calls Try.prog 133 #[.slice A0 l0.length c0, .int .i64 a1, .int .i64 a2] w fun e w' => e = .returned (.agg #[.int .i64 r1, .int .i64 r2, .int .i64 r3]) ∧ Below w.heap.size w w' := by
  have hu140 := Try.underlying140
  have hu41 := Try.underlying41
  have HR0 := Aside0.mk hr0
  have HC0 := Aside0.mk hc0
  clear hr0 hc0
  have HB := Aside0.mk (Below.refl w.heap.size w)
  have H : (headroomref05_RunOf.l0 k l0 (l0.length : Int) 0 a1 0 a2) = some (r1, r2, r3) := h
  clear h
  have H' := Aside0.mk H
  clear H
  go_enter Try.func133, Try.ntmps133
  go_wp2_with (first | ((with_reducible refine gate_dst (N := 6) rfl ?_); refine box_event ?hg (N := 6) ?hd (cs := #[.int .i64 0, .int .i64 0, .int .i64 0]) (t := 140) ?hr ?_; (case hd => rfl); (case hg => rfl); (case hr => first | (go_simp; done) | (go_simp; rfl)); intro gb1 hg w4 hbox hb; have n0_ := Aside0.mk (below_step (by repeat (first | (with_reducible first | exact HB.out | apply below_alloc | apply pw_below_drewN | apply below_drew1) | exact HB.out)) hb); have n1_ := Aside0.mk (hbox); have n2_ := Aside0.mk ((by rw [hg]; exact (below_size (by repeat (first | (with_reducible first | exact HB.out | apply below_alloc | apply pw_below_drewN | apply below_drew1) | exact HB.out))) : w.heap.size ≤ gb1)); have n3_ := Aside0.mk ((by rw [hg]; exact (below_size (by repeat (first | (with_reducible first | exact HB.out | apply below_alloc | apply pw_below_drewN | apply below_drew1) | exact HB.out))) : w.heap.size ≤ gb1)); clear HB; have HB := n0_; have BK1 := n1_; have GW1 := n2_; have GE1 := n3_; clear n0_ n1_ n2_ n3_; clear hb hbox hg) | ((with_reducible refine gate_dst (N := 7) rfl ?_); refine box_event ?hg (N := 7) ?hd (cs := #[.int .i64 0, .int .i64 0, .int .i64 0]) (t := 140) ?hr ?_; (case hd => rfl); (case hg => rfl); (case hr => first | (go_simp; done) | (go_simp; rfl)); intro gb2 hg w5 hbox hb; have n0_ := Aside0.mk (blk_below (g := gb1) (o := .cells #[.int .i64 0, .int .i64 0, .int .i64 0] 140 (0, 0)) (by (with_reducible repeat (first | refine blk_drewN ?_ _ | refine blk_drew ?_ | refine blk_alloc ?_ _)); exact BK1.out) hb); have n1_ := Aside0.mk (below_step (by repeat (first | (with_reducible first | exact HB.out | apply below_alloc | apply pw_below_drewN | apply below_drew1 | refine below_set ?_ GE1.out) | exact HB.out)) hb); have n2_ := Aside0.mk (hbox); have n3_ := Aside0.mk ((by rw [hg]; exact (below_size (by repeat (first | (with_reducible first | exact HB.out | apply below_alloc | apply pw_below_drewN | apply below_drew1 | refine below_set ?_ GE1.out) | exact HB.out))) : w.heap.size ≤ gb2)); have n4_ := Aside0.mk ((by rw [hg]; exact (below_size (by repeat (first | (with_reducible first | exact HB.out | apply below_alloc | apply pw_below_drewN | apply below_drew1 | refine below_set ?_ GE1.out) | exact HB.out))) : w.heap.size ≤ gb2)); have n5_ := Aside0.mk ((by rw [hg]; exact Nat.ne_of_lt (blk_lt (g := gb1) (o := .cells #[.int .i64 0, .int .i64 0, .int .i64 0] 140 (0, 0)) (by (with_reducible repeat (first | refine blk_drewN ?_ _ | refine blk_drew ?_ | refine blk_alloc ?_ _)); exact BK1.out)) : gb1 ≠ gb2)); have n6_ := Aside0.mk ((by rw [hg]; exact Nat.ne_of_gt (blk_lt (g := gb1) (o := .cells #[.int .i64 0, .int .i64 0, .int .i64 0] 140 (0, 0)) (by (with_reducible repeat (first | refine blk_drewN ?_ _ | refine blk_drew ?_ | refine blk_alloc ?_ _)); exact BK1.out)) : gb2 ≠ gb1)); clear BK1; clear HB; have BK1 := n0_; have HB := n1_; have BK2 := n2_; have GW2 := n3_; have GE2 := n4_; have NB1_2 := n5_; have NB2_1 := n6_; clear n0_ n1_ n2_ n3_ n4_ n5_ n6_; clear hb hbox hg; have hnb6 := NB2_1.out; have hnc6 := NB1_2.out; have hcz7_0 : w5.cell? ⟨gb2, 0, none⟩ = some (.int .i64 0) := (blk_cell BK2.out 0).trans rfl; have hcz7_1 : w5.cell? ⟨gb2, 1, none⟩ = some (.int .i64 0) := (blk_cell BK2.out 1).trans rfl; have hcz7_2 : w5.cell? ⟨gb2, 2, none⟩ = some (.int .i64 0) := (blk_cell BK2.out 2).trans rfl; have hfz7_0 := blk_frozen BK2.out 0; have hfz7_1 := blk_frozen BK2.out 1; have hfz7_2 := blk_frozen BK2.out 2))
  go_loopg [16] k (fun kq v16 w' => ∃ (x16_1 : Int) (x3000_1 : Int) (x3001_1 : Int) (x3002_1 : Int), v16 = .int .i64 x16_1 ∧ Aside0 (headroomref05_RunOf.l0 kq l0 (l0.length : Int) x16_1 x3000_1 x3001_1 x3002_1 = some (r1, r2, r3)) ∧ Aside0 (kq ≤ k) ∧ Aside0 (w'.heap[gb1]? = some (.cells #[.int .i64 0, .int .i64 0, .int .i64 0] 140 (0, 0))) ∧ Aside0 (w'.heap[gb2]? = some (.cells #[.int .i64 x3000_1, .int .i64 x3001_1, .int .i64 x3002_1] 140 (0, 0))) ∧ Aside0 (Below w.heap.size w w'))
  case atStart => exact ⟨(0), (a1), (0), (a2), (by first | rfl | (simp; done) | (simp [*]; done)), H', ⟨Nat.le_refl _⟩, ⟨by (with_reducible repeat (first | refine blk_drewN ?_ _ | refine blk_drew ?_ | refine blk_alloc ?_ _)); refine blk_far ?_ NB1_2.out _; (with_reducible repeat (first | refine blk_drewN ?_ _ | refine blk_drew ?_ | refine blk_alloc ?_ _)); refine blk_far ?_ NB1_2.out _; (with_reducible repeat (first | refine blk_drewN ?_ _ | refine blk_drew ?_ | refine blk_alloc ?_ _)); refine blk_far ?_ NB1_2.out _; (with_reducible repeat (first | refine blk_drewN ?_ _ | refine blk_drew ?_ | refine blk_alloc ?_ _)); exact BK1.out⟩, ⟨by (with_reducible repeat (first | refine blk_drewN ?_ _ | refine blk_drew ?_ | refine blk_alloc ?_ _)); refine blk_put (cs := #[.int .i64 a1, .int .i64 0, .int .i64 0]) ?_ 2 _ rfl; (with_reducible repeat (first | refine blk_drewN ?_ _ | refine blk_drew ?_ | refine blk_alloc ?_ _)); refine blk_put (cs := #[.int .i64 a1, .int .i64 0, .int .i64 0]) ?_ 1 _ rfl; (with_reducible repeat (first | refine blk_drewN ?_ _ | refine blk_drew ?_ | refine blk_alloc ?_ _)); refine blk_put (cs := #[.int .i64 0, .int .i64 0, .int .i64 0]) ?_ 0 _ rfl; (with_reducible repeat (first | refine blk_drewN ?_ _ | refine blk_drew ?_ | refine blk_alloc ?_ _)); exact BK2.out⟩, ⟨by repeat (first | (with_reducible first | exact HB.out | apply below_alloc | apply pw_below_drewN | apply below_drew1 | refine below_set ?_ GE1.out | refine below_set ?_ GE2.out) | exact HB.out)⟩⟩
  case round =>
    clear H'
    try clear c1
    try clear p2
    try clear c6
    try clear hcz7_0
    try clear hcz7_1
    try clear hcz7_2
    try clear hfz7_0
    try clear hfz7_1
    try clear hfz7_2
    obtain ⟨x16_1, x3000_1, x3001_1, x3002_1, rfl, HA, HK1, BK1, BK2, HB⟩ := hrel
    cases gk with
    | zero => exact absurd HA.out (by simp [headroomref05_RunOf.l0])
    | succ k1 =>
      have H := HA.out
      clear HA
      simp only [headroomref05_RunOf.l0] at H
      by_cases c8 : x16_1 < (l0.length : Int)
      · rw [if_pos c8] at H
        have c8b0 : decide (x16_1 < (l0.length : Int)) = true := decide_eq_true c8
        clear c8
        by_cases c9 : 0 ≤ x16_1
        · rw [if_pos c9] at H
          have c9b0 : decide (0 ≤ x16_1) = true := decide_eq_true c9
          clear c9
          by_cases c10 : x16_1 < (l0.length : Int)
          · rw [if_pos c10] at H
            have c10b0 : decide (x16_1 < (l0.length : Int)) = true := decide_eq_true c10
            clear c10
            replace H := Option.bind_eq_some_iff.mp H
            obtain ⟨⟨t4, t5, t6⟩, A110, H⟩ := H
            replace H : (headroomref05_RunOf.l0 k1 l0 (l0.length : Int) (wrap64 (x16_1 + 1)) t4 t5 t6) = some (r1, r2, r3) := H
            have A11 := Aside0.mk A110
            clear A110
            have H' := Aside0.mk H
            clear H
            have p3 : 0 ≤ (x16_1 : Int) := of_decide_eq_true (by first | (with_reducible assumption) | assumption)
            have q3 : x16_1 < (l0.length : Int) := of_decide_eq_true (by first | (with_reducible assumption) | assumption)
            obtain ⟨ad3, e3, hx3_0⟩ := Kd.at_int HR0.out x16_1 p3 q3
            cases e3
            replace hx3_0 := (HB.out.cell (World.block_lt_of_cell? w _ hx3_0)).trans hx3_0
            replace p3 := eq_true p3
            replace q3 := eq_true q3
            have hnb12 := NB2_1.out
            have hnc12 := NB1_2.out
            have hcz13_0 : wr.cell? ⟨gb2, 0, none⟩ = some (.int .i64 x3000_1) := (blk_cell BK2.out 0).trans rfl
            have hcz13_1 : wr.cell? ⟨gb2, 1, none⟩ = some (.int .i64 x3001_1) := (blk_cell BK2.out 1).trans rfl
            have hcz13_2 : wr.cell? ⟨gb2, 2, none⟩ = some (.int .i64 x3002_1) := (blk_cell BK2.out 2).trans rfl
            have hfz13_0 := blk_frozen BK2.out 0
            have hfz13_1 := blk_frozen BK2.out 1
            have hfz13_2 := blk_frozen BK2.out 2
            go_wp2_with (first | ((with_reducible refine gate_callee (f := 138) rfl ?_); refine goesL_ (some 24) rfl rfl Try.func138 (by kernel_rfl) rfl #[.agg #[.int .i64 x3000_1, .int .i64 x3001_1, .int .i64 x3002_1], .int .i64 x16_1, .int .i64 (rd l0 x16_1)] rfl (by (try simp only [List.map_toArray, List.map_cons, List.map_nil]); first | done | rfl | (simp only [List.length_drop, List.length_take]; rfl)) ?_; (with_reducible refine (headroomref05_step.calls k1 x3000_1 x3001_1 x3002_1 x16_1 (rd l0 x16_1) t4 t5 t6 _ A11.out).mono ?_); rintro e w14 ⟨rfl, hb⟩; refine ⟨_, rfl, ?_⟩; have n0_ := Aside0.mk (blk_below (g := gb1) (o := .cells #[.int .i64 0, .int .i64 0, .int .i64 0] 140 (0, 0)) (by (with_reducible repeat (first | refine blk_drewN ?_ _ | refine blk_drew ?_ | refine blk_alloc ?_ _)); exact BK1.out) hb); have n1_ := Aside0.mk (blk_below (g := gb2) (o := .cells #[.int .i64 x3000_1, .int .i64 x3001_1, .int .i64 x3002_1] 140 (0, 0)) (by (with_reducible repeat (first | refine blk_drewN ?_ _ | refine blk_drew ?_ | refine blk_alloc ?_ _)); exact BK2.out) hb); have n2_ := Aside0.mk (below_step (by repeat (first | (with_reducible first | exact HB.out | apply below_alloc | apply pw_below_drewN | apply below_drew1 | refine below_set ?_ GE1.out | refine below_set ?_ GE2.out) | exact HB.out)) hb); clear BK1; clear BK2; clear HB; have BK1 := n0_; have BK2 := n1_; have HB := n2_; clear n0_ n1_ n2_; (try clear hb); (try clear hb2); (try clear hk); (try clear hi); have hcz15_0 : w14.cell? ⟨gb2, 0, none⟩ = some (.int .i64 x3000_1) := (blk_cell BK2.out 0).trans rfl; have hcz15_1 : w14.cell? ⟨gb2, 1, none⟩ = some (.int .i64 x3001_1) := (blk_cell BK2.out 1).trans rfl; have hcz15_2 : w14.cell? ⟨gb2, 2, none⟩ = some (.int .i64 x3002_1) := (blk_cell BK2.out 2).trans rfl; have hfz15_0 := blk_frozen BK2.out 0; have hfz15_1 := blk_frozen BK2.out 1; have hfz15_2 := blk_frozen BK2.out 2))
            go_roundg k1
            case measure => have := HK1.out; omega
            case rel => exact ⟨(wrap64 (x16_1 + 1)), (t4), (t5), (t6), (by first | rfl | (simp; done) | (simp [*]; done)), H', ⟨by have := HK1.out; omega⟩, ⟨by (with_reducible repeat (first | refine blk_drewN ?_ _ | refine blk_drew ?_ | refine blk_alloc ?_ _)); refine blk_far ?_ NB1_2.out _; (with_reducible repeat (first | refine blk_drewN ?_ _ | refine blk_drew ?_ | refine blk_alloc ?_ _)); refine blk_far ?_ NB1_2.out _; (with_reducible repeat (first | refine blk_drewN ?_ _ | refine blk_drew ?_ | refine blk_alloc ?_ _)); refine blk_far ?_ NB1_2.out _; (with_reducible repeat (first | refine blk_drewN ?_ _ | refine blk_drew ?_ | refine blk_alloc ?_ _)); exact BK1.out⟩, ⟨by (with_reducible repeat (first | refine blk_drewN ?_ _ | refine blk_drew ?_ | refine blk_alloc ?_ _)); refine blk_put (cs := #[.int .i64 t4, .int .i64 t5, .int .i64 x3002_1]) ?_ 2 _ rfl; (with_reducible repeat (first | refine blk_drewN ?_ _ | refine blk_drew ?_ | refine blk_alloc ?_ _)); refine blk_put (cs := #[.int .i64 t4, .int .i64 x3001_1, .int .i64 x3002_1]) ?_ 1 _ rfl; (with_reducible repeat (first | refine blk_drewN ?_ _ | refine blk_drew ?_ | refine blk_alloc ?_ _)); refine blk_put (cs := #[.int .i64 x3000_1, .int .i64 x3001_1, .int .i64 x3002_1]) ?_ 0 _ rfl; (with_reducible repeat (first | refine blk_drewN ?_ _ | refine blk_drew ?_ | refine blk_alloc ?_ _)); exact BK2.out⟩, ⟨by repeat (first | (with_reducible first | exact HB.out | apply below_alloc | apply pw_below_drewN | apply below_drew1 | refine below_set ?_ GE1.out | refine below_set ?_ GE2.out) | exact HB.out)⟩⟩
          · rw [if_neg c10] at H
            exact absurd H (by simp)
        · rw [if_neg c9] at H
          exact absurd H (by simp)
      · rw [if_neg c8] at H
        have c8b0 : decide (x16_1 < (l0.length : Int)) = false := decide_eq_false c8
        clear c8
        simp only [Option.some.injEq, Prod.mk.injEq] at H
        obtain ⟨rfl, rfl, rfl⟩ := H
        have hnb16 := NB2_1.out
        have hnc16 := NB1_2.out
        have hcz17_0 : wr.cell? ⟨gb2, 0, none⟩ = some (.int .i64 x3000_1) := (blk_cell BK2.out 0).trans rfl
        have hcz17_1 : wr.cell? ⟨gb2, 1, none⟩ = some (.int .i64 x3001_1) := (blk_cell BK2.out 1).trans rfl
        have hcz17_2 : wr.cell? ⟨gb2, 2, none⟩ = some (.int .i64 x3002_1) := (blk_cell BK2.out 2).trans rfl
        have hfz17_0 := blk_frozen BK2.out 0
        have hfz17_1 := blk_frozen BK2.out 1
        have hfz17_2 := blk_frozen BK2.out 2
        have hcz18_0 : wr.cell? ⟨gb1, 0, none⟩ = some (.int .i64 0) := (blk_cell BK1.out 0).trans rfl
        have hcz18_1 : wr.cell? ⟨gb1, 1, none⟩ = some (.int .i64 0) := (blk_cell BK1.out 1).trans rfl
        have hcz18_2 : wr.cell? ⟨gb1, 2, none⟩ = some (.int .i64 0) := (blk_cell BK1.out 2).trans rfl
        have hfz18_0 := blk_frozen BK1.out 0
        have hfz18_1 := blk_frozen BK1.out 1
        have hfz18_2 := blk_frozen BK1.out 2
        go_wp2
        refine bodyPost_ret (results_cell_row rfl _ _ gb1 140 #[.int .i64 x3000_1, .int .i64 x3001_1, .int .i64 x3002_1] (0, 0) _ rfl (by (with_reducible repeat (first | refine blk_drewN ?_ _ | refine blk_drew ?_ | refine blk_alloc ?_ _)); refine blk_put (cs := #[.int .i64 x3000_1, .int .i64 x3001_1, .int .i64 0]) ?_ 2 _ rfl; (with_reducible repeat (first | refine blk_drewN ?_ _ | refine blk_drew ?_ | refine blk_alloc ?_ _)); refine blk_put (cs := #[.int .i64 x3000_1, .int .i64 0, .int .i64 0]) ?_ 1 _ rfl; (with_reducible repeat (first | refine blk_drewN ?_ _ | refine blk_drew ?_ | refine blk_alloc ?_ _)); refine blk_put (cs := #[.int .i64 0, .int .i64 0, .int .i64 0]) ?_ 0 _ rfl; (with_reducible repeat (first | refine blk_drewN ?_ _ | refine blk_drew ?_ | refine blk_alloc ?_ _)); exact BK1.out) Try.underlying140 rfl (by kernel_rfl)) rfl ?_
        exact ⟨by first | rfl | (simp [errW_none, errW_some] <;> rfl) | (simp [*, errW_none, errW_some] <;> rfl), by repeat (first | (with_reducible first | exact HB.out | apply below_alloc | apply pw_below_drewN | apply below_drew1 | refine below_set ?_ GE1.out | refine below_set ?_ GE2.out) | exact HB.out)⟩

end Go.Proofs.Ytpmkkidljmedaaa.X
namespace Go.Proofs.Ytpmkkidljmedaaa.X
open Go.RowKit Go.Proofs.YtpmkkidljmedaaaW.PrintWords Go.Proofs.YtpmkkidljmedaaaW.PrintLast Go.Proofs.YtpmkkidljmedaaaW.PrintMore
attribute [local go_sem] max2_int min2_int max_two min_two max_three min_three max_four min_four   -- for this text's walks alone
set_option linter.unusedVariables false
set_option linter.unusedSimpArgs false

/-! ### headroomref05_Run: function 132 -/
def headroomref05_Run.f (k : Nat) (a0 : Int) (a1 : Int) : Option (Int × Int × Int) := (headroomref05_Angles.f k).bind fun t2 => ((headroomref05_RunOf.f k t2 a0 a1).bind fun bt5 => (some (bt5.1, bt5.2.1, bt5.2.2)))
theorem headroomref05_Run.mono : ∀ a0 a1 k, LeO (headroomref05_Run.f k a0 a1) (headroomref05_Run.f (k + 1) a0 a1) := by
  intro a0 a1 k
  unfold headroomref05_Run.f
  repeat' first
      | (with_reducible exact headroomref05_Angles.mono _)
      | (with_reducible exact headroomref05_RunOf.mono _ _ _ _)
      | (with_reducible exact LeO.refl _)
      | (with_reducible exact LeO.none _)
      | (with_reducible refine LeO.ite ?_ ?_)
      | (with_reducible refine LeO.bind ?_ (fun _ => ?_))
      | exact headroomref05_Angles.mono _
      | exact headroomref05_RunOf.mono _ _ _ _
      | exact LeO.none _
      | refine LeO.ite ?_ ?_
      | refine LeO.bind ?_ (fun _ => ?_)
set_option maxHeartbeats 8000000 in
set_option maxRecDepth 100000 in
theorem headroomref05_Run.calls (k : Nat) (a0 : Int) (a1 : Int) (r1 : Int) (r2 : Int) (r3 : Int) (w : World) (h : headroomref05_Run.f k a0 a1 = some (r1, r2, r3)) :
    Calls Try.prog 132 #[.int .i64 a0, .int .i64 a1] w fun e w' => e = .returned (.agg #[.int .i64 r1, .int .i64 r2, .int .i64 r3]) ∧ Below w.heap.size w w' := by
  have hu140 := Try.underlying140
  have HB := Aside0.mk (Below.refl w.heap.size w)
  have H : ((headroomref05_Angles.f k).bind fun t2 => ((headroomref05_RunOf.f k t2 a0 a1).bind fun bt5 => (some (bt5.1, bt5.2.1, bt5.2.2)))) = some (r1, r2, r3) := h
  clear h
  replace H := Option.bind_eq_some_iff.mp H
  obtain ⟨t2, A30, H⟩ := H
  replace H : ((headroomref05_RunOf.f k t2 a0 a1).bind fun bt5 => (some (bt5.1, bt5.2.1, bt5.2.2))) = some (r1, r2, r3) := H
  have A3 := Aside0.mk A30
  clear A30
  replace H := Option.bind_eq_some_iff.mp H
  obtain ⟨⟨t5, t6, t7⟩, A40, H⟩ := H
  replace H : (some (t5, t6, t7)) = some (r1, r2, r3) := H
  have A4 := Aside0.mk A40
  clear A40
  simp only [Option.some.injEq, Prod.mk.injEq] at H
  obtain ⟨rfl, rfl, rfl⟩ := H
  go_enter Try.func132, Try.ntmps132
  go_wp2_with (first | ((with_reducible refine gate_dst (N := 4) rfl ?_); refine box_event ?hg (N := 4) ?hd (cs := #[.int .i64 0, .int .i64 0, .int .i64 0]) (t := 140) ?hr ?_; (case hd => rfl); (case hg => rfl); (case hr => first | (go_simp; done) | (go_simp; rfl)); intro gb1 hg w5 hbox hb; have n0_ := Aside0.mk (below_step (by repeat (first | (with_reducible first | exact HB.out | apply below_alloc | apply pw_below_drewN | apply below_drew1) | exact HB.out)) hb); have n1_ := Aside0.mk (hbox); have n2_ := Aside0.mk ((by rw [hg]; exact (below_size (by repeat (first | (with_reducible first | exact HB.out | apply below_alloc | apply pw_below_drewN | apply below_drew1) | exact HB.out))) : w.heap.size ≤ gb1)); have n3_ := Aside0.mk ((by rw [hg]; exact (below_size (by repeat (first | (with_reducible first | exact HB.out | apply below_alloc | apply pw_below_drewN | apply below_drew1) | exact HB.out))) : w.heap.size ≤ gb1)); clear HB; have HB := n0_; have BK1 := n1_; have GW1 := n2_; have GE1 := n3_; clear n0_ n1_ n2_ n3_; clear hb hbox hg) | ((with_reducible refine gate_callee (f := 118) rfl ?_); refine goesL_ (some 5) rfl rfl Try.func118 (by kernel_rfl) rfl #[] rfl (by (try simp only [List.map_toArray, List.map_cons, List.map_nil]); first | done | rfl | (simp only [List.length_drop, List.length_take]; rfl)) ?_; (with_reducible refine (headroomref05_Angles.calls k  t2 _ A3.out).mono ?_); rintro e w6 ⟨v3, rfl, ho0, hb⟩; refine ⟨_, rfl, ?_⟩; have n0_ := Aside0.mk (Kd.R_lower ho0 (below_size (by repeat (first | (with_reducible first | exact HB.out | apply below_alloc | apply pw_below_drewN | apply below_drew1 | refine below_set ?_ GE1.out) | exact HB.out)))); have n1_ := Aside0.mk (blk_below (g := gb1) (o := .cells #[.int .i64 0, .int .i64 0, .int .i64 0] 140 (0, 0)) (by (with_reducible repeat (first | refine blk_drewN ?_ _ | refine blk_drew ?_ | refine blk_alloc ?_ _)); exact BK1.out) hb); have n2_ := Aside0.mk (below_step (by repeat (first | (with_reducible first | exact HB.out | apply below_alloc | apply pw_below_drewN | apply below_drew1 | refine below_set ?_ GE1.out) | exact HB.out)) hb); clear BK1; clear HB; have HO4 := n0_; have BK1 := n1_; have HB := n2_; clear n0_ n1_ n2_; (try clear hb); (try clear hb2); (try clear hk); (try clear hi); (try clear ho0); obtain ⟨Ao7, co7, eo7⟩ := Kd.R_slice HO4.out; subst eo7) | ((with_reducible refine gate_callee (f := 133) rfl ?_); refine goesL_ (some 8) rfl rfl Try.func133 (by kernel_rfl) rfl #[.slice Ao7 t2.length co7, .int .i64 a0, .int .i64 a1] rfl (by (try simp only [List.map_toArray, List.map_cons, List.map_nil]); first | done | rfl | (simp only [List.length_drop, List.length_take]; rfl)) ?_; (with_reducible refine (headroomref05_RunOf.calls k _ _ t2 a0 a1 t5 t6 t7 _ ?side1 ?side2 A4.out).mono ?_); (case side1 => repeat (first | exact (Kd.R_reads' HO4.out).2.2 | (with_reducible refine Kd.C_alloc ?_ _) | (with_reducible refine Kd.C_drewN ?_ _) | (with_reducible refine Kd.C_drew ?_))); (case side2 => exact (Kd.R_reads' HO4.out).2.1); rintro e w8 ⟨rfl, hb⟩; refine ⟨_, rfl, ?_⟩; have n0_ := Aside0.mk (Kd.R_below (by (with_reducible repeat (first | apply Kd.R_alloc | apply Kd.R_drewN | apply Kd.R_drew)); exact HO4.out) hb); have n1_ := Aside0.mk (blk_below (g := gb1) (o := .cells #[.int .i64 0, .int .i64 0, .int .i64 0] 140 (0, 0)) (by (with_reducible repeat (first | refine blk_drewN ?_ _ | refine blk_drew ?_ | refine blk_alloc ?_ _)); exact BK1.out) hb); have n2_ := Aside0.mk (below_step (by repeat (first | (with_reducible first | exact HB.out | apply below_alloc | apply pw_below_drewN | apply below_drew1 | refine below_set ?_ GE1.out) | exact HB.out)) hb); clear HO4; clear BK1; clear HB; have HO4 := n0_; have BK1 := n1_; have HB := n2_; clear n0_ n1_ n2_; (try clear hb); (try clear hb2); (try clear hk); (try clear hi); have hcz9_0 : w8.cell? ⟨gb1, 0, none⟩ = some (.int .i64 0) := (blk_cell BK1.out 0).trans rfl; have hcz9_1 : w8.cell? ⟨gb1, 1, none⟩ = some (.int .i64 0) := (blk_cell BK1.out 1).trans rfl; have hcz9_2 : w8.cell? ⟨gb1, 2, none⟩ = some (.int .i64 0) := (blk_cell BK1.out 2).trans rfl; have hfz9_0 := blk_frozen BK1.out 0; have hfz9_1 := blk_frozen BK1.out 1; have hfz9_2 := blk_frozen BK1.out 2))
  refine bodyPost_ret (results_cell_row rfl _ _ gb1 140 #[.int .i64 t5, .int .i64 t6, .int .i64 t7] (0, 0) _ rfl (by (with_reducible repeat (first | refine blk_drewN ?_ _ | refine blk_drew ?_ | refine blk_alloc ?_ _)); refine blk_put (cs := #[.int .i64 t5, .int .i64 t6, .int .i64 0]) ?_ 2 _ rfl; (with_reducible repeat (first | refine blk_drewN ?_ _ | refine blk_drew ?_ | refine blk_alloc ?_ _)); refine blk_put (cs := #[.int .i64 t5, .int .i64 0, .int .i64 0]) ?_ 1 _ rfl; (with_reducible repeat (first | refine blk_drewN ?_ _ | refine blk_drew ?_ | refine blk_alloc ?_ _)); refine blk_put (cs := #[.int .i64 0, .int .i64 0, .int .i64 0]) ?_ 0 _ rfl; (with_reducible repeat (first | refine blk_drewN ?_ _ | refine blk_drew ?_ | refine blk_alloc ?_ _)); exact BK1.out) Try.underlying140 rfl (by kernel_rfl)) rfl ?_
  exact ⟨by first | rfl | (simp [errW_none, errW_some] <;> rfl) | (simp [*, errW_none, errW_some] <;> rfl), by repeat (first | (with_reducible first | exact HB.out | apply below_alloc | apply pw_below_drewN | apply below_drew1 | refine below_set ?_ GE1.out) | exact HB.out)⟩

end Go.Proofs.Ytpmkkidljmedaaa.X
namespace Go.Proofs.Ytpmkkidljmedaaa.X
open Go.RowKit Go.Proofs.YtpmkkidljmedaaaW.PrintWords Go.Proofs.YtpmkkidljmedaaaW.PrintLast Go.Proofs.YtpmkkidljmedaaaW.PrintMore
attribute [local go_sem] max2_int min2_int max_two min_two max_three min_three max_four min_four   -- for this text's walks alone
set_option linter.unusedVariables false
set_option linter.unusedSimpArgs false

/-! ### headroomref05_Gain: function 127 -/
def headroomref05_Gain.f (k : Nat)  : Option (Int) := (headroomref01_Pow.f k 56).bind fun t1 => ((headroomref05_Run.f k t1 0).bind fun bt2 => (some bt2.1))
theorem headroomref05_Gain.mono : ∀ k, LeO (headroomref05_Gain.f k ) (headroomref05_Gain.f (k + 1) ) := by
  intro  k
  unfold headroomref05_Gain.f
  repeat' first
      | (with_reducible exact headroomref01_Pow.mono _ _)
      | (with_reducible exact headroomref05_Run.mono _ _ _)
      | (with_reducible exact LeO.refl _)
      | (with_reducible exact LeO.none _)
      | (with_reducible refine LeO.ite ?_ ?_)
      | (with_reducible refine LeO.bind ?_ (fun _ => ?_))
      | exact headroomref01_Pow.mono _ _
      | exact headroomref05_Run.mono _ _ _
      | exact LeO.none _
      | refine LeO.ite ?_ ?_
      | refine LeO.bind ?_ (fun _ => ?_)
set_option maxHeartbeats 8000000 in
set_option maxRecDepth 100000 in
theorem headroomref05_Gain.calls (k : Nat)  (r : Int) (w : World) (h : headroomref05_Gain.f k  = some r) :
    Calls Try.prog 127 #[] w fun e w' => e = .returned (.int .i64 r) ∧ Below w.heap.size w w' := by
  have HB := Aside0.mk (Below.refl w.heap.size w)
  have hfl140 : ∀ (a b c : Value) (w : World), (Instr.field 140 (.agg #[a, b, c]) 0).run Try.prog w = .ok (.agg #[a, b]) w := fun _ _ _ _ => by kernel_rfl
  have hfl41 : ∀ (a b : Value) (w : World), (Instr.field 41 (.agg #[a, b]) 0).run Try.prog w = .ok a w := fun _ _ _ => by kernel_rfl
  have H : ((headroomref01_Pow.f k 56).bind fun t1 => ((headroomref05_Run.f k t1 0).bind fun bt2 => (some bt2.1))) = some r := h
  clear h
  replace H := Option.bind_eq_some_iff.mp H
  obtain ⟨t1, A10, H⟩ := H
  replace H : ((headroomref05_Run.f k t1 0).bind fun bt2 => (some bt2.1)) = some r := H
  have A1 := Aside0.mk A10
  clear A10
  replace H := Option.bind_eq_some_iff.mp H
  obtain ⟨⟨t2, t3, t4⟩, A20, H⟩ := H
  replace H : (some t2) = some r := H
  have A2 := Aside0.mk A20
  clear A20
  obtain rfl := Option.some.inj H
  go_enter Try.func127, Try.ntmps127
  go_wp2_with (first | ((with_reducible refine gate_callee (f := 56) rfl ?_); refine goesL_ (some 1) rfl rfl Try.func56 (by kernel_rfl) rfl #[.int .i64 56] rfl (by (try simp only [List.map_toArray, List.map_cons, List.map_nil]); first | done | rfl | (simp only [List.length_drop, List.length_take]; rfl)) ?_; (with_reducible refine (headroomref01_Pow.calls k 56 t1 _ A1.out).mono ?_); rintro e w' ⟨rfl, ⟨nd, rfl⟩⟩; refine ⟨_, rfl, ?_⟩) | ((with_reducible refine gate_callee (f := 132) rfl ?_); refine goesL_ (some 2) rfl rfl Try.func132 (by kernel_rfl) rfl #[.int .i64 t1, .int .i64 0] rfl (by (try simp only [List.map_toArray, List.map_cons, List.map_nil]); first | done | rfl | (simp only [List.length_drop, List.length_take]; rfl)) ?_; (with_reducible refine (headroomref05_Run.calls k t1 0 t2 t3 t4 _ A2.out).mono ?_); rintro e w3 ⟨rfl, hb⟩; refine ⟨_, rfl, ?_⟩; have n0_ := Aside0.mk (below_step (by repeat (first | (with_reducible first | exact HB.out | apply below_alloc | apply pw_below_drewN | apply below_drew1) | exact HB.out)) hb); clear HB; have HB := n0_; clear n0_; (try clear hb); (try clear hb2); (try clear hk); (try clear hi)))
  go_ret
  exact ⟨by first | rfl | (simp [errW_none, errW_some] <;> rfl) | (simp [*, errW_none, errW_some] <;> rfl), by repeat (first | (with_reducible first | exact HB.out | apply below_alloc | apply pw_below_drewN | apply below_drew1) | exact HB.out)⟩

end Go.Proofs.Ytpmkkidljmedaaa.X
namespace Go.Proofs.Ytpmkkidljmedaaa.X
open Go.RowKit Go.Proofs.YtpmkkidljmedaaaW.PrintWords Go.Proofs.YtpmkkidljmedaaaW.PrintLast Go.Proofs.YtpmkkidljmedaaaW.PrintMore
attribute [local go_sem] max2_int min2_int max_two min_two max_three min_three max_four min_four   -- for this text's walks alone
set_option linter.unusedVariables false
set_option linter.unusedSimpArgs false

/-! ### headroomref05_Inverse: function 119 -/
def headroomref05_Inverse.l0 : Nat → Int → Int → Int → Int → Option (Int)
  | 0, _, _, _, _ => none
  | k + 1, x1, x2, x3, x4 => if x4 < 56 then (if (wrap64 (2 * x2)) ≥ x1 then (headroomref05_Inverse.l0 k x1 (wrap64 ((wrap64 (2 * x2)) - x1)) (wrap64 ((wrap64 (2 * x3)) + 1)) (wrap64 (x4 + 1))) else (headroomref05_Inverse.l0 k x1 (wrap64 (2 * x2)) (wrap64 (2 * x3)) (wrap64 (x4 + 1)))) else (some x3)
def headroomref05_Inverse.f (k : Nat)  : Option (Int) := (headroomref05_Gain.f k).bind fun t1 => ((headroomref01_Pow.f k 56).bind fun t2 => (headroomref05_Inverse.l0 k t1 t2 0 0))
theorem headroomref05_Inverse.mono_l : ∀ k, (∀ y0 y1 y2 y3, LeO (headroomref05_Inverse.l0 k y0 y1 y2 y3) (headroomref05_Inverse.l0 (k + 1) y0 y1 y2 y3))
  | 0 => fun _ _ _ _ r h => by simp [headroomref05_Inverse.l0] at h
  | k + 1 => by
    have ih0 := headroomref05_Inverse.mono_l k
    · intro y0 y1 y2 y3
      unfold headroomref05_Inverse.l0
      repeat' first
      | (with_reducible exact ih0 _ _ _ _)
      | (with_reducible exact headroomref01_Pow.mono _ _)
      | (with_reducible exact headroomref05_Gain.mono _)
      | (with_reducible exact LeO.refl _)
      | (with_reducible exact LeO.none _)
      | (with_reducible refine LeO.ite ?_ ?_)
      | (with_reducible refine LeO.bind ?_ (fun _ => ?_))
      | exact ih0 _ _ _ _
      | exact headroomref01_Pow.mono _ _
      | exact headroomref05_Gain.mono _
      | exact LeO.none _
      | refine LeO.ite ?_ ?_
      | refine LeO.bind ?_ (fun _ => ?_)
theorem headroomref05_Inverse.mono : ∀ k, LeO (headroomref05_Inverse.f k ) (headroomref05_Inverse.f (k + 1) ) := by
  intro  k
  have ih0 := headroomref05_Inverse.mono_l k
  unfold headroomref05_Inverse.f
  repeat' first
      | (with_reducible exact ih0 _ _ _ _)
      | (with_reducible exact headroomref01_Pow.mono _ _)
      | (with_reducible exact headroomref05_Gain.mono _)
      | (with_reducible exact LeO.refl _)
      | (with_reducible exact LeO.none _)
      | (with_reducible refine LeO.ite ?_ ?_)
      | (with_reducible refine LeO.bind ?_ (fun _ => ?_))
      | exact ih0 _ _ _ _
      | exact headroomref01_Pow.mono _ _
      | exact headroomref05_Gain.mono _
      | exact LeO.none _
      | refine LeO.ite ?_ ?_
      | refine LeO.bind ?_ (fun _ => ?_)
set_option maxHeartbeats 8000000 in
set_option maxRecDepth 100000 in
theorem headroomref05_Inverse.calls (k : Nat)  (r : Int) (w : World) (h : headroomref05_Inverse.f k  = some r) :
    Calls Try.prog 119 #[] w fun e w' => e = .returned (.int .i64 r) ∧ Below w.heap.size w w' := by
  have HB := Aside0.mk (Below.refl w.heap.size w)
  have H : ((headroomref05_Gain.f k).bind fun t1 => ((headroomref01_Pow.f k 56).bind fun t2 => (headroomref05_Inverse.l0 k t1 t2 0 0))) = some r := h
  clear h
  replace H := Option.bind_eq_some_iff.mp H
  obtain ⟨t1, A10, H⟩ := H
  replace H : ((headroomref01_Pow.f k 56).bind fun t2 => (headroomref05_Inverse.l0 k t1 t2 0 0)) = some r := H
  have A1 := Aside0.mk A10
  clear A10
  replace H := Option.bind_eq_some_iff.mp H
  obtain ⟨t2, A20, H⟩ := H
  replace H : (headroomref05_Inverse.l0 k t1 t2 0 0) = some r := H
  have A2 := Aside0.mk A20
  clear A20
  have H' := Aside0.mk H
  clear H
  go_enter Try.func119, Try.ntmps119
  go_wp2_with (first | ((with_reducible refine gate_callee (f := 127) rfl ?_); refine goesL_ (some 5) rfl rfl Try.func127 (by kernel_rfl) rfl #[] rfl (by (try simp only [List.map_toArray, List.map_cons, List.map_nil]); first | done | rfl | (simp only [List.length_drop, List.length_take]; rfl)) ?_; (with_reducible refine (headroomref05_Gain.calls k  t1 _ A1.out).mono ?_); rintro e w3 ⟨rfl, hb⟩; refine ⟨_, rfl, ?_⟩; have n0_ := Aside0.mk (below_step (by repeat (first | (with_reducible first | exact HB.out | apply below_alloc | apply pw_below_drewN | apply below_drew1) | exact HB.out)) hb); clear HB; have HB := n0_; clear n0_; (try clear hb); (try clear hb2); (try clear hk); (try clear hi)) | ((with_reducible refine gate_callee (f := 56) rfl ?_); refine goesL_ (some 6) rfl rfl Try.func56 (by kernel_rfl) rfl #[.int .i64 56] rfl (by (try simp only [List.map_toArray, List.map_cons, List.map_nil]); first | done | rfl | (simp only [List.length_drop, List.length_take]; rfl)) ?_; (with_reducible refine (headroomref01_Pow.calls k 56 t2 _ A2.out).mono ?_); rintro e w' ⟨rfl, ⟨nd, rfl⟩⟩; refine ⟨_, rfl, ?_⟩))
  go_loopg [2, 3, 4] k (fun kq v2 v3 v4 w' => ∃ (x2_1 : Int) (x3_1 : Int) (x4_1 : Int), v2 = .int .i64 x2_1 ∧ v3 = .int .i64 x3_1 ∧ v4 = .int .i64 x4_1 ∧ Aside0 (headroomref05_Inverse.l0 kq t1 x2_1 x3_1 x4_1 = some r) ∧ Aside0 (kq ≤ k) ∧ Aside0 (Below w.heap.size w w'))
  case atStart => exact ⟨(t2), (0), (0), (by first | rfl | (simp; done) | (simp [*]; done)), (by first | rfl | (simp; done) | (simp [*]; done)), (by first | rfl | (simp; done) | (simp [*]; done)), H', ⟨Nat.le_refl _⟩, ⟨by repeat (first | (with_reducible first | exact HB.out | apply below_alloc | apply pw_below_drewN | apply below_drew1) | exact HB.out)⟩⟩
  case round =>
    clear H'
    try clear c1
    try clear p2
    obtain ⟨x2_1, x3_1, x4_1, rfl, rfl, rfl, HA, HK1, HB⟩ := hrel
    cases gk with
    | zero => exact absurd HA.out (by simp [headroomref05_Inverse.l0])
    | succ k1 =>
      have H := HA.out
      clear HA
      simp only [headroomref05_Inverse.l0] at H
      by_cases c4 : x4_1 < 56
      · rw [if_pos c4] at H
        have c4b0 : decide (x4_1 < 56) = true := decide_eq_true c4
        clear c4
        by_cases c5 : (wrap64 (2 * x2_1)) ≥ t1
        · rw [if_pos c5] at H
          have c5b0 : decide (t1 ≤ (wrap64 (2 * x2_1))) = true := decide_eq_true c5
          clear c5
          have H' := Aside0.mk H
          clear H
          go_wp2
          go_roundg k1
          case measure => have := HK1.out; omega
          case rel => exact ⟨(wrap64 ((wrap64 (2 * x2_1)) - t1)), (wrap64 ((wrap64 (2 * x3_1)) + 1)), (wrap64 (x4_1 + 1)), (by first | rfl | (simp; done) | (simp [*]; done)), (by first | rfl | (simp; done) | (simp [*]; done)), (by first | rfl | (simp; done) | (simp [*]; done)), H', ⟨by have := HK1.out; omega⟩, ⟨by repeat (first | (with_reducible first | exact HB.out | apply below_alloc | apply pw_below_drewN | apply below_drew1) | exact HB.out)⟩⟩
        · rw [if_neg c5] at H
          have c5b0 : decide (t1 ≤ (wrap64 (2 * x2_1))) = false := decide_eq_false c5
          clear c5
          have H' := Aside0.mk H
          clear H
          go_wp2
          go_roundg k1
          case measure => have := HK1.out; omega
          case rel => exact ⟨(wrap64 (2 * x2_1)), (wrap64 (2 * x3_1)), (wrap64 (x4_1 + 1)), (by first | rfl | (simp; done) | (simp [*]; done)), (by first | rfl | (simp; done) | (simp [*]; done)), (by first | rfl | (simp; done) | (simp [*]; done)), H', ⟨by have := HK1.out; omega⟩, ⟨by repeat (first | (with_reducible first | exact HB.out | apply below_alloc | apply pw_below_drewN | apply below_drew1) | exact HB.out)⟩⟩
      · rw [if_neg c4] at H
        have c4b0 : decide (x4_1 < 56) = false := decide_eq_false c4
        clear c4
        obtain rfl := Option.some.inj H
        go_wp2
        go_ret
        exact ⟨by first | rfl | (simp [errW_none, errW_some] <;> rfl) | (simp [*, errW_none, errW_some] <;> rfl), by repeat (first | (with_reducible first | exact HB.out | apply below_alloc | apply pw_below_drewN | apply below_drew1) | exact HB.out)⟩

end Go.Proofs.Ytpmkkidljmedaaa.X
namespace Go.Proofs.Ytpmkkidljmedaaa.X
open Go.RowKit Go.Proofs.YtpmkkidljmedaaaW.PrintWords Go.Proofs.YtpmkkidljmedaaaW.PrintLast Go.Proofs.YtpmkkidljmedaaaW.PrintMore
attribute [local go_sem] max2_int min2_int max_two min_two max_three min_three max_four min_four   -- for this text's walks alone
set_option linter.unusedVariables false
set_option linter.unusedSimpArgs false

/-! ### headroomref05_All: function 92 -/
def headroomref05_All.f (k : Nat)  : Option (List Int × Int) := (headroomref05_Angles.f k).bind fun t2 => ((headroomref05_Inverse.f k).bind fun t5 => (some (t2, t5)))
theorem headroomref05_All.mono : ∀ k, LeO (headroomref05_All.f k ) (headroomref05_All.f (k + 1) ) := by
  intro  k
  unfold headroomref05_All.f
  repeat' first
      | (with_reducible exact headroomref05_Angles.mono _)
      | (with_reducible exact headroomref05_Inverse.mono _)
      | (with_reducible exact LeO.refl _)
      | (with_reducible exact LeO.none _)
      | (with_reducible refine LeO.ite ?_ ?_)
      | (with_reducible refine LeO.bind ?_ (fun _ => ?_))
      | exact headroomref05_Angles.mono _
      | exact headroomref05_Inverse.mono _
      | exact LeO.none _
      | refine LeO.ite ?_ ?_
      | refine LeO.bind ?_ (fun _ => ?_)
set_option maxHeartbeats 8000000 in
set_option maxRecDepth 100000 in
theorem headroomref05_All.calls (k : Nat)  (r1 : List Int) (r2 : Int) (w : World) (h : headroomref05_All.f k  = some (r1, r2)) :
    Calls Try.prog 92 #[] w fun e w' => ∃ v0_ : Value, e = .returned (.agg #[v0_, .int .i64 r2]) ∧ Kd.R (Kd.int .i64) 3 w' w.heap.size (fun _ => True) v0_ r1 ∧ Below w.heap.size w w' := by
  have hu120 := Try.underlying120
  have HB := Aside0.mk (Below.refl w.heap.size w)
  have H : ((headroomref05_Angles.f k).bind fun t2 => ((headroomref05_Inverse.f k).bind fun t5 => (some (t2, t5)))) = some (r1, r2) := h
  clear h
  replace H := Option.bind_eq_some_iff.mp H
  obtain ⟨t2, A10, H⟩ := H
  replace H : ((headroomref05_Inverse.f k).bind fun t5 => (some (t2, t5))) = some (r1, r2) := H
  have A1 := Aside0.mk A10
  clear A10
  replace H := Option.bind_eq_some_iff.mp H
  obtain ⟨t5, A20, H⟩ := H
  replace H : (some (t2, t5)) = some (r1, r2) := H
  have A2 := Aside0.mk A20
  clear A20
  simp only [Option.some.injEq, Prod.mk.injEq] at H
  obtain ⟨rfl, rfl⟩ := H
  go_enter Try.func92, Try.ntmps92
  go_wp2_with (first | ((with_reducible refine gate_dst (N := 0) rfl ?_); refine box_event ?hg (N := 0) ?hd (cs := #[.slice none 0 0, .int .i64 0]) (t := 120) ?hr ?_; (case hd => rfl); (case hg => rfl); (case hr => first | (go_simp; done) | (go_simp; rfl)); intro gb1 hg w3 hbox hb; have n0_ := Aside0.mk (below_step (by repeat (first | (with_reducible first | exact HB.out | apply below_alloc | apply pw_below_drewN | apply below_drew1) | exact HB.out)) hb); have n1_ := Aside0.mk (hbox); have n2_ := Aside0.mk ((by rw [hg]; exact (below_size (by repeat (first | (with_reducible first | exact HB.out | apply below_alloc | apply pw_below_drewN | apply below_drew1) | exact HB.out))) : w.heap.size ≤ gb1)); have n3_ := Aside0.mk ((by rw [hg]; exact (below_size (by repeat (first | (with_reducible first | exact HB.out | apply below_alloc | apply pw_below_drewN | apply below_drew1) | exact HB.out))) : w.heap.size ≤ gb1)); clear HB; have HB := n0_; have BK1 := n1_; have GW1 := n2_; have GE1 := n3_; clear n0_ n1_ n2_ n3_; clear hb hbox hg) | ((with_reducible refine gate_callee (f := 118) rfl ?_); refine goesL_ (some 1) rfl rfl Try.func118 (by kernel_rfl) rfl #[] rfl (by (try simp only [List.map_toArray, List.map_cons, List.map_nil]); first | done | rfl | (simp only [List.length_drop, List.length_take]; rfl)) ?_; (with_reducible refine (headroomref05_Angles.calls k  t2 _ A1.out).mono ?_); rintro e w4 ⟨v3, rfl, ho0, hb⟩; refine ⟨_, rfl, ?_⟩; have n0_ := Aside0.mk (Kd.R_lower ho0 (below_size (by repeat (first | (with_reducible first | exact HB.out | apply below_alloc | apply pw_below_drewN | apply below_drew1 | refine below_set ?_ GE1.out) | exact HB.out)))); have n1_ := Aside0.mk (blk_below (g := gb1) (o := .cells #[.slice none 0 0, .int .i64 0] 120 (0, 0)) (by (with_reducible repeat (first | refine blk_drewN ?_ _ | refine blk_drew ?_ | refine blk_alloc ?_ _)); exact BK1.out) hb); have n2_ := Aside0.mk (below_step (by repeat (first | (with_reducible first | exact HB.out | apply below_alloc | apply pw_below_drewN | apply below_drew1 | refine below_set ?_ GE1.out) | exact HB.out)) hb); clear BK1; clear HB; have HO4 := n0_; have BK1 := n1_; have HB := n2_; clear n0_ n1_ n2_; (try clear hb); (try clear hb2); (try clear hk); (try clear hi); (try clear ho0)) | ((with_reducible refine gate_callee (f := 119) rfl ?_); refine goesL_ (some 2) rfl rfl Try.func119 (by kernel_rfl) rfl #[] rfl (by (try simp only [List.map_toArray, List.map_cons, List.map_nil]); first | done | rfl | (simp only [List.length_drop, List.length_take]; rfl)) ?_; (with_reducible refine (headroomref05_Inverse.calls k  t5 _ A2.out).mono ?_); rintro e w5 ⟨rfl, hb⟩; refine ⟨_, rfl, ?_⟩; have n0_ := Aside0.mk (Kd.R_below (by (with_reducible repeat (first | apply Kd.R_alloc | apply Kd.R_drewN | apply Kd.R_drew)); exact HO4.out) hb); have n1_ := Aside0.mk (blk_below (g := gb1) (o := .cells #[.slice none 0 0, .int .i64 0] 120 (0, 0)) (by (with_reducible repeat (first | refine blk_drewN ?_ _ | refine blk_drew ?_ | refine blk_alloc ?_ _)); exact BK1.out) hb); have n2_ := Aside0.mk (below_step (by repeat (first | (with_reducible first | exact HB.out | apply below_alloc | apply pw_below_drewN | apply below_drew1 | refine below_set ?_ GE1.out) | exact HB.out)) hb); clear HO4; clear BK1; clear HB; have HO4 := n0_; have BK1 := n1_; have HB := n2_; clear n0_ n1_ n2_; (try clear hb); (try clear hb2); (try clear hk); (try clear hi); obtain ⟨Ao6, co6, eo6⟩ := Kd.R_slice HO4.out; subst eo6; have hcz7_0 : w5.cell? ⟨gb1, 0, none⟩ = some (.slice none 0 0) := (blk_cell BK1.out 0).trans rfl; have hcz7_1 : w5.cell? ⟨gb1, 1, none⟩ = some (.int .i64 0) := (blk_cell BK1.out 1).trans rfl; have hfz7_0 := blk_frozen BK1.out 0; have hfz7_1 := blk_frozen BK1.out 1))
  refine bodyPost_ret (results_cell_row rfl _ _ gb1 120 #[.slice Ao6 t2.length co6, .int .i64 t5] (0, 0) _ rfl (by (with_reducible repeat (first | refine blk_drewN ?_ _ | refine blk_drew ?_ | refine blk_alloc ?_ _)); refine blk_put (cs := #[.slice Ao6 t2.length co6, .int .i64 0]) ?_ 1 _ rfl; (with_reducible repeat (first | refine blk_drewN ?_ _ | refine blk_drew ?_ | refine blk_alloc ?_ _)); refine blk_put (cs := #[.slice none 0 0, .int .i64 0]) ?_ 0 _ rfl; (with_reducible repeat (first | refine blk_drewN ?_ _ | refine blk_drew ?_ | refine blk_alloc ?_ _)); exact BK1.out) Try.underlying120 rfl (by kernel_rfl)) rfl ?_
  exact ⟨_, by first | rfl | (simp [errW_none, errW_some] <;> rfl) | (simp [*, errW_none, errW_some] <;> rfl), by (with_reducible repeat (first | apply Kd.R_alloc | apply Kd.R_drewN | apply Kd.R_drew)); exact Kd.R_mono (Kd.R_far (p := ⟨gb1, 1, none⟩) (Kd.R_far (p := ⟨gb1, 0, none⟩) (Kd.R_types HO4.out BK1.out (by decide)) (fun _ hk => hk.2) (.slice Ao6 t2.length co6)) (fun _ hk => hk.2) (.int .i64 t5)) (fun _ hk => trivial), by repeat (first | (with_reducible first | exact HB.out | apply below_alloc | apply pw_below_drewN | apply below_drew1 | refine below_set ?_ GE1.out) | exact HB.out)⟩

end Go.Proofs.Ytpmkkidljmedaaa.X
