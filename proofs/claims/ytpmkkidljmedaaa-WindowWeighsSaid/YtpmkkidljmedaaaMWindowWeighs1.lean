/- Part 1 of 4 of the proof of the given statement WindowWeighs: for each function that it reaches, its answers as a plain Lean function, and that the machine's call comes to exactly these answers. No conditions but those in the statements. -/
import Derived.Test.YtpmkkidljmedaaaProg
import Derived.Below
import Derived.Deep.Draws
import Derived.Deep.AppendLies
import Derived.Maps.AppendAt
import Derived.OwnWalk
import Derived.Laws.BytesArg
import Derived.Laws.MakeOwn
import Derived.Laws.OwnMore
import Derived.Deep.OwnRows
import Derived.Tactics
import Derived.Lib.ConvBytes
import Derived.Laws.Slices
import Derived.WalkKit
import Derived.KernelRfl
import Derived.RowKit3
import Derived.Deep.LoopGhost
import Derived.Deep.QuietTactic
import Derived.BigQuiet
import Derived.WideLaws
import Derived.Deep.DeepCutAuto
import Derived.Deep.CutBlock
import Derived.Deep.RegionHeld3
import Derived.Laws.Rows
import Derived.Lib.AppendStr
import Derived.ArgAppend
import Derived.Laws.IdiomCopy
import Derived.OrdersHeld
import Derived.Laws.BitsLemmas
import Derived.RowKit
import Derived.Test.YtpmkkidljmedaaaVWindowWeighs
import Derived.Laws.Entries
import Derived.Lib.Hide
import Derived.LoopN
import Derived.RangeFuncNested
import Derived.RangeFuncBound
import Derived.RangeFuncCalls
import Derived.RangeFuncLeaves
import Derived.RangeFuncFrom
import Derived.OwnWalkIn
import Derived.TacticsInMore
import Derived.LoopNIn
import Derived.LoopIn
import Derived.Sort.QuietIn
import Derived.WideMake
namespace Go.Proofs.Ytpmkkidljmedaaa.X
open Go.RowKit Go.Proofs.YtpmkkidljmedaaaW.PrintWords Go.Proofs.YtpmkkidljmedaaaW.PrintLast Go.Proofs.YtpmkkidljmedaaaW.PrintMore
attribute [local go_sem] max2_int min2_int max_two min_two max_three min_three max_four min_four   -- for this text's walks alone
set_option linter.unusedVariables false
set_option linter.unusedSimpArgs false



def errW : Option Int → Value
  | none => .nilIface
  | some c => .iface 0 (.int .i64 c)
theorem errW_none : errW none = .nilIface := rfl
theorem errW_some (c : Int) : errW (some c) = .iface 0 (.int .i64 c) := rfl

theorem info3 : (Try.prog.info? 3).map (fun i => (i.zero, i.size, i.bytes)) = some (some (.int .i64 0), 1, 8) := by kernel_rfl
theorem info41 : (Try.prog.info? 41).map (fun i => (i.zero, i.size, i.bytes)) = some (some (.agg #[(.int .i64 0), (.int .i64 0)]), 2, 16) := by kernel_rfl
-- the values' own types
/-! #### struct type 41 -/
structure S41 where
  f0 : Int
  f1 : Int
def z41 : S41 := ⟨(0 : Int), (0 : Int)⟩
def k41 : Kd S41 := Kd.iso (Kd.pair (Kd.int .i64) (Kd.int .i64)) (fun x : S41 => (x.f0, x.f1))
theorem k41_open {w : World} {x : S41} {cs : List Value} (h : k41.K w x cs) : cs = [.int .i64 x.f0, .int .i64 x.f1] := by
  obtain ⟨_, _, rfl, rfl, rfl⟩ := h
  exact rfl
theorem k41_openM {w : World} {base : Nat} {ok : Nat → Prop} {x : S41} {cs : List Value} (h : k41.M w base ok x cs) : cs = [.int .i64 x.f0, .int .i64 x.f1] := by
  obtain ⟨_, _, rfl, rfl, rfl⟩ := h
  exact rfl
theorem k41_mk (w : World) (x : S41)  : k41.K w x [.int .i64 x.f0, .int .i64 x.f1] := ⟨[.int .i64 x.f0], [.int .i64 x.f1], rfl, rfl, rfl⟩
theorem k41_mkM (w : World) (base : Nat) (ok : Nat → Prop) (x : S41)  : k41.M w base ok x [.int .i64 x.f0, .int .i64 x.f1] := ⟨[.int .i64 x.f0], [.int .i64 x.f1], rfl, rfl, rfl⟩
def rd_T41 (xs : List S41) (i : Int) : S41 := xs.getD i.toNat z41
theorem at_T41 {w : World} {A : Option Addr} {n : Nat} {xs : List S41} (h : Kd.C k41 w A n xs) (i : Int) (h0 : 0 ≤ i) (h1 : i < n) : ∃ ad , A = some ad ∧ w.cell? (ad.add (i.toNat * 2)) = some (.int .i64 (rd_T41 xs i).f0) ∧ w.cell? ⟨(ad.add (i.toNat * 2)).block, (ad.add (i.toNat * 2)).off + 1, none⟩ = some (.int .i64 (rd_T41 xs i).f1) := by
  obtain ⟨ad, c, e, _, hK, hc0⟩ := Kd.C_get h z41 i h0 h1
  have hc : ∀ j u, c[j]? = some u → w.cell? (ad.add (i.toNat * 2 + j)) = some u := hc0
  obtain rfl := k41_open hK
  exact ⟨ad, e, hc 0 _ rfl, by rw [← add_field _ _ 1 (by omega)]; exact hc 1 _ rfl⟩

/-! #### struct type 140 -/
structure S140 where
  f0 : S41
  f1 : Int
def z140 : S140 := ⟨z41, (0 : Int)⟩
def k140 : Kd S140 := Kd.iso (Kd.pair k41 (Kd.int .i64)) (fun x : S140 => (x.f0, x.f1))
theorem k140_open {w : World} {x : S140} {cs : List Value} (h : k140.K w x cs) : cs = [.int .i64 x.f0.f0, .int .i64 x.f0.f1, .int .i64 x.f1] := by
  obtain ⟨_, _, rfl, s0, rfl⟩ := h
  obtain rfl := k41_open s0
  exact rfl
theorem k140_openM {w : World} {base : Nat} {ok : Nat → Prop} {x : S140} {cs : List Value} (h : k140.M w base ok x cs) : cs = [.int .i64 x.f0.f0, .int .i64 x.f0.f1, .int .i64 x.f1] := by
  obtain ⟨_, _, rfl, s0, rfl⟩ := h
  obtain rfl := k41_openM s0
  exact rfl
theorem k140_mk (w : World) (x : S140)  : k140.K w x [.int .i64 x.f0.f0, .int .i64 x.f0.f1, .int .i64 x.f1] := ⟨[.int .i64 x.f0.f0, .int .i64 x.f0.f1], [.int .i64 x.f1], rfl, (k41_mk w x.f0 ), rfl⟩
theorem k140_mkM (w : World) (base : Nat) (ok : Nat → Prop) (x : S140)  : k140.M w base ok x [.int .i64 x.f0.f0, .int .i64 x.f0.f1, .int .i64 x.f1] := ⟨[.int .i64 x.f0.f0, .int .i64 x.f0.f1], [.int .i64 x.f1], rfl, (k41_mkM w base ok x.f0 ), rfl⟩
def rd_T140 (xs : List S140) (i : Int) : S140 := xs.getD i.toNat z140
theorem at_T140 {w : World} {A : Option Addr} {n : Nat} {xs : List S140} (h : Kd.C k140 w A n xs) (i : Int) (h0 : 0 ≤ i) (h1 : i < n) : ∃ ad , A = some ad ∧ w.cell? (ad.add (i.toNat * 3)) = some (.int .i64 (rd_T140 xs i).f0.f0) ∧ w.cell? ⟨(ad.add (i.toNat * 3)).block, (ad.add (i.toNat * 3)).off + 1, none⟩ = some (.int .i64 (rd_T140 xs i).f0.f1) ∧ w.cell? ⟨(ad.add (i.toNat * 3)).block, (ad.add (i.toNat * 3)).off + 2, none⟩ = some (.int .i64 (rd_T140 xs i).f1) := by
  obtain ⟨ad, c, e, _, hK, hc0⟩ := Kd.C_get h z140 i h0 h1
  have hc : ∀ j u, c[j]? = some u → w.cell? (ad.add (i.toNat * 3 + j)) = some u := hc0
  obtain rfl := k140_open hK
  exact ⟨ad, e, hc 0 _ rfl, by rw [← add_field _ _ 1 (by omega)]; exact hc 1 _ rfl, by rw [← add_field _ _ 2 (by omega)]; exact hc 2 _ rfl⟩

end Go.Proofs.Ytpmkkidljmedaaa.X
namespace Go.Proofs.Ytpmkkidljmedaaa.X
open Go.RowKit
theorem calls_len {P : Program} {f : FuncId} {A : Option Addr} {n m c : Nat} {rest : List Value} {w : World} {Q : Ending → World → Prop} (e : n = m) (h : Calls P f (List.toArray (.slice A n c :: rest)) w Q) : Calls P f (List.toArray (.slice A m c :: rest)) w Q := e ▸ h
end Go.Proofs.Ytpmkkidljmedaaa.X
set_option linter.unusedVariables false
namespace Go.Proofs.Ytpmkkidljmedaaa.HM
open Go.RowKit

theorem wrap64_id (n : Int) (h0 : -9223372036854775808 ≤ n) (h1 : n < 9223372036854775808) : wrap64 n = n := by unfold wrap64; omega
theorem i64wrap (n : Int) : IntKind.i64.wrap n = wrap64 n := (IntKind.wrap_i64 n).trans (by unfold wrap64; rfl)
theorem wrap64_lo (n : Int) : -9223372036854775808 ≤ wrap64 n := by unfold wrap64; omega
theorem wrap64_hi (n : Int) : wrap64 n < 9223372036854775808 := by unfold wrap64; omega
theorem pow_pos (i : Nat) : (0 : Int) < 2 ^ i := Int.pow_pos (by omega)
theorem pow_mono {i j : Nat} (h : i ≤ j) : (2 : Int) ^ i ≤ 2 ^ j := by
  have := Nat.pow_le_pow_right (n := 2) (by omega) h
  exact_mod_cast this
theorem pow_lt62 {i : Nat} (h : i ≤ 62) : (2 : Int) ^ i ≤ 4611686018427387904 := by
  have := pow_mono h
  have e : (2 : Int) ^ 62 = 4611686018427387904 := by decide
  omega

/-- A mask of the lowest i bits is what is left of a division by 2 to i. -/
theorem and_mask (x : Int) (i : Nat) (h : i ≤ 62) : bits .and .i64 x (2 ^ i - 1) = x % 2 ^ i := by
  have hp := pow_pos i
  have hm := pow_lt62 h
  have e64 : ((2 ^ 64 : Nat) : Int) = 18446744073709551616 := by decide
  show IntKind.i64.wrap (((BitVec.ofInt 64 x &&& BitVec.ofInt 64 (2 ^ i - 1)).toNat : Nat) : Int) = x % 2 ^ i
  have h1 : (BitVec.ofInt 64 (2 ^ i - 1 : Int)).toNat = 2 ^ i - 1 := by
    rw [BitVec.toNat_ofInt, e64, Int.emod_eq_of_lt (by omega) (by omega)]
    have : ((2 : Int) ^ i - 1) = ((2 ^ i - 1 : Nat) : Int) := by
      have := Nat.pow_pos (n := i) (show 0 < 2 by omega)
      rw [Int.natCast_sub (by omega)]
      norm_cast
    rw [this, Int.toNat_natCast]
  have h2 : ((BitVec.ofInt 64 x).toNat : Int) = x % 18446744073709551616 := by
    rw [BitVec.toNat_ofInt, e64, Int.toNat_of_nonneg (Int.emod_nonneg _ (by omega))]
  rw [BitVec.toNat_and, h1, Nat.and_two_pow_sub_one_eq_mod]
  have h3 : (((BitVec.ofInt 64 x).toNat % 2 ^ i : Nat) : Int) = x % 2 ^ i := by
    rw [Int.natCast_emod, h2]
    push_cast
    have hd : (2 : Int) ^ i ∣ 18446744073709551616 := by
      have : (18446744073709551616 : Int) = 2 ^ i * 2 ^ (64 - i) := by
        rw [← Int.pow_add, show i + (64 - i) = 64 by omega]
        decide
      exact ⟨_, this⟩
    exact Int.emod_emod_of_dvd x hd
  rw [h3, i64wrap]
  have := Int.emod_nonneg x (show (2 : Int) ^ i ≠ 0 by omega)
  have := Int.emod_lt_of_pos x hp
  exact wrap64_id _ (by omega) (by omega)
theorem and_one (x : Int) : bits .and .i64 x 1 = x % 2 := and_mask x 1 (by omega)
/-- The mask as the walk spells it. -/
theorem and_mask' (x s : Int) (h0 : 0 ≤ s) (h : s ≤ 62) : bits .and .i64 x (wrap64 (wrap64 (2 ^ s.toNat) - 1)) = x % 2 ^ s.toNat := by
  have hp := pow_pos s.toNat
  have hm := pow_lt62 (i := s.toNat) (by omega)
  rw [wrap64_id (2 ^ s.toNat) (by omega) (by omega), wrap64_id _ (by omega) (by omega)]
  exact and_mask x s.toNat (by omega)
theorem mul_bound (A C a c : Int) (hA : 0 ≤ A) (hC : 0 ≤ C) (h1 : -A ≤ a) (h2 : a ≤ A) (h3 : -C ≤ c) (h4 : c ≤ C) : -(A * C) ≤ a * c ∧ a * c ≤ A * C := by
  have e1 := Int.mul_le_mul_of_nonneg_left h4 hA
  have e2 := Int.mul_le_mul_of_nonneg_left (show -c ≤ C by omega) hA
  rw [Int.mul_neg] at e2
  constructor
  · rcases Int.le_total 0 c with h | h
    · have := Int.mul_le_mul_of_nonneg_right h1 h
      rw [Int.neg_mul] at this
      omega
    · have := Int.mul_le_mul_of_nonneg_right h2 (show 0 ≤ -c by omega)
      rw [Int.mul_neg, Int.mul_neg] at this
      omega
  · rcases Int.le_total 0 c with h | h
    · have := Int.mul_le_mul_of_nonneg_right h2 h
      omega
    · have := Int.mul_le_mul_of_nonneg_right h1 (show 0 ≤ -c by omega)
      rw [Int.neg_mul, Int.mul_neg, Int.mul_neg] at this
      omega
end Go.Proofs.Ytpmkkidljmedaaa.HM
namespace Go.Proofs.Ytpmkkidljmedaaa.X
open Go.RowKit Go.Proofs.YtpmkkidljmedaaaW.PrintWords Go.Proofs.YtpmkkidljmedaaaW.PrintLast Go.Proofs.YtpmkkidljmedaaaW.PrintMore
attribute [local go_sem] max2_int min2_int max_two min_two max_three min_three max_four min_four
set_option linter.unusedVariables false
set_option linter.unusedSimpArgs false

/-- Does a quotient go up: by the mode, what is left, a half, and whether it is odd? -/
def upB (mode left half : Int) (odd : Bool) : Bool := if mode = 0 then false else if mode = 1 then decide (half ≤ left) else (decide (half < left) || (decide (left = half) && odd))

theorem modes1_calls (l h : Int) (o : Bool) (w : World) : Calls Try.prog 105 #[.int .i64 l, .int .i64 h, .bool o] w fun e w' => e = .returned (.bool (upB 0 l h o)) ∧ w' = w := by
  go_enter Try.func105, Try.ntmps105
  go_wp2
  go_ret
  exact ⟨rfl, rfl⟩
theorem modes2_calls (l h : Int) (o : Bool) (w : World) : Calls Try.prog 106 #[.int .i64 l, .int .i64 h, .bool o] w fun e w' => e = .returned (.bool (upB 1 l h o)) ∧ w' = w := by
  go_enter Try.func106, Try.ntmps106
  go_wp2
  go_ret
  exact ⟨by simp [upB], rfl⟩
theorem modes3_calls (l h : Int) (o : Bool) (w : World) : Calls Try.prog 107 #[.int .i64 l, .int .i64 h, .bool o] w fun e w' => e = .returned (.bool (upB 2 l h o)) ∧ w' = w := by
  go_enter Try.func107, Try.ntmps107
  by_cases h1 : h < l
  · have h1' : decide (h < l) = true := decide_eq_true h1
    go_wp2
    go_ret
    exact ⟨by simp [upB, h1], rfl⟩
  · have h1' : decide (h < l) = false := decide_eq_false h1
    by_cases h2 : l = h
    · have h2' : (l == h) = true := beq_iff_eq.2 h2
      have H2 := Lib.hid h2; clear h2
      go_wp2
      go_ret
      exact ⟨by simp [upB, h1, H2.out], rfl⟩
    · have h2' : (l == h) = false := beq_eq_false_iff_ne.2 h2
      go_wp2
      go_ret
      exact ⟨by simp [upB, h1, h2], rfl⟩
theorem modes_calls (w : World) : Calls Try.prog 78 #[] w fun e w' => e = .returned (.slice (some ⟨w.heap.size, 0, none⟩) 3 3) ∧ w' = w.alloc (.cells #[.func (.func 105) #[] #[], .func (.func 106) #[] #[], .func (.func 107) #[] #[]] 102) := by
  go_enter Try.func78, Try.ntmps78
  go_wp2
  go_ret
  exact ⟨rfl, rfl⟩

/-- A number divided by 2 to another one, rounded: as Go tells it. -/
def round_Shift.f (x s m : Int) : Option (Int × Int) :=
  if s < 0 then some (0, 1) else if s > 62 then some (0, 1) else if m < 0 then some (0, 1) else if m ≥ 3 then some (0, 1)
  else if s = 0 then some (x, 0)
  else some (if upB m (x % 2 ^ s.toNat) (2 ^ (s.toNat - 1)) (x / 2 ^ s.toNat % 2 == 1) = true then wrap64 (x / 2 ^ s.toNat + 1) else x / 2 ^ s.toNat, 0)

def upT (m x s : Int) : Bool := upB m (bits BinOp.and IntKind.i64 x (wrap64 (wrap64 (2 ^ s.toNat) - 1))) (wrap64 (2 ^ (s.toNat - 1))) (bits BinOp.and IntKind.i64 (x / 2 ^ s.toNat) 1 == 1)
def shiftT (m x s : Int) : Int := if upT m x s = true then wrap64 (x / 2 ^ s.toNat + 1) else x / 2 ^ s.toNat
theorem shiftT_eq (m x s : Int) (h1 : 0 < s) (h2 : s ≤ 62) : shiftT m x s = if upB m (x % 2 ^ s.toNat) (2 ^ (s.toNat - 1)) (x / 2 ^ s.toNat % 2 == 1) = true then wrap64 (x / 2 ^ s.toNat + 1) else x / 2 ^ s.toNat := by
  have hp := HM.pow_pos (s.toNat - 1)
  have hm := HM.pow_lt62 (i := s.toNat - 1) (by omega)
  have e : upT m x s = upB m (x % 2 ^ s.toNat) (2 ^ (s.toNat - 1)) (x / 2 ^ s.toNat % 2 == 1) := by
    unfold upT
    rw [HM.and_mask' x s (by omega) h2, HM.and_one, HM.wrap64_id (2 ^ (s.toNat - 1)) (by omega) (by omega)]
  unfold shiftT
  rw [e]

theorem shift_walk0 (x s : Int) (w : World) (h1 : 0 < s) (h2 : s ≤ 62) :
    Calls Try.prog 42 #[.int .i64 x, .int .i64 s, .int .i64 0] w fun e w' => e = .returned (.tuple #[.int .i64 (shiftT 0 x s), .int .i64 0]) ∧ Below w.heap.size w w' := by
  go_enter Try.func42, Try.ntmps42
  go_wp2_with (go_at_call 78; refine (modes_calls _).mono ?_; rintro e w' ⟨rfl, rfl⟩)
  go_quiet ((go_at_call 105; exact Calls.quiet_of_same (modes1_calls _ _ _ _)))
  go_wp2
  all_goals (go_ret2; exact ⟨by simp [shiftT, upT, *], pw_below_drewN ((Below.refl _ w).alloc (Nat.le_refl _) _) _⟩)
theorem shift_walk1 (x s : Int) (w : World) (h1 : 0 < s) (h2 : s ≤ 62) :
    Calls Try.prog 42 #[.int .i64 x, .int .i64 s, .int .i64 1] w fun e w' => e = .returned (.tuple #[.int .i64 (shiftT 1 x s), .int .i64 0]) ∧ Below w.heap.size w w' := by
  go_enter Try.func42, Try.ntmps42
  go_wp2_with (go_at_call 78; refine (modes_calls _).mono ?_; rintro e w' ⟨rfl, rfl⟩)
  go_quiet ((go_at_call 106; exact Calls.quiet_of_same (modes2_calls _ _ _ _)))
  go_wp2
  all_goals (go_ret2; exact ⟨by simp [shiftT, upT, *], pw_below_drewN ((Below.refl _ w).alloc (Nat.le_refl _) _) _⟩)
theorem shift_walk2 (x s : Int) (w : World) (h1 : 0 < s) (h2 : s ≤ 62) :
    Calls Try.prog 42 #[.int .i64 x, .int .i64 s, .int .i64 2] w fun e w' => e = .returned (.tuple #[.int .i64 (shiftT 2 x s), .int .i64 0]) ∧ Below w.heap.size w w' := by
  go_enter Try.func42, Try.ntmps42
  go_wp2_with (go_at_call 78; refine (modes_calls _).mono ?_; rintro e w' ⟨rfl, rfl⟩)
  go_quiet ((go_at_call 107; exact Calls.quiet_of_same (modes3_calls _ _ _ _)))
  go_wp2
  all_goals (go_ret2; exact ⟨by simp [shiftT, upT, *], pw_below_drewN ((Below.refl _ w).alloc (Nat.le_refl _) _) _⟩)
theorem shift_walk_zero (x m : Int) (w : World) (h1 : 0 ≤ m) (h2 : m < 3) :
    Calls Try.prog 42 #[.int .i64 x, .int .i64 0, .int .i64 m] w fun e w' => e = .returned (.tuple #[.int .i64 x, .int .i64 0]) ∧ Below w.heap.size w w' := by
  go_enter Try.func42, Try.ntmps42
  go_wp2_with (go_at_call 78; refine (modes_calls _).mono ?_; rintro e w' ⟨rfl, rfl⟩)
  go_ret2
  exact ⟨rfl, (Below.refl _ w).alloc (Nat.le_refl _) _⟩
theorem shift_walk_bad (x s m : Int) (w : World) (h : s < 0 ∨ 62 < s ∨ m < 0 ∨ 3 ≤ m) :
    Calls Try.prog 42 #[.int .i64 x, .int .i64 s, .int .i64 m] w fun e w' => e = .returned (.tuple #[.int .i64 0, .int .i64 1]) ∧ Below w.heap.size w w' := by
  by_cases h1 : s < 0
  · go_enter Try.func42, Try.ntmps42
    go_wp2_with (go_at_call 78; refine (modes_calls _).mono ?_; rintro e w' ⟨rfl, rfl⟩)
    go_ret2
    exact ⟨rfl, (Below.refl _ w).alloc (Nat.le_refl _) _⟩
  · by_cases h2 : 62 < s
    · go_enter Try.func42, Try.ntmps42
      go_wp2_with (go_at_call 78; refine (modes_calls _).mono ?_; rintro e w' ⟨rfl, rfl⟩)
      go_ret2
      exact ⟨rfl, (Below.refl _ w).alloc (Nat.le_refl _) _⟩
    · by_cases h3 : m < 0
      · go_enter Try.func42, Try.ntmps42
        go_wp2_with (go_at_call 78; refine (modes_calls _).mono ?_; rintro e w' ⟨rfl, rfl⟩)
        go_ret2
        exact ⟨rfl, (Below.refl _ w).alloc (Nat.le_refl _) _⟩
      · have h4 : 3 ≤ m := by omega
        clear h
        go_enter Try.func42, Try.ntmps42
        go_wp2_with (go_at_call 78; refine (modes_calls _).mono ?_; rintro e w' ⟨rfl, rfl⟩)
        go_ret2
        exact ⟨rfl, (Below.refl _ w).alloc (Nat.le_refl _) _⟩

/-- What the call of round.Shift comes to. -/
theorem round_Shift.calls (a0 a1 a2 : Int) (r1 r2 : Int) (w : World) (h : round_Shift.f a0 a1 a2 = some (r1, r2)) :
    Calls Try.prog 42 #[.int .i64 a0, .int .i64 a1, .int .i64 a2] w fun e w' => e = .returned (.tuple #[.int .i64 r1, .int .i64 r2]) ∧ Below w.heap.size w w' := by
  unfold round_Shift.f at h
  by_cases b : a1 < 0 ∨ 62 < a1 ∨ a2 < 0 ∨ 3 ≤ a2
  · have e : (r1, r2) = (0, 1) := by
      by_cases h1 : a1 < 0
      · rw [if_pos h1] at h; exact (Option.some.inj h).symm
      rw [if_neg h1] at h
      by_cases h2 : a1 > 62
      · rw [if_pos h2] at h; exact (Option.some.inj h).symm
      rw [if_neg h2] at h
      by_cases h3 : a2 < 0
      · rw [if_pos h3] at h; exact (Option.some.inj h).symm
      rw [if_neg h3, if_pos (by omega)] at h
      exact (Option.some.inj h).symm
    injection e with e1 e2
    subst e1 e2
    exact shift_walk_bad a0 a1 a2 w b
  · rw [if_neg (by omega), if_neg (by omega), if_neg (by omega), if_neg (by omega)] at h
    by_cases z : a1 = 0
    · rw [if_pos z] at h
      have e := Option.some.inj h
      injection e with e1 e2
      subst e1 e2 z
      exact shift_walk_zero a0 a2 w (by omega) (by omega)
    · rw [if_neg z, ← shiftT_eq a2 a0 a1 (by omega) (by omega)] at h
      have e := Option.some.inj h
      injection e with e1 e2
      subst e1 e2
      have hm : a2 = 0 ∨ a2 = 1 ∨ a2 = 2 := by omega
      rcases hm with rfl | rfl | rfl
      · exact shift_walk0 a0 a1 w (by omega) (by omega)
      · exact shift_walk1 a0 a1 w (by omega) (by omega)
      · exact shift_walk2 a0 a1 w (by omega) (by omega)
end Go.Proofs.Ytpmkkidljmedaaa.X
namespace Go.Proofs.Ytpmkkidljmedaaa.X
open Go.RowKit Go.Proofs.YtpmkkidljmedaaaW.PrintWords Go.Proofs.YtpmkkidljmedaaaW.PrintLast Go.Proofs.YtpmkkidljmedaaaW.PrintMore
set_option linter.unusedVariables false
set_option linter.unusedSimpArgs false

abbrev CxN := S41
/-- The cells of numbers. -/
def cxs : List CxN → List Value
  | [] => []
  | x :: l => .int .i64 x.f0 :: .int .i64 x.f1 :: cxs l
theorem cxs_length (xs : List CxN) : (cxs xs).length = 2 * xs.length := by
  induction xs with
  | nil => rfl
  | cons x l ih => simp [cxs, ih]; omega
theorem cxs_append (xs ys : List CxN) : cxs (xs ++ ys) = cxs xs ++ cxs ys := by
  induction xs with
  | nil => rfl
  | cons x l ih => simp [cxs, ih]
theorem cxs_get0 (xs : List CxN) (i : Nat) (x : CxN) (h : xs[i]? = some x) : (cxs xs)[2 * i]? = some (.int .i64 x.f0) := by
  induction xs generalizing i with
  | nil => simp at h
  | cons y l ih =>
    cases i with
    | zero => simp at h; subst h; rfl
    | succ i =>
      simp at h
      have := ih i h
      rw [show 2 * (i + 1) = 2 * i + 1 + 1 by omega]
      simpa [cxs] using this
theorem cxs_get1 (xs : List CxN) (i : Nat) (x : CxN) (h : xs[i]? = some x) : (cxs xs)[2 * i + 1]? = some (.int .i64 x.f1) := by
  induction xs generalizing i with
  | nil => simp at h
  | cons y l ih =>
    cases i with
    | zero => simp at h; subst h; rfl
    | succ i =>
      simp at h
      have := ih i h
      rw [show 2 * (i + 1) + 1 = 2 * i + 1 + 1 + 1 by omega]
      simpa [cxs] using this
theorem cxs_set (xs : List CxN) (i : Nat) (a b : Int) : ((cxs xs).set (2 * i) (.int .i64 a)).set (2 * i + 1) (.int .i64 b) = cxs (xs.set i ⟨a, b⟩) := by
  induction xs generalizing i with
  | nil => simp [cxs]
  | cons y l ih =>
    cases i with
    | zero => simp [cxs]
    | succ i =>
      rw [show 2 * (i + 1) = 2 * i + 1 + 1 by omega]
      simp [cxs, ih i]
theorem cxs_one (xs : List CxN) : ∀ u ∈ cxs xs, u.oneCell' = true := by
  induction xs with
  | nil => simp [cxs]
  | cons x l ih =>
    intro u hu
    simp only [cxs, List.mem_cons] at hu
    rcases hu with rfl | rfl | hu
    · rfl
    · rfl
    · exact ih u hu
theorem cxs_drop (xs : List CxN) (i : Nat) : (cxs xs).drop (2 * i) = cxs (xs.drop i) := by
  induction xs generalizing i with
  | nil => simp [cxs]
  | cons y l ih =>
    cases i with
    | zero => simp
    | succ i =>
      rw [show 2 * (i + 1) = 2 * i + 1 + 1 by omega]
      simp [cxs, ih i]
theorem cxs_take (xs : List CxN) (i : Nat) : (cxs xs).take (2 * i) = cxs (xs.take i) := by
  induction xs generalizing i with
  | nil => simp [cxs]
  | cons y l ih =>
    cases i with
    | zero => simp [cxs]
    | succ i =>
      rw [show 2 * (i + 1) = 2 * i + 1 + 1 by omega]
      simp [cxs, ih i]

/-- A block holds just these numbers. -/
def CxBlk (w : World) (g : Nat) (xs : List CxN) : Prop := w.heap[g]? = some (.cells (cxs xs).toArray 41 (0, 0))
theorem CxBlk.cell0 {w : World} {g : Nat} {xs : List CxN} (h : CxBlk w g xs) (i : Nat) (x : CxN) (hx : xs[i]? = some x) : w.cell? ⟨g, i * 2, none⟩ = some (.int .i64 x.f0) := by
  rw [blk_cell h, Nat.mul_comm]
  simpa using cxs_get0 xs i x hx
theorem CxBlk.cell1 {w : World} {g : Nat} {xs : List CxN} (h : CxBlk w g xs) (i : Nat) (x : CxN) (hx : xs[i]? = some x) : w.cell? ⟨g, i * 2 + 1, none⟩ = some (.int .i64 x.f1) := by
  rw [blk_cell h, Nat.mul_comm]
  simpa using cxs_get1 xs i x hx
theorem CxBlk.frozen {w : World} {g : Nat} {xs : List CxN} (h : CxBlk w g xs) (i : Nat) : w.frozen? ⟨g, i, none⟩ = false := blk_frozen h i
theorem CxBlk.below {w w1 : World} {g : Nat} {xs : List CxN} (h : CxBlk w g xs) (hb : Below w.heap.size w w1) : CxBlk w1 g xs := blk_below h hb
theorem CxBlk.lt {w : World} {g : Nat} {xs : List CxN} (h : CxBlk w g xs) : g < w.heap.size := blk_lt h
theorem CxBlk.alloc {w : World} {g : Nat} {xs : List CxN} (h : CxBlk w g xs) (o : Obj) : CxBlk (w.alloc o) g xs := blk_alloc h o
theorem CxBlk.set {w : World} {g : Nat} {xs : List CxN} (h : CxBlk w g xs) (i : Nat) (a b : Int) : CxBlk ((w.setCell ⟨g, i * 2, none⟩ (.int .i64 a)).setCell ⟨g, i * 2 + 1, none⟩ (.int .i64 b)) g (xs.set i ⟨a, b⟩) := by
  unfold CxBlk
  rw [← cxs_set, Nat.mul_comm i 2]
  exact blk_put (blk_put h (2 * i) _ (by simp [List.setIfInBounds_toArray] ; rfl)) (2 * i + 1) _ (by simp [List.setIfInBounds_toArray])
theorem CxBlk.far {w : World} {g : Nat} {xs : List CxN} (h : CxBlk w g xs) {p : Addr} (hp : g ≠ p.block) (u : Value) : CxBlk (w.setCell p u) g xs := blk_far h hp u
theorem CxBlk.made (w : World) (m : Nat) : CxBlk (w.alloc (.cells (madeCells #[.int .i64 0, .int .i64 0] (m * 2)) 41)) w.heap.size (List.replicate m ⟨0, 0⟩) := by
  have e : madeCells #[.int .i64 0, .int .i64 0] (m * 2) = (cxs (List.replicate m ⟨0, 0⟩)).toArray := by
    apply Array.ext_getElem?
    intro i
    by_cases hi : i < m * 2
    · have h1 : (madeCells #[.int .i64 0, .int .i64 0] (m * 2))[i]? = some (.int .i64 0) := by
        have h2 : i % 2 = 0 ∨ i % 2 = 1 := by omega
        rcases h2 with h2 | h2 <;> simp [madeCells, hi, h2]
      rw [h1]
      have hr : (List.replicate m (⟨0, 0⟩ : CxN))[i / 2]? = some ⟨0, 0⟩ := by rw [List.getElem?_replicate, if_pos (by omega)]
      have h2 : i = 2 * (i / 2) ∨ i = 2 * (i / 2) + 1 := by omega
      rcases h2 with h2 | h2
      · rw [h2]
        simpa using (cxs_get0 _ _ _ hr).symm
      · rw [h2]
        simpa using (cxs_get1 _ _ _ hr).symm
    · rw [Array.getElem?_eq_none (by rw [size_madeCells]; omega), Array.getElem?_eq_none (by simp [cxs_length]; omega)]
  unfold CxBlk
  rw [e]
  exact blk_new w _
/-- What such a block is to a reader. -/
theorem CxBlk.reads {w : World} {g : Nat} {xs : List CxN} (h : CxBlk w g xs) (hm : xs.length ≤ 9223372036854775807) : Kd.C k41 w (some ⟨g, 0, none⟩) xs.length xs := by
  refine ⟨rfl, hm, fun _ => ⟨_, rfl, ?_⟩⟩
  intro j p hj
  refine ⟨[.int .i64 p.f0, .int .i64 p.f1], rfl, k41_mk _ _, ?_⟩
  intro i u hi
  rw [add_plain]
  match i, hi with
  | 0, hi =>
    simp at hi
    subst hi
    exact h.cell0 j p hj
  | 1, hi =>
    simp at hi
    subst hi
    exact h.cell1 j p hj
  | (i + 2), hi => simp at hi
/-- .. and to who owns it. -/
theorem CxBlk.owns {w : World} {g base : Nat} {xs : List CxN} (h : CxBlk w g xs) (hb : base ≤ g) (hm : xs.length ≤ 9223372036854775807) : Kd.R k41 41 w base (fun _ => True) (.slice (some ⟨g, 0, none⟩) xs.length xs.length) xs := by
  refine ⟨fun _ _ => trivial, cxs xs, ⟨by rw [cxs_length, Nat.mul_comm]; rfl, .inr ⟨g, xs.length, (cxs xs).toArray, rfl, hb, h, Nat.le_refl _, by simpa [maxLen] using hm, by simp [cxs_length]; rw [Nat.mul_comm]; rfl, ?_⟩⟩, ?_⟩
  · rw [List.take_of_length_le (by simp [cxs_length]; rw [Nat.mul_comm]; exact Nat.le_refl _)]
  · refine ⟨by rw [cxs_length, Nat.mul_comm]; rfl, ?_⟩
    intro j p hj
    have e : ((cxs xs).drop (j * 2)).take 2 = [.int .i64 p.f0, .int .i64 p.f1] := by
      rw [Nat.mul_comm, cxs_drop]
      obtain ⟨hl, hp⟩ := List.getElem?_eq_some_iff.1 hj
      rw [List.drop_eq_getElem_cons hl, hp]
      rfl
    show k41.M _ _ _ p (((cxs xs).drop (j * 2)).take 2)
    rw [e]
    exact k41_mkM _ _ _ _
end Go.Proofs.Ytpmkkidljmedaaa.X
namespace Go.Proofs.Ytpmkkidljmedaaa.X
open Go.RowKit Go.Proofs.YtpmkkidljmedaaaW.PrintWords Go.Proofs.YtpmkkidljmedaaaW.PrintLast Go.Proofs.YtpmkkidljmedaaaW.PrintMore
attribute [local go_sem] max2_int min2_int max_two min_two max_three min_three max_four min_four   -- for this text's walks alone
set_option linter.unusedVariables false
set_option linter.unusedSimpArgs false

/-! ### cx_within: function 102 -/
def cx_within.l0 : Nat → Int → List (S41) → Int → Int → Option (Bool)
  | 0, _, _, _, _ => none
  | k + 1, x0, x7, x8, x9 => if x9 < x8 then (if 0 ≤ x9 then (if x9 < (x7.length : Int) then (if (mx ((rd_T41 x7 x9).f0) ((rd_T41 x7 x9).f1)) > x0 then (some false) else (if (mn ((rd_T41 x7 x9).f0) ((rd_T41 x7 x9).f1)) < (wrap64 (-x0)) then (some false) else (cx_within.l0 k x0 x7 x8 (wrap64 (x9 + 1))))) else (none)) else (none)) else (some true)
def cx_within.f (k : Nat) (a0 : Int) (l1 : List (S41)) : Option (Bool) := cx_within.l0 k a0 l1 (l1.length : Int) 0
theorem cx_within.mono_l : ∀ k, (∀ y0 y1 y2 y3, LeO (cx_within.l0 k y0 y1 y2 y3) (cx_within.l0 (k + 1) y0 y1 y2 y3))
  | 0 => fun _ _ _ _ r h => by simp [cx_within.l0] at h
  | k + 1 => by
    have ih0 := cx_within.mono_l k
    · intro y0 y1 y2 y3
      unfold cx_within.l0
      repeat' first
      | (with_reducible exact ih0 _ _ _ _)
      | (with_reducible exact LeO.refl _)
      | (with_reducible exact LeO.none _)
      | (with_reducible refine LeO.ite ?_ ?_)
      | (with_reducible refine LeO.bind ?_ (fun _ => ?_))
      | exact ih0 _ _ _ _
      | exact LeO.none _
      | refine LeO.ite ?_ ?_
      | refine LeO.bind ?_ (fun _ => ?_)
theorem cx_within.mono : ∀ a0 a1 k, LeO (cx_within.f k a0 a1) (cx_within.f (k + 1) a0 a1) := by
  intro a0 a1 k
  have ih0 := cx_within.mono_l k
  unfold cx_within.f
  repeat' first
      | (with_reducible exact ih0 _ _ _ _)
      | (with_reducible exact LeO.refl _)
      | (with_reducible exact LeO.none _)
      | (with_reducible refine LeO.ite ?_ ?_)
      | (with_reducible refine LeO.bind ?_ (fun _ => ?_))
      | exact ih0 _ _ _ _
      | exact LeO.none _
      | refine LeO.ite ?_ ?_
      | refine LeO.bind ?_ (fun _ => ?_)
set_option maxHeartbeats 8000000 in
set_option maxRecDepth 100000 in
theorem cx_within.calls (k : Nat) (a0 : Int) (A1 : Option Addr) (c1 : Nat) (l1 : List (S41)) (r : Bool) (w : World) (hr1 : Kd.C k41 w A1 l1.length l1) (hc1 : l1.length ≤ c1) (h : cx_within.f k a0 l1 = some r) :
    Calls Try.prog 102 #[.int .i64 a0, .slice A1 l1.length c1] w fun e w' => e = .returned (.bool r) ∧ Below w.heap.size w w' := by
  have hu41 := Try.underlying41
  have HR1 := Aside0.mk hr1
  have HC1 := Aside0.mk hc1
  clear hr1 hc1
  have HB := Aside0.mk (Below.refl w.heap.size w)
  have H : (cx_within.l0 k a0 l1 (l1.length : Int) 0) = some r := h
  clear h
  have H' := Aside0.mk H
  clear H
  go_enter Try.func102, Try.ntmps102
  go_wp2
  go_loopg [9] k (fun kq v9 w' => ∃ (x9_1 : Int), v9 = .int .i64 x9_1 ∧ Aside0 (cx_within.l0 kq a0 l1 (l1.length : Int) x9_1 = some r) ∧ Aside0 (kq ≤ k) ∧ Aside0 (Below w.heap.size w w'))
  case atStart => exact ⟨(0), (by first | rfl | (simp; done) | (simp [*]; done)), H', ⟨Nat.le_refl _⟩, ⟨by repeat (first | (with_reducible first | exact HB.out | apply below_alloc | apply pw_below_drewN | apply below_drew1) | exact HB.out)⟩⟩
  case round =>
    clear H'
    try clear c1
    try clear p2
    obtain ⟨x9_1, rfl, HA, HK1, HB⟩ := hrel
    cases gk with
    | zero => exact absurd HA.out (by simp [cx_within.l0])
    | succ k1 =>
      have H := HA.out
      clear HA
      simp only [cx_within.l0] at H
      by_cases c3 : x9_1 < (l1.length : Int)
      · rw [if_pos c3] at H
        have c3b0 : decide (x9_1 < (l1.length : Int)) = true := decide_eq_true c3
        clear c3
        by_cases c4 : 0 ≤ x9_1
        · rw [if_pos c4] at H
          have c4b0 : decide (0 ≤ x9_1) = true := decide_eq_true c4
          clear c4
          by_cases c5 : x9_1 < (l1.length : Int)
          · rw [if_pos c5] at H
            have c5b0 : decide (x9_1 < (l1.length : Int)) = true := decide_eq_true c5
            clear c5
            obtain ⟨ji6, hji6⟩ : ∃ j_ : Int, (mx ((rd_T41 l1 x9_1).f0) ((rd_T41 l1 x9_1).f1)) = j_ := ⟨_, rfl⟩
            replace H : (if (ji6) > a0 then (some false) else (if (mn ((rd_T41 l1 x9_1).f0) ((rd_T41 l1 x9_1).f1)) < (wrap64 (-a0)) then (some false) else (cx_within.l0 k1 a0 l1 (l1.length : Int) (wrap64 (x9_1 + 1))))) = some r := by first | (rw [hji6] at H; exact H) | (simp only [hji6] at H ⊢; exact H)
            have hji6_ : (if ((rd_T41 l1 x9_1).f0) < ((rd_T41 l1 x9_1).f1) then ((rd_T41 l1 x9_1).f1) else ((rd_T41 l1 x9_1).f0)) = ji6 := hji6
            by_cases c7 : (ji6) > a0
            · rw [if_pos c7] at H
              have c7b0 : decide (a0 < (ji6)) = true := decide_eq_true c7
              clear c7
              obtain rfl := Option.some.inj H
              have p1 : 0 ≤ (x9_1 : Int) := of_decide_eq_true (by first | (with_reducible assumption) | assumption)
              have q1 : x9_1 < (l1.length : Int) := of_decide_eq_true (by first | (with_reducible assumption) | assumption)
              obtain ⟨ad1, e1, hx1_0, hx1_1⟩ := at_T41 HR1.out x9_1 p1 q1
              cases e1
              replace hx1_0 := (HB.out.cell (World.block_lt_of_cell? w _ hx1_0)).trans hx1_0
              replace hx1_1 := (HB.out.cell (World.block_lt_of_cell? w _ hx1_1)).trans hx1_1
              replace p1 := eq_true p1
              replace q1 := eq_true q1
              go_wp2_with (first | ((with_reducible refine gate_dst (N := 6) rfl ?_); (try (refine gate_guard (by rfl) ?_; dsimp only)); refine box_event ?hg (N := 6) ?hd (cs := #[.int .i64 0, .int .i64 0]) (t := 41) ?hr ?_; (case hd => rfl); (case hg => rfl); (case hr => first | (go_simp; done) | (go_simp; rfl)); intro gb2 hg w8 hbox hb; have n0_ := Aside0.mk (below_step (by repeat (first | (with_reducible first | exact HB.out | apply below_alloc | apply pw_below_drewN | apply below_drew1) | exact HB.out)) hb); have n1_ := Aside0.mk (hbox); have n2_ := Aside0.mk ((by rw [hg]; exact (below_size (by repeat (first | (with_reducible first | exact HB.out | apply below_alloc | apply pw_below_drewN | apply below_drew1) | exact HB.out))) : w.heap.size ≤ gb2)); have n3_ := Aside0.mk ((by rw [hg]; exact (below_size (by repeat (first | (with_reducible first | exact HB.out | apply below_alloc | apply pw_below_drewN | apply below_drew1) | exact HB.out))) : w.heap.size ≤ gb2)); clear HB; have HB := n0_; have BK2 := n1_; have GW2 := n2_; have GE2 := n3_; clear n0_ n1_ n2_ n3_; clear hb hbox hg; have hcz9_0 : w8.cell? ⟨gb2, 0, none⟩ = some (.int .i64 0) := (blk_cell BK2.out 0).trans rfl; have hcz9_1 : w8.cell? ⟨gb2, 1, none⟩ = some (.int .i64 0) := (blk_cell BK2.out 1).trans rfl; have hfz9_0 := blk_frozen BK2.out 0; have hfz9_1 := blk_frozen BK2.out 1))
              go_ret
              exact ⟨by first | rfl | (simp [errW_none, errW_some] <;> rfl) | (simp only [← hji6]; first | rfl | (simp [errW_none, errW_some] <;> rfl)) | (simp [*, errW_none, errW_some] <;> rfl), by repeat (first | (with_reducible first | exact HB.out | apply below_alloc | apply pw_below_drewN | apply below_drew1 | refine below_set ?_ GE2.out) | exact HB.out)⟩
            · rw [if_neg c7] at H
              have c7b0 : decide (a0 < (ji6)) = false := decide_eq_false c7
              clear c7
              obtain ⟨ji10, hji10⟩ : ∃ j_ : Int, (mn ((rd_T41 l1 x9_1).f0) ((rd_T41 l1 x9_1).f1)) = j_ := ⟨_, rfl⟩
              replace H : (if (ji10) < (wrap64 (-a0)) then (some false) else (cx_within.l0 k1 a0 l1 (l1.length : Int) (wrap64 (x9_1 + 1)))) = some r := by first | (rw [hji10] at H; exact H) | (simp only [hji10] at H ⊢; exact H)
              have hji10_ : (if ((rd_T41 l1 x9_1).f1) < ((rd_T41 l1 x9_1).f0) then ((rd_T41 l1 x9_1).f1) else ((rd_T41 l1 x9_1).f0)) = ji10 := hji10
              by_cases c11 : (ji10) < (wrap64 (-a0))
              · rw [if_pos c11] at H
                have c11b0 : decide ((ji10) < (wrap64 (-a0))) = true := decide_eq_true c11
                clear c11
                obtain rfl := Option.some.inj H
                have p1 : 0 ≤ (x9_1 : Int) := of_decide_eq_true (by first | (with_reducible assumption) | assumption)
                have q1 : x9_1 < (l1.length : Int) := of_decide_eq_true (by first | (with_reducible assumption) | assumption)
                obtain ⟨ad1, e1, hx1_0, hx1_1⟩ := at_T41 HR1.out x9_1 p1 q1
                cases e1
                replace hx1_0 := (HB.out.cell (World.block_lt_of_cell? w _ hx1_0)).trans hx1_0
                replace hx1_1 := (HB.out.cell (World.block_lt_of_cell? w _ hx1_1)).trans hx1_1
                replace p1 := eq_true p1
                replace q1 := eq_true q1
                go_wp2_with (first | ((with_reducible refine gate_dst (N := 6) rfl ?_); (try (refine gate_guard (by rfl) ?_; dsimp only)); refine box_event ?hg (N := 6) ?hd (cs := #[.int .i64 0, .int .i64 0]) (t := 41) ?hr ?_; (case hd => rfl); (case hg => rfl); (case hr => first | (go_simp; done) | (go_simp; rfl)); intro gb2 hg w12 hbox hb; have n0_ := Aside0.mk (below_step (by repeat (first | (with_reducible first | exact HB.out | apply below_alloc | apply pw_below_drewN | apply below_drew1) | exact HB.out)) hb); have n1_ := Aside0.mk (hbox); have n2_ := Aside0.mk ((by rw [hg]; exact (below_size (by repeat (first | (with_reducible first | exact HB.out | apply below_alloc | apply pw_below_drewN | apply below_drew1) | exact HB.out))) : w.heap.size ≤ gb2)); have n3_ := Aside0.mk ((by rw [hg]; exact (below_size (by repeat (first | (with_reducible first | exact HB.out | apply below_alloc | apply pw_below_drewN | apply below_drew1) | exact HB.out))) : w.heap.size ≤ gb2)); clear HB; have HB := n0_; have BK2 := n1_; have GW2 := n2_; have GE2 := n3_; clear n0_ n1_ n2_ n3_; clear hb hbox hg; have hcz13_0 : w12.cell? ⟨gb2, 0, none⟩ = some (.int .i64 0) := (blk_cell BK2.out 0).trans rfl; have hcz13_1 : w12.cell? ⟨gb2, 1, none⟩ = some (.int .i64 0) := (blk_cell BK2.out 1).trans rfl; have hfz13_0 := blk_frozen BK2.out 0; have hfz13_1 := blk_frozen BK2.out 1))
                go_ret
                exact ⟨by first | rfl | (simp [errW_none, errW_some] <;> rfl) | (simp only [← hji6, ← hji10]; first | rfl | (simp [errW_none, errW_some] <;> rfl)) | (simp [*, errW_none, errW_some] <;> rfl), by repeat (first | (with_reducible first | exact HB.out | apply below_alloc | apply pw_below_drewN | apply below_drew1 | refine below_set ?_ GE2.out) | exact HB.out)⟩
              · rw [if_neg c11] at H
                have c11b0 : decide ((ji10) < (wrap64 (-a0))) = false := decide_eq_false c11
                clear c11
                have H' := Aside0.mk H
                clear H
                have p1 : 0 ≤ (x9_1 : Int) := of_decide_eq_true (by first | (with_reducible assumption) | assumption)
                have q1 : x9_1 < (l1.length : Int) := of_decide_eq_true (by first | (with_reducible assumption) | assumption)
                obtain ⟨ad1, e1, hx1_0, hx1_1⟩ := at_T41 HR1.out x9_1 p1 q1
                cases e1
                replace hx1_0 := (HB.out.cell (World.block_lt_of_cell? w _ hx1_0)).trans hx1_0
                replace hx1_1 := (HB.out.cell (World.block_lt_of_cell? w _ hx1_1)).trans hx1_1
                replace p1 := eq_true p1
                replace q1 := eq_true q1
                go_wp2_with (first | ((with_reducible refine gate_dst (N := 6) rfl ?_); (try (refine gate_guard (by rfl) ?_; dsimp only)); refine box_event ?hg (N := 6) ?hd (cs := #[.int .i64 0, .int .i64 0]) (t := 41) ?hr ?_; (case hd => rfl); (case hg => rfl); (case hr => first | (go_simp; done) | (go_simp; rfl)); intro gb2 hg w14 hbox hb; have n0_ := Aside0.mk (below_step (by repeat (first | (with_reducible first | exact HB.out | apply below_alloc | apply pw_below_drewN | apply below_drew1) | exact HB.out)) hb); have n1_ := Aside0.mk (hbox); have n2_ := Aside0.mk ((by rw [hg]; exact (below_size (by repeat (first | (with_reducible first | exact HB.out | apply below_alloc | apply pw_below_drewN | apply below_drew1) | exact HB.out))) : w.heap.size ≤ gb2)); have n3_ := Aside0.mk ((by rw [hg]; exact (below_size (by repeat (first | (with_reducible first | exact HB.out | apply below_alloc | apply pw_below_drewN | apply below_drew1) | exact HB.out))) : w.heap.size ≤ gb2)); clear HB; have HB := n0_; have BK2 := n1_; have GW2 := n2_; have GE2 := n3_; clear n0_ n1_ n2_ n3_; clear hb hbox hg; have hcz15_0 : w14.cell? ⟨gb2, 0, none⟩ = some (.int .i64 0) := (blk_cell BK2.out 0).trans rfl; have hcz15_1 : w14.cell? ⟨gb2, 1, none⟩ = some (.int .i64 0) := (blk_cell BK2.out 1).trans rfl; have hfz15_0 := blk_frozen BK2.out 0; have hfz15_1 := blk_frozen BK2.out 1))
                go_roundg k1
                case measure => have := HK1.out; omega
                case rel => exact ⟨(wrap64 (x9_1 + 1)), (by first | rfl | (simp; done) | (simp [*]; done)), H', ⟨by have := HK1.out; omega⟩, ⟨by repeat (first | (with_reducible first | exact HB.out | apply below_alloc | apply pw_below_drewN | apply below_drew1 | refine below_set ?_ GE2.out) | exact HB.out)⟩⟩
          · rw [if_neg c5] at H
            exact absurd H (by simp)
        · rw [if_neg c4] at H
          exact absurd H (by simp)
      · rw [if_neg c3] at H
        have c3b0 : decide (x9_1 < (l1.length : Int)) = false := decide_eq_false c3
        clear c3
        obtain rfl := Option.some.inj H
        go_wp2
        go_ret
        exact ⟨by first | rfl | (simp [errW_none, errW_some] <;> rfl) | (simp [*, errW_none, errW_some] <;> rfl), by repeat (first | (with_reducible first | exact HB.out | apply below_alloc | apply pw_below_drewN | apply below_drew1) | exact HB.out)⟩

end Go.Proofs.Ytpmkkidljmedaaa.X
namespace Go.Proofs.Ytpmkkidljmedaaa.X
open Go.RowKit Go.Proofs.YtpmkkidljmedaaaW.PrintWords Go.Proofs.YtpmkkidljmedaaaW.PrintLast Go.Proofs.YtpmkkidljmedaaaW.PrintMore
attribute [local go_sem] max2_int min2_int max_two min_two max_three min_three max_four min_four
set_option linter.unusedVariables false
set_option linter.unusedSimpArgs false

abbrev Cx := S41
/-- Are both parts so great at most? -/
def cxIn (most re im : Int) : Bool := decide (re ≤ most) && decide (im ≤ most) && decide (-most ≤ re) && decide (-most ≤ im)
theorem within_one (most re im : Int) (h0 : 0 ≤ most) (h1 : most < 9223372036854775807) : cx_within.f 2 most [(⟨re, im⟩ : S41)] = some (cxIn most re im) := by
  have e : wrap64 (-most) = -most := HM.wrap64_id _ (by omega) (by omega)
  have e1 : wrap64 ((0 : Int) + 1) = 1 := HM.wrap64_id _ (by omega) (by omega)
  simp only [cx_within.f, cx_within.l0, List.length_singleton, rd_T41, Int.toNat_zero, List.getD_cons_zero, e, e1]
  unfold cxIn mx mn
  by_cases a : re ≤ most <;> by_cases b : im ≤ most <;> by_cases c : -most ≤ re <;> by_cases d : -most ≤ im <;> simp [a, b, c, d] <;> (repeat' split) <;> first | rfl | omega | simp_all

/-- What a made thing is, if it may be: the closure's answer. -/
theorem made_yes (g : Nat) (lb : Array Value) (re im : Int) (w : World) (he : ∀ (args : Array Value) (W : World), (callFunc g args).run Try.prog W = .ok (.enter g args) W)
    (hc : ∀ W, Below w.heap.size w W → Calls Try.prog g lb W fun e w' => e = .returned (.agg #[.int .i64 re, .int .i64 im]) ∧ Below W.heap.size W w') :
    Calls Try.prog 101 #[.bool true, .func (.func g) #[] lb] w fun e w' => e = .returned (.tuple #[.agg #[.int .i64 re, .int .i64 im], .int .i64 0]) ∧ Below w.heap.size w w' := by
  go_enter Try.func101, Try.ntmps101
  go_wp2_with fail
  have B0 := blk_new w (.cells #[.int .i64 0, .int .i64 0] 41 (0, 0))
  have HB := (Below.refl w.heap.size w).alloc (Nat.le_refl _) (.cells #[.int .i64 0, .int .i64 0] 41 (0, 0))
  refine (hc _ HB).mono ?_
  rintro e w1 ⟨rfl, hb⟩
  have B1 := blk_below B0 hb
  have c0 := blk_cell B1 0
  have c1 := blk_cell B1 1
  have f0 := blk_frozen B1 0
  have f1 := blk_frozen B1 1
  have HB1 := below_step HB hb
  clear hc hb B0 HB he
  go_wp2
  refine bodyPost_ret (results_ct rfl _ _ w.heap.size 41 #[.int .i64 re, .int .i64 im] (0, 0) _ rfl (blk_put (cs := #[.int .i64 re, .int .i64 0]) (blk_put B1 0 _ rfl) 1 _ rfl) Try.underlying41 rfl (by kernel_rfl)) rfl ⟨rfl, below_set (below_set HB1 (Nat.le_refl _)) (Nat.le_refl _)⟩
theorem made_no (g : Nat) (lb : Array Value) (w : World) :
    Calls Try.prog 101 #[.bool false, .func (.func g) #[] lb] w fun e w' => e = .returned (.tuple #[.agg #[.int .i64 0, .int .i64 0], .int .i64 2]) ∧ Below w.heap.size w w' := by
  go_enter Try.func101, Try.ntmps101
  go_wp2_with fail
  exact bodyPost_ret (v := .tuple #[.agg #[.int .i64 0, .int .i64 0], .int .i64 2]) (by simp [results, Try.results101, go_sem]) rfl ⟨rfl, below_alloc (below_alloc (Below.refl _ _) _) _⟩
theorem conj1_calls (re im : Int) (b : Nat) (w : World) (h0 : w.cell? ⟨b, 0, none⟩ = some (.int .i64 re)) (h1 : w.cell? ⟨b, 1, none⟩ = some (.int .i64 im)) :
    Calls Try.prog 103 #[.pointer (some ⟨b, 0, none⟩)] w fun e w' => e = .returned (.agg #[.int .i64 re, .int .i64 (wrap64 (-im))]) ∧ Below w.heap.size w w' := by
  have hb := World.block_lt_of_cell? w _ h0
  have g0 : ∀ o, (w.alloc o).cell? ⟨b, 0, none⟩ = some (.int .i64 re) := fun o => (World.cell?_alloc_past o _ _ hb).trans h0
  have g1 : ∀ o, (w.alloc o).cell? ⟨b, 1, none⟩ = some (.int .i64 im) := fun o => (World.cell?_alloc_past o _ _ hb).trans h1
  clear h0 h1 hb
  go_enter Try.func103, Try.ntmps103
  go_wp2
  exact bodyPost_ret (v := .agg #[.int .i64 re, .int .i64 (wrap64 (-im))]) (by simp [results, Try.results103, go_sem]) rfl ⟨rfl, below_alloc (Below.refl _ _) _⟩
theorem times1_calls (a b c d : Int) (g h : Nat) (w : World) (h0 : w.cell? ⟨g, 0, none⟩ = some (.int .i64 a)) (h1 : w.cell? ⟨g, 1, none⟩ = some (.int .i64 b)) (k0 : w.cell? ⟨h, 0, none⟩ = some (.int .i64 c)) (k1 : w.cell? ⟨h, 1, none⟩ = some (.int .i64 d)) :
    Calls Try.prog 122 #[.pointer (some ⟨g, 0, none⟩), .pointer (some ⟨h, 0, none⟩)] w fun e w' => e = .returned (.agg #[.int .i64 (wrap64 (wrap64 (a * c) - wrap64 (b * d))), .int .i64 (wrap64 (wrap64 (a * d) + wrap64 (b * c)))]) ∧ Below w.heap.size w w' := by
  have hb := World.block_lt_of_cell? w _ h0
  have hk := World.block_lt_of_cell? w _ k0
  have g0 : ∀ o, (w.alloc o).cell? ⟨g, 0, none⟩ = some (.int .i64 a) := fun o => (World.cell?_alloc_past o _ _ hb).trans h0
  have g1 : ∀ o, (w.alloc o).cell? ⟨g, 1, none⟩ = some (.int .i64 b) := fun o => (World.cell?_alloc_past o _ _ hb).trans h1
  have g2 : ∀ o, (w.alloc o).cell? ⟨h, 0, none⟩ = some (.int .i64 c) := fun o => (World.cell?_alloc_past o _ _ hk).trans k0
  have g3 : ∀ o, (w.alloc o).cell? ⟨h, 1, none⟩ = some (.int .i64 d) := fun o => (World.cell?_alloc_past o _ _ hk).trans k1
  clear h0 h1 hb k0 k1 hk
  go_enter Try.func122, Try.ntmps122
  go_wp2
  exact bodyPost_ret (v := .agg #[.int .i64 (wrap64 (wrap64 (a * c) - wrap64 (b * d))), .int .i64 (wrap64 (wrap64 (a * d) + wrap64 (b * c)))]) (by simp [results, Try.results122, go_sem]) rfl ⟨rfl, below_alloc (Below.refl _ _) _⟩

theorem reads_row1 {w : World} {g : Nat} {re im : Int} (h : w.heap[g]? = some (.cells #[.int .i64 re, .int .i64 im] 41 (0, 0))) : Kd.C k41 w (some ⟨g, 0, none⟩) 1 [(⟨re, im⟩ : Cx)] := by
  refine ⟨rfl, by omega, fun _ => ⟨_, rfl, ?_⟩⟩
  intro j p hj
  have hj0 : j = 0 := by
    rcases j with _ | j
    · rfl
    · simp at hj
  subst hj0
  obtain rfl : (⟨re, im⟩ : Cx) = p := by simpa using hj
  refine ⟨[.int .i64 re, .int .i64 im], rfl, k41_mk _ _, ?_⟩
  intro i u hi
  rw [Nat.zero_mul, Nat.zero_add, add_plain, blk_cell h]
  simpa using hi

def cx_Conj.w (re im : Int) : Option (Int × Int × Int) := if cxIn 2305843009213693952 re im = true then some (re, wrap64 (-im), 0) else some (0, 0, 2)
theorem cx_Conj.walk (a0_0 a0_1 : Int) (r1 r2 r3 : Int) (w : World) (h : cx_Conj.w a0_0 a0_1 = some (r1, r2, r3)) :
    Calls Try.prog 71 #[.agg #[.int .i64 a0_0, .int .i64 a0_1]] w fun e w' => e = .returned (.tuple #[.agg #[.int .i64 r1, .int .i64 r2], .int .i64 r3]) ∧ Below w.heap.size w w' := by
  have hmf : ∀ (fn : Fn) (first cap : Array Value) (w : World), (Instr.makeFunc fn first cap).run Try.prog w = .ok (.func fn first cap) w := fun _ _ _ _ => rfl
  have HW := Lib.hid (within_one 2305843009213693952 a0_0 a0_1 (by omega) (by omega))
  have HH := Lib.hid h; clear h
  go_enter Try.func71, Try.ntmps71
  go_wp2_with fail
  have B0 := blk_alloc (blk_alloc (blk_new w (.cells #[.int .i64 a0_0, .int .i64 a0_1] 41 (0, 0))) (.cells #[.int .i64 0, .int .i64 0] 41 (0, 0))) (.cells #[.int .i64 a0_0, .int .i64 a0_1] 41 (0, 0))
  have B1 := blk_alloc (blk_new (w.alloc (.cells #[.int .i64 a0_0, .int .i64 a0_1] 41 (0, 0))) (.cells #[.int .i64 0, .int .i64 0] 41 (0, 0))) (.cells #[.int .i64 a0_0, .int .i64 a0_1] 41 (0, 0))
  have B2 := blk_new ((w.alloc (.cells #[.int .i64 a0_0, .int .i64 a0_1] 41 (0, 0))).alloc (.cells #[.int .i64 0, .int .i64 0] 41 (0, 0))) (.cells #[.int .i64 a0_0, .int .i64 a0_1] 41 (0, 0))
  have HB := below_alloc (below_alloc (below_alloc (Below.refl _ w) (.cells #[.int .i64 a0_0, .int .i64 a0_1] 41 (0, 0))) (.cells #[.int .i64 0, .int .i64 0] 41 (0, 0))) (.cells #[.int .i64 a0_0, .int .i64 a0_1] 41 (0, 0))
  simp only [World.size_alloc] at B1 B2
  refine (cx_within.calls 2 2305843009213693952 _ _ [(⟨a0_0, a0_1⟩ : Cx)] _ _ (reads_row1 B2) (Nat.le_refl _) HW.out).mono ?_
  rintro e w1 ⟨rfl, hb⟩
  replace B0 := blk_below B0 hb
  replace B1 := blk_below B1 hb
  replace HB := below_step HB hb
  clear hb B2 HW
  generalize hin : cxIn 2305843009213693952 a0_0 a0_1 = inn at HH ⊢
  have HH2 := HH.out
  unfold cx_Conj.w at HH2
  rw [hin] at HH2
  clear HH hin
  cases inn with
  | true =>
    simp only [if_true, Option.some.injEq, Prod.mk.injEq] at HH2
    obtain ⟨rfl, rfl, rfl⟩ := HH2
    have c0 := (blk_cell B0 0)
    have c1 := (blk_cell B0 1)
    go_wp2_with fail
    refine (made_yes 103 _ a0_0 (wrap64 (-a0_1)) _ (fun args W => enters_ Try.func103 (by kernel_rfl) rfl args W) (fun W hW => conj1_calls a0_0 a0_1 w.heap.size W ((blk_cell (blk_below B0 hW) 0).trans rfl) ((blk_cell (blk_below B0 hW) 1).trans rfl))).mono ?_
    rintro e w2 ⟨rfl, hb⟩
    replace B0 := blk_below B0 hb
    replace B1 := blk_below B1 hb
    replace HB := below_step HB hb
    clear hb c0 c1
    have c0 := blk_cell B1 0
    have c1 := blk_cell B1 1
    have f0 := blk_frozen B1 0
    have f1 := blk_frozen B1 1
    go_wp2
    refine bodyPost_ret (results_ct rfl _ _ (w.heap.size + 1) 41 #[.int .i64 a0_0, .int .i64 (wrap64 (-a0_1))] (0, 0) _ rfl (blk_put (cs := #[.int .i64 a0_0, .int .i64 0]) (blk_put B1 0 _ rfl) 1 _ rfl) Try.underlying41 rfl (by kernel_rfl)) rfl ⟨rfl, below_set (below_set HB (by omega)) (by omega)⟩
  | false =>
    simp only [Bool.false_eq_true, if_false, Option.some.injEq, Prod.mk.injEq] at HH2
    obtain ⟨rfl, rfl, rfl⟩ := HH2
    go_wp2_with fail
    refine (made_no 103 _ _).mono ?_
    rintro e w2 ⟨rfl, hb⟩
    replace B1 := blk_below B1 hb
    replace HB := below_step HB hb
    clear hb B0
    have c0 := blk_cell B1 0
    have c1 := blk_cell B1 1
    have f0 := blk_frozen B1 0
    have f1 := blk_frozen B1 1
    go_wp2
    refine bodyPost_ret (results_ct rfl _ _ (w.heap.size + 1) 41 #[.int .i64 0, .int .i64 0] (0, 0) _ rfl (blk_put (cs := #[.int .i64 0, .int .i64 0]) (blk_put B1 0 _ rfl) 1 _ rfl) Try.underlying41 rfl (by kernel_rfl)) rfl ⟨rfl, below_set (below_set HB (by omega)) (by omega)⟩
theorem within_call (most re im : Int) (r : Bool) (g : Nat) (W : World) (hm0 : 0 ≤ most) (hm1 : most < 9223372036854775807) (hr : cxIn most re im = r) (h : W.heap[g]? = some (.cells #[.int .i64 re, .int .i64 im] 41 (0, 0))) :
    Calls Try.prog 102 #[.int .i64 most, .slice (some ⟨g, 0, none⟩) 1 1] W fun e w' => e = .returned (.bool r) ∧ Below W.heap.size W w' := by
  have := cx_within.calls 2 most (some ⟨g, 0, none⟩) 1 [(⟨re, im⟩ : Cx)] r W (reads_row1 h) (Nat.le_refl _) (by rw [within_one most re im hm0 hm1, hr])
  exact this
theorem within_new (most re im : Int) (r : Bool) (g : Nat) (W : World) (hm0 : 0 ≤ most) (hm1 : most < 9223372036854775807) (hr : cxIn most re im = r) (hg : g = W.heap.size) :
    Calls Try.prog 102 #[.int .i64 most, .slice (some ⟨g, 0, none⟩) 1 1] (W.alloc (.cells #[.int .i64 re, .int .i64 im] 41 (0, 0))) fun e w' => e = .returned (.bool r) ∧ Below (W.alloc (.cells #[.int .i64 re, .int .i64 im] 41 (0, 0))).heap.size (W.alloc (.cells #[.int .i64 re, .int .i64 im] 41 (0, 0))) w' := by
  subst hg
  exact within_call most re im r _ _ hm0 hm1 hr (blk_new _ _)
theorem makes_func : ∀ (fn : Fn) (first cap : Array Value) (w : World), (Instr.makeFunc fn first cap).run Try.prog w = .ok (.func fn first cap) w := fun _ _ _ _ => rfl

theorem times_p1 (a0_0 a0_1 a1_0 a1_1 : Int) (w : World) (h_na : cxIn 2147483648 a0_0 a0_1 = true) (h_lb : cxIn 1073741824 a1_0 a1_1 = true) :
    Calls Try.prog 94 #[.agg #[.int .i64 a0_0, .int .i64 a0_1], .agg #[.int .i64 a1_0, .int .i64 a1_1]] w fun e w' => e = .returned (.tuple #[(.agg #[.int .i64 (wrap64 (wrap64 (a0_0 * a1_0) - wrap64 (a0_1 * a1_1))), .int .i64 (wrap64 (wrap64 (a0_0 * a1_1) + wrap64 (a0_1 * a1_0)))]), .int .i64 0]) ∧ Below w.heap.size w w' := by
  have H_na := Lib.hid h_na; clear h_na
  have H_lb := Lib.hid h_lb; clear h_lb
  have hmf := makes_func
  have hsz : 0 ≤ w.heap.size := Nat.zero_le _
  go_enter Try.func94, Try.ntmps94
  go_wp2_with fail
  have BA := blk_alloc (blk_alloc (blk_new w (.cells #[.int .i64 a0_0, .int .i64 a0_1] 41 (0, 0))) (.cells #[.int .i64 a1_0, .int .i64 a1_1] 41 (0, 0))) (.cells #[.int .i64 0, .int .i64 0] 41 (0, 0))
  have BB := blk_alloc (blk_new (w.alloc (.cells #[.int .i64 a0_0, .int .i64 a0_1] 41 (0, 0))) (.cells #[.int .i64 a1_0, .int .i64 a1_1] 41 (0, 0))) (.cells #[.int .i64 0, .int .i64 0] 41 (0, 0))
  have BR := blk_new ((w.alloc (.cells #[.int .i64 a0_0, .int .i64 a0_1] 41 (0, 0))).alloc (.cells #[.int .i64 a1_0, .int .i64 a1_1] 41 (0, 0))) (.cells #[.int .i64 0, .int .i64 0] 41 (0, 0))
  have HB := below_alloc (below_alloc (below_alloc (Below.refl _ w) (.cells #[.int .i64 a0_0, .int .i64 a0_1] 41 (0, 0))) (.cells #[.int .i64 a1_0, .int .i64 a1_1] 41 (0, 0))) (.cells #[.int .i64 0, .int .i64 0] 41 (0, 0))
  simp only [World.size_alloc] at BB BR
  refine (within_new 2147483648 a0_0 a0_1 true _ _ (by omega) (by omega) H_na.out (by simp only [World.size_alloc])).mono ?_
  rintro e w9 ⟨rfl, hb⟩
  replace BA := blk_below (blk_alloc BA _) hb
  replace BB := blk_below (blk_alloc BB _) hb
  replace BR := blk_below (blk_alloc BR _) hb
  replace HB := below_step (below_alloc HB _) hb
  clear hb
  have c0 := blk_cell BA 0
  have c1 := blk_cell BA 1
  have c2 := blk_cell BB 0
  have c3 := blk_cell BB 1
  have f0 := blk_frozen BR 0
  have f1 := blk_frozen BR 1
  go_wp2_with fail
  clear c0 c1 c2 c3 f0 f1
  refine (within_new 1073741824 a1_0 a1_1 true _ _ (by omega) (by omega) H_lb.out (by simp only [World.size_alloc])).mono ?_
  rintro e w9 ⟨rfl, hb⟩
  replace BA := blk_below (blk_alloc BA _) hb
  replace BB := blk_below (blk_alloc BB _) hb
  replace BR := blk_below (blk_alloc BR _) hb
  replace HB := below_step (below_alloc HB _) hb
  clear hb
  have c0 := blk_cell BA 0
  have c1 := blk_cell BA 1
  have c2 := blk_cell BB 0
  have c3 := blk_cell BB 1
  have f0 := blk_frozen BR 0
  have f1 := blk_frozen BR 1
  go_wp2_with fail
  clear c0 c1 c2 c3 f0 f1
  refine (made_yes 122 _ (wrap64 (wrap64 (a0_0 * a1_0) - wrap64 (a0_1 * a1_1))) (wrap64 (wrap64 (a0_0 * a1_1) + wrap64 (a0_1 * a1_0))) _ (fun args W => enters_ Try.func122 (by kernel_rfl) rfl args W) (fun W hW => times1_calls a0_0 a0_1 a1_0 a1_1 w.heap.size (w.heap.size + 1) W ((blk_cell (blk_below BA hW) 0).trans rfl) ((blk_cell (blk_below BA hW) 1).trans rfl) ((blk_cell (blk_below BB hW) 0).trans rfl) ((blk_cell (blk_below BB hW) 1).trans rfl))).mono ?_
  rintro e w9 ⟨rfl, hb⟩
  replace BR := blk_below BR hb
  replace HB := below_step HB hb
  clear hb BA BB
  have c0 := blk_cell BR 0
  have c1 := blk_cell BR 1
  have f0 := blk_frozen BR 0
  have f1 := blk_frozen BR 1
  go_wp2
  refine bodyPost_ret (results_ct rfl _ _ (w.heap.size + 1 + 1) 41 #[.int .i64 (wrap64 (wrap64 (a0_0 * a1_0) - wrap64 (a0_1 * a1_1))), .int .i64 (wrap64 (wrap64 (a0_0 * a1_1) + wrap64 (a0_1 * a1_0)))] (0, 0) _ rfl (blk_put (cs := #[.int .i64 (wrap64 (wrap64 (a0_0 * a1_0) - wrap64 (a0_1 * a1_1))), .int .i64 0]) (blk_put BR 0 _ rfl) 1 _ rfl) Try.underlying41 rfl (by kernel_rfl)) rfl ⟨rfl, below_set (below_set HB (by omega)) (by omega)⟩
theorem times_p2 (a0_0 a0_1 a1_0 a1_1 : Int) (w : World) (h_na : cxIn 2147483648 a0_0 a0_1 = true) (h_lb : cxIn 1073741824 a1_0 a1_1 = false) (h_la : cxIn 1073741824 a0_0 a0_1 = true) (h_nb : cxIn 2147483648 a1_0 a1_1 = true) :
    Calls Try.prog 94 #[.agg #[.int .i64 a0_0, .int .i64 a0_1], .agg #[.int .i64 a1_0, .int .i64 a1_1]] w fun e w' => e = .returned (.tuple #[(.agg #[.int .i64 (wrap64 (wrap64 (a0_0 * a1_0) - wrap64 (a0_1 * a1_1))), .int .i64 (wrap64 (wrap64 (a0_0 * a1_1) + wrap64 (a0_1 * a1_0)))]), .int .i64 0]) ∧ Below w.heap.size w w' := by
  have H_na := Lib.hid h_na; clear h_na
  have H_lb := Lib.hid h_lb; clear h_lb
  have H_la := Lib.hid h_la; clear h_la
  have H_nb := Lib.hid h_nb; clear h_nb
  have hmf := makes_func
  have hsz : 0 ≤ w.heap.size := Nat.zero_le _
  go_enter Try.func94, Try.ntmps94
  go_wp2_with fail
  have BA := blk_alloc (blk_alloc (blk_new w (.cells #[.int .i64 a0_0, .int .i64 a0_1] 41 (0, 0))) (.cells #[.int .i64 a1_0, .int .i64 a1_1] 41 (0, 0))) (.cells #[.int .i64 0, .int .i64 0] 41 (0, 0))
  have BB := blk_alloc (blk_new (w.alloc (.cells #[.int .i64 a0_0, .int .i64 a0_1] 41 (0, 0))) (.cells #[.int .i64 a1_0, .int .i64 a1_1] 41 (0, 0))) (.cells #[.int .i64 0, .int .i64 0] 41 (0, 0))
  have BR := blk_new ((w.alloc (.cells #[.int .i64 a0_0, .int .i64 a0_1] 41 (0, 0))).alloc (.cells #[.int .i64 a1_0, .int .i64 a1_1] 41 (0, 0))) (.cells #[.int .i64 0, .int .i64 0] 41 (0, 0))
  have HB := below_alloc (below_alloc (below_alloc (Below.refl _ w) (.cells #[.int .i64 a0_0, .int .i64 a0_1] 41 (0, 0))) (.cells #[.int .i64 a1_0, .int .i64 a1_1] 41 (0, 0))) (.cells #[.int .i64 0, .int .i64 0] 41 (0, 0))
  simp only [World.size_alloc] at BB BR
  refine (within_new 2147483648 a0_0 a0_1 true _ _ (by omega) (by omega) H_na.out (by simp only [World.size_alloc])).mono ?_
  rintro e w9 ⟨rfl, hb⟩
  replace BA := blk_below (blk_alloc BA _) hb
  replace BB := blk_below (blk_alloc BB _) hb
  replace BR := blk_below (blk_alloc BR _) hb
  replace HB := below_step (below_alloc HB _) hb
  clear hb
  have c0 := blk_cell BA 0
  have c1 := blk_cell BA 1
  have c2 := blk_cell BB 0
  have c3 := blk_cell BB 1
  have f0 := blk_frozen BR 0
  have f1 := blk_frozen BR 1
  go_wp2_with fail
  clear c0 c1 c2 c3 f0 f1
  refine (within_new 1073741824 a1_0 a1_1 false _ _ (by omega) (by omega) H_lb.out (by simp only [World.size_alloc])).mono ?_
  rintro e w9 ⟨rfl, hb⟩
  replace BA := blk_below (blk_alloc BA _) hb
  replace BB := blk_below (blk_alloc BB _) hb
  replace BR := blk_below (blk_alloc BR _) hb
  replace HB := below_step (below_alloc HB _) hb
  clear hb
  have c0 := blk_cell BA 0
  have c1 := blk_cell BA 1
  have c2 := blk_cell BB 0
  have c3 := blk_cell BB 1
  have f0 := blk_frozen BR 0
  have f1 := blk_frozen BR 1
  go_wp2_with fail
  clear c0 c1 c2 c3 f0 f1
  refine (within_new 1073741824 a0_0 a0_1 true _ _ (by omega) (by omega) H_la.out (by simp only [World.size_alloc])).mono ?_
  rintro e w9 ⟨rfl, hb⟩
  replace BA := blk_below (blk_alloc BA _) hb
  replace BB := blk_below (blk_alloc BB _) hb
  replace BR := blk_below (blk_alloc BR _) hb
  replace HB := below_step (below_alloc HB _) hb
  clear hb
  have c0 := blk_cell BA 0
  have c1 := blk_cell BA 1
  have c2 := blk_cell BB 0
  have c3 := blk_cell BB 1
  have f0 := blk_frozen BR 0
  have f1 := blk_frozen BR 1
  go_wp2_with fail
  clear c0 c1 c2 c3 f0 f1
  refine (within_new 2147483648 a1_0 a1_1 true _ _ (by omega) (by omega) H_nb.out (by simp only [World.size_alloc])).mono ?_
  rintro e w9 ⟨rfl, hb⟩
  replace BA := blk_below (blk_alloc BA _) hb
  replace BB := blk_below (blk_alloc BB _) hb
  replace BR := blk_below (blk_alloc BR _) hb
  replace HB := below_step (below_alloc HB _) hb
  clear hb
  have c0 := blk_cell BA 0
  have c1 := blk_cell BA 1
  have c2 := blk_cell BB 0
  have c3 := blk_cell BB 1
  have f0 := blk_frozen BR 0
  have f1 := blk_frozen BR 1
  go_wp2_with fail
  clear c0 c1 c2 c3 f0 f1
  refine (made_yes 122 _ (wrap64 (wrap64 (a0_0 * a1_0) - wrap64 (a0_1 * a1_1))) (wrap64 (wrap64 (a0_0 * a1_1) + wrap64 (a0_1 * a1_0))) _ (fun args W => enters_ Try.func122 (by kernel_rfl) rfl args W) (fun W hW => times1_calls a0_0 a0_1 a1_0 a1_1 w.heap.size (w.heap.size + 1) W ((blk_cell (blk_below BA hW) 0).trans rfl) ((blk_cell (blk_below BA hW) 1).trans rfl) ((blk_cell (blk_below BB hW) 0).trans rfl) ((blk_cell (blk_below BB hW) 1).trans rfl))).mono ?_
  rintro e w9 ⟨rfl, hb⟩
  replace BR := blk_below BR hb
  replace HB := below_step HB hb
  clear hb BA BB
  have c0 := blk_cell BR 0
  have c1 := blk_cell BR 1
  have f0 := blk_frozen BR 0
  have f1 := blk_frozen BR 1
  go_wp2
  refine bodyPost_ret (results_ct rfl _ _ (w.heap.size + 1 + 1) 41 #[.int .i64 (wrap64 (wrap64 (a0_0 * a1_0) - wrap64 (a0_1 * a1_1))), .int .i64 (wrap64 (wrap64 (a0_0 * a1_1) + wrap64 (a0_1 * a1_0)))] (0, 0) _ rfl (blk_put (cs := #[.int .i64 (wrap64 (wrap64 (a0_0 * a1_0) - wrap64 (a0_1 * a1_1))), .int .i64 0]) (blk_put BR 0 _ rfl) 1 _ rfl) Try.underlying41 rfl (by kernel_rfl)) rfl ⟨rfl, below_set (below_set HB (by omega)) (by omega)⟩
theorem times_p3 (a0_0 a0_1 a1_0 a1_1 : Int) (w : World) (h_na : cxIn 2147483648 a0_0 a0_1 = true) (h_lb : cxIn 1073741824 a1_0 a1_1 = false) (h_la : cxIn 1073741824 a0_0 a0_1 = true) (h_nb : cxIn 2147483648 a1_0 a1_1 = false) :
    Calls Try.prog 94 #[.agg #[.int .i64 a0_0, .int .i64 a0_1], .agg #[.int .i64 a1_0, .int .i64 a1_1]] w fun e w' => e = .returned (.tuple #[(.agg #[.int .i64 0, .int .i64 0]), .int .i64 2]) ∧ Below w.heap.size w w' := by
  have H_na := Lib.hid h_na; clear h_na
  have H_lb := Lib.hid h_lb; clear h_lb
  have H_la := Lib.hid h_la; clear h_la
  have H_nb := Lib.hid h_nb; clear h_nb
  have hmf := makes_func
  have hsz : 0 ≤ w.heap.size := Nat.zero_le _
  go_enter Try.func94, Try.ntmps94
  go_wp2_with fail
  have BA := blk_alloc (blk_alloc (blk_new w (.cells #[.int .i64 a0_0, .int .i64 a0_1] 41 (0, 0))) (.cells #[.int .i64 a1_0, .int .i64 a1_1] 41 (0, 0))) (.cells #[.int .i64 0, .int .i64 0] 41 (0, 0))
  have BB := blk_alloc (blk_new (w.alloc (.cells #[.int .i64 a0_0, .int .i64 a0_1] 41 (0, 0))) (.cells #[.int .i64 a1_0, .int .i64 a1_1] 41 (0, 0))) (.cells #[.int .i64 0, .int .i64 0] 41 (0, 0))
  have BR := blk_new ((w.alloc (.cells #[.int .i64 a0_0, .int .i64 a0_1] 41 (0, 0))).alloc (.cells #[.int .i64 a1_0, .int .i64 a1_1] 41 (0, 0))) (.cells #[.int .i64 0, .int .i64 0] 41 (0, 0))
  have HB := below_alloc (below_alloc (below_alloc (Below.refl _ w) (.cells #[.int .i64 a0_0, .int .i64 a0_1] 41 (0, 0))) (.cells #[.int .i64 a1_0, .int .i64 a1_1] 41 (0, 0))) (.cells #[.int .i64 0, .int .i64 0] 41 (0, 0))
  simp only [World.size_alloc] at BB BR
  refine (within_new 2147483648 a0_0 a0_1 true _ _ (by omega) (by omega) H_na.out (by simp only [World.size_alloc])).mono ?_
  rintro e w9 ⟨rfl, hb⟩
  replace BA := blk_below (blk_alloc BA _) hb
  replace BB := blk_below (blk_alloc BB _) hb
  replace BR := blk_below (blk_alloc BR _) hb
  replace HB := below_step (below_alloc HB _) hb
  clear hb
  have c0 := blk_cell BA 0
  have c1 := blk_cell BA 1
  have c2 := blk_cell BB 0
  have c3 := blk_cell BB 1
  have f0 := blk_frozen BR 0
  have f1 := blk_frozen BR 1
  go_wp2_with fail
  clear c0 c1 c2 c3 f0 f1
  refine (within_new 1073741824 a1_0 a1_1 false _ _ (by omega) (by omega) H_lb.out (by simp only [World.size_alloc])).mono ?_
  rintro e w9 ⟨rfl, hb⟩
  replace BA := blk_below (blk_alloc BA _) hb
  replace BB := blk_below (blk_alloc BB _) hb
  replace BR := blk_below (blk_alloc BR _) hb
  replace HB := below_step (below_alloc HB _) hb
  clear hb
  have c0 := blk_cell BA 0
  have c1 := blk_cell BA 1
  have c2 := blk_cell BB 0
  have c3 := blk_cell BB 1
  have f0 := blk_frozen BR 0
  have f1 := blk_frozen BR 1
  go_wp2_with fail
  clear c0 c1 c2 c3 f0 f1
  refine (within_new 1073741824 a0_0 a0_1 true _ _ (by omega) (by omega) H_la.out (by simp only [World.size_alloc])).mono ?_
  rintro e w9 ⟨rfl, hb⟩
  replace BA := blk_below (blk_alloc BA _) hb
  replace BB := blk_below (blk_alloc BB _) hb
  replace BR := blk_below (blk_alloc BR _) hb
  replace HB := below_step (below_alloc HB _) hb
  clear hb
  have c0 := blk_cell BA 0
  have c1 := blk_cell BA 1
  have c2 := blk_cell BB 0
  have c3 := blk_cell BB 1
  have f0 := blk_frozen BR 0
  have f1 := blk_frozen BR 1
  go_wp2_with fail
  clear c0 c1 c2 c3 f0 f1
  refine (within_new 2147483648 a1_0 a1_1 false _ _ (by omega) (by omega) H_nb.out (by simp only [World.size_alloc])).mono ?_
  rintro e w9 ⟨rfl, hb⟩
  replace BA := blk_below (blk_alloc BA _) hb
  replace BB := blk_below (blk_alloc BB _) hb
  replace BR := blk_below (blk_alloc BR _) hb
  replace HB := below_step (below_alloc HB _) hb
  clear hb
  have c0 := blk_cell BA 0
  have c1 := blk_cell BA 1
  have c2 := blk_cell BB 0
  have c3 := blk_cell BB 1
  have f0 := blk_frozen BR 0
  have f1 := blk_frozen BR 1
  go_wp2_with fail
  clear c0 c1 c2 c3 f0 f1
  refine (made_no 122 _ _).mono ?_
  rintro e w9 ⟨rfl, hb⟩
  replace BR := blk_below BR hb
  replace HB := below_step HB hb
  clear hb BA BB
  have c0 := blk_cell BR 0
  have c1 := blk_cell BR 1
  have f0 := blk_frozen BR 0
  have f1 := blk_frozen BR 1
  go_wp2
  refine bodyPost_ret (results_ct rfl _ _ (w.heap.size + 1 + 1) 41 #[.int .i64 0, .int .i64 0] (0, 0) _ rfl (blk_put (cs := #[.int .i64 0, .int .i64 0]) (blk_put BR 0 _ rfl) 1 _ rfl) Try.underlying41 rfl (by kernel_rfl)) rfl ⟨rfl, below_set (below_set HB (by omega)) (by omega)⟩
theorem times_p4 (a0_0 a0_1 a1_0 a1_1 : Int) (w : World) (h_na : cxIn 2147483648 a0_0 a0_1 = true) (h_lb : cxIn 1073741824 a1_0 a1_1 = false) (h_la : cxIn 1073741824 a0_0 a0_1 = false) :
    Calls Try.prog 94 #[.agg #[.int .i64 a0_0, .int .i64 a0_1], .agg #[.int .i64 a1_0, .int .i64 a1_1]] w fun e w' => e = .returned (.tuple #[(.agg #[.int .i64 0, .int .i64 0]), .int .i64 2]) ∧ Below w.heap.size w w' := by
  have H_na := Lib.hid h_na; clear h_na
  have H_lb := Lib.hid h_lb; clear h_lb
  have H_la := Lib.hid h_la; clear h_la
  have hmf := makes_func
  have hsz : 0 ≤ w.heap.size := Nat.zero_le _
  go_enter Try.func94, Try.ntmps94
  go_wp2_with fail
  have BA := blk_alloc (blk_alloc (blk_new w (.cells #[.int .i64 a0_0, .int .i64 a0_1] 41 (0, 0))) (.cells #[.int .i64 a1_0, .int .i64 a1_1] 41 (0, 0))) (.cells #[.int .i64 0, .int .i64 0] 41 (0, 0))
  have BB := blk_alloc (blk_new (w.alloc (.cells #[.int .i64 a0_0, .int .i64 a0_1] 41 (0, 0))) (.cells #[.int .i64 a1_0, .int .i64 a1_1] 41 (0, 0))) (.cells #[.int .i64 0, .int .i64 0] 41 (0, 0))
  have BR := blk_new ((w.alloc (.cells #[.int .i64 a0_0, .int .i64 a0_1] 41 (0, 0))).alloc (.cells #[.int .i64 a1_0, .int .i64 a1_1] 41 (0, 0))) (.cells #[.int .i64 0, .int .i64 0] 41 (0, 0))
  have HB := below_alloc (below_alloc (below_alloc (Below.refl _ w) (.cells #[.int .i64 a0_0, .int .i64 a0_1] 41 (0, 0))) (.cells #[.int .i64 a1_0, .int .i64 a1_1] 41 (0, 0))) (.cells #[.int .i64 0, .int .i64 0] 41 (0, 0))
  simp only [World.size_alloc] at BB BR
  refine (within_new 2147483648 a0_0 a0_1 true _ _ (by omega) (by omega) H_na.out (by simp only [World.size_alloc])).mono ?_
  rintro e w9 ⟨rfl, hb⟩
  replace BA := blk_below (blk_alloc BA _) hb
  replace BB := blk_below (blk_alloc BB _) hb
  replace BR := blk_below (blk_alloc BR _) hb
  replace HB := below_step (below_alloc HB _) hb
  clear hb
  have c0 := blk_cell BA 0
  have c1 := blk_cell BA 1
  have c2 := blk_cell BB 0
  have c3 := blk_cell BB 1
  have f0 := blk_frozen BR 0
  have f1 := blk_frozen BR 1
  go_wp2_with fail
  clear c0 c1 c2 c3 f0 f1
  refine (within_new 1073741824 a1_0 a1_1 false _ _ (by omega) (by omega) H_lb.out (by simp only [World.size_alloc])).mono ?_
  rintro e w9 ⟨rfl, hb⟩
  replace BA := blk_below (blk_alloc BA _) hb
  replace BB := blk_below (blk_alloc BB _) hb
  replace BR := blk_below (blk_alloc BR _) hb
  replace HB := below_step (below_alloc HB _) hb
  clear hb
  have c0 := blk_cell BA 0
  have c1 := blk_cell BA 1
  have c2 := blk_cell BB 0
  have c3 := blk_cell BB 1
  have f0 := blk_frozen BR 0
  have f1 := blk_frozen BR 1
  go_wp2_with fail
  clear c0 c1 c2 c3 f0 f1
  refine (within_new 1073741824 a0_0 a0_1 false _ _ (by omega) (by omega) H_la.out (by simp only [World.size_alloc])).mono ?_
  rintro e w9 ⟨rfl, hb⟩
  replace BA := blk_below (blk_alloc BA _) hb
  replace BB := blk_below (blk_alloc BB _) hb
  replace BR := blk_below (blk_alloc BR _) hb
  replace HB := below_step (below_alloc HB _) hb
  clear hb
  have c0 := blk_cell BA 0
  have c1 := blk_cell BA 1
  have c2 := blk_cell BB 0
  have c3 := blk_cell BB 1
  have f0 := blk_frozen BR 0
  have f1 := blk_frozen BR 1
  go_wp2_with fail
  clear c0 c1 c2 c3 f0 f1
  refine (made_no 122 _ _).mono ?_
  rintro e w9 ⟨rfl, hb⟩
  replace BR := blk_below BR hb
  replace HB := below_step HB hb
  clear hb BA BB
  have c0 := blk_cell BR 0
  have c1 := blk_cell BR 1
  have f0 := blk_frozen BR 0
  have f1 := blk_frozen BR 1
  go_wp2
  refine bodyPost_ret (results_ct rfl _ _ (w.heap.size + 1 + 1) 41 #[.int .i64 0, .int .i64 0] (0, 0) _ rfl (blk_put (cs := #[.int .i64 0, .int .i64 0]) (blk_put BR 0 _ rfl) 1 _ rfl) Try.underlying41 rfl (by kernel_rfl)) rfl ⟨rfl, below_set (below_set HB (by omega)) (by omega)⟩
theorem times_p5 (a0_0 a0_1 a1_0 a1_1 : Int) (w : World) (h_na : cxIn 2147483648 a0_0 a0_1 = false) (h_la : cxIn 1073741824 a0_0 a0_1 = false) :
    Calls Try.prog 94 #[.agg #[.int .i64 a0_0, .int .i64 a0_1], .agg #[.int .i64 a1_0, .int .i64 a1_1]] w fun e w' => e = .returned (.tuple #[(.agg #[.int .i64 0, .int .i64 0]), .int .i64 2]) ∧ Below w.heap.size w w' := by
  have H_na := Lib.hid h_na; clear h_na
  have H_la := Lib.hid h_la; clear h_la
  have hmf := makes_func
  have hsz : 0 ≤ w.heap.size := Nat.zero_le _
  go_enter Try.func94, Try.ntmps94
  go_wp2_with fail
  have BA := blk_alloc (blk_alloc (blk_new w (.cells #[.int .i64 a0_0, .int .i64 a0_1] 41 (0, 0))) (.cells #[.int .i64 a1_0, .int .i64 a1_1] 41 (0, 0))) (.cells #[.int .i64 0, .int .i64 0] 41 (0, 0))
  have BB := blk_alloc (blk_new (w.alloc (.cells #[.int .i64 a0_0, .int .i64 a0_1] 41 (0, 0))) (.cells #[.int .i64 a1_0, .int .i64 a1_1] 41 (0, 0))) (.cells #[.int .i64 0, .int .i64 0] 41 (0, 0))
  have BR := blk_new ((w.alloc (.cells #[.int .i64 a0_0, .int .i64 a0_1] 41 (0, 0))).alloc (.cells #[.int .i64 a1_0, .int .i64 a1_1] 41 (0, 0))) (.cells #[.int .i64 0, .int .i64 0] 41 (0, 0))
  have HB := below_alloc (below_alloc (below_alloc (Below.refl _ w) (.cells #[.int .i64 a0_0, .int .i64 a0_1] 41 (0, 0))) (.cells #[.int .i64 a1_0, .int .i64 a1_1] 41 (0, 0))) (.cells #[.int .i64 0, .int .i64 0] 41 (0, 0))
  simp only [World.size_alloc] at BB BR
  refine (within_new 2147483648 a0_0 a0_1 false _ _ (by omega) (by omega) H_na.out (by simp only [World.size_alloc])).mono ?_
  rintro e w9 ⟨rfl, hb⟩
  replace BA := blk_below (blk_alloc BA _) hb
  replace BB := blk_below (blk_alloc BB _) hb
  replace BR := blk_below (blk_alloc BR _) hb
  replace HB := below_step (below_alloc HB _) hb
  clear hb
  have c0 := blk_cell BA 0
  have c1 := blk_cell BA 1
  have c2 := blk_cell BB 0
  have c3 := blk_cell BB 1
  have f0 := blk_frozen BR 0
  have f1 := blk_frozen BR 1
  go_wp2_with fail
  clear c0 c1 c2 c3 f0 f1
  refine (within_new 1073741824 a0_0 a0_1 false _ _ (by omega) (by omega) H_la.out (by simp only [World.size_alloc])).mono ?_
  rintro e w9 ⟨rfl, hb⟩
  replace BA := blk_below (blk_alloc BA _) hb
  replace BB := blk_below (blk_alloc BB _) hb
  replace BR := blk_below (blk_alloc BR _) hb
  replace HB := below_step (below_alloc HB _) hb
  clear hb
  have c0 := blk_cell BA 0
  have c1 := blk_cell BA 1
  have c2 := blk_cell BB 0
  have c3 := blk_cell BB 1
  have f0 := blk_frozen BR 0
  have f1 := blk_frozen BR 1
  go_wp2_with fail
  clear c0 c1 c2 c3 f0 f1
  refine (made_no 122 _ _).mono ?_
  rintro e w9 ⟨rfl, hb⟩
  replace BR := blk_below BR hb
  replace HB := below_step HB hb
  clear hb BA BB
  have c0 := blk_cell BR 0
  have c1 := blk_cell BR 1
  have f0 := blk_frozen BR 0
  have f1 := blk_frozen BR 1
  go_wp2
  refine bodyPost_ret (results_ct rfl _ _ (w.heap.size + 1 + 1) 41 #[.int .i64 0, .int .i64 0] (0, 0) _ rfl (blk_put (cs := #[.int .i64 0, .int .i64 0]) (blk_put BR 0 _ rfl) 1 _ rfl) Try.underlying41 rfl (by kernel_rfl)) rfl ⟨rfl, below_set (below_set HB (by omega)) (by omega)⟩

def mayTimes (a b c d : Int) : Bool := cxIn 2147483648 a b && cxIn 1073741824 c d || cxIn 1073741824 a b && cxIn 2147483648 c d
def cx_Times.w (a0_0 a0_1 a1_0 a1_1 : Int) : Option (Int × Int × Int) := if mayTimes a0_0 a0_1 a1_0 a1_1 = true then some (wrap64 (wrap64 (a0_0 * a1_0) - wrap64 (a0_1 * a1_1)), wrap64 (wrap64 (a0_0 * a1_1) + wrap64 (a0_1 * a1_0)), 0) else some (0, 0, 2)
theorem cx_Times.walk (a0_0 a0_1 a1_0 a1_1 : Int) (r1 r2 r3 : Int) (w : World) (h : cx_Times.w a0_0 a0_1 a1_0 a1_1 = some (r1, r2, r3)) :
    Calls Try.prog 94 #[.agg #[.int .i64 a0_0, .int .i64 a0_1], .agg #[.int .i64 a1_0, .int .i64 a1_1]] w fun e w' => e = .returned (.tuple #[.agg #[.int .i64 r1, .int .i64 r2], .int .i64 r3]) ∧ Below w.heap.size w w' := by
  unfold cx_Times.w mayTimes at h
  have hmono : cxIn 2147483648 a0_0 a0_1 = false → cxIn 1073741824 a0_0 a0_1 = false := by
    unfold cxIn
    simp only [Bool.and_eq_false_iff, decide_eq_false_iff_not]
    omega
  cases h_na : cxIn 2147483648 a0_0 a0_1 with
  | true =>
    cases h_lb : cxIn 1073741824 a1_0 a1_1 with
    | true =>
      simp only [h_na, h_lb, Bool.and_self, Bool.true_or, if_true, Option.some.injEq, Prod.mk.injEq] at h
      obtain ⟨rfl, rfl, rfl⟩ := h
      exact times_p1 a0_0 a0_1 a1_0 a1_1 w h_na h_lb
    | false =>
      cases h_la : cxIn 1073741824 a0_0 a0_1 with
      | true =>
        cases h_nb : cxIn 2147483648 a1_0 a1_1 with
        | true =>
          simp only [h_na, h_lb, h_la, h_nb, Bool.and_self, Bool.or_true, if_true, Option.some.injEq, Prod.mk.injEq] at h
          obtain ⟨rfl, rfl, rfl⟩ := h
          exact times_p2 a0_0 a0_1 a1_0 a1_1 w h_na h_lb h_la h_nb
        | false =>
          simp [h_na, h_lb, h_la, h_nb] at h
          obtain ⟨rfl, rfl, rfl⟩ := h
          exact times_p3 a0_0 a0_1 a1_0 a1_1 w h_na h_lb h_la h_nb
      | false =>
        simp [h_na, h_lb, h_la] at h
        obtain ⟨rfl, rfl, rfl⟩ := h
        exact times_p4 a0_0 a0_1 a1_0 a1_1 w h_na h_lb h_la
  | false =>
    have h_la := hmono h_na
    simp [h_na, h_la] at h
    obtain ⟨rfl, rfl, rfl⟩ := h
    exact times_p5 a0_0 a0_1 a1_0 a1_1 w h_na h_la

/-- The conjugate, if it may be. -/
def cx_Conj.f (re im : Int) : Option (Int × Int × Int) := if cxIn 2305843009213693952 re im = true then some (re, -im, 0) else some (0, 0, 2)
theorem cx_Conj.eq (re im : Int) : cx_Conj.f re im = cx_Conj.w re im := by
  unfold cx_Conj.f cx_Conj.w
  split
  · rename_i hin
    simp only [cxIn, Bool.and_eq_true, decide_eq_true_eq] at hin
    rw [HM.wrap64_id (-im) (by omega) (by omega)]
  · rfl
theorem cx_Conj.calls (a0_0 a0_1 : Int) (r1 r2 r3 : Int) (w : World) (h : cx_Conj.f a0_0 a0_1 = some (r1, r2, r3)) :
    Calls Try.prog 71 #[.agg #[.int .i64 a0_0, .int .i64 a0_1]] w fun e w' => e = .returned (.tuple #[.agg #[.int .i64 r1, .int .i64 r2], .int .i64 r3]) ∧ Below w.heap.size w w' :=
  cx_Conj.walk a0_0 a0_1 r1 r2 r3 w (by rw [← cx_Conj.eq]; exact h)
/-- The product, if it may be. -/
def cx_Times.f (a b c d : Int) : Option (Int × Int × Int) := if mayTimes a b c d = true then some (a * c - b * d, a * d + b * c, 0) else some (0, 0, 2)
theorem cx_Times.eq (a b c d : Int) : cx_Times.f a b c d = cx_Times.w a b c d := by
  unfold cx_Times.f cx_Times.w
  split
  · rename_i hin
    have hb : (-2305843009213693952 ≤ a * c ∧ a * c ≤ 2305843009213693952) ∧ (-2305843009213693952 ≤ b * d ∧ b * d ≤ 2305843009213693952) ∧ (-2305843009213693952 ≤ a * d ∧ a * d ≤ 2305843009213693952) ∧ (-2305843009213693952 ≤ b * c ∧ b * c ≤ 2305843009213693952) := by
      simp only [mayTimes, cxIn, Bool.or_eq_true, Bool.and_eq_true, decide_eq_true_eq] at hin
      rcases hin with ⟨⟨⟨⟨h1, h2⟩, h3⟩, h4⟩, ⟨⟨h5, h6⟩, h7⟩, h8⟩ | ⟨⟨⟨⟨h1, h2⟩, h3⟩, h4⟩, ⟨⟨h5, h6⟩, h7⟩, h8⟩
      · exact ⟨HM.mul_bound 2147483648 1073741824 a c (by omega) (by omega) (by omega) (by omega) (by omega) (by omega), HM.mul_bound 2147483648 1073741824 b d (by omega) (by omega) (by omega) (by omega) (by omega) (by omega), HM.mul_bound 2147483648 1073741824 a d (by omega) (by omega) (by omega) (by omega) (by omega) (by omega), HM.mul_bound 2147483648 1073741824 b c (by omega) (by omega) (by omega) (by omega) (by omega) (by omega)⟩
      · exact ⟨HM.mul_bound 1073741824 2147483648 a c (by omega) (by omega) (by omega) (by omega) (by omega) (by omega), HM.mul_bound 1073741824 2147483648 b d (by omega) (by omega) (by omega) (by omega) (by omega) (by omega), HM.mul_bound 1073741824 2147483648 a d (by omega) (by omega) (by omega) (by omega) (by omega) (by omega), HM.mul_bound 1073741824 2147483648 b c (by omega) (by omega) (by omega) (by omega) (by omega) (by omega)⟩
    generalize a * c = x at *
    generalize b * d = y at *
    generalize a * d = z at *
    generalize b * c = t at *
    rw [HM.wrap64_id x (by omega) (by omega), HM.wrap64_id y (by omega) (by omega), HM.wrap64_id z (by omega) (by omega), HM.wrap64_id t (by omega) (by omega), HM.wrap64_id (x - y) (by omega) (by omega), HM.wrap64_id (z + t) (by omega) (by omega)]
  · rfl
theorem cx_Times.calls (a0_0 a0_1 a1_0 a1_1 : Int) (r1 r2 r3 : Int) (w : World) (h : cx_Times.f a0_0 a0_1 a1_0 a1_1 = some (r1, r2, r3)) :
    Calls Try.prog 94 #[.agg #[.int .i64 a0_0, .int .i64 a0_1], .agg #[.int .i64 a1_0, .int .i64 a1_1]] w fun e w' => e = .returned (.tuple #[.agg #[.int .i64 r1, .int .i64 r2], .int .i64 r3]) ∧ Below w.heap.size w w' :=
  cx_Times.walk a0_0 a0_1 a1_0 a1_1 r1 r2 r3 w (by rw [← cx_Times.eq]; exact h)
end Go.Proofs.Ytpmkkidljmedaaa.X
namespace Go.Proofs.Ytpmkkidljmedaaa.X
open Go.RowKit Go.Proofs.YtpmkkidljmedaaaW.PrintWords Go.Proofs.YtpmkkidljmedaaaW.PrintLast Go.Proofs.YtpmkkidljmedaaaW.PrintMore
attribute [local go_sem] max2_int min2_int max_two min_two max_three min_three max_four min_four
set_option linter.unusedVariables false
set_option linter.unusedSimpArgs false

theorem turn1_0 (n re im : Int) (hn : bits BinOp.and IntKind.i64 n 3 = 0) (g h : Nat) (w : World) (h0 : w.heap[g]? = some (.cells #[.int .i64 re, .int .i64 im] 41 (0, 0))) (k0 : w.cell? ⟨h, 0, none⟩ = some (.int .i64 n)) :
    Calls Try.prog 123 #[.pointer (some ⟨h, 0, none⟩), .pointer (some ⟨g, 0, none⟩)] w fun e w' => e = .returned (.agg #[.int .i64 re, .int .i64 im]) ∧ Below g w w' ∧ KeepBut w w' g none := by
  have hk := World.block_lt_of_cell? w _ k0
  have hlt := blk_lt h0
  have g1 : (w.alloc (.cells #[.int .i64 0, .int .i64 0] 41 (0, 0))).cell? ⟨h, 0, none⟩ = some (.int .i64 n) := (World.cell?_alloc_past _ _ _ hk).trans k0
  go_enter Try.func123, Try.ntmps123
  go_wp2_with fail
  have G := blk_alloc h0 (.cells #[.int .i64 0, .int .i64 0] 41 (0, 0))
  have R := blk_new w (.cells #[.int .i64 0, .int .i64 0] 41 (0, 0))
  have KB := keep_alloc (KeepBut.refl w g none) (.cells #[.int .i64 0, .int .i64 0] 41 (0, 0))
  have HB : Below g w (w.alloc (.cells #[.int .i64 0, .int .i64 0] 41 (0, 0))) := (Below.refl g w).alloc (Nat.le_of_lt hlt) _
  clear k0 h0 g1 hn
  obtain ⟨W0, hW⟩ : ∃ W, W = w.alloc (.cells #[.int .i64 0, .int .i64 0] 41 (0, 0)) := ⟨_, rfl⟩
  rw [← hW] at G R KB HB ⊢
  clear hW
  obtain ⟨q, hq⟩ : ∃ q, q = w.heap.size := ⟨_, rfl⟩
  rw [← hq] at R hlt ⊢
  have hne : q ≠ g := by omega
  have hgq : g ≤ q := by omega
  have hql : w.heap.size ≤ q := by omega
  clear hq hk hlt
  refine wp_loop_rounds 1 ?_
  have c0 := blk_cell G 0
  have c1 := blk_cell G 1
  have e0 := blk_cell R 0
  have e1 := blk_cell R 1
  have f0 := blk_frozen R 0
  have f1 := blk_frozen R 1
  rw [rounds_succ]
  go_wp2
  exact bodyPost_ret (results_cell_row rfl _ _ q 41 #[.int .i64 re, .int .i64 im] (0, 0) _ rfl (blk_put (cs := #[.int .i64 re, .int .i64 0]) (blk_put R 0 _ rfl) 1 _ rfl) Try.underlying41 rfl (by kernel_rfl)) rfl ⟨rfl, (HB.setCell (p := ⟨q, 0, none⟩) hgq _).setCell (p := ⟨q, 1, none⟩) hgq _, keep_far (p := ⟨q, 1, none⟩) (keep_far (p := ⟨q, 0, none⟩) KB hql _) hql _⟩
theorem turn1_1 (n re im : Int) (hn : bits BinOp.and IntKind.i64 n 3 = 1) (g h : Nat) (w : World) (h0 : w.heap[g]? = some (.cells #[.int .i64 re, .int .i64 im] 41 (0, 0))) (k0 : w.cell? ⟨h, 0, none⟩ = some (.int .i64 n)) :
    Calls Try.prog 123 #[.pointer (some ⟨h, 0, none⟩), .pointer (some ⟨g, 0, none⟩)] w fun e w' => e = .returned (.agg #[.int .i64 (wrap64 (-im)), .int .i64 re]) ∧ Below g w w' ∧ KeepBut w w' g none := by
  have hk := World.block_lt_of_cell? w _ k0
  have hlt := blk_lt h0
  have g1 : (w.alloc (.cells #[.int .i64 0, .int .i64 0] 41 (0, 0))).cell? ⟨h, 0, none⟩ = some (.int .i64 n) := (World.cell?_alloc_past _ _ _ hk).trans k0
  go_enter Try.func123, Try.ntmps123
  go_wp2_with fail
  have G := blk_alloc h0 (.cells #[.int .i64 0, .int .i64 0] 41 (0, 0))
  have R := blk_new w (.cells #[.int .i64 0, .int .i64 0] 41 (0, 0))
  have KB := keep_alloc (KeepBut.refl w g none) (.cells #[.int .i64 0, .int .i64 0] 41 (0, 0))
  have HB : Below g w (w.alloc (.cells #[.int .i64 0, .int .i64 0] 41 (0, 0))) := (Below.refl g w).alloc (Nat.le_of_lt hlt) _
  clear k0 h0 g1 hn
  obtain ⟨W0, hW⟩ : ∃ W, W = w.alloc (.cells #[.int .i64 0, .int .i64 0] 41 (0, 0)) := ⟨_, rfl⟩
  rw [← hW] at G R KB HB ⊢
  clear hW
  obtain ⟨q, hq⟩ : ∃ q, q = w.heap.size := ⟨_, rfl⟩
  rw [← hq] at R hlt ⊢
  have hne : q ≠ g := by omega
  have hgq : g ≤ q := by omega
  have hql : w.heap.size ≤ q := by omega
  clear hq hk hlt
  refine wp_loop_rounds 2 ?_
  have c0 := blk_cell G 0
  have c1 := blk_cell G 1
  have f0 := blk_frozen G 0
  have f1 := blk_frozen G 1
  rw [rounds_succ]
  go_wp2
  obtain ⟨W1, hW⟩ : ∃ W, W = (W0.setCell ⟨g, 0, none⟩ (.int .i64 (wrap64 (-im)))).setCell ⟨g, 1, none⟩ (.int .i64 re) := ⟨_, rfl⟩
  replace G := blk_put (cs := #[.int .i64 (wrap64 (-im)), .int .i64 im]) (cs' := #[.int .i64 (wrap64 (-im)), .int .i64 re]) (blk_put G 0 (.int .i64 (wrap64 (-im))) rfl) 1 (.int .i64 re) rfl
  replace R := blk_far (p := ⟨g, 1, none⟩) (blk_far (p := ⟨g, 0, none⟩) R hne (.int .i64 (wrap64 (-im)))) hne (.int .i64 re)
  replace KB := (KB.set_ 0 (.int .i64 (wrap64 (-im)))).set_ 1 (.int .i64 re)
  replace HB := (HB.setCell (p := ⟨g, 0, none⟩) (Nat.le_refl _) (.int .i64 (wrap64 (-im)))).setCell (p := ⟨g, 1, none⟩) (Nat.le_refl _) (.int .i64 re)
  clear c0 c1 f0 f1
  rw [← hW] at G R KB HB ⊢
  clear hW
  have c0 := blk_cell G 0
  have c1 := blk_cell G 1
  have e0 := blk_cell R 0
  have e1 := blk_cell R 1
  have f0 := blk_frozen R 0
  have f1 := blk_frozen R 1
  rw [rounds_succ]
  go_wp2
  exact bodyPost_ret (results_cell_row rfl _ _ q 41 #[.int .i64 (wrap64 (-im)), .int .i64 re] (0, 0) _ rfl (blk_put (cs := #[.int .i64 (wrap64 (-im)), .int .i64 0]) (blk_put R 0 _ rfl) 1 _ rfl) Try.underlying41 rfl (by kernel_rfl)) rfl ⟨rfl, (HB.setCell (p := ⟨q, 0, none⟩) hgq _).setCell (p := ⟨q, 1, none⟩) hgq _, keep_far (p := ⟨q, 1, none⟩) (keep_far (p := ⟨q, 0, none⟩) KB hql _) hql _⟩
theorem turn1_2 (n re im : Int) (hn : bits BinOp.and IntKind.i64 n 3 = 2) (g h : Nat) (w : World) (h0 : w.heap[g]? = some (.cells #[.int .i64 re, .int .i64 im] 41 (0, 0))) (k0 : w.cell? ⟨h, 0, none⟩ = some (.int .i64 n)) :
    Calls Try.prog 123 #[.pointer (some ⟨h, 0, none⟩), .pointer (some ⟨g, 0, none⟩)] w fun e w' => e = .returned (.agg #[.int .i64 (wrap64 (-re)), .int .i64 (wrap64 (-im))]) ∧ Below g w w' ∧ KeepBut w w' g none := by
  have hk := World.block_lt_of_cell? w _ k0
  have hlt := blk_lt h0
  have g1 : (w.alloc (.cells #[.int .i64 0, .int .i64 0] 41 (0, 0))).cell? ⟨h, 0, none⟩ = some (.int .i64 n) := (World.cell?_alloc_past _ _ _ hk).trans k0
  go_enter Try.func123, Try.ntmps123
  go_wp2_with fail
  have G := blk_alloc h0 (.cells #[.int .i64 0, .int .i64 0] 41 (0, 0))
  have R := blk_new w (.cells #[.int .i64 0, .int .i64 0] 41 (0, 0))
  have KB := keep_alloc (KeepBut.refl w g none) (.cells #[.int .i64 0, .int .i64 0] 41 (0, 0))
  have HB : Below g w (w.alloc (.cells #[.int .i64 0, .int .i64 0] 41 (0, 0))) := (Below.refl g w).alloc (Nat.le_of_lt hlt) _
  clear k0 h0 g1 hn
  obtain ⟨W0, hW⟩ : ∃ W, W = w.alloc (.cells #[.int .i64 0, .int .i64 0] 41 (0, 0)) := ⟨_, rfl⟩
  rw [← hW] at G R KB HB ⊢
  clear hW
  obtain ⟨q, hq⟩ : ∃ q, q = w.heap.size := ⟨_, rfl⟩
  rw [← hq] at R hlt ⊢
  have hne : q ≠ g := by omega
  have hgq : g ≤ q := by omega
  have hql : w.heap.size ≤ q := by omega
  clear hq hk hlt
  refine wp_loop_rounds 3 ?_
  have c0 := blk_cell G 0
  have c1 := blk_cell G 1
  have f0 := blk_frozen G 0
  have f1 := blk_frozen G 1
  rw [rounds_succ]
  go_wp2
  obtain ⟨W1, hW⟩ : ∃ W, W = (W0.setCell ⟨g, 0, none⟩ (.int .i64 (wrap64 (-im)))).setCell ⟨g, 1, none⟩ (.int .i64 re) := ⟨_, rfl⟩
  replace G := blk_put (cs := #[.int .i64 (wrap64 (-im)), .int .i64 im]) (cs' := #[.int .i64 (wrap64 (-im)), .int .i64 re]) (blk_put G 0 (.int .i64 (wrap64 (-im))) rfl) 1 (.int .i64 re) rfl
  replace R := blk_far (p := ⟨g, 1, none⟩) (blk_far (p := ⟨g, 0, none⟩) R hne (.int .i64 (wrap64 (-im)))) hne (.int .i64 re)
  replace KB := (KB.set_ 0 (.int .i64 (wrap64 (-im)))).set_ 1 (.int .i64 re)
  replace HB := (HB.setCell (p := ⟨g, 0, none⟩) (Nat.le_refl _) (.int .i64 (wrap64 (-im)))).setCell (p := ⟨g, 1, none⟩) (Nat.le_refl _) (.int .i64 re)
  clear c0 c1 f0 f1
  rw [← hW] at G R KB HB ⊢
  clear hW
  have c0 := blk_cell G 0
  have c1 := blk_cell G 1
  have f0 := blk_frozen G 0
  have f1 := blk_frozen G 1
  rw [rounds_succ]
  go_wp2
  obtain ⟨W2, hW⟩ : ∃ W, W = (W1.setCell ⟨g, 0, none⟩ (.int .i64 (wrap64 (-re)))).setCell ⟨g, 1, none⟩ (.int .i64 (wrap64 (-im))) := ⟨_, rfl⟩
  replace G := blk_put (cs := #[.int .i64 (wrap64 (-re)), .int .i64 re]) (cs' := #[.int .i64 (wrap64 (-re)), .int .i64 (wrap64 (-im))]) (blk_put G 0 (.int .i64 (wrap64 (-re))) rfl) 1 (.int .i64 (wrap64 (-im))) rfl
  replace R := blk_far (p := ⟨g, 1, none⟩) (blk_far (p := ⟨g, 0, none⟩) R hne (.int .i64 (wrap64 (-re)))) hne (.int .i64 (wrap64 (-im)))
  replace KB := (KB.set_ 0 (.int .i64 (wrap64 (-re)))).set_ 1 (.int .i64 (wrap64 (-im)))
  replace HB := (HB.setCell (p := ⟨g, 0, none⟩) (Nat.le_refl _) (.int .i64 (wrap64 (-re)))).setCell (p := ⟨g, 1, none⟩) (Nat.le_refl _) (.int .i64 (wrap64 (-im)))
  clear c0 c1 f0 f1
  rw [← hW] at G R KB HB ⊢
  clear hW
  have c0 := blk_cell G 0
  have c1 := blk_cell G 1
  have e0 := blk_cell R 0
  have e1 := blk_cell R 1
  have f0 := blk_frozen R 0
  have f1 := blk_frozen R 1
  rw [rounds_succ]
  go_wp2
  exact bodyPost_ret (results_cell_row rfl _ _ q 41 #[.int .i64 (wrap64 (-re)), .int .i64 (wrap64 (-im))] (0, 0) _ rfl (blk_put (cs := #[.int .i64 (wrap64 (-re)), .int .i64 0]) (blk_put R 0 _ rfl) 1 _ rfl) Try.underlying41 rfl (by kernel_rfl)) rfl ⟨rfl, (HB.setCell (p := ⟨q, 0, none⟩) hgq _).setCell (p := ⟨q, 1, none⟩) hgq _, keep_far (p := ⟨q, 1, none⟩) (keep_far (p := ⟨q, 0, none⟩) KB hql _) hql _⟩
theorem turn1_3 (n re im : Int) (hn : bits BinOp.and IntKind.i64 n 3 = 3) (g h : Nat) (w : World) (h0 : w.heap[g]? = some (.cells #[.int .i64 re, .int .i64 im] 41 (0, 0))) (k0 : w.cell? ⟨h, 0, none⟩ = some (.int .i64 n)) :
    Calls Try.prog 123 #[.pointer (some ⟨h, 0, none⟩), .pointer (some ⟨g, 0, none⟩)] w fun e w' => e = .returned (.agg #[.int .i64 (wrap64 (-(wrap64 (-im)))), .int .i64 (wrap64 (-re))]) ∧ Below g w w' ∧ KeepBut w w' g none := by
  have hk := World.block_lt_of_cell? w _ k0
  have hlt := blk_lt h0
  have g1 : (w.alloc (.cells #[.int .i64 0, .int .i64 0] 41 (0, 0))).cell? ⟨h, 0, none⟩ = some (.int .i64 n) := (World.cell?_alloc_past _ _ _ hk).trans k0
  go_enter Try.func123, Try.ntmps123
  go_wp2_with fail
  have G := blk_alloc h0 (.cells #[.int .i64 0, .int .i64 0] 41 (0, 0))
  have R := blk_new w (.cells #[.int .i64 0, .int .i64 0] 41 (0, 0))
  have KB := keep_alloc (KeepBut.refl w g none) (.cells #[.int .i64 0, .int .i64 0] 41 (0, 0))
  have HB : Below g w (w.alloc (.cells #[.int .i64 0, .int .i64 0] 41 (0, 0))) := (Below.refl g w).alloc (Nat.le_of_lt hlt) _
  clear k0 h0 g1 hn
  obtain ⟨W0, hW⟩ : ∃ W, W = w.alloc (.cells #[.int .i64 0, .int .i64 0] 41 (0, 0)) := ⟨_, rfl⟩
  rw [← hW] at G R KB HB ⊢
  clear hW
  obtain ⟨q, hq⟩ : ∃ q, q = w.heap.size := ⟨_, rfl⟩
  rw [← hq] at R hlt ⊢
  have hne : q ≠ g := by omega
  have hgq : g ≤ q := by omega
  have hql : w.heap.size ≤ q := by omega
  clear hq hk hlt
  refine wp_loop_rounds 4 ?_
  have c0 := blk_cell G 0
  have c1 := blk_cell G 1
  have f0 := blk_frozen G 0
  have f1 := blk_frozen G 1
  rw [rounds_succ]
  go_wp2
  obtain ⟨W1, hW⟩ : ∃ W, W = (W0.setCell ⟨g, 0, none⟩ (.int .i64 (wrap64 (-im)))).setCell ⟨g, 1, none⟩ (.int .i64 re) := ⟨_, rfl⟩
  replace G := blk_put (cs := #[.int .i64 (wrap64 (-im)), .int .i64 im]) (cs' := #[.int .i64 (wrap64 (-im)), .int .i64 re]) (blk_put G 0 (.int .i64 (wrap64 (-im))) rfl) 1 (.int .i64 re) rfl
  replace R := blk_far (p := ⟨g, 1, none⟩) (blk_far (p := ⟨g, 0, none⟩) R hne (.int .i64 (wrap64 (-im)))) hne (.int .i64 re)
  replace KB := (KB.set_ 0 (.int .i64 (wrap64 (-im)))).set_ 1 (.int .i64 re)
  replace HB := (HB.setCell (p := ⟨g, 0, none⟩) (Nat.le_refl _) (.int .i64 (wrap64 (-im)))).setCell (p := ⟨g, 1, none⟩) (Nat.le_refl _) (.int .i64 re)
  clear c0 c1 f0 f1
  rw [← hW] at G R KB HB ⊢
  clear hW
  have c0 := blk_cell G 0
  have c1 := blk_cell G 1
  have f0 := blk_frozen G 0
  have f1 := blk_frozen G 1
  rw [rounds_succ]
  go_wp2
  obtain ⟨W2, hW⟩ : ∃ W, W = (W1.setCell ⟨g, 0, none⟩ (.int .i64 (wrap64 (-re)))).setCell ⟨g, 1, none⟩ (.int .i64 (wrap64 (-im))) := ⟨_, rfl⟩
  replace G := blk_put (cs := #[.int .i64 (wrap64 (-re)), .int .i64 re]) (cs' := #[.int .i64 (wrap64 (-re)), .int .i64 (wrap64 (-im))]) (blk_put G 0 (.int .i64 (wrap64 (-re))) rfl) 1 (.int .i64 (wrap64 (-im))) rfl
  replace R := blk_far (p := ⟨g, 1, none⟩) (blk_far (p := ⟨g, 0, none⟩) R hne (.int .i64 (wrap64 (-re)))) hne (.int .i64 (wrap64 (-im)))
  replace KB := (KB.set_ 0 (.int .i64 (wrap64 (-re)))).set_ 1 (.int .i64 (wrap64 (-im)))
  replace HB := (HB.setCell (p := ⟨g, 0, none⟩) (Nat.le_refl _) (.int .i64 (wrap64 (-re)))).setCell (p := ⟨g, 1, none⟩) (Nat.le_refl _) (.int .i64 (wrap64 (-im)))
  clear c0 c1 f0 f1
  rw [← hW] at G R KB HB ⊢
  clear hW
  have c0 := blk_cell G 0
  have c1 := blk_cell G 1
  have f0 := blk_frozen G 0
  have f1 := blk_frozen G 1
  rw [rounds_succ]
  go_wp2
  obtain ⟨W3, hW⟩ : ∃ W, W = (W2.setCell ⟨g, 0, none⟩ (.int .i64 (wrap64 (-(wrap64 (-im)))))).setCell ⟨g, 1, none⟩ (.int .i64 (wrap64 (-re))) := ⟨_, rfl⟩
  replace G := blk_put (cs := #[.int .i64 (wrap64 (-(wrap64 (-im)))), .int .i64 (wrap64 (-im))]) (cs' := #[.int .i64 (wrap64 (-(wrap64 (-im)))), .int .i64 (wrap64 (-re))]) (blk_put G 0 (.int .i64 (wrap64 (-(wrap64 (-im))))) rfl) 1 (.int .i64 (wrap64 (-re))) rfl
  replace R := blk_far (p := ⟨g, 1, none⟩) (blk_far (p := ⟨g, 0, none⟩) R hne (.int .i64 (wrap64 (-(wrap64 (-im)))))) hne (.int .i64 (wrap64 (-re)))
  replace KB := (KB.set_ 0 (.int .i64 (wrap64 (-(wrap64 (-im)))))).set_ 1 (.int .i64 (wrap64 (-re)))
  replace HB := (HB.setCell (p := ⟨g, 0, none⟩) (Nat.le_refl _) (.int .i64 (wrap64 (-(wrap64 (-im)))))).setCell (p := ⟨g, 1, none⟩) (Nat.le_refl _) (.int .i64 (wrap64 (-re)))
  clear c0 c1 f0 f1
  rw [← hW] at G R KB HB ⊢
  clear hW
  have c0 := blk_cell G 0
  have c1 := blk_cell G 1
  have e0 := blk_cell R 0
  have e1 := blk_cell R 1
  have f0 := blk_frozen R 0
  have f1 := blk_frozen R 1
  rw [rounds_succ]
  go_wp2
  exact bodyPost_ret (results_cell_row rfl _ _ q 41 #[.int .i64 (wrap64 (-(wrap64 (-im)))), .int .i64 (wrap64 (-re))] (0, 0) _ rfl (blk_put (cs := #[.int .i64 (wrap64 (-(wrap64 (-im)))), .int .i64 0]) (blk_put R 0 _ rfl) 1 _ rfl) Try.underlying41 rfl (by kernel_rfl)) rfl ⟨rfl, (HB.setCell (p := ⟨q, 0, none⟩) hgq _).setCell (p := ⟨q, 1, none⟩) hgq _, keep_far (p := ⟨q, 1, none⟩) (keep_far (p := ⟨q, 0, none⟩) KB hql _) hql _⟩

/-- What a made thing is, if it may be, where the closure writes into one variable of its own. -/
theorem made_keep (c g : Nat) (lb : Array Value) (re im : Int) (w : World) (he : ∀ (args : Array Value) (W : World), (callFunc c args).run Try.prog W = .ok (.enter c args) W) (hg : g < w.heap.size)
    (hc : Calls Try.prog c lb (w.alloc (.cells #[.int .i64 0, .int .i64 0] 41 (0, 0))) fun e w' => e = .returned (.agg #[.int .i64 re, .int .i64 im]) ∧ Below g (w.alloc (.cells #[.int .i64 0, .int .i64 0] 41 (0, 0))) w' ∧ KeepBut (w.alloc (.cells #[.int .i64 0, .int .i64 0] 41 (0, 0))) w' g none) :
    Calls Try.prog 101 #[.bool true, .func (.func c) #[] lb] w fun e w' => e = .returned (.tuple #[.agg #[.int .i64 re, .int .i64 im], .int .i64 0]) ∧ Below g w w' ∧ KeepBut w w' g none := by
  go_enter Try.func101, Try.ntmps101
  go_wp2_with fail
  have B0 := blk_new w (.cells #[.int .i64 0, .int .i64 0] 41 (0, 0))
  have HB : Below g w (w.alloc (.cells #[.int .i64 0, .int .i64 0] 41 (0, 0))) := (Below.refl g w).alloc (Nat.le_of_lt hg) _
  have KB := keep_alloc (KeepBut.refl w g none) (.cells #[.int .i64 0, .int .i64 0] 41 (0, 0))
  refine hc.mono ?_
  rintro e w1 ⟨rfl, hb, hk⟩
  have B1 := KeepBut.blk hk B0 (by omega) (by simp)
  have c0 := blk_cell B1 0
  have c1 := blk_cell B1 1
  have f0 := blk_frozen B1 0
  have f1 := blk_frozen B1 1
  have HB1 := HB.trans hb
  have KB1 := KeepBut.trans KB hk (.inl rfl)
  clear hc hb B0 HB he hk KB
  go_wp2
  refine bodyPost_ret (results_ct rfl _ _ w.heap.size 41 #[.int .i64 re, .int .i64 im] (0, 0) _ rfl (blk_put (cs := #[.int .i64 re, .int .i64 0]) (blk_put B1 0 _ rfl) 1 _ rfl) Try.underlying41 rfl (by kernel_rfl)) rfl ⟨rfl, (HB1.setCell (p := ⟨w.heap.size, 0, none⟩) (Nat.le_of_lt hg) _).setCell (p := ⟨w.heap.size, 1, none⟩) (Nat.le_of_lt hg) _, keep_far (p := ⟨w.heap.size, 1, none⟩) (keep_far (p := ⟨w.heap.size, 0, none⟩) KB1 (Nat.le_refl _) _) (Nat.le_refl _) _⟩

/-- A number times i, n times. -/
def turnB (re im n : Int) : Int × Int := if n % 4 = 0 then (re, im) else if n % 4 = 1 then (-im, re) else if n % 4 = 2 then (-re, -im) else (im, -re)
theorem turn1_calls (n re im : Int) (hin : cxIn 2305843009213693952 re im = true) (g h : Nat) (w : World) (h0 : w.heap[g]? = some (.cells #[.int .i64 re, .int .i64 im] 41 (0, 0))) (k0 : w.cell? ⟨h, 0, none⟩ = some (.int .i64 n)) :
    Calls Try.prog 123 #[.pointer (some ⟨h, 0, none⟩), .pointer (some ⟨g, 0, none⟩)] w fun e w' => e = .returned (.agg #[.int .i64 (turnB re im n).1, .int .i64 (turnB re im n).2]) ∧ Below g w w' ∧ KeepBut w w' g none := by
  have hm : bits .and .i64 n 3 = n % 4 := HM.and_mask n 2 (by omega)
  simp only [cxIn, Bool.and_eq_true, decide_eq_true_eq] at hin
  have e1 : wrap64 (-re) = -re := HM.wrap64_id _ (by omega) (by omega)
  have e2 : wrap64 (-im) = -im := HM.wrap64_id _ (by omega) (by omega)
  have e3 : wrap64 (-(-im)) = im := by rw [Int.neg_neg]; exact HM.wrap64_id _ (by omega) (by omega)
  have h4 : n % 4 = 0 ∨ n % 4 = 1 ∨ n % 4 = 2 ∨ n % 4 = 3 := by omega
  rcases h4 with h4 | h4 | h4 | h4
  · have := turn1_0 n re im (hm.trans h4) g h w h0 k0
    simpa [turnB, h4] using this
  · have := turn1_1 n re im (hm.trans h4) g h w h0 k0
    rw [e2] at this
    simpa [turnB, h4] using this
  · have := turn1_2 n re im (hm.trans h4) g h w h0 k0
    rw [e1, e2] at this
    simpa [turnB, h4] using this
  · have := turn1_3 n re im (hm.trans h4) g h w h0 k0
    rw [e1, e2, e3] at this
    simpa [turnB, h4] using this

def cx_Turn.f (re im n : Int) : Option (Int × Int × Int) := if cxIn 2305843009213693952 re im = true then some ((turnB re im n).1, (turnB re im n).2, 0) else some (0, 0, 2)
theorem cx_Turn.calls (a0_0 a0_1 a1 : Int) (r1 r2 r3 : Int) (w : World) (h : cx_Turn.f a0_0 a0_1 a1 = some (r1, r2, r3)) :
    Calls Try.prog 95 #[.agg #[.int .i64 a0_0, .int .i64 a0_1], .int .i64 a1] w fun e w' => e = .returned (.tuple #[.agg #[.int .i64 r1, .int .i64 r2], .int .i64 r3]) ∧ Below w.heap.size w w' := by
  have hmf := makes_func
  have HH := Lib.hid h; clear h
  go_enter Try.func95, Try.ntmps95
  go_wp2_with fail
  have BA := blk_alloc (blk_alloc (blk_new w (.cells #[.int .i64 a0_0, .int .i64 a0_1] 41 (0, 0))) (.cells #[.int .i64 a1] 3 (0, 0))) (.cells #[.int .i64 0, .int .i64 0] 41 (0, 0))
  have BN := blk_alloc (blk_new (w.alloc (.cells #[.int .i64 a0_0, .int .i64 a0_1] 41 (0, 0))) (.cells #[.int .i64 a1] 3 (0, 0))) (.cells #[.int .i64 0, .int .i64 0] 41 (0, 0))
  have BR := blk_new ((w.alloc (.cells #[.int .i64 a0_0, .int .i64 a0_1] 41 (0, 0))).alloc (.cells #[.int .i64 a1] 3 (0, 0))) (.cells #[.int .i64 0, .int .i64 0] 41 (0, 0))
  have HB := below_alloc (below_alloc (below_alloc (Below.refl _ w) (.cells #[.int .i64 a0_0, .int .i64 a0_1] 41 (0, 0))) (.cells #[.int .i64 a1] 3 (0, 0))) (.cells #[.int .i64 0, .int .i64 0] 41 (0, 0))
  simp only [World.size_alloc] at BN BR
  generalize hin : cxIn 2305843009213693952 a0_0 a0_1 = inn at HH
  have HH2 := HH.out
  unfold cx_Turn.f at HH2
  rw [hin] at HH2
  clear HH
  have H_in := Lib.hid hin; clear hin
  refine (within_new 2305843009213693952 a0_0 a0_1 inn _ _ (by omega) (by omega) H_in.out (by simp only [World.size_alloc])).mono ?_
  rintro e w9 ⟨rfl, hb⟩
  replace BA := blk_below (blk_alloc BA _) hb
  replace BN := blk_below (blk_alloc BN _) hb
  replace BR := blk_below (blk_alloc BR _) hb
  replace HB := below_step (below_alloc HB _) hb
  have hsz := blk_lt BR
  clear hb
  cases inn with
  | true =>
    simp only [if_true, Option.some.injEq, Prod.mk.injEq] at HH2
    obtain ⟨rfl, rfl, rfl⟩ := HH2
    go_wp2_with fail
    refine (made_keep 123 w.heap.size _ (turnB a0_0 a0_1 a1).1 (turnB a0_0 a0_1 a1).2 _ (fun args W => enters_ Try.func123 (by kernel_rfl) rfl args W) (by omega) (turn1_calls a1 a0_0 a0_1 H_in.out w.heap.size (w.heap.size + 1) _ (blk_alloc BA _) ((blk_cell (blk_alloc BN _) 0).trans rfl))).mono ?_
    rintro e w8 ⟨rfl, hb, hk⟩
    replace BR := KeepBut.blk hk BR (by omega) (by simp)
    replace HB := HB.trans hb
    clear hb hk BA BN
    have c0 := blk_cell BR 0
    have c1 := blk_cell BR 1
    have f0 := blk_frozen BR 0
    have f1 := blk_frozen BR 1
    go_wp2
    refine bodyPost_ret (results_ct rfl _ _ (w.heap.size + 1 + 1) 41 #[.int .i64 (turnB a0_0 a0_1 a1).1, .int .i64 (turnB a0_0 a0_1 a1).2] (0, 0) _ rfl (blk_put (cs := #[.int .i64 (turnB a0_0 a0_1 a1).1, .int .i64 0]) (blk_put BR 0 _ rfl) 1 _ rfl) Try.underlying41 rfl (by kernel_rfl)) rfl ⟨rfl, below_set (below_set HB (by omega)) (by omega)⟩
  | false =>
    simp only [Bool.false_eq_true, if_false, Option.some.injEq, Prod.mk.injEq] at HH2
    obtain ⟨rfl, rfl, rfl⟩ := HH2
    go_wp2_with fail
    refine (made_no 123 _ _).mono ?_
    rintro e w8 ⟨rfl, hb⟩
    replace BR := blk_below BR hb
    replace HB := below_step HB hb
    clear hb BA BN
    have c0 := blk_cell BR 0
    have c1 := blk_cell BR 1
    have f0 := blk_frozen BR 0
    have f1 := blk_frozen BR 1
    go_wp2
    refine bodyPost_ret (results_ct rfl _ _ (w.heap.size + 1 + 1) 41 #[.int .i64 0, .int .i64 0] (0, 0) _ rfl (blk_put (cs := #[.int .i64 0, .int .i64 0]) (blk_put BR 0 _ rfl) 1 _ rfl) Try.underlying41 rfl (by kernel_rfl)) rfl ⟨rfl, below_set (below_set HB (by omega)) (by omega)⟩
end Go.Proofs.Ytpmkkidljmedaaa.X
namespace Go.Proofs.Ytpmkkidljmedaaa.X
open Go.RowKit Go.Proofs.YtpmkkidljmedaaaW.PrintWords Go.Proofs.YtpmkkidljmedaaaW.PrintLast Go.Proofs.YtpmkkidljmedaaaW.PrintMore
attribute [local go_sem] max2_int min2_int max_two min_two max_three min_three max_four min_four   -- for this text's walks alone
set_option linter.unusedVariables false
set_option linter.unusedSimpArgs false

/-! ### round_Div: function 125 -/
def round_Div.f (a0 : Int) (a1 : Int) : Option (Int × Int) := if a1 < 1 then (some (0, 1)) else (if a1 = 0 then (none) else (if (Int.tmod a0 a1) < 0 then (some (wrap64 ((wrap64 (Int.tdiv a0 a1)) - 1), 0)) else (some (wrap64 (Int.tdiv a0 a1), 0))))
set_option maxHeartbeats 8000000 in
set_option maxRecDepth 100000 in
theorem round_Div.calls (a0 : Int) (a1 : Int) (r1 : Int) (r2 : Int) (w : World) (h : round_Div.f a0 a1 = some (r1, r2)) :
    Calls Try.prog 125 #[.int .i64 a0, .int .i64 a1] w fun e w' => e = .returned (.tuple #[.int .i64 r1, .int .i64 r2]) ∧ Drawn0 w w' := by
  have H : (if a1 < 1 then (some (0, 1)) else (if a1 = 0 then (none) else (if (Int.tmod a0 a1) < 0 then (some (wrap64 ((wrap64 (Int.tdiv a0 a1)) - 1), 0)) else (some (wrap64 (Int.tdiv a0 a1), 0))))) = some (r1, r2) := h
  clear h
  by_cases c3 : a1 < 1
  · rw [if_pos c3] at H
    have c3b0 : decide (a1 < 1) = true := decide_eq_true c3
    clear c3
    simp only [Option.some.injEq, Prod.mk.injEq] at H
    obtain ⟨rfl, rfl⟩ := H
    go_enter Try.func125, Try.ntmps125
    go_wp2
    go_ret2
    exact ⟨by first | rfl | (simp; done) | (simp [*]; done), by repeat (first | exact Drawn0.refl _ | apply Drawn0.step)⟩
  · rw [if_neg c3] at H
    have c3b0 : decide (a1 < 1) = false := decide_eq_false c3
    clear c3
    by_cases c4 : a1 = 0
    · rw [if_pos c4] at H
      exact absurd H (by simp)
    · rw [if_neg c4] at H
      have c4b0 : (a1 == 0) = false := beq_eq_false_iff_ne.mpr c4
      have c4b1 : (a1 != 0) = true := bne_iff_ne.mpr c4
      by_cases c5 : (Int.tmod a0 a1) < 0
      · rw [if_pos c5] at H
        have c5b0 : decide ((Int.tmod a0 a1) < 0) = true := decide_eq_true c5
        clear c5
        simp only [Option.some.injEq, Prod.mk.injEq] at H
        obtain ⟨rfl, rfl⟩ := H
        go_enter Try.func125, Try.ntmps125
        go_wp2
        go_ret2
        exact ⟨by first | rfl | (simp; done) | (simp [*]; done), by repeat (first | exact Drawn0.refl _ | apply Drawn0.step)⟩
      · rw [if_neg c5] at H
        have c5b0 : decide ((Int.tmod a0 a1) < 0) = false := decide_eq_false c5
        clear c5
        simp only [Option.some.injEq, Prod.mk.injEq] at H
        obtain ⟨rfl, rfl⟩ := H
        go_enter Try.func125, Try.ntmps125
        go_wp2
        go_ret2
        exact ⟨by first | rfl | (simp; done) | (simp [*]; done), by repeat (first | exact Drawn0.refl _ | apply Drawn0.step)⟩

end Go.Proofs.Ytpmkkidljmedaaa.X
namespace Go.Proofs.Ytpmkkidljmedaaa.X
open Go.RowKit Go.Proofs.YtpmkkidljmedaaaW.PrintWords Go.Proofs.YtpmkkidljmedaaaW.PrintLast Go.Proofs.YtpmkkidljmedaaaW.PrintMore
attribute [local go_sem] max2_int min2_int max_two min_two max_three min_three max_four min_four   -- for this text's walks alone
set_option linter.unusedVariables false
set_option linter.unusedSimpArgs false

/-! ### arc_div: function 148 -/
def arc_div.f (a0 : Int) (a1 : Int) : Option (Int) := (round_Div.f a0 a1).bind fun bt1 => (some bt1.1)
set_option maxHeartbeats 8000000 in
set_option maxRecDepth 100000 in
theorem arc_div.calls (a0 : Int) (a1 : Int) (r : Int) (w : World) (h : arc_div.f a0 a1 = some r) :
    Calls Try.prog 148 #[.int .i64 a0, .int .i64 a1] w fun e w' => e = .returned (.int .i64 r) ∧ Drawn0 w w' := by
  have H : ((round_Div.f a0 a1).bind fun bt1 => (some bt1.1)) = some r := h
  clear h
  replace H := Option.bind_eq_some_iff.mp H
  obtain ⟨⟨t1, t2⟩, A30, H⟩ := H
  replace H : (some t1) = some r := H
  have A3 := Aside0.mk A30
  clear A30
  obtain rfl := Option.some.inj H
  go_enter Try.func148, Try.ntmps148
  go_wp2_with (first | ((with_reducible refine gate_callee (f := 125) rfl ?_); refine goesL_ (some 10) rfl rfl Try.func125 (by kernel_rfl) rfl #[.int .i64 a0, .int .i64 a1] rfl (by (try simp only [List.map_toArray, List.map_cons, List.map_nil]); first | done | rfl | (simp only [List.length_drop, List.length_take]; rfl)) ?_; (with_reducible refine (round_Div.calls a0 a1 t1 t2 _ A3.out).mono ?_); rintro e w' ⟨rfl, ⟨nd, rfl⟩⟩; refine ⟨_, rfl, ?_⟩))
  go_ret
  exact ⟨by first | rfl | (simp; done) | (simp [*]; done), by repeat (first | exact Drawn0.refl _ | apply Drawn0.step)⟩

end Go.Proofs.Ytpmkkidljmedaaa.X
namespace Go.Proofs.Ytpmkkidljmedaaa.X
open Go.RowKit Go.Proofs.YtpmkkidljmedaaaW.PrintWords Go.Proofs.YtpmkkidljmedaaaW.PrintLast Go.Proofs.YtpmkkidljmedaaaW.PrintMore
attribute [local go_sem] max2_int min2_int max_two min_two max_three min_three max_four min_four
attribute [local go_sem] Oper.semAt_some
set_option linter.unusedVariables false
set_option linter.unusedSimpArgs false

/-- The terms of a number's series from a place on: p, the sign and the odd number there. -/
def arcFrom : Nat → Int → Int → Int → Int → List Int
  | 0, _, _, _, _ => []
  | k + 1, n, p, sg, od => if 0 < p then wrap64 (sg * (p / od)) :: arcFrom k n (p / n / n) (-sg) (od + 2) else []
def arcTerms (n : Int) : List Int := arcFrom 56 n (72057594037927936 / n) 1 1
def sumW (xs : List Int) : Int := xs.foldl (fun s x => wrap64 (s + x)) 0
theorem sumW_snoc (xs : List Int) (x : Int) : sumW (xs ++ [x]) = wrap64 (sumW xs + x) := by simp [sumW]

theorem div_plain (x d : Int) (h0 : 0 ≤ x) (h1 : x < 9223372036854775808) (hd : 1 ≤ d) : arc_div.f x d = some (x / d) := by
  have h2 : ¬ d < 1 := by omega
  have h3 : ¬ d = 0 := by omega
  have h4 : ¬ Int.tmod x d < 0 := by
    have := Int.tmod_nonneg d h0
    omega
  have h5 : Int.tdiv x d = x / d := Int.tdiv_eq_ediv_of_nonneg h0
  have h6 : 0 ≤ x / d := Int.ediv_nonneg h0 (by omega)
  have h7 : x / d ≤ x := Int.ediv_le_self d h0
  unfold arc_div.f round_Div.f
  rw [if_neg h2, if_neg h3, if_neg h4, h5, HM.wrap64_id _ (by omega) (by omega)]
  rfl
theorem div_call (x d : Int) (w : World) (h0 : 0 ≤ x) (h1 : x < 9223372036854775808) (hd : 1 ≤ d) :
    Calls Try.prog 148 #[.int .i64 x, .int .i64 d] w fun e w' => e = .returned (.int .i64 (x / d)) ∧ Drawn0 w w' := arc_div.calls x d (x / d) w (div_plain x d h0 h1 hd)

theorem div_quiet (x d : Int) (w : World) (h0 : 0 ≤ x) (h1 : x < 9223372036854775808) (hd : 1 ≤ d) :
    Calls Try.prog 148 #[.int .i64 x, .int .i64 d] w fun e w' => e = .returned (.int .i64 (x / d)) ∧ ∃ m, w' = w.drewN m := (div_call x d w h0 h1 hd).mono fun _ _ ⟨h, ⟨k⟩⟩ => ⟨h, k⟩
theorem grows_drewN (w : World) (n : Nat) : w.grownBy (w.drewN n) none := ⟨rfl, rfl, rfl, Nat.le_refl _, fun _ _ _ => rfl⟩
theorem quart (p n : Int) (k : Nat) (hp : 0 < p) (h2 : 2 ≤ n) (h : p < 2 ^ k) : 0 < k ∧ 0 ≤ p / n ∧ p / n ≤ p ∧ 0 ≤ p / n / n ∧ p / n / n < 2 ^ (k - 1) ∧ p / n / n < p := by
  have a0 : 0 ≤ p / n := Int.ediv_nonneg (by omega) (by omega)
  have a1 : p / n ≤ p / 2 := by
    have := Int.mul_ediv_add_emod p n
    have h3 := Int.emod_nonneg p (show n ≠ 0 by omega)
    have h4 : 2 * (p / n) ≤ n * (p / n) := Int.mul_le_mul_of_nonneg_right h2 a0
    omega
  have b0 : 0 ≤ p / n / n := Int.ediv_nonneg a0 (by omega)
  have b1 : p / n / n ≤ p / n := Int.ediv_le_self n a0
  cases k with
  | zero => simp at h; omega
  | succ k =>
    rw [Int.pow_succ] at h
    refine ⟨by omega, a0, by omega, b0, ?_, by omega⟩
    rw [Nat.add_sub_cancel]
    omega

/-- The captured number lies as it lay. -/
def KeepsAt (Bn : Nat) (A B : World) : Prop := ∀ v, A.cell? ⟨Bn, 0, none⟩ = some v → B.cell? ⟨Bn, 0, none⟩ = some v
theorem keepsAt_t {Bn : Nat} {A B C : World} (h : KeepsAt Bn A B) (k : KeepsAt Bn B C) : KeepsAt Bn A C := fun v hv => k v (h v hv)
theorem keepsAt_b {Bn : Nat} (W : World) (l : Nat) (o o' : Obj) (hl : W.heap[l]? = some o) (ho : o.isCells = false) : KeepsAt Bn W (W.putObj l o') :=
  fun v hv => cell_kept hv (grownBy_putObj' W l o') (fun r e => by cases e; exact ⟨o, hl, ho⟩)
theorem keepsAt_set {Bn g : Nat} (W : World) (j : Nat) (u : Value) (h : Bn ≠ g) : KeepsAt Bn W (W.setCell ⟨g, j, none⟩ u) := fun v hv => (cell_far (a := ⟨Bn, 0, none⟩) (p := ⟨g, j, none⟩) h u).trans hv

theorem terms_in (n : Int) (h2 : 2 ≤ n) (h44 : n ≤ 17592186044416) (m : Nat) (hm : 1 ≤ m) (Bn : Nat) (w : World) (hc : w.cell? ⟨Bn, 0, none⟩ = some (.int .i64 n)) :
    SeqStopsK Fence.wide m Try.prog 147 #[.pointer (some ⟨Bn, 0, none⟩)] (fun x : Int => #[.int .i64 x]) (KeepsAt Bn) (fun xs => xs = arcTerms n) (fun _ => True) 57 w := by
  intro l J Jx W hW hJ hJx hY h0
  have hcW : W.cell? ⟨Bn, 0, none⟩ = some (.int .i64 n) := (hW.cell (p := ⟨Bn, 0, none⟩) (World.block_lt_of_cell? w _ hc)).trans hc
  refine callsIn_of_wp Try.func147 rfl trivial ?_ rfl
  simp only [Try.ntmps147, List.size_toArray, List.length_cons, List.length_nil, Nat.reduceAdd, Nat.reduceSub, Array.replicate_succ, Array.replicate_zero, List.push_toArray, List.append_toArray, List.nil_append, List.cons_append]
  gi_wp2_with fail
  refine ⟨trivial, ?_⟩
  refine (callsIn_wide.2 (div_call 72057594037927936 n _ (by omega) (by omega) (by omega))).mono ?_
  rintro e w1 ⟨rfl, ⟨n1, rfl⟩⟩
  gi_wp2_with fail
  gi_loopw [3, 4, 5] (fun v3 v4 v5 wr => ∃ (pre : List Int) (k : Nat) (p sg od : Int), v3 = .int .i64 sg ∧ v4 = .int .i64 od ∧ v5 = .int .i64 p ∧ Aside0 (pre ++ arcFrom k n p sg od = arcTerms n) ∧ Aside0 (p < 2 ^ k) ∧ Aside0 (pre.length + k = 56) ∧ 0 ≤ p ∧ p ≤ 72057594037927936 ∧ -1 ≤ sg ∧ sg ≤ 1 ∧ 1 ≤ od ∧ od ≤ 1 + 2 * pre.length ∧ Aside0 (wr.cell? ⟨Bn, 0, none⟩ = some (.int .i64 n)) ∧ Aside0 (J pre wr)) (fun _ _ v5 _ => (intOf v5).toNat)
  case atStart =>
    have hq := quart 72057594037927936 n 57 (by omega) h2 (by decide)
    have h56 : (72057594037927936 / n : Int) < 2 ^ 56 := by
      have h3 := Int.mul_ediv_add_emod 72057594037927936 n
      have h4 := Int.emod_nonneg 72057594037927936 (show n ≠ 0 by omega)
      have h5 : 2 * (72057594037927936 / n) ≤ n * (72057594037927936 / n) := Int.mul_le_mul_of_nonneg_right h2 hq.2.1
      have e56 : (2 : Int) ^ 56 = 72057594037927936 := by decide
      omega
    exact ⟨[], 56, 72057594037927936 / n, 1, 1, rfl, rfl, rfl, ⟨rfl⟩, ⟨h56⟩, ⟨rfl⟩, by omega, by omega, by omega, by omega, by omega, by simp, ⟨hcW⟩, ⟨hJ _ _ _ none h0 (grows_drewN _ _) (fun r e => by cases e)⟩⟩
  case round =>
    obtain ⟨pre, k, p, sg, od, rfl, rfl, rfl, H1, H2, H3, hp0, hp1, hs0, hs1, ho0, ho1, HC, HJ⟩ := hrel
    have hl := H3.out
    have hcell := HC.out
    by_cases hp : 0 < p
    · obtain ⟨q1, q2, q3, q4, q5, q6⟩ := quart p n k hp h2 H2.out
      have q5' := Aside0.mk q5
      clear q5
      gi_wp2_with fail
      refine ⟨trivial, ?_⟩
      refine (callsIn_wide.2 (div_call p od _ (by omega) (by omega) (by omega))).mono ?_
      rintro e w1 ⟨rfl, ⟨n2, rfl⟩⟩
      have hlen : pre.length < 57 := by omega
      obtain ⟨fn, tmps, assign, body, hy, hR⟩ := hY pre (wrap64 (sg * (p / od))) (wr.drewN n2) (hJ _ _ _ none HJ.out (grows_drewN _ _) (fun r e => by cases e)) hlen
      clear hlen
      gi_wp2_with fail
      refine hR.mono ?_
      rintro e W3 (⟨rfl, hJ3, hk3⟩ | ⟨rfl, hJx3⟩)
      · have hc3 : W3.cell? ⟨Bn, 0, none⟩ = some (.int .i64 n) := hk3 _ hcell
        clear hy hR hk3 hcell
        gi_wp2_with fail
        refine wpIn_wide.2 ?_
        go_quiet ((go_at_call 148; with_reducible refine Calls.quiet_of (div_quiet _ _ _ ?_ ?_ ?_) <;> omega))
        gi_wp2
        have hk1 : k - 1 + 1 = k := by omega
        refine ⟨⟨pre ++ [wrap64 (sg * (p / od))], k - 1, p / n / n, -sg, od + 2, rfl, rfl, rfl, ⟨?_⟩, q5', ⟨by rw [List.length_append, List.length_singleton]; omega⟩, q4, by omega, by omega, by omega, by omega, by rw [List.length_append, List.length_singleton]; omega, ⟨hc3⟩, ⟨hJ _ _ _ none hJ3 (grows_drewN _ _) (fun r e => by cases e)⟩⟩, by simp [intOf]; omega⟩
        rw [← H1.out]
        conv => rhs; rw [← hk1, arcFrom, if_pos hp]
        simp
      · clear hy hR hcell
        gi_wp2
        refine bodyPost_ret (results_none rfl _ _ _) rfl ?_
        exact ⟨⟨_, rfl⟩, .inr ⟨_, trivial, hJx3⟩⟩
    · have hp00 : p = 0 := by omega
      have e : pre = arcTerms n := by
        have := H1.out
        cases k with
        | zero => simpa [arcFrom] using this
        | succ k => rw [arcFrom, if_neg hp, List.append_nil] at this; exact this
      have E := Lib.hid e
      clear e hp00
      gi_wp2
      go_end0
      rw [← E.out]
      exact ⟨⟨_, rfl⟩, .inl HJ.out⟩

theorem terms_calls (n : Int) (w : World) : Calls Try.prog 145 #[.int .i64 n] w fun e w' => e = .returned (.func (.func 147) #[] #[.pointer (some ⟨w.heap.size, 0, none⟩)]) ∧ w' = w.alloc (.cells #[.int .i64 n] 3) := by
  have hmf : ∀ (fn : Fn) (first cap : Array Value) (w : World), (Instr.makeFunc fn first cap).run Try.prog w = .ok (.func fn first cap) w := fun _ _ _ _ => rfl
  go_enter Try.func145, Try.ntmps145
  go_wp2
  go_ret
  exact ⟨rfl, rfl⟩

theorem cell_new_l (W : World) (v : Value) (t : TypeId) : (W.alloc (.cells #[v] t)).cell? ⟨W.heap.size, 0, none⟩ = some v ∧ (W.alloc (.cells #[v] t)).frozen? ⟨W.heap.size, 0, none⟩ = false :=
  ⟨(blk_cell (blk_new W (.cells #[v] t (0, 0))) 0).trans rfl, blk_frozen (blk_new W (.cells #[v] t (0, 0))) 0⟩
theorem cell_alloc_l {W : World} {a : Addr} {v : Value} (o : Obj) (h : W.cell? a = some v) : (W.alloc o).cell? a = some v := cell_kept h (World.grownBy_alloc W o none) (fun r e => by cases e)
theorem frozen_alloc_l {W : World} {a : Addr} {v : Value} (o : Obj) (h : W.cell? a = some v) (hf : W.frozen? a = false) : (W.alloc o).frozen? a = false := (frozen_kept h (World.grownBy_alloc W o none) (fun r e => by cases e)).trans hf
def arcSum (n : Int) : Int := sumW (arcTerms n)
theorem sum_in (n : Int) (h2 : 2 ≤ n) (h44 : n ≤ 17592186044416) (w : World) :
    CallsIn Fence.wide 3 Try.prog 141 #[.int .i64 n] w fun e W' => e = .returned (.int .i64 (arcSum n)) ∧ Below w.heap.size w W' := by
  refine callsIn_of_wp_marks Try.func141 rfl trivial ?_ rfl
  simp only [Try.ntmps141, List.size_toArray, List.length_cons, List.length_nil, Nat.reduceAdd, Nat.reduceSub, Array.replicate_succ, Array.replicate_zero, List.push_toArray, List.append_toArray, List.nil_append, List.cons_append]
  gi_wp2_with (refine ⟨trivial, ?_⟩; gi_at_call 145; refine (callsIn_wide.2 (terms_calls _ _)).mono ?_; rintro e w' ⟨rfl, rfl⟩)
  have hs := cell_new_l w (.int .i64 0) 3
  have hb := cell_new_l (w.alloc (.cells #[.int .i64 0] 3)) (.int .i64 n) 3
  rw [World.size_alloc] at hb
  have hB0 : Below w.heap.size w ((w.alloc (.cells #[.int .i64 0] 3)).alloc (.cells #[.int .i64 n] 3)) := ((Below.refl _ w).alloc (Nat.le_refl _) _).alloc (by simp) _
  refine wpIn_rangeFunc_ownF rfl (by omega) (gf := 147) (lb := #[.pointer (some ⟨w.heap.size + 1, 0, none⟩)]) rfl trivial (fun args W => enters_ Try.func147 (by kernel_rfl) rfl args W)
    (terms_in n h2 h44 2 (by omega) (w.heap.size + 1) _ hb.1) keepsAt_t (fun W l o o' _ hl ho _ => keepsAt_b W l o o' hl ho) (Below.refl _ _) (fun _ => rfl)
    (fun pre W => (W.cell? ⟨w.heap.size, 0, none⟩ = some (.int .i64 (sumW pre)) ∧ W.frozen? ⟨w.heap.size, 0, none⟩ = false) ∧ Below w.heap.size w W)
    (fun _ _ _ => False)
    (OwnFrom.and (Own.from (fun s A B row hs hg hr => ⟨cell_kept hs.1 hg hr, (frozen_kept hs.1 hg hr).trans hs.2⟩) _) (ownFrom_below (Nat.le_refl _) (by simp; omega)))
    (fun _ _ _ _ _ hs _ _ => hs)
    ⟨⟨cell_alloc_l _ hs.1, frozen_alloc_l _ hs.1 hs.2⟩, hB0⟩
    (fun x => { tmps := #[.int .i64 n, undef, .int .i64 0, .pointer (some ⟨w.heap.size, 0, none⟩), .int .i64 x, .int .i64 n, .func (.func 147) #[] #[.pointer (some ⟨w.heap.size + 1, 0, none⟩)], .int .i64 x, undef, undef, undef, undef], defers := [] }) ?assign ?body ?done ?stop
  case assign =>
    intro l x W K hK
    gi_wp2
    exact hK
  case body =>
    rintro l pre x W ⟨⟨hc, hf⟩, hB⟩ _
    gi_wp2
    exact ⟨KeepsOthers.setCell _ _ _, keepsAt_set W 0 _ (by omega), ⟨by rw [sumW_snoc]; exact World.cell?_setCell_same' _ _ _ (by rw [hc]; rfl), by rw [World.frozen?_setCell]; exact hf⟩, hB.setCell (p := ⟨w.heap.size, 0, none⟩) (Nat.le_refl _) _⟩
  case done =>
    rintro D ys W hD rfl ⟨⟨hc, _⟩, hB⟩ hK
    gi_wp2
    refine ⟨by simp, .inl ⟨_, _, rfl, run_takeDeferred hK, ?_⟩⟩
    exact ⟨_, results_tmp rfl _ _ _, rfl, hB.trans (belowK_b (w := w) (Nat.le_refl _) W D _ _ (by simp at hD; omega) hK rfl rfl)⟩
  case stop =>
    rintro D c pre W _ _ h _
    exact h.elim

/-- The sum of a number's terms: the angle whose tangent is 1 divided by it. -/
def arc_sum.f (n : Int) : Option Int := if 2 ≤ n ∧ n ≤ 17592186044416 then some (arcSum n) else none
theorem arc_sum.calls (a0 r : Int) (w : World) (h : arc_sum.f a0 = some r) : Calls Try.prog 141 #[.int .i64 a0] w fun e w' => e = .returned (.int .i64 r) ∧ Below w.heap.size w w' := by
  unfold arc_sum.f at h
  split at h
  · rename_i hb
    cases h
    exact callsIn_wide.1 (sum_in a0 hb.1 hb.2 w)
  · cases h
end Go.Proofs.Ytpmkkidljmedaaa.X
namespace Go.Proofs.Ytpmkkidljmedaaa.X
open Go.RowKit Go.Proofs.YtpmkkidljmedaaaW.PrintWords Go.Proofs.YtpmkkidljmedaaaW.PrintLast Go.Proofs.YtpmkkidljmedaaaW.PrintMore
attribute [local go_sem] max2_int min2_int max_two min_two max_three min_three max_four min_four   -- for this text's walks alone
set_option linter.unusedVariables false
set_option linter.unusedSimpArgs false

/-! ### arc_Quarter: function 136 -/
def arc_Quarter.f  : Option (Int) := (arc_sum.f 2).bind fun t1 => ((arc_sum.f 3).bind fun t2 => (some (wrap64 (t1 + t2))))
set_option maxHeartbeats 8000000 in
set_option maxRecDepth 100000 in
theorem arc_Quarter.calls  (r : Int) (w : World) (h : arc_Quarter.f  = some r) :
    Calls Try.prog 136 #[] w fun e w' => e = .returned (.int .i64 r) ∧ Below w.heap.size w w' := by
  have HB := Aside0.mk (Below.refl w.heap.size w)
  have H : ((arc_sum.f 2).bind fun t1 => ((arc_sum.f 3).bind fun t2 => (some (wrap64 (t1 + t2))))) = some r := h
  clear h
  replace H := Option.bind_eq_some_iff.mp H
  obtain ⟨t1, A10, H⟩ := H
  replace H : ((arc_sum.f 3).bind fun t2 => (some (wrap64 (t1 + t2)))) = some r := H
  have A1 := Aside0.mk A10
  clear A10
  replace H := Option.bind_eq_some_iff.mp H
  obtain ⟨t2, A20, H⟩ := H
  replace H : (some (wrap64 (t1 + t2))) = some r := H
  have A2 := Aside0.mk A20
  clear A20
  obtain rfl := Option.some.inj H
  go_enter Try.func136, Try.ntmps136
  go_wp2_with (first | ((with_reducible refine gate_callee (f := 141) rfl ?_); refine goesL_ (some 1) rfl rfl Try.func141 (by kernel_rfl) rfl #[.int .i64 2] rfl (by (try simp only [List.map_toArray, List.map_cons, List.map_nil]); first | done | rfl | (simp only [List.length_drop, List.length_take]; rfl)) ?_; (with_reducible refine (arc_sum.calls 2 t1 _ A1.out).mono ?_); rintro e w3 ⟨rfl, hb⟩; refine ⟨_, rfl, ?_⟩; have n0_ := Aside0.mk (below_step (by repeat (first | (with_reducible first | exact HB.out | apply below_alloc | apply pw_below_drewN | apply below_drew1) | exact HB.out)) hb); clear HB; have HB := n0_; clear n0_; (try clear hb); (try clear hb2); (try clear hk); (try clear hi)) | ((with_reducible refine gate_callee (f := 141) rfl ?_); refine goesL_ (some 2) rfl rfl Try.func141 (by kernel_rfl) rfl #[.int .i64 3] rfl (by (try simp only [List.map_toArray, List.map_cons, List.map_nil]); first | done | rfl | (simp only [List.length_drop, List.length_take]; rfl)) ?_; (with_reducible refine (arc_sum.calls 3 t2 _ A2.out).mono ?_); rintro e w4 ⟨rfl, hb⟩; refine ⟨_, rfl, ?_⟩; have n0_ := Aside0.mk (below_step (by repeat (first | (with_reducible first | exact HB.out | apply below_alloc | apply pw_below_drewN | apply below_drew1) | exact HB.out)) hb); clear HB; have HB := n0_; clear n0_; (try clear hb); (try clear hb2); (try clear hk); (try clear hi)))
  go_ret
  exact ⟨by first | rfl | (simp [errW_none, errW_some] <;> rfl) | (simp [*, errW_none, errW_some] <;> rfl), by repeat (first | (with_reducible first | exact HB.out | apply below_alloc | apply pw_below_drewN | apply below_drew1) | exact HB.out)⟩

end Go.Proofs.Ytpmkkidljmedaaa.X
namespace Go.Proofs.Ytpmkkidljmedaaa.X
open Go.RowKit Go.Proofs.YtpmkkidljmedaaaW.PrintWords Go.Proofs.YtpmkkidljmedaaaW.PrintLast Go.Proofs.YtpmkkidljmedaaaW.PrintMore
attribute [local go_sem] max2_int min2_int max_two min_two max_three min_three max_four min_four   -- for this text's walks alone
set_option linter.unusedVariables false
set_option linter.unusedSimpArgs false

/-! ### arc_Arc: function 149 -/
def arc_Arc.f (a0 : Int) : Option (Int × Int) := if a0 < 2 then (some (0, 1)) else (if a0 > 17592186044416 then (some (0, 1)) else ((arc_sum.f a0).bind fun t1 => (some (t1, 0))))
set_option maxHeartbeats 8000000 in
set_option maxRecDepth 100000 in
theorem arc_Arc.calls (a0 : Int) (r1 : Int) (r2 : Int) (w : World) (h : arc_Arc.f a0 = some (r1, r2)) :
    Calls Try.prog 149 #[.int .i64 a0] w fun e w' => e = .returned (.tuple #[.int .i64 r1, .int .i64 r2]) ∧ Below w.heap.size w w' := by
  have HB := Aside0.mk (Below.refl w.heap.size w)
  have H : (if a0 < 2 then (some (0, 1)) else (if a0 > 17592186044416 then (some (0, 1)) else ((arc_sum.f a0).bind fun t1 => (some (t1, 0))))) = some (r1, r2) := h
  clear h
  by_cases c2 : a0 < 2
  · rw [if_pos c2] at H
    have c2b0 : decide (a0 < 2) = true := decide_eq_true c2
    clear c2
    simp only [Option.some.injEq, Prod.mk.injEq] at H
    obtain ⟨rfl, rfl⟩ := H
    go_enter Try.func149, Try.ntmps149
    go_wp2
    go_ret2
    exact ⟨by first | rfl | (simp [errW_none, errW_some] <;> rfl) | (simp [*, errW_none, errW_some] <;> rfl), by repeat (first | (with_reducible first | exact HB.out | apply below_alloc | apply pw_below_drewN | apply below_drew1) | exact HB.out)⟩
  · rw [if_neg c2] at H
    have c2b0 : decide (a0 < 2) = false := decide_eq_false c2
    clear c2
    by_cases c3 : a0 > 17592186044416
    · rw [if_pos c3] at H
      have c3b0 : decide (17592186044416 < a0) = true := decide_eq_true c3
      clear c3
      simp only [Option.some.injEq, Prod.mk.injEq] at H
      obtain ⟨rfl, rfl⟩ := H
      go_enter Try.func149, Try.ntmps149
      go_wp2
      go_ret2
      exact ⟨by first | rfl | (simp [errW_none, errW_some] <;> rfl) | (simp [*, errW_none, errW_some] <;> rfl), by repeat (first | (with_reducible first | exact HB.out | apply below_alloc | apply pw_below_drewN | apply below_drew1) | exact HB.out)⟩
    · rw [if_neg c3] at H
      have c3b0 : decide (17592186044416 < a0) = false := decide_eq_false c3
      clear c3
      replace H := Option.bind_eq_some_iff.mp H
      obtain ⟨t1, A40, H⟩ := H
      replace H : (some (t1, 0)) = some (r1, r2) := H
      have A4 := Aside0.mk A40
      clear A40
      simp only [Option.some.injEq, Prod.mk.injEq] at H
      obtain ⟨rfl, rfl⟩ := H
      go_enter Try.func149, Try.ntmps149
      go_wp2_with (first | ((with_reducible refine gate_callee (f := 141) rfl ?_); refine goesL_ (some 11) rfl rfl Try.func141 (by kernel_rfl) rfl #[.int .i64 a0] rfl (by (try simp only [List.map_toArray, List.map_cons, List.map_nil]); first | done | rfl | (simp only [List.length_drop, List.length_take]; rfl)) ?_; (with_reducible refine (arc_sum.calls a0 t1 _ A4.out).mono ?_); rintro e w5 ⟨rfl, hb⟩; refine ⟨_, rfl, ?_⟩; have n0_ := Aside0.mk (below_step (by repeat (first | (with_reducible first | exact HB.out | apply below_alloc | apply pw_below_drewN | apply below_drew1) | exact HB.out)) hb); clear HB; have HB := n0_; clear n0_; (try clear hb); (try clear hb2); (try clear hk); (try clear hi)))
      go_ret2
      exact ⟨by first | rfl | (simp [errW_none, errW_some] <;> rfl) | (simp [*, errW_none, errW_some] <;> rfl), by repeat (first | (with_reducible first | exact HB.out | apply below_alloc | apply pw_below_drewN | apply below_drew1) | exact HB.out)⟩

end Go.Proofs.Ytpmkkidljmedaaa.X
namespace Go.Proofs.Ytpmkkidljmedaaa.X
open Go.RowKit Go.Proofs.YtpmkkidljmedaaaW.PrintWords Go.Proofs.YtpmkkidljmedaaaW.PrintLast Go.Proofs.YtpmkkidljmedaaaW.PrintMore
attribute [local go_sem] max2_int min2_int max_two min_two max_three min_three max_four min_four
set_option linter.unusedVariables false
set_option linter.unusedSimpArgs false

/-- The angle of a step. -/
def angV (i : Nat) : Int := if i = 0 then wrap64 (arcSum 2 + arcSum 3) else arcSum (2 ^ i)
/-- The first k numbers, and zeros behind them. -/
def angA (v : Nat → Int) (k : Nat) : Array Value := ((List.range 45).map fun i => Value.int .i64 (if i < k then v i else 0)).toArray
theorem angA_size (v : Nat → Int) (k : Nat) : (angA v k).size = 45 := by simp [angA]
theorem angA_get (v : Nat → Int) (k i : Nat) (h : i < 45) : (angA v k)[i]? = some (.int .i64 (if i < k then v i else 0)) := by simp [angA, h]
theorem angA_set (v : Nat → Int) (k : Nat) (h : k < 45) : (angA v k).setIfInBounds k (.int .i64 (v k)) = angA v (k + 1) := by
  apply Array.ext_getElem?
  intro i
  rw [Array.getElem?_setIfInBounds, angA_size]
  by_cases hi : i < 45
  · rw [angA_get _ _ _ hi, angA_get _ _ _ hi]
    by_cases e : k = i
    · subst e; simp [h]
    · rw [if_neg e]
      by_cases l : i < k
      · rw [if_pos l, if_pos (by omega)]
      · rw [if_neg l, if_neg (by omega)]
  · have h1 : (angA v k)[i]? = none := Array.getElem?_eq_none (by rw [angA_size]; omega)
    have h2 : (angA v (k + 1))[i]? = none := Array.getElem?_eq_none (by rw [angA_size]; omega)
    rw [h1, h2, if_neg (by omega)]
theorem angA_one (v : Nat → Int) (k : Nat) : ((angA v k).all (·.oneCell')) = true := by
  simp [angA]
  intro a ha
  rfl

theorem below_row {B g : Nat} {w0 w : World} (hb : Below B w0 w) (hBg : B ≤ g) (cs : Array Value) : Below B w0 (w.setRow g cs) :=
  hb.trans ⟨rfl, rfl, rfl, by simp [World.setRow], fun k hk => setRow_other w g k cs (by omega)⟩
theorem quarter_val : arc_Quarter.f = some (angV 0) := by
  unfold arc_Quarter.f arc_sum.f
  rw [if_pos (by omega), if_pos (by omega)]
  rfl
theorem arc_val (i : Nat) (h1 : 1 ≤ i) (h2 : i < 45) : arc_Arc.f (2 ^ i) = some (angV i, 0) := by
  have a := HM.pow_mono h1
  have b := HM.pow_mono (show i ≤ 44 by omega)
  have e44 : (2 : Int) ^ 44 = 17592186044416 := by decide
  have e1 : (2 : Int) ^ 1 = 2 := by decide
  rw [e44] at b
  rw [e1] at a
  have hi : i ≠ 0 := by omega
  unfold arc_Arc.f arc_sum.f
  generalize hp : (2 : Int) ^ i = p at *
  simp only [angV, if_neg hi, hp]
  rw [if_neg (by omega), if_neg (by omega), if_pos ⟨a, b⟩]
  rfl

set_option maxRecDepth 100000 in
theorem angles_walk (v : Nat → Int) (hq : arc_Quarter.f = some (v 0)) (ha : ∀ i : Nat, 1 ≤ i → i < 45 → arc_Arc.f (2 ^ i) = some (v i, 0)) (w : World) :
    Calls Try.prog 146 #[] w fun e w' => e = .returned (.agg (angA v 45)) ∧ Below w.heap.size w w' := by
  have HQ := Lib.hid hq
  have HA := Lib.hid ha
  clear hq ha
  go_enter Try.func146, Try.ntmps146
  go_wp2_with fail
  change Calls _ _ _ (w.alloc (.cells (angA v 0) 154 (0, 0))) _
  have R := blk_new w (.cells (angA v 0) 154 (0, 0))
  have HB := below_alloc (Below.refl _ w) (.cells (angA v 0) 154 (0, 0))
  obtain ⟨W0, hW⟩ : ∃ W, W = w.alloc (.cells (angA v 0) 154 (0, 0)) := ⟨_, rfl⟩
  rw [← hW] at R HB ⊢
  clear hW
  obtain ⟨q, hq⟩ : ∃ q, q = w.heap.size := ⟨_, rfl⟩
  rw [← hq] at R ⊢
  have hq1 : w.heap.size ≤ q := by omega
  clear hq
  refine (arc_Quarter.calls (v 0) _ HQ.out).mono ?_
  rintro e w1 ⟨rfl, hb⟩
  replace R := blk_below R hb
  have hq2 := blk_lt R
  replace HB := below_step HB hb
  have HR := Aside0.mk R
  have HB' := Aside0.mk HB
  clear hb HQ R HB W0
  go_wp2_with ((with_reducible refine gate_store (t := 154) (p := 1) rfl ?_); refine wpList_store_row rfl 154 _ _ rfl w1.heap.size (angA v 1) rfl rfl 154 (angA v 0) (blk_new w1 (.cells (angA v 0) 154 (0, 0))) (by rw [angA_size]; kernel_rfl) (by rw [angA_size, angA_size]) (angA_one v 1) ?_)
  have G : ((w1.alloc (.cells (angA v 0) 154 (0, 0))).setRow w1.heap.size (angA v 1)).heap[w1.heap.size]? = some (.cells (angA v 1) 154 (0, 0)) := setRow_heap _ _ _ _ _ _ (blk_new w1 _)
  have R := (setRow_other (w1.alloc (.cells (angA v 0) 154 (0, 0))) w1.heap.size q (angA v 1) (by omega)).trans (blk_alloc HR.out _)
  have HB := below_row (below_alloc HB'.out (.cells (angA v 0) 154 (0, 0))) (g := w1.heap.size) HB'.out.size (angA v 1)
  have hg1 : w.heap.size ≤ w1.heap.size := HB'.out.size
  clear HR HB'
  replace G := Aside0.mk G
  replace R := Aside0.mk R
  replace HB := Aside0.mk HB
  generalize w1.heap.size = g at *
  go_loopw [2] (fun v2 wr => ∃ k : Nat, 1 ≤ k ∧ k ≤ 45 ∧ v2 = .int .i64 k ∧ Aside0 (wr.heap[g]? = some (.cells (angA v k) 154 (0, 0))) ∧ Aside0 (wr.heap[q]? = some (.cells (angA v 0) 154 (0, 0))) ∧ Aside0 (Below w.heap.size w wr)) (fun v2 _ => 45 - (intOf v2).toNat)
  case atStart => exact ⟨1, by omega, by omega, rfl, G, R, HB⟩
  case round =>
    clear G R HB
    obtain ⟨k, hk1, hk2, rfl, G, R, HB⟩ := hrel
    by_cases hlt : k < 45
    · have hA := Lib.hid (HA.out k hk1 hlt)
      have hp := HM.pow_pos k
      have hm := HM.pow_lt62 (i := k) (by omega)
      have hw : wrap64 (2 ^ k) = 2 ^ k := HM.wrap64_id _ (by omega) (by omega)
      replace hw := Lib.hid hw
      clear hp hm
      go_wp2_with fail
      rw [hw.out]
      refine (arc_Arc.calls (2 ^ k) (v k) 0 _ hA.out).mono ?_
      rintro e w2 ⟨rfl, hb⟩
      replace G := Aside0.mk (blk_below G.out hb)
      replace R := Aside0.mk (blk_below R.out hb)
      replace HB := Aside0.mk (below_step HB.out hb)
      clear hb hA hw
      have cc : w2.cell? ⟨g, k, none⟩ = some (.int .i64 0) := (blk_cell G.out k).trans ((angA_get v k k hlt).trans (by simp))
      have ff := blk_frozen G.out k
      go_wp2
      go_roundw
      case rel => exact ⟨k + 1, by omega, by omega, by go_num, ⟨blk_put G.out k _ (angA_set v k hlt)⟩, ⟨blk_far (p := ⟨g, k, none⟩) R.out (Nat.ne_of_lt hq2) _⟩, ⟨below_set HB.out hg1⟩⟩
      case measure => simp [intOf]; omega
    · obtain rfl : k = 45 := by omega
      clear hk1 hk2 hlt HA
      go_wp2_with (first
        | ((with_reducible refine gate_dst (N := 17) rfl ?_); refine wpList_load_row rfl 154 _ rfl g rfl 154 (angA v 45) (0, 0) _ G.out Try.underlying154 rfl (by rw [angA_size]; kernel_rfl) ?_)
        | ((with_reducible refine gate_store (t := 154) (p := 0) rfl ?_); refine wpList_store_row rfl 154 _ _ rfl q (angA v 45) rfl rfl 154 (angA v 0) R.out (by rw [angA_size]; kernel_rfl) (by rw [angA_size, angA_size]) (angA_one v 45) ?_))
      exact bodyPost_ret (results_cell_row rfl _ _ q 154 (angA v 45) (0, 0) _ rfl (setRow_heap _ _ _ _ _ _ R.out) Try.underlying154 rfl (by rw [angA_size]; kernel_rfl)) rfl ⟨rfl, below_row HB.out hq1 _⟩

theorem angles_calls (w : World) : Calls Try.prog 146 #[] w fun e w' => e = .returned (.agg (angA angV 45)) ∧ Below w.heap.size w w' := angles_walk angV quarter_val arc_val w

theorem index_angles (v : Nat → Int) (i : Nat) (h : i < 45) (W : World) : (Instr.index 154 (.agg (angA v 45)) (.int .i64 (i : Int))).run Try.prog W = .ok (.int .i64 (v i)) W := by
  have hu := run_underlying Try.underlying154 W
  have hg := angA_get v 45 i h
  rw [if_pos h] at hg
  have hlt : (i : Int) < 45 := by omega
  simp [Instr.index, go_sem, hu, hlt, hg]
  intro h2
  omega
/-- A turn by the angles from the i-th on. -/
def gainFrom : List Int → Nat → Int → Int → Int → Int × Int × Int
  | [], _, re, im, z => (re, im, z)
  | a :: l, i, re, im, z => if 0 ≤ z then gainFrom l (i + 1) (wrap64 (re - im / 2 ^ i)) (wrap64 (im + re / 2 ^ i)) (wrap64 (z - a)) else gainFrom l (i + 1) (wrap64 (re + im / 2 ^ i)) (wrap64 (im - re / 2 ^ i)) (wrap64 (z + a))
def angL (v : Nat → Int) : List Int := (List.range 45).map v
theorem angL_drop (v : Nat → Int) (i : Nat) (h : i < 45) : (angL v).drop i = v i :: (angL v).drop (i + 1) := by
  rw [List.drop_eq_getElem_cons (by simp [angL]; omega)]
  simp [angL]
theorem gain_yes (v : Nat → Int) (i : Nat) (h : i < 45) (re im z : Int) (hz : 0 ≤ z) : gainFrom ((angL v).drop i) i re im z = gainFrom ((angL v).drop (i + 1)) (i + 1) (wrap64 (re - im / 2 ^ i)) (wrap64 (im + re / 2 ^ i)) (wrap64 (z - v i)) := by
  rw [angL_drop v i h, gainFrom, if_pos hz]
theorem gain_no (v : Nat → Int) (i : Nat) (h : i < 45) (re im z : Int) (hz : ¬ 0 ≤ z) : gainFrom ((angL v).drop i) i re im z = gainFrom ((angL v).drop (i + 1)) (i + 1) (wrap64 (re + im / 2 ^ i)) (wrap64 (im - re / 2 ^ i)) (wrap64 (z + v i)) := by
  rw [angL_drop v i h, gainFrom, if_neg hz]
theorem gain_end (v : Nat → Int) (re im z : Int) : gainFrom ((angL v).drop 45) 45 re im z = (re, im, z) := by
  rw [List.drop_eq_nil_of_le (by simp [angL]), gainFrom]
def gainRun (v : Nat → Int) (x z : Int) : Int × Int × Int := gainFrom (angL v) 0 x 0 z
set_option maxRecDepth 100000 in
theorem run_walk (v : Nat → Int) (x z : Int) (hang : ∀ w, Calls Try.prog 146 #[] w fun e w' => e = .returned (.agg (angA v 45)) ∧ Below w.heap.size w w') (w : World) :
    Calls Try.prog 143 #[.int .i64 x, .int .i64 z] w fun e w' => e = .returned (.tuple #[.agg #[.int .i64 (gainRun v x z).1, .int .i64 (gainRun v x z).2.1], .int .i64 (gainRun v x z).2.2]) ∧ Below w.heap.size w w' := by
  have HA := Lib.hid hang
  clear hang
  go_enter Try.func143, Try.ntmps143
  go_wp2_with fail
  have R := blk_alloc (blk_new w (.cells #[.int .i64 0, .int .i64 0] 41 (0, 0))) (.cells #[.int .i64 x, .int .i64 0] 41 (0, 0))
  have G := blk_new (w.alloc (.cells #[.int .i64 0, .int .i64 0] 41 (0, 0))) (.cells #[.int .i64 x, .int .i64 0] 41 (0, 0))
  have HB := below_alloc (below_alloc (Below.refl _ w) (.cells #[.int .i64 0, .int .i64 0] 41 (0, 0))) (.cells #[.int .i64 x, .int .i64 0] 41 (0, 0))
  simp only [World.size_alloc] at G
  refine (HA.out _).mono ?_
  rintro e w1 ⟨rfl, hb⟩
  replace G := Aside0.mk (blk_below G hb)
  replace R := Aside0.mk (blk_below R hb)
  replace HB := Aside0.mk (below_step HB hb)
  clear hb HA
  obtain ⟨q, hq⟩ : ∃ q, q = w.heap.size := ⟨_, rfl⟩
  obtain ⟨g, hg⟩ : ∃ g, g = w.heap.size + 1 := ⟨_, rfl⟩
  rw [← hg] at G ⊢
  rw [← hq] at R ⊢
  have hqg : q ≠ g := by omega
  have hq1 : w.heap.size ≤ q := by omega
  have hg1 : w.heap.size ≤ g := by omega
  clear hq hg
  go_wp2
  go_loopw [1, 14] (fun v1 v14 wr => ∃ (i : Nat) (re im zz : Int), i ≤ 45 ∧ v1 = .int .i64 zz ∧ v14 = .int .i64 i ∧ Aside0 (gainFrom ((angL v).drop i) i re im zz = gainRun v x z) ∧ Aside0 (wr.heap[g]? = some (.cells #[.int .i64 re, .int .i64 im] 41 (0, 0))) ∧ Aside0 (wr.heap[q]? = some (.cells #[.int .i64 0, .int .i64 0] 41 (0, 0))) ∧ Aside0 (Below w.heap.size w wr)) (fun _ v14 _ => 45 - (intOf v14).toNat)
  case atStart => exact ⟨0, x, 0, z, by omega, rfl, rfl, ⟨rfl⟩, G, R, HB⟩
  case round =>
    clear G R HB
    obtain ⟨i, re, im, zz, hi, rfl, rfl, HG, G, R, HB⟩ := hrel
    by_cases hlt : i < 45
    · have hix := index_angles v i hlt
      have c0 := blk_cell G.out 0
      have c1 := blk_cell G.out 1
      have f0 := blk_frozen G.out 0
      have f1 := blk_frozen G.out 1
      by_cases hz : 0 ≤ zz
      · go_wp2_with fail
        go_quiet (fail)
        go_wp2
        refine ⟨⟨i + 1, (wrap64 (re - im / 2 ^ i)), (wrap64 (im + re / 2 ^ i)), (wrap64 (zz - v i)), by omega, rfl, by go_num, ⟨?_⟩, ⟨blk_put (cs := #[.int .i64 (wrap64 (re - im / 2 ^ i)), .int .i64 im]) (blk_put (blk_drewN G.out _) 0 _ rfl) 1 _ rfl⟩, ⟨blk_far (p := ⟨g, 1, none⟩) (blk_far (p := ⟨g, 0, none⟩) (blk_drewN R.out _) hqg _) hqg _⟩, ⟨below_set (below_set (pw_below_drewN HB.out _) hg1) hg1⟩⟩, by simp [intOf]; omega⟩
        rw [← gain_yes v i hlt re im zz hz]
        exact HG.out
      · go_wp2_with fail
        go_quiet (fail)
        go_wp2
        refine ⟨⟨i + 1, (wrap64 (re + im / 2 ^ i)), (wrap64 (im - re / 2 ^ i)), (wrap64 (zz + v i)), by omega, rfl, by go_num, ⟨?_⟩, ⟨blk_put (cs := #[.int .i64 (wrap64 (re + im / 2 ^ i)), .int .i64 im]) (blk_put (blk_drewN G.out _) 0 _ rfl) 1 _ rfl⟩, ⟨blk_far (p := ⟨g, 1, none⟩) (blk_far (p := ⟨g, 0, none⟩) (blk_drewN R.out _) hqg _) hqg _⟩, ⟨below_set (below_set (pw_below_drewN HB.out _) hg1) hg1⟩⟩, by simp [intOf]; omega⟩
        rw [← gain_no v i hlt re im zz (by omega)]
        exact HG.out
    · obtain rfl : i = 45 := by omega
      have e := HG.out
      rw [gain_end] at e
      have E := Lib.hid e
      clear e HG hlt hi
      have c0 := blk_cell G.out 0
      have c1 := blk_cell G.out 1
      have e0 := blk_cell R.out 0
      have e1 := blk_cell R.out 1
      have f0 := blk_frozen R.out 0
      have f1 := blk_frozen R.out 1
      go_wp2
      refine bodyPost_ret (results_ct rfl _ _ q 41 #[.int .i64 re, .int .i64 im] (0, 0) _ rfl (blk_put (cs := #[.int .i64 re, .int .i64 0]) (blk_put R.out 0 _ rfl) 1 _ rfl) Try.underlying41 rfl (by kernel_rfl)) rfl ⟨?_, below_set (below_set HB.out hq1) hq1⟩
      rw [← E.out]
      rfl

def gain_run.f (x z : Int) : Option (Int × Int × Int) := some (gainRun angV x z)
theorem gain_run.calls (a0 a1 : Int) (r1 r2 r3 : Int) (w : World) (h : gain_run.f a0 a1 = some (r1, r2, r3)) :
    Calls Try.prog 143 #[.int .i64 a0, .int .i64 a1] w fun e w' => e = .returned (.tuple #[.agg #[.int .i64 r1, .int .i64 r2], .int .i64 r3]) ∧ Below w.heap.size w w' := by
  have e := Option.some.inj h
  have := run_walk angV a0 a1 angles_calls w
  rw [e] at this
  exact this
end Go.Proofs.Ytpmkkidljmedaaa.X
namespace Go.Proofs.Ytpmkkidljmedaaa.X
open Go.RowKit Go.Proofs.YtpmkkidljmedaaaW.PrintWords Go.Proofs.YtpmkkidljmedaaaW.PrintLast Go.Proofs.YtpmkkidljmedaaaW.PrintMore
attribute [local go_sem] max2_int min2_int max_two min_two max_three min_three max_four min_four   -- for this text's walks alone
set_option linter.unusedVariables false
set_option linter.unusedSimpArgs false

/-! ### gain_Gain: function 144 -/
def gain_Gain.f  : Option (Int) := (gain_run.f 72057594037927936 0).bind fun bt1 => (some bt1.1)
set_option maxHeartbeats 8000000 in
set_option maxRecDepth 100000 in
theorem gain_Gain.calls  (r : Int) (w : World) (h : gain_Gain.f  = some r) :
    Calls Try.prog 144 #[] w fun e w' => e = .returned (.int .i64 r) ∧ Below w.heap.size w w' := by
  have hu41 := Try.underlying41
  have HB := Aside0.mk (Below.refl w.heap.size w)
  have H : ((gain_run.f 72057594037927936 0).bind fun bt1 => (some bt1.1)) = some r := h
  clear h
  replace H := Option.bind_eq_some_iff.mp H
  obtain ⟨⟨t1, t2, t3⟩, A10, H⟩ := H
  replace H : (some t1) = some r := H
  have A1 := Aside0.mk A10
  clear A10
  obtain rfl := Option.some.inj H
  go_enter Try.func144, Try.ntmps144
  go_wp2_with (first | ((with_reducible refine gate_callee (f := 143) rfl ?_); refine goesL_ (some 4) rfl rfl Try.func143 (by kernel_rfl) rfl #[.int .i64 72057594037927936, .int .i64 0] rfl (by (try simp only [List.map_toArray, List.map_cons, List.map_nil]); first | done | rfl | (simp only [List.length_drop, List.length_take]; rfl)) ?_; (with_reducible refine (gain_run.calls 72057594037927936 0 t1 t2 t3 _ A1.out).mono ?_); rintro e w2 ⟨rfl, hb⟩; refine ⟨_, rfl, ?_⟩; have n0_ := Aside0.mk (below_step (by repeat (first | (with_reducible first | exact HB.out | apply below_alloc | apply pw_below_drewN | apply below_drew1) | exact HB.out)) hb); clear HB; have HB := n0_; clear n0_; (try clear hb); (try clear hb2); (try clear hk); (try clear hi)) | ((with_reducible refine gate_dst (N := 1) rfl ?_); refine box_event ?hg (N := 1) ?hd (cs := #[.int .i64 0, .int .i64 0]) (t := 41) ?hr ?_; (case hd => rfl); (case hg => rfl); (case hr => first | (go_simp; done) | (go_simp; rfl)); intro gb4 hg w3 hbox hb; have n0_ := Aside0.mk (below_step (by repeat (first | (with_reducible first | exact HB.out | apply below_alloc | apply pw_below_drewN | apply below_drew1) | exact HB.out)) hb); have n1_ := Aside0.mk (hbox); have n2_ := Aside0.mk ((by rw [hg]; exact (below_size (by repeat (first | (with_reducible first | exact HB.out | apply below_alloc | apply pw_below_drewN | apply below_drew1) | exact HB.out))) : w.heap.size ≤ gb4)); have n3_ := Aside0.mk ((by rw [hg]; exact (below_size (by repeat (first | (with_reducible first | exact HB.out | apply below_alloc | apply pw_below_drewN | apply below_drew1) | exact HB.out))) : w.heap.size ≤ gb4)); clear HB; have HB := n0_; have BK4 := n1_; have GW4 := n2_; have GE4 := n3_; clear n0_ n1_ n2_ n3_; clear hb hbox hg; have hcz4_0 : w3.cell? ⟨gb4, 0, none⟩ = some (.int .i64 0) := (blk_cell BK4.out 0).trans rfl; have hcz4_1 : w3.cell? ⟨gb4, 1, none⟩ = some (.int .i64 0) := (blk_cell BK4.out 1).trans rfl; have hfz4_0 := blk_frozen BK4.out 0; have hfz4_1 := blk_frozen BK4.out 1))
  go_ret
  exact ⟨by first | rfl | (simp [errW_none, errW_some] <;> rfl) | (simp [*, errW_none, errW_some] <;> rfl), by repeat (first | (with_reducible first | exact HB.out | apply below_alloc | apply pw_below_drewN | apply below_drew1 | refine below_set ?_ GE4.out) | exact HB.out)⟩

end Go.Proofs.Ytpmkkidljmedaaa.X
namespace Go.Proofs.Ytpmkkidljmedaaa.X
open Go.RowKit Go.Proofs.YtpmkkidljmedaaaW.PrintWords Go.Proofs.YtpmkkidljmedaaaW.PrintLast Go.Proofs.YtpmkkidljmedaaaW.PrintMore
attribute [local go_sem] max2_int min2_int max_two min_two max_three min_three max_four min_four   -- for this text's walks alone
set_option linter.unusedVariables false
set_option linter.unusedSimpArgs false

/-! ### gain_Run: function 139 -/
def gain_Run.f (a0 : Int) (a1 : Int) : Option (Int × Int × Int × Int) := if a0 < 0 then (some (0, 0, 0, 2)) else (if a0 > 144115188075855872 then (some (0, 0, 0, 2)) else (if a1 < (-72057594037927936) then (some (0, 0, 0, 2)) else (if a1 > 72057594037927936 then (some (0, 0, 0, 2)) else ((gain_run.f a0 a1).bind fun bt2 => (some (bt2.1, bt2.2.1, bt2.2.2, 0))))))
set_option maxHeartbeats 8000000 in
set_option maxRecDepth 100000 in
theorem gain_Run.calls (a0 : Int) (a1 : Int) (r1 : Int) (r2 : Int) (r3 : Int) (r4 : Int) (w : World) (h : gain_Run.f a0 a1 = some (r1, r2, r3, r4)) :
    Calls Try.prog 139 #[.int .i64 a0, .int .i64 a1] w fun e w' => e = .returned (.tuple #[.agg #[.int .i64 r1, .int .i64 r2], .int .i64 r3, .int .i64 r4]) ∧ Below w.heap.size w w' := by
  have hu41 := Try.underlying41
  have HB := Aside0.mk (Below.refl w.heap.size w)
  have H : (if a0 < 0 then (some (0, 0, 0, 2)) else (if a0 > 144115188075855872 then (some (0, 0, 0, 2)) else (if a1 < (-72057594037927936) then (some (0, 0, 0, 2)) else (if a1 > 72057594037927936 then (some (0, 0, 0, 2)) else ((gain_run.f a0 a1).bind fun bt2 => (some (bt2.1, bt2.2.1, bt2.2.2, 0))))))) = some (r1, r2, r3, r4) := h
  clear h
  by_cases c3 : a0 < 0
  · rw [if_pos c3] at H
    have c3b0 : decide (a0 < 0) = true := decide_eq_true c3
    clear c3
    simp only [Option.some.injEq, Prod.mk.injEq] at H
    obtain ⟨rfl, rfl, rfl, rfl⟩ := H
    go_enter Try.func139, Try.ntmps139
    go_wp2_with (first | ((with_reducible refine gate_dst (N := 4) rfl ?_); refine box_event ?hg (N := 4) ?hd (cs := #[.int .i64 0, .int .i64 0]) (t := 41) ?hr ?_; (case hd => rfl); (case hg => rfl); (case hr => first | (go_simp; done) | (go_simp; rfl)); intro gb1 hg w4 hbox hb; have n0_ := Aside0.mk (below_step (by repeat (first | (with_reducible first | exact HB.out | apply below_alloc | apply pw_below_drewN | apply below_drew1) | exact HB.out)) hb); have n1_ := Aside0.mk (hbox); have n2_ := Aside0.mk ((by rw [hg]; exact (below_size (by repeat (first | (with_reducible first | exact HB.out | apply below_alloc | apply pw_below_drewN | apply below_drew1) | exact HB.out))) : w.heap.size ≤ gb1)); have n3_ := Aside0.mk ((by rw [hg]; exact (below_size (by repeat (first | (with_reducible first | exact HB.out | apply below_alloc | apply pw_below_drewN | apply below_drew1) | exact HB.out))) : w.heap.size ≤ gb1)); clear HB; have HB := n0_; have BK1 := n1_; have GW1 := n2_; have GE1 := n3_; clear n0_ n1_ n2_ n3_; clear hb hbox hg; have hcz5_0 : w4.cell? ⟨gb1, 0, none⟩ = some (.int .i64 0) := (blk_cell BK1.out 0).trans rfl; have hcz5_1 : w4.cell? ⟨gb1, 1, none⟩ = some (.int .i64 0) := (blk_cell BK1.out 1).trans rfl; have hfz5_0 := blk_frozen BK1.out 0; have hfz5_1 := blk_frozen BK1.out 1))
    refine bodyPost_ret (results_ctt rfl _ _ gb1 41 #[.int .i64 0, .int .i64 0] (0, 0) _ rfl (by (with_reducible repeat (first | refine blk_drewN ?_ _ | refine blk_drew ?_ | refine blk_alloc ?_ _)); refine blk_put (cs := #[.int .i64 0, .int .i64 0]) ?_ 1 _ rfl; (with_reducible repeat (first | refine blk_drewN ?_ _ | refine blk_drew ?_ | refine blk_alloc ?_ _)); refine blk_put (cs := #[.int .i64 0, .int .i64 0]) ?_ 0 _ rfl; (with_reducible repeat (first | refine blk_drewN ?_ _ | refine blk_drew ?_ | refine blk_alloc ?_ _)); exact BK1.out) Try.underlying41 rfl (by kernel_rfl)) rfl ?_
    exact ⟨by first | rfl | (simp [errW_none, errW_some] <;> rfl) | (simp [*, errW_none, errW_some] <;> rfl), by repeat (first | (with_reducible first | exact HB.out | apply below_alloc | apply pw_below_drewN | apply below_drew1 | refine below_set ?_ GE1.out) | exact HB.out)⟩
  · rw [if_neg c3] at H
    have c3b0 : decide (a0 < 0) = false := decide_eq_false c3
    clear c3
    by_cases c6 : a0 > 144115188075855872
    · rw [if_pos c6] at H
      have c6b0 : decide (144115188075855872 < a0) = true := decide_eq_true c6
      clear c6
      simp only [Option.some.injEq, Prod.mk.injEq] at H
      obtain ⟨rfl, rfl, rfl, rfl⟩ := H
      go_enter Try.func139, Try.ntmps139
      go_wp2_with (first | ((with_reducible refine gate_dst (N := 4) rfl ?_); refine box_event ?hg (N := 4) ?hd (cs := #[.int .i64 0, .int .i64 0]) (t := 41) ?hr ?_; (case hd => rfl); (case hg => rfl); (case hr => first | (go_simp; done) | (go_simp; rfl)); intro gb1 hg w7 hbox hb; have n0_ := Aside0.mk (below_step (by repeat (first | (with_reducible first | exact HB.out | apply below_alloc | apply pw_below_drewN | apply below_drew1) | exact HB.out)) hb); have n1_ := Aside0.mk (hbox); have n2_ := Aside0.mk ((by rw [hg]; exact (below_size (by repeat (first | (with_reducible first | exact HB.out | apply below_alloc | apply pw_below_drewN | apply below_drew1) | exact HB.out))) : w.heap.size ≤ gb1)); have n3_ := Aside0.mk ((by rw [hg]; exact (below_size (by repeat (first | (with_reducible first | exact HB.out | apply below_alloc | apply pw_below_drewN | apply below_drew1) | exact HB.out))) : w.heap.size ≤ gb1)); clear HB; have HB := n0_; have BK1 := n1_; have GW1 := n2_; have GE1 := n3_; clear n0_ n1_ n2_ n3_; clear hb hbox hg; have hcz8_0 : w7.cell? ⟨gb1, 0, none⟩ = some (.int .i64 0) := (blk_cell BK1.out 0).trans rfl; have hcz8_1 : w7.cell? ⟨gb1, 1, none⟩ = some (.int .i64 0) := (blk_cell BK1.out 1).trans rfl; have hfz8_0 := blk_frozen BK1.out 0; have hfz8_1 := blk_frozen BK1.out 1))
      refine bodyPost_ret (results_ctt rfl _ _ gb1 41 #[.int .i64 0, .int .i64 0] (0, 0) _ rfl (by (with_reducible repeat (first | refine blk_drewN ?_ _ | refine blk_drew ?_ | refine blk_alloc ?_ _)); refine blk_put (cs := #[.int .i64 0, .int .i64 0]) ?_ 1 _ rfl; (with_reducible repeat (first | refine blk_drewN ?_ _ | refine blk_drew ?_ | refine blk_alloc ?_ _)); refine blk_put (cs := #[.int .i64 0, .int .i64 0]) ?_ 0 _ rfl; (with_reducible repeat (first | refine blk_drewN ?_ _ | refine blk_drew ?_ | refine blk_alloc ?_ _)); exact BK1.out) Try.underlying41 rfl (by kernel_rfl)) rfl ?_
      exact ⟨by first | rfl | (simp [errW_none, errW_some] <;> rfl) | (simp [*, errW_none, errW_some] <;> rfl), by repeat (first | (with_reducible first | exact HB.out | apply below_alloc | apply pw_below_drewN | apply below_drew1 | refine below_set ?_ GE1.out) | exact HB.out)⟩
    · rw [if_neg c6] at H
      have c6b0 : decide (144115188075855872 < a0) = false := decide_eq_false c6
      clear c6
      by_cases c9 : a1 < (-72057594037927936)
      · rw [if_pos c9] at H
        have c9b0 : decide (a1 < (-72057594037927936)) = true := decide_eq_true c9
        clear c9
        simp only [Option.some.injEq, Prod.mk.injEq] at H
        obtain ⟨rfl, rfl, rfl, rfl⟩ := H
        go_enter Try.func139, Try.ntmps139
        go_wp2_with (first | ((with_reducible refine gate_dst (N := 4) rfl ?_); refine box_event ?hg (N := 4) ?hd (cs := #[.int .i64 0, .int .i64 0]) (t := 41) ?hr ?_; (case hd => rfl); (case hg => rfl); (case hr => first | (go_simp; done) | (go_simp; rfl)); intro gb1 hg w10 hbox hb; have n0_ := Aside0.mk (below_step (by repeat (first | (with_reducible first | exact HB.out | apply below_alloc | apply pw_below_drewN | apply below_drew1) | exact HB.out)) hb); have n1_ := Aside0.mk (hbox); have n2_ := Aside0.mk ((by rw [hg]; exact (below_size (by repeat (first | (with_reducible first | exact HB.out | apply below_alloc | apply pw_below_drewN | apply below_drew1) | exact HB.out))) : w.heap.size ≤ gb1)); have n3_ := Aside0.mk ((by rw [hg]; exact (below_size (by repeat (first | (with_reducible first | exact HB.out | apply below_alloc | apply pw_below_drewN | apply below_drew1) | exact HB.out))) : w.heap.size ≤ gb1)); clear HB; have HB := n0_; have BK1 := n1_; have GW1 := n2_; have GE1 := n3_; clear n0_ n1_ n2_ n3_; clear hb hbox hg; have hcz11_0 : w10.cell? ⟨gb1, 0, none⟩ = some (.int .i64 0) := (blk_cell BK1.out 0).trans rfl; have hcz11_1 : w10.cell? ⟨gb1, 1, none⟩ = some (.int .i64 0) := (blk_cell BK1.out 1).trans rfl; have hfz11_0 := blk_frozen BK1.out 0; have hfz11_1 := blk_frozen BK1.out 1))
        refine bodyPost_ret (results_ctt rfl _ _ gb1 41 #[.int .i64 0, .int .i64 0] (0, 0) _ rfl (by (with_reducible repeat (first | refine blk_drewN ?_ _ | refine blk_drew ?_ | refine blk_alloc ?_ _)); refine blk_put (cs := #[.int .i64 0, .int .i64 0]) ?_ 1 _ rfl; (with_reducible repeat (first | refine blk_drewN ?_ _ | refine blk_drew ?_ | refine blk_alloc ?_ _)); refine blk_put (cs := #[.int .i64 0, .int .i64 0]) ?_ 0 _ rfl; (with_reducible repeat (first | refine blk_drewN ?_ _ | refine blk_drew ?_ | refine blk_alloc ?_ _)); exact BK1.out) Try.underlying41 rfl (by kernel_rfl)) rfl ?_
        exact ⟨by first | rfl | (simp [errW_none, errW_some] <;> rfl) | (simp [*, errW_none, errW_some] <;> rfl), by repeat (first | (with_reducible first | exact HB.out | apply below_alloc | apply pw_below_drewN | apply below_drew1 | refine below_set ?_ GE1.out) | exact HB.out)⟩
      · rw [if_neg c9] at H
        have c9b0 : decide (a1 < (-72057594037927936)) = false := decide_eq_false c9
        clear c9
        by_cases c12 : a1 > 72057594037927936
        · rw [if_pos c12] at H
          have c12b0 : decide (72057594037927936 < a1) = true := decide_eq_true c12
          clear c12
          simp only [Option.some.injEq, Prod.mk.injEq] at H
          obtain ⟨rfl, rfl, rfl, rfl⟩ := H
          go_enter Try.func139, Try.ntmps139
          go_wp2_with (first | ((with_reducible refine gate_dst (N := 4) rfl ?_); refine box_event ?hg (N := 4) ?hd (cs := #[.int .i64 0, .int .i64 0]) (t := 41) ?hr ?_; (case hd => rfl); (case hg => rfl); (case hr => first | (go_simp; done) | (go_simp; rfl)); intro gb1 hg w13 hbox hb; have n0_ := Aside0.mk (below_step (by repeat (first | (with_reducible first | exact HB.out | apply below_alloc | apply pw_below_drewN | apply below_drew1) | exact HB.out)) hb); have n1_ := Aside0.mk (hbox); have n2_ := Aside0.mk ((by rw [hg]; exact (below_size (by repeat (first | (with_reducible first | exact HB.out | apply below_alloc | apply pw_below_drewN | apply below_drew1) | exact HB.out))) : w.heap.size ≤ gb1)); have n3_ := Aside0.mk ((by rw [hg]; exact (below_size (by repeat (first | (with_reducible first | exact HB.out | apply below_alloc | apply pw_below_drewN | apply below_drew1) | exact HB.out))) : w.heap.size ≤ gb1)); clear HB; have HB := n0_; have BK1 := n1_; have GW1 := n2_; have GE1 := n3_; clear n0_ n1_ n2_ n3_; clear hb hbox hg; have hcz14_0 : w13.cell? ⟨gb1, 0, none⟩ = some (.int .i64 0) := (blk_cell BK1.out 0).trans rfl; have hcz14_1 : w13.cell? ⟨gb1, 1, none⟩ = some (.int .i64 0) := (blk_cell BK1.out 1).trans rfl; have hfz14_0 := blk_frozen BK1.out 0; have hfz14_1 := blk_frozen BK1.out 1))
          refine bodyPost_ret (results_ctt rfl _ _ gb1 41 #[.int .i64 0, .int .i64 0] (0, 0) _ rfl (by (with_reducible repeat (first | refine blk_drewN ?_ _ | refine blk_drew ?_ | refine blk_alloc ?_ _)); refine blk_put (cs := #[.int .i64 0, .int .i64 0]) ?_ 1 _ rfl; (with_reducible repeat (first | refine blk_drewN ?_ _ | refine blk_drew ?_ | refine blk_alloc ?_ _)); refine blk_put (cs := #[.int .i64 0, .int .i64 0]) ?_ 0 _ rfl; (with_reducible repeat (first | refine blk_drewN ?_ _ | refine blk_drew ?_ | refine blk_alloc ?_ _)); exact BK1.out) Try.underlying41 rfl (by kernel_rfl)) rfl ?_
          exact ⟨by first | rfl | (simp [errW_none, errW_some] <;> rfl) | (simp [*, errW_none, errW_some] <;> rfl), by repeat (first | (with_reducible first | exact HB.out | apply below_alloc | apply pw_below_drewN | apply below_drew1 | refine below_set ?_ GE1.out) | exact HB.out)⟩
        · rw [if_neg c12] at H
          have c12b0 : decide (72057594037927936 < a1) = false := decide_eq_false c12
          clear c12
          replace H := Option.bind_eq_some_iff.mp H
          obtain ⟨⟨t2, t3, t4⟩, A150, H⟩ := H
          replace H : (some (t2, t3, t4, 0)) = some (r1, r2, r3, r4) := H
          have A15 := Aside0.mk A150
          clear A150
          simp only [Option.some.injEq, Prod.mk.injEq] at H
          obtain ⟨rfl, rfl, rfl, rfl⟩ := H
          go_enter Try.func139, Try.ntmps139
          go_wp2_with (first | ((with_reducible refine gate_dst (N := 4) rfl ?_); refine box_event ?hg (N := 4) ?hd (cs := #[.int .i64 0, .int .i64 0]) (t := 41) ?hr ?_; (case hd => rfl); (case hg => rfl); (case hr => first | (go_simp; done) | (go_simp; rfl)); intro gb1 hg w16 hbox hb; have n0_ := Aside0.mk (below_step (by repeat (first | (with_reducible first | exact HB.out | apply below_alloc | apply pw_below_drewN | apply below_drew1) | exact HB.out)) hb); have n1_ := Aside0.mk (hbox); have n2_ := Aside0.mk ((by rw [hg]; exact (below_size (by repeat (first | (with_reducible first | exact HB.out | apply below_alloc | apply pw_below_drewN | apply below_drew1) | exact HB.out))) : w.heap.size ≤ gb1)); have n3_ := Aside0.mk ((by rw [hg]; exact (below_size (by repeat (first | (with_reducible first | exact HB.out | apply below_alloc | apply pw_below_drewN | apply below_drew1) | exact HB.out))) : w.heap.size ≤ gb1)); clear HB; have HB := n0_; have BK1 := n1_; have GW1 := n2_; have GE1 := n3_; clear n0_ n1_ n2_ n3_; clear hb hbox hg) | ((with_reducible refine gate_callee (f := 143) rfl ?_); refine goesL_ (some 27) rfl rfl Try.func143 (by kernel_rfl) rfl #[.int .i64 a0, .int .i64 a1] rfl (by (try simp only [List.map_toArray, List.map_cons, List.map_nil]); first | done | rfl | (simp only [List.length_drop, List.length_take]; rfl)) ?_; (with_reducible refine (gain_run.calls a0 a1 t2 t3 t4 _ A15.out).mono ?_); rintro e w17 ⟨rfl, hb⟩; refine ⟨_, rfl, ?_⟩; have n0_ := Aside0.mk (blk_below (g := gb1) (o := .cells #[.int .i64 0, .int .i64 0] 41 (0, 0)) (by (with_reducible repeat (first | refine blk_drewN ?_ _ | refine blk_drew ?_ | refine blk_alloc ?_ _)); exact BK1.out) hb); have n1_ := Aside0.mk (below_step (by repeat (first | (with_reducible first | exact HB.out | apply below_alloc | apply pw_below_drewN | apply below_drew1 | refine below_set ?_ GE1.out) | exact HB.out)) hb); clear BK1; clear HB; have BK1 := n0_; have HB := n1_; clear n0_ n1_; (try clear hb); (try clear hb2); (try clear hk); (try clear hi)) | ((with_reducible refine gate_dst (N := 7) rfl ?_); refine box_event ?hg (N := 7) ?hd (cs := #[.int .i64 0, .int .i64 0]) (t := 41) ?hr ?_; (case hd => rfl); (case hg => rfl); (case hr => first | (go_simp; done) | (go_simp; rfl)); intro gb5 hg w18 hbox hb; have n0_ := Aside0.mk (blk_below (g := gb1) (o := .cells #[.int .i64 0, .int .i64 0] 41 (0, 0)) (by (with_reducible repeat (first | refine blk_drewN ?_ _ | refine blk_drew ?_ | refine blk_alloc ?_ _)); exact BK1.out) hb); have n1_ := Aside0.mk (below_step (by repeat (first | (with_reducible first | exact HB.out | apply below_alloc | apply pw_below_drewN | apply below_drew1 | refine below_set ?_ GE1.out) | exact HB.out)) hb); have n2_ := Aside0.mk (hbox); have n3_ := Aside0.mk ((by rw [hg]; exact (below_size (by repeat (first | (with_reducible first | exact HB.out | apply below_alloc | apply pw_below_drewN | apply below_drew1 | refine below_set ?_ GE1.out) | exact HB.out))) : w.heap.size ≤ gb5)); have n4_ := Aside0.mk ((by rw [hg]; exact (below_size (by repeat (first | (with_reducible first | exact HB.out | apply below_alloc | apply pw_below_drewN | apply below_drew1 | refine below_set ?_ GE1.out) | exact HB.out))) : w.heap.size ≤ gb5)); have n5_ := Aside0.mk ((by rw [hg]; exact Nat.ne_of_lt (blk_lt (g := gb1) (o := .cells #[.int .i64 0, .int .i64 0] 41 (0, 0)) (by (with_reducible repeat (first | refine blk_drewN ?_ _ | refine blk_drew ?_ | refine blk_alloc ?_ _)); exact BK1.out)) : gb1 ≠ gb5)); have n6_ := Aside0.mk ((by rw [hg]; exact Nat.ne_of_gt (blk_lt (g := gb1) (o := .cells #[.int .i64 0, .int .i64 0] 41 (0, 0)) (by (with_reducible repeat (first | refine blk_drewN ?_ _ | refine blk_drew ?_ | refine blk_alloc ?_ _)); exact BK1.out)) : gb5 ≠ gb1)); clear BK1; clear HB; have BK1 := n0_; have HB := n1_; have BK5 := n2_; have GW5 := n3_; have GE5 := n4_; have NB1_5 := n5_; have NB5_1 := n6_; clear n0_ n1_ n2_ n3_ n4_ n5_ n6_; clear hb hbox hg; have hnb19 := NB5_1.out; have hnc19 := NB1_5.out; have hcz20_0 : w18.cell? ⟨gb5, 0, none⟩ = some (.int .i64 0) := (blk_cell BK5.out 0).trans rfl; have hcz20_1 : w18.cell? ⟨gb5, 1, none⟩ = some (.int .i64 0) := (blk_cell BK5.out 1).trans rfl; have hfz20_0 := blk_frozen BK5.out 0; have hfz20_1 := blk_frozen BK5.out 1; have hcz21_0 : w18.cell? ⟨gb1, 0, none⟩ = some (.int .i64 0) := (blk_cell BK1.out 0).trans rfl; have hcz21_1 : w18.cell? ⟨gb1, 1, none⟩ = some (.int .i64 0) := (blk_cell BK1.out 1).trans rfl; have hfz21_0 := blk_frozen BK1.out 0; have hfz21_1 := blk_frozen BK1.out 1))
          refine bodyPost_ret (results_ctt rfl _ _ gb1 41 #[.int .i64 t2, .int .i64 t3] (0, 0) _ rfl (by (with_reducible repeat (first | refine blk_drewN ?_ _ | refine blk_drew ?_ | refine blk_alloc ?_ _)); refine blk_put (cs := #[.int .i64 t2, .int .i64 0]) ?_ 1 _ rfl; (with_reducible repeat (first | refine blk_drewN ?_ _ | refine blk_drew ?_ | refine blk_alloc ?_ _)); refine blk_put (cs := #[.int .i64 0, .int .i64 0]) ?_ 0 _ rfl; (with_reducible repeat (first | refine blk_drewN ?_ _ | refine blk_drew ?_ | refine blk_alloc ?_ _)); refine blk_far ?_ NB1_5.out _; (with_reducible repeat (first | refine blk_drewN ?_ _ | refine blk_drew ?_ | refine blk_alloc ?_ _)); refine blk_far ?_ NB1_5.out _; (with_reducible repeat (first | refine blk_drewN ?_ _ | refine blk_drew ?_ | refine blk_alloc ?_ _)); exact BK1.out) Try.underlying41 rfl (by kernel_rfl)) rfl ?_
          exact ⟨by first | rfl | (simp [errW_none, errW_some] <;> rfl) | (simp [*, errW_none, errW_some] <;> rfl), by repeat (first | (with_reducible first | exact HB.out | apply below_alloc | apply pw_below_drewN | apply below_drew1 | refine below_set ?_ GE1.out | refine below_set ?_ GE5.out) | exact HB.out)⟩

end Go.Proofs.Ytpmkkidljmedaaa.X
namespace Go.Proofs.Ytpmkkidljmedaaa.X
open Go.RowKit Go.Proofs.YtpmkkidljmedaaaW.PrintWords Go.Proofs.YtpmkkidljmedaaaW.PrintLast Go.Proofs.YtpmkkidljmedaaaW.PrintMore
attribute [local go_sem] max2_int min2_int max_two min_two max_three min_three max_four min_four
set_option linter.unusedVariables false
set_option linter.unusedSimpArgs false

/-- One bit of a quotient: what is left, and the quotient so far. -/
def invStep (d a b : Int) : Int × Int := if d ≤ wrap64 (a * 2) then (wrap64 (wrap64 (a * 2) - d), bits .or .i64 (wrap64 (b * 2)) 1) else (wrap64 (a * 2), wrap64 (b * 2))
def invFrom : Nat → Int → Int → Int → Int
  | 0, _, _, b => b
  | k + 1, d, a, b => invFrom k d (invStep d a b).1 (invStep d a b).2
set_option maxRecDepth 100000 in
theorem inverse_walk (d : Int) (hg : gain_Gain.f = some d) (w : World) :
    Calls Try.prog 140 #[] w fun e w' => e = .returned (.int .i64 (invFrom 56 d 72057594037927936 0)) ∧ Below w.heap.size w w' := by
  have HG := Lib.hid hg
  clear hg
  go_enter Try.func140, Try.ntmps140
  go_wp2_with (go_at_call 144; refine (gain_Gain.calls d _ HG.out).mono ?_; rintro e w1 ⟨rfl, hb⟩)
  have G := Aside0.mk (blk_new w1 (.cells #[.int .i64 72057594037927936, .int .i64 0] 88 (0, 0)))
  have HB := Aside0.mk (below_alloc hb (.cells #[.int .i64 72057594037927936, .int .i64 0] 88 (0, 0)))
  have hs := hb.size
  clear hb HG
  generalize w1.heap.size = g at *
  go_loopw [5] (fun v5 wr => ∃ (i : Nat) (a b : Int), i ≤ 56 ∧ v5 = .int .i64 i ∧ Aside0 (invFrom (56 - i) d a b = invFrom 56 d 72057594037927936 0) ∧ Aside0 (wr.heap[g]? = some (.cells #[.int .i64 a, .int .i64 b] 88 (0, 0))) ∧ Aside0 (Below w.heap.size w wr)) (fun v5 _ => 56 - (intOf v5).toNat)
  case atStart => exact ⟨0, _, _, by omega, rfl, ⟨rfl⟩, G, HB⟩
  case round =>
    clear G HB
    obtain ⟨i, a, b, hi, rfl, HI, G, HB⟩ := hrel
    have c0 := blk_cell G.out 0
    have c1 := blk_cell G.out 1
    have f0 := blk_frozen G.out 0
    have f1 := blk_frozen G.out 1
    by_cases hlt : i < 56
    · by_cases hz : d ≤ wrap64 (a * 2)
      · go_wp2
        refine ⟨⟨i + 1, wrap64 (wrap64 (a * 2) - d), bits .or .i64 (wrap64 (b * 2)) 1, by omega, by go_num, ⟨?_⟩, ⟨blk_put (cs := #[.int .i64 (wrap64 (wrap64 (a * 2) - d)), .int .i64 (wrap64 (b * 2))]) (blk_put (cs := #[.int .i64 (wrap64 (a * 2)), .int .i64 (wrap64 (b * 2))]) (blk_put (cs := #[.int .i64 (wrap64 (a * 2)), .int .i64 b]) (blk_put G.out 0 _ rfl) 1 _ rfl) 0 _ rfl) 1 _ rfl⟩, ⟨below_set (below_set (below_set (below_set HB.out hs) hs) hs) hs⟩⟩, by simp [intOf]; omega⟩
        rw [← HI.out, show 56 - i = (56 - (i + 1)) + 1 by omega]
        simp only [invFrom, invStep, if_pos hz]
      · go_wp2
        refine ⟨⟨i + 1, wrap64 (a * 2), wrap64 (b * 2), by omega, by go_num, ⟨?_⟩, ⟨blk_put (cs := #[.int .i64 (wrap64 (a * 2)), .int .i64 b]) (blk_put G.out 0 _ rfl) 1 _ rfl⟩, ⟨below_set (below_set HB.out hs) hs⟩⟩, by simp [intOf]; omega⟩
        rw [← HI.out, show 56 - i = (56 - (i + 1)) + 1 by omega]
        simp only [invFrom, invStep, if_neg (show ¬ d ≤ wrap64 (a * 2) by omega)]
    · obtain rfl : i = 56 := by omega
      have e : b = invFrom 56 d 72057594037927936 0 := HI.out
      have E := Lib.hid e
      clear e HI hlt hi
      go_wp2
      go_ret
      exact ⟨by rw [← E.out]; rfl, HB.out⟩

def gain_Inverse.f : Option Int := gain_Gain.f.bind fun d => some (invFrom 56 d 72057594037927936 0)
theorem gain_Inverse.calls (r : Int) (w : World) (h : gain_Inverse.f = some r) : Calls Try.prog 140 #[] w fun e w' => e = .returned (.int .i64 r) ∧ Below w.heap.size w w' := by
  obtain ⟨d, hd, e⟩ := Option.bind_eq_some_iff.mp h
  cases e
  exact inverse_walk d hd w

/-- The angle of a part of an eighth. -/
theorem eighth1_calls (k log : Int) (h1 : 0 ≤ log) (h2 : log ≤ 6) (h3 : 0 ≤ k) (h4 : k ≤ 2 ^ log.toNat) (g h : Nat) (w : World) (c0 : w.cell? ⟨g, 0, none⟩ = some (.int .i64 log)) (c1 : w.cell? ⟨h, 0, none⟩ = some (.int .i64 k)) :
    Calls Try.prog 135 #[.pointer (some ⟨g, 0, none⟩), .pointer (some ⟨h, 0, none⟩)] w fun e w' => e = .returned (.tuple #[.int .i64 (wrap64 (angV 0 * k) / 2 ^ log.toNat), .int .i64 0]) ∧ Below w.heap.size w w' := by
  have hm := HM.pow_mono (show log.toNat ≤ 6 by omega)
  have hp := HM.pow_pos log.toNat
  have e6 : (2 : Int) ^ 6 = 64 := by decide
  have hw : wrap64 (2 ^ log.toNat) = 2 ^ log.toNat := HM.wrap64_id _ (by omega) (by omega)
  have hk : decide (IntKind.i64.wrap (2 ^ log.toNat) < k) = false := by rw [HM.i64wrap, hw]; exact decide_eq_false (by omega)
  have HQ := Lib.hid quarter_val
  clear hw hm hp e6 h4
  go_enter Try.func135, Try.ntmps135
  go_wp2_with fail
  go_quiet (fail)
  go_wp2_with fail
  have hS : ∀ W W' : World, (W.cell? ⟨g, 0, none⟩ = some (.int .i64 log) ∧ W.cell? ⟨h, 0, none⟩ = some (.int .i64 k) ∧ Below w.heap.size w W) → Below W.heap.size W W' → (W'.cell? ⟨g, 0, none⟩ = some (.int .i64 log) ∧ W'.cell? ⟨h, 0, none⟩ = some (.int .i64 k) ∧ Below w.heap.size w W') :=
    fun W W' hs hb => ⟨pw_cell_below hb hs.1, pw_cell_below hb hs.2.1, below_step hs.2.2 hb⟩
  have hS0 : ∀ n, (w.drewN n).cell? ⟨g, 0, none⟩ = some (.int .i64 log) ∧ (w.drewN n).cell? ⟨h, 0, none⟩ = some (.int .i64 k) ∧ Below w.heap.size w (w.drewN n) := fun n => ⟨c0, c1, pw_below_drewN (Below.refl _ _) _⟩
  replace hS := Aside0.mk hS
  replace hS0 := Aside0.mk hS0
  go_region_held3 (fun w' => w'.cell? ⟨g, 0, none⟩ = some (.int .i64 log) ∧ w'.cell? ⟨h, 0, none⟩ = some (.int .i64 k) ∧ Below w.heap.size w w') (first | exact hS0.out (nq + 1) | exact hS.out _ _ (hS0.out (nq + 1)) (by assumption))
    (first | (go_at_call 136; refine (arc_Quarter.calls (angV 0) _ HQ.out).mono ?_; rintro e w' ⟨rfl, hb⟩))
  rename_i hh
  have hB2 := hh.2.2
  clear hh
  go_wp2
  go_ret2
  exact ⟨by rw [HM.i64wrap]; rfl, hB2⟩

/-- The point of an angle that a closure tells. -/
theorem told_walk (c : Nat) (lb : Array Value) (z inv re im left bad : Int) (he : ∀ (args : Array Value) (W : World), (callFunc c args).run Try.prog W = .ok (.enter c args) W)
    (hinv : gain_Inverse.f = some inv) (hrun : gain_Run.f inv z = some (re, im, left, bad)) (w : World)
    (hc : Calls Try.prog c lb (w.alloc (.cells #[.int .i64 0, .int .i64 0] 41 (0, 0))) fun e w' => e = .returned (.tuple #[.int .i64 z, .int .i64 0]) ∧ Below (w.alloc (.cells #[.int .i64 0, .int .i64 0] 41 (0, 0))).heap.size (w.alloc (.cells #[.int .i64 0, .int .i64 0] 41 (0, 0))) w') :
    Calls Try.prog 134 #[.func (.func c) #[] lb] w fun e w' => e = .returned (.tuple #[.agg #[.int .i64 re, .int .i64 im], .int .i64 bad]) ∧ Below w.heap.size w w' := by
  have HI := Lib.hid hinv
  have HR := Lib.hid hrun
  clear hinv hrun
  go_enter Try.func134, Try.ntmps134
  go_wp2_with fail
  have R := blk_new w (.cells #[.int .i64 0, .int .i64 0] 41 (0, 0))
  have HB := below_alloc (Below.refl _ w) (.cells #[.int .i64 0, .int .i64 0] 41 (0, 0))
  refine hc.mono ?_
  rintro e w1 ⟨rfl, hb⟩
  replace R := Aside0.mk (blk_below R hb)
  replace HB := Aside0.mk (below_step HB hb)
  clear hb hc he
  go_wp2_with fail
  refine (gain_Inverse.calls inv _ HI.out).mono ?_
  rintro e w2 ⟨rfl, hb⟩
  replace R := Aside0.mk (blk_below R.out hb)
  replace HB := Aside0.mk (below_step HB.out hb)
  clear hb HI
  go_wp2_with fail
  refine (gain_Run.calls inv z re im left bad _ HR.out).mono ?_
  rintro e w3 ⟨rfl, hb⟩
  replace R := Aside0.mk (blk_below R.out hb)
  replace HB := Aside0.mk (below_step HB.out hb)
  clear hb HR
  have hq := HB.out.size
  have c0 := blk_cell R.out 0
  have c1 := blk_cell R.out 1
  have f0 := blk_frozen R.out 0
  have f1 := blk_frozen R.out 1
  have hlt := blk_lt R.out
  go_wp2
  exact bodyPost_ret (results_ct rfl _ _ w.heap.size 41 #[.int .i64 re, .int .i64 im] (0, 0) _ rfl (blk_alloc (blk_put (cs := #[.int .i64 re, .int .i64 0]) (blk_put R.out 0 _ rfl) 1 _ rfl) _) Try.underlying41 rfl (by kernel_rfl)) rfl ⟨rfl, below_alloc (below_set (below_set HB.out (Nat.le_refl _)) (Nat.le_refl _)) _⟩

def circle_Eighth.f (k log : Int) : Option (Int × Int × Int) :=
  if 0 ≤ log ∧ log ≤ 6 ∧ 0 ≤ k ∧ k ≤ 2 ^ log.toNat then gain_Inverse.f.bind fun inv => (gain_Run.f inv (wrap64 (angV 0 * k) / 2 ^ log.toNat)).bind fun r => some (r.1, r.2.1, r.2.2.2) else none
theorem circle_Eighth.calls (a0 a1 : Int) (r1 r2 r3 : Int) (w : World) (h : circle_Eighth.f a0 a1 = some (r1, r2, r3)) :
    Calls Try.prog 129 #[.int .i64 a0, .int .i64 a1] w fun e w' => e = .returned (.tuple #[.agg #[.int .i64 r1, .int .i64 r2], .int .i64 r3]) ∧ Below w.heap.size w w' := by
  have hmf : ∀ (fn : Fn) (first cap : Array Value) (w : World), (Instr.makeFunc fn first cap).run Try.prog w = .ok (.func fn first cap) w := fun _ _ _ _ => rfl
  unfold circle_Eighth.f at h
  split at h
  case isFalse => cases h
  rename_i hv
  obtain ⟨inv, hi, h⟩ := Option.bind_eq_some_iff.mp h
  obtain ⟨⟨p1, p2, p3, p4⟩, hr, h⟩ := Option.bind_eq_some_iff.mp h
  simp only [Option.some.injEq, Prod.mk.injEq] at h
  obtain ⟨rfl, rfl, rfl⟩ := h
  have HI := Lib.hid hi
  have HR := Lib.hid hr
  have HV := Lib.hid hv
  clear hi hr hv
  go_enter Try.func129, Try.ntmps129
  go_wp2_with fail
  have BK := blk_alloc (blk_alloc (blk_new w (.cells #[.int .i64 a0] 3 (0, 0))) (.cells #[.int .i64 a1] 3 (0, 0))) (.cells #[.int .i64 0, .int .i64 0] 41 (0, 0))
  have BL := blk_alloc (blk_new (w.alloc (.cells #[.int .i64 a0] 3 (0, 0))) (.cells #[.int .i64 a1] 3 (0, 0))) (.cells #[.int .i64 0, .int .i64 0] 41 (0, 0))
  have BR := blk_new ((w.alloc (.cells #[.int .i64 a0] 3 (0, 0))).alloc (.cells #[.int .i64 a1] 3 (0, 0))) (.cells #[.int .i64 0, .int .i64 0] 41 (0, 0))
  have HB := below_alloc (below_alloc (below_alloc (Below.refl _ w) (.cells #[.int .i64 a0] 3 (0, 0))) (.cells #[.int .i64 a1] 3 (0, 0))) (.cells #[.int .i64 0, .int .i64 0] 41 (0, 0))
  simp only [World.size_alloc] at BL BR
  have hc := eighth1_calls a0 a1 HV.out.1 HV.out.2.1 HV.out.2.2.1 HV.out.2.2.2 (w.heap.size + 1) w.heap.size _ ((blk_cell (blk_alloc BL (.cells #[.int .i64 0, .int .i64 0] 41 (0, 0))) 0).trans rfl) ((blk_cell (blk_alloc BK (.cells #[.int .i64 0, .int .i64 0] 41 (0, 0))) 0).trans rfl)
  refine (told_walk 135 _ (wrap64 (angV 0 * a0) / 2 ^ a1.toNat) inv p1 p2 p3 p4 (fun args W => enters_ Try.func135 (by kernel_rfl) rfl args W) HI.out HR.out _ hc).mono ?_
  rintro e w1 ⟨rfl, hb⟩
  replace BR := Aside0.mk (blk_below BR hb)
  replace HB := Aside0.mk (below_step HB hb)
  clear hb hc HI HR HV BK BL
  have hq : w.heap.size ≤ w.heap.size + 1 + 1 := by omega
  have c0 := blk_cell BR.out 0
  have c1 := blk_cell BR.out 1
  have f0 := blk_frozen BR.out 0
  have f1 := blk_frozen BR.out 1
  go_wp2
  exact bodyPost_ret (results_ct rfl _ _ (w.heap.size + 1 + 1) 41 #[.int .i64 p1, .int .i64 p2] (0, 0) _ rfl (blk_put (cs := #[.int .i64 p1, .int .i64 0]) (blk_put BR.out 0 _ rfl) 1 _ rfl) Try.underlying41 rfl (by kernel_rfl)) rfl ⟨rfl, below_set (below_set HB.out hq) hq⟩
end Go.Proofs.Ytpmkkidljmedaaa.X
namespace Go.Proofs.Ytpmkkidljmedaaa.X
open Go.RowKit Go.Proofs.YtpmkkidljmedaaaW.PrintWords Go.Proofs.YtpmkkidljmedaaaW.PrintLast Go.Proofs.YtpmkkidljmedaaaW.PrintMore
attribute [local go_sem] max2_int min2_int max_two min_two max_three min_three max_four min_four   -- for this text's walks alone
set_option linter.unusedVariables false
set_option linter.unusedSimpArgs false

/-! ### roots_point: function 124 -/
def roots_point.f (a0 : Int) (a1 : Int) : Option (Int × Int) := if 0 ≤ a0 then (if (wrap64 (2 * a1)) < (shl .i64 1 a0) then ((circle_Eighth.f (wrap64 (2 * a1)) a0).bind fun bt2 => (some (bt2.1, bt2.2.1))) else (if (wrap64 (2 * a1)) > (shl .i64 1 a0) then ((circle_Eighth.f (wrap64 (2 * (wrap64 ((shl .i64 1 a0) - a1)))) a0).bind fun bt6 => (some (bt6.2.1, bt6.1))) else ((circle_Eighth.f (shl .i64 1 a0) a0).bind fun bt10 => (some (bt10.1, bt10.1))))) else (none)
set_option maxHeartbeats 8000000 in
set_option maxRecDepth 100000 in
theorem roots_point.calls (a0 : Int) (a1 : Int) (r1 : Int) (r2 : Int) (w : World) (h : roots_point.f a0 a1 = some (r1, r2)) :
    Calls Try.prog 124 #[.int .i64 a0, .int .i64 a1] w fun e w' => e = .returned (.agg #[.int .i64 r1, .int .i64 r2]) ∧ Below w.heap.size w w' := by
  have hu41 := Try.underlying41
  have HB := Aside0.mk (Below.refl w.heap.size w)
  have H : (if 0 ≤ a0 then (if (wrap64 (2 * a1)) < (shl .i64 1 a0) then ((circle_Eighth.f (wrap64 (2 * a1)) a0).bind fun bt2 => (some (bt2.1, bt2.2.1))) else (if (wrap64 (2 * a1)) > (shl .i64 1 a0) then ((circle_Eighth.f (wrap64 (2 * (wrap64 ((shl .i64 1 a0) - a1)))) a0).bind fun bt6 => (some (bt6.2.1, bt6.1))) else ((circle_Eighth.f (shl .i64 1 a0) a0).bind fun bt10 => (some (bt10.1, bt10.1))))) else (none)) = some (r1, r2) := h
  clear h
  by_cases c3 : 0 ≤ a0
  · rw [if_pos c3] at H
    have c3b0 := eq_true c3
    have c3b1 : decide (0 ≤ a0) = true := decide_eq_true c3
    clear c3
    obtain ⟨ji4, hji4⟩ : ∃ j_ : Int, (shl .i64 1 a0) = j_ := ⟨_, rfl⟩
    replace H : (if (wrap64 (2 * a1)) < (ji4) then ((circle_Eighth.f (wrap64 (2 * a1)) a0).bind fun bt2 => (some (bt2.1, bt2.2.1))) else (if (wrap64 (2 * a1)) > (ji4) then ((circle_Eighth.f (wrap64 (2 * (wrap64 ((ji4) - a1)))) a0).bind fun bt6 => (some (bt6.2.1, bt6.1))) else ((circle_Eighth.f (ji4) a0).bind fun bt10 => (some (bt10.1, bt10.1))))) = some (r1, r2) := by first | (rw [hji4] at H; exact H) | (simp only [hji4] at H ⊢; exact H)
    have hji4_ : (IntKind.i64.wrap (1 * 2 ^ min a0.toNat 64)) = ji4 := hji4
    have hji4z : a0 ≤ 64 → (IntKind.i64.wrap (1 * 2 ^ a0.toNat)) = ji4 := shl_small hji4
    have hji4u : (IntKind.i64.wrap (2 ^ min a0.toNat 64)) = ji4 := by have h_ := hji4_; rw [Int.one_mul] at h_; exact h_
    have hji4v : a0 ≤ 64 → (IntKind.i64.wrap (2 ^ a0.toNat)) = ji4 := fun hle_ => by have h_ := hji4z hle_; rw [Int.one_mul] at h_; exact h_
    have hji4y : (wrap64 (1 * 2 ^ min a0.toNat 64)) = ji4 := (i64_w _).symm.trans hji4_
    have hji4x : a0 ≤ 64 → (wrap64 (1 * 2 ^ a0.toNat)) = ji4 := fun h_ => (i64_w _).symm.trans (hji4z h_)
    by_cases c5 : (wrap64 (2 * a1)) < (ji4)
    · rw [if_pos c5] at H
      have c5b0 : decide ((wrap64 (2 * a1)) < (ji4)) = true := decide_eq_true c5
      clear c5
      replace H := Option.bind_eq_some_iff.mp H
      obtain ⟨⟨t2, t3, t4⟩, A60, H⟩ := H
      replace H : (some (t2, t3)) = some (r1, r2) := H
      have A6 := Aside0.mk A60
      clear A60
      simp only [Option.some.injEq, Prod.mk.injEq] at H
      obtain ⟨rfl, rfl⟩ := H
      go_enter Try.func124, Try.ntmps124
      go_wp2_with (first | ((with_reducible refine gate_dst (N := 4) rfl ?_); refine box_event ?hg (N := 4) ?hd (cs := #[.int .i64 0, .int .i64 0]) (t := 41) ?hr ?_; (case hd => rfl); (case hg => rfl); (case hr => first | (go_simp; done) | (go_simp; rfl)); intro gb1 hg w7 hbox hb; have n0_ := Aside0.mk (below_step (by repeat (first | (with_reducible first | exact HB.out | apply below_alloc | apply pw_below_drewN | apply below_drew1) | exact HB.out)) hb); have n1_ := Aside0.mk (hbox); have n2_ := Aside0.mk ((by rw [hg]; exact (below_size (by repeat (first | (with_reducible first | exact HB.out | apply below_alloc | apply pw_below_drewN | apply below_drew1) | exact HB.out))) : w.heap.size ≤ gb1)); have n3_ := Aside0.mk ((by rw [hg]; exact (below_size (by repeat (first | (with_reducible first | exact HB.out | apply below_alloc | apply pw_below_drewN | apply below_drew1) | exact HB.out))) : w.heap.size ≤ gb1)); clear HB; have HB := n0_; have BK1 := n1_; have GW1 := n2_; have GE1 := n3_; clear n0_ n1_ n2_ n3_; clear hb hbox hg) | ((with_reducible refine gate_callee (f := 129) rfl ?_); refine goesL_ (some 23) rfl rfl Try.func129 (by kernel_rfl) rfl #[.int .i64 (wrap64 (2 * a1)), .int .i64 a0] rfl (by (try simp only [List.map_toArray, List.map_cons, List.map_nil]); first | done | rfl | (simp only [List.length_drop, List.length_take]; rfl)) ?_; (with_reducible refine (circle_Eighth.calls (wrap64 (2 * a1)) a0 t2 t3 t4 _ A6.out).mono ?_); rintro e w8 ⟨rfl, hb⟩; refine ⟨_, rfl, ?_⟩; have n0_ := Aside0.mk (blk_below (g := gb1) (o := .cells #[.int .i64 0, .int .i64 0] 41 (0, 0)) (by (with_reducible repeat (first | refine blk_drewN ?_ _ | refine blk_drew ?_ | refine blk_alloc ?_ _)); exact BK1.out) hb); have n1_ := Aside0.mk (below_step (by repeat (first | (with_reducible first | exact HB.out | apply below_alloc | apply pw_below_drewN | apply below_drew1 | refine below_set ?_ GE1.out) | exact HB.out)) hb); clear BK1; clear HB; have BK1 := n0_; have HB := n1_; clear n0_ n1_; (try clear hb); (try clear hb2); (try clear hk); (try clear hi)) | ((with_reducible refine gate_dst (N := 6) rfl ?_); refine box_event ?hg (N := 6) ?hd (cs := #[.int .i64 0, .int .i64 0]) (t := 41) ?hr ?_; (case hd => rfl); (case hg => rfl); (case hr => first | (go_simp; done) | (go_simp; rfl)); intro gb5 hg w9 hbox hb; have n0_ := Aside0.mk (blk_below (g := gb1) (o := .cells #[.int .i64 0, .int .i64 0] 41 (0, 0)) (by (with_reducible repeat (first | refine blk_drewN ?_ _ | refine blk_drew ?_ | refine blk_alloc ?_ _)); exact BK1.out) hb); have n1_ := Aside0.mk (below_step (by repeat (first | (with_reducible first | exact HB.out | apply below_alloc | apply pw_below_drewN | apply below_drew1 | refine below_set ?_ GE1.out) | exact HB.out)) hb); have n2_ := Aside0.mk (hbox); have n3_ := Aside0.mk ((by rw [hg]; exact (below_size (by repeat (first | (with_reducible first | exact HB.out | apply below_alloc | apply pw_below_drewN | apply below_drew1 | refine below_set ?_ GE1.out) | exact HB.out))) : w.heap.size ≤ gb5)); have n4_ := Aside0.mk ((by rw [hg]; exact (below_size (by repeat (first | (with_reducible first | exact HB.out | apply below_alloc | apply pw_below_drewN | apply below_drew1 | refine below_set ?_ GE1.out) | exact HB.out))) : w.heap.size ≤ gb5)); have n5_ := Aside0.mk ((by rw [hg]; exact Nat.ne_of_lt (blk_lt (g := gb1) (o := .cells #[.int .i64 0, .int .i64 0] 41 (0, 0)) (by (with_reducible repeat (first | refine blk_drewN ?_ _ | refine blk_drew ?_ | refine blk_alloc ?_ _)); exact BK1.out)) : gb1 ≠ gb5)); have n6_ := Aside0.mk ((by rw [hg]; exact Nat.ne_of_gt (blk_lt (g := gb1) (o := .cells #[.int .i64 0, .int .i64 0] 41 (0, 0)) (by (with_reducible repeat (first | refine blk_drewN ?_ _ | refine blk_drew ?_ | refine blk_alloc ?_ _)); exact BK1.out)) : gb5 ≠ gb1)); clear BK1; clear HB; have BK1 := n0_; have HB := n1_; have BK5 := n2_; have GW5 := n3_; have GE5 := n4_; have NB1_5 := n5_; have NB5_1 := n6_; clear n0_ n1_ n2_ n3_ n4_ n5_ n6_; clear hb hbox hg; have hnb10 := NB5_1.out; have hnc10 := NB1_5.out; have hcz11_0 : w9.cell? ⟨gb5, 0, none⟩ = some (.int .i64 0) := (blk_cell BK5.out 0).trans rfl; have hcz11_1 : w9.cell? ⟨gb5, 1, none⟩ = some (.int .i64 0) := (blk_cell BK5.out 1).trans rfl; have hfz11_0 := blk_frozen BK5.out 0; have hfz11_1 := blk_frozen BK5.out 1; have hcz12_0 : w9.cell? ⟨gb1, 0, none⟩ = some (.int .i64 0) := (blk_cell BK1.out 0).trans rfl; have hcz12_1 : w9.cell? ⟨gb1, 1, none⟩ = some (.int .i64 0) := (blk_cell BK1.out 1).trans rfl; have hfz12_0 := blk_frozen BK1.out 0; have hfz12_1 := blk_frozen BK1.out 1))
      refine bodyPost_ret (results_cell_row rfl _ _ gb1 41 #[.int .i64 t2, .int .i64 t3] (0, 0) _ rfl (by (with_reducible repeat (first | refine blk_drewN ?_ _ | refine blk_drew ?_ | refine blk_alloc ?_ _)); refine blk_put (cs := #[.int .i64 t2, .int .i64 0]) ?_ 1 _ rfl; (with_reducible repeat (first | refine blk_drewN ?_ _ | refine blk_drew ?_ | refine blk_alloc ?_ _)); refine blk_put (cs := #[.int .i64 0, .int .i64 0]) ?_ 0 _ rfl; (with_reducible repeat (first | refine blk_drewN ?_ _ | refine blk_drew ?_ | refine blk_alloc ?_ _)); refine blk_far ?_ NB1_5.out _; (with_reducible repeat (first | refine blk_drewN ?_ _ | refine blk_drew ?_ | refine blk_alloc ?_ _)); refine blk_far ?_ NB1_5.out _; (with_reducible repeat (first | refine blk_drewN ?_ _ | refine blk_drew ?_ | refine blk_alloc ?_ _)); exact BK1.out) Try.underlying41 rfl (by kernel_rfl)) rfl ?_
      exact ⟨by first | rfl | (simp [errW_none, errW_some] <;> rfl) | (simp only [← hji4]; first | rfl | (simp [errW_none, errW_some] <;> rfl)) | (simp [*, errW_none, errW_some] <;> rfl), by repeat (first | (with_reducible first | exact HB.out | apply below_alloc | apply pw_below_drewN | apply below_drew1 | refine below_set ?_ GE1.out | refine below_set ?_ GE5.out) | exact HB.out)⟩
    · rw [if_neg c5] at H
      have c5b0 : decide ((wrap64 (2 * a1)) < (ji4)) = false := decide_eq_false c5
      clear c5
      by_cases c13 : (wrap64 (2 * a1)) > (ji4)
      · rw [if_pos c13] at H
        have c13b0 : decide ((ji4) < (wrap64 (2 * a1))) = true := decide_eq_true c13
        clear c13
        replace H := Option.bind_eq_some_iff.mp H
        obtain ⟨⟨t6, t7, t8⟩, A140, H⟩ := H
        replace H : (some (t7, t6)) = some (r1, r2) := H
        have A14 := Aside0.mk A140
        clear A140
        simp only [Option.some.injEq, Prod.mk.injEq] at H
        obtain ⟨rfl, rfl⟩ := H
        go_enter Try.func124, Try.ntmps124
        go_wp2_with (first | ((with_reducible refine gate_dst (N := 4) rfl ?_); refine box_event ?hg (N := 4) ?hd (cs := #[.int .i64 0, .int .i64 0]) (t := 41) ?hr ?_; (case hd => rfl); (case hg => rfl); (case hr => first | (go_simp; done) | (go_simp; rfl)); intro gb1 hg w15 hbox hb; have n0_ := Aside0.mk (below_step (by repeat (first | (with_reducible first | exact HB.out | apply below_alloc | apply pw_below_drewN | apply below_drew1) | exact HB.out)) hb); have n1_ := Aside0.mk (hbox); have n2_ := Aside0.mk ((by rw [hg]; exact (below_size (by repeat (first | (with_reducible first | exact HB.out | apply below_alloc | apply pw_below_drewN | apply below_drew1) | exact HB.out))) : w.heap.size ≤ gb1)); have n3_ := Aside0.mk ((by rw [hg]; exact (below_size (by repeat (first | (with_reducible first | exact HB.out | apply below_alloc | apply pw_below_drewN | apply below_drew1) | exact HB.out))) : w.heap.size ≤ gb1)); clear HB; have HB := n0_; have BK1 := n1_; have GW1 := n2_; have GE1 := n3_; clear n0_ n1_ n2_ n3_; clear hb hbox hg) | ((with_reducible refine gate_callee (f := 129) rfl ?_); refine goesL_ (some 38) rfl rfl Try.func129 (by kernel_rfl) rfl #[.int .i64 (wrap64 (2 * (wrap64 ((ji4) - a1)))), .int .i64 a0] rfl (by (try simp only [List.map_toArray, List.map_cons, List.map_nil]); first | done | (simp only [hji4]; rfl) | rfl | (simp only [List.length_drop, List.length_take]; rfl)) ?_; (with_reducible refine (circle_Eighth.calls (wrap64 (2 * (wrap64 ((ji4) - a1)))) a0 t6 t7 t8 _ A14.out).mono ?_); rintro e w16 ⟨rfl, hb⟩; refine ⟨_, rfl, ?_⟩; have n0_ := Aside0.mk (blk_below (g := gb1) (o := .cells #[.int .i64 0, .int .i64 0] 41 (0, 0)) (by (with_reducible repeat (first | refine blk_drewN ?_ _ | refine blk_drew ?_ | refine blk_alloc ?_ _)); exact BK1.out) hb); have n1_ := Aside0.mk (below_step (by repeat (first | (with_reducible first | exact HB.out | apply below_alloc | apply pw_below_drewN | apply below_drew1 | refine below_set ?_ GE1.out) | exact HB.out)) hb); clear BK1; clear HB; have BK1 := n0_; have HB := n1_; clear n0_ n1_; (try clear hb); (try clear hb2); (try clear hk); (try clear hi)) | ((with_reducible refine gate_dst (N := 8) rfl ?_); refine box_event ?hg (N := 8) ?hd (cs := #[.int .i64 0, .int .i64 0]) (t := 41) ?hr ?_; (case hd => rfl); (case hg => rfl); (case hr => first | (go_simp; done) | (go_simp; rfl)); intro gb9 hg w17 hbox hb; have n0_ := Aside0.mk (blk_below (g := gb1) (o := .cells #[.int .i64 0, .int .i64 0] 41 (0, 0)) (by (with_reducible repeat (first | refine blk_drewN ?_ _ | refine blk_drew ?_ | refine blk_alloc ?_ _)); exact BK1.out) hb); have n1_ := Aside0.mk (below_step (by repeat (first | (with_reducible first | exact HB.out | apply below_alloc | apply pw_below_drewN | apply below_drew1 | refine below_set ?_ GE1.out) | exact HB.out)) hb); have n2_ := Aside0.mk (hbox); have n3_ := Aside0.mk ((by rw [hg]; exact (below_size (by repeat (first | (with_reducible first | exact HB.out | apply below_alloc | apply pw_below_drewN | apply below_drew1 | refine below_set ?_ GE1.out) | exact HB.out))) : w.heap.size ≤ gb9)); have n4_ := Aside0.mk ((by rw [hg]; exact (below_size (by repeat (first | (with_reducible first | exact HB.out | apply below_alloc | apply pw_below_drewN | apply below_drew1 | refine below_set ?_ GE1.out) | exact HB.out))) : w.heap.size ≤ gb9)); have n5_ := Aside0.mk ((by rw [hg]; exact Nat.ne_of_lt (blk_lt (g := gb1) (o := .cells #[.int .i64 0, .int .i64 0] 41 (0, 0)) (by (with_reducible repeat (first | refine blk_drewN ?_ _ | refine blk_drew ?_ | refine blk_alloc ?_ _)); exact BK1.out)) : gb1 ≠ gb9)); have n6_ := Aside0.mk ((by rw [hg]; exact Nat.ne_of_gt (blk_lt (g := gb1) (o := .cells #[.int .i64 0, .int .i64 0] 41 (0, 0)) (by (with_reducible repeat (first | refine blk_drewN ?_ _ | refine blk_drew ?_ | refine blk_alloc ?_ _)); exact BK1.out)) : gb9 ≠ gb1)); clear BK1; clear HB; have BK1 := n0_; have HB := n1_; have BK9 := n2_; have GW9 := n3_; have GE9 := n4_; have NB1_9 := n5_; have NB9_1 := n6_; clear n0_ n1_ n2_ n3_ n4_ n5_ n6_; clear hb hbox hg; have hnb18 := NB9_1.out; have hnc18 := NB1_9.out; have hcz19_0 : w17.cell? ⟨gb9, 0, none⟩ = some (.int .i64 0) := (blk_cell BK9.out 0).trans rfl; have hcz19_1 : w17.cell? ⟨gb9, 1, none⟩ = some (.int .i64 0) := (blk_cell BK9.out 1).trans rfl; have hfz19_0 := blk_frozen BK9.out 0; have hfz19_1 := blk_frozen BK9.out 1; have hcz20_0 : w17.cell? ⟨gb1, 0, none⟩ = some (.int .i64 0) := (blk_cell BK1.out 0).trans rfl; have hcz20_1 : w17.cell? ⟨gb1, 1, none⟩ = some (.int .i64 0) := (blk_cell BK1.out 1).trans rfl; have hfz20_0 := blk_frozen BK1.out 0; have hfz20_1 := blk_frozen BK1.out 1))
        refine bodyPost_ret (results_cell_row rfl _ _ gb1 41 #[.int .i64 t7, .int .i64 t6] (0, 0) _ rfl (by (with_reducible repeat (first | refine blk_drewN ?_ _ | refine blk_drew ?_ | refine blk_alloc ?_ _)); refine blk_put (cs := #[.int .i64 t7, .int .i64 0]) ?_ 1 _ rfl; (with_reducible repeat (first | refine blk_drewN ?_ _ | refine blk_drew ?_ | refine blk_alloc ?_ _)); refine blk_put (cs := #[.int .i64 0, .int .i64 0]) ?_ 0 _ rfl; (with_reducible repeat (first | refine blk_drewN ?_ _ | refine blk_drew ?_ | refine blk_alloc ?_ _)); refine blk_far ?_ NB1_9.out _; (with_reducible repeat (first | refine blk_drewN ?_ _ | refine blk_drew ?_ | refine blk_alloc ?_ _)); refine blk_far ?_ NB1_9.out _; (with_reducible repeat (first | refine blk_drewN ?_ _ | refine blk_drew ?_ | refine blk_alloc ?_ _)); exact BK1.out) Try.underlying41 rfl (by kernel_rfl)) rfl ?_
        exact ⟨by first | rfl | (simp [errW_none, errW_some] <;> rfl) | (simp only [← hji4]; first | rfl | (simp [errW_none, errW_some] <;> rfl)) | (simp [*, errW_none, errW_some] <;> rfl), by repeat (first | (with_reducible first | exact HB.out | apply below_alloc | apply pw_below_drewN | apply below_drew1 | refine below_set ?_ GE1.out | refine below_set ?_ GE9.out) | exact HB.out)⟩
      · rw [if_neg c13] at H
        have c13b0 : decide ((ji4) < (wrap64 (2 * a1))) = false := decide_eq_false c13
        clear c13
        replace H := Option.bind_eq_some_iff.mp H
        obtain ⟨⟨t10, t11, t12⟩, A210, H⟩ := H
        replace H : (some (t10, t10)) = some (r1, r2) := H
        have A21 := Aside0.mk A210
        clear A210
        simp only [Option.some.injEq, Prod.mk.injEq] at H
        obtain ⟨rfl, rfl⟩ := H
        go_enter Try.func124, Try.ntmps124
        go_wp2_with (first | ((with_reducible refine gate_dst (N := 4) rfl ?_); refine box_event ?hg (N := 4) ?hd (cs := #[.int .i64 0, .int .i64 0]) (t := 41) ?hr ?_; (case hd => rfl); (case hg => rfl); (case hr => first | (go_simp; done) | (go_simp; rfl)); intro gb1 hg w22 hbox hb; have n0_ := Aside0.mk (below_step (by repeat (first | (with_reducible first | exact HB.out | apply below_alloc | apply pw_below_drewN | apply below_drew1) | exact HB.out)) hb); have n1_ := Aside0.mk (hbox); have n2_ := Aside0.mk ((by rw [hg]; exact (below_size (by repeat (first | (with_reducible first | exact HB.out | apply below_alloc | apply pw_below_drewN | apply below_drew1) | exact HB.out))) : w.heap.size ≤ gb1)); have n3_ := Aside0.mk ((by rw [hg]; exact (below_size (by repeat (first | (with_reducible first | exact HB.out | apply below_alloc | apply pw_below_drewN | apply below_drew1) | exact HB.out))) : w.heap.size ≤ gb1)); clear HB; have HB := n0_; have BK1 := n1_; have GW1 := n2_; have GE1 := n3_; clear n0_ n1_ n2_ n3_; clear hb hbox hg) | ((with_reducible refine gate_callee (f := 129) rfl ?_); refine goesL_ (some 49) rfl rfl Try.func129 (by kernel_rfl) rfl #[.int .i64 ji4, .int .i64 a0] rfl (by (try simp only [List.map_toArray, List.map_cons, List.map_nil]); first | done | (simp only [hji4]; rfl) | rfl | (simp only [List.length_drop, List.length_take]; rfl)) ?_; (with_reducible refine (circle_Eighth.calls ji4 a0 t10 t11 t12 _ A21.out).mono ?_); rintro e w23 ⟨rfl, hb⟩; refine ⟨_, rfl, ?_⟩; have n0_ := Aside0.mk (blk_below (g := gb1) (o := .cells #[.int .i64 0, .int .i64 0] 41 (0, 0)) (by (with_reducible repeat (first | refine blk_drewN ?_ _ | refine blk_drew ?_ | refine blk_alloc ?_ _)); exact BK1.out) hb); have n1_ := Aside0.mk (below_step (by repeat (first | (with_reducible first | exact HB.out | apply below_alloc | apply pw_below_drewN | apply below_drew1 | refine below_set ?_ GE1.out) | exact HB.out)) hb); clear BK1; clear HB; have BK1 := n0_; have HB := n1_; clear n0_ n1_; (try clear hb); (try clear hb2); (try clear hk); (try clear hi)) | ((with_reducible refine gate_dst (N := 10) rfl ?_); refine box_event ?hg (N := 10) ?hd (cs := #[.int .i64 0, .int .i64 0]) (t := 41) ?hr ?_; (case hd => rfl); (case hg => rfl); (case hr => first | (go_simp; done) | (go_simp; rfl)); intro gb13 hg w24 hbox hb; have n0_ := Aside0.mk (blk_below (g := gb1) (o := .cells #[.int .i64 0, .int .i64 0] 41 (0, 0)) (by (with_reducible repeat (first | refine blk_drewN ?_ _ | refine blk_drew ?_ | refine blk_alloc ?_ _)); exact BK1.out) hb); have n1_ := Aside0.mk (below_step (by repeat (first | (with_reducible first | exact HB.out | apply below_alloc | apply pw_below_drewN | apply below_drew1 | refine below_set ?_ GE1.out) | exact HB.out)) hb); have n2_ := Aside0.mk (hbox); have n3_ := Aside0.mk ((by rw [hg]; exact (below_size (by repeat (first | (with_reducible first | exact HB.out | apply below_alloc | apply pw_below_drewN | apply below_drew1 | refine below_set ?_ GE1.out) | exact HB.out))) : w.heap.size ≤ gb13)); have n4_ := Aside0.mk ((by rw [hg]; exact (below_size (by repeat (first | (with_reducible first | exact HB.out | apply below_alloc | apply pw_below_drewN | apply below_drew1 | refine below_set ?_ GE1.out) | exact HB.out))) : w.heap.size ≤ gb13)); have n5_ := Aside0.mk ((by rw [hg]; exact Nat.ne_of_lt (blk_lt (g := gb1) (o := .cells #[.int .i64 0, .int .i64 0] 41 (0, 0)) (by (with_reducible repeat (first | refine blk_drewN ?_ _ | refine blk_drew ?_ | refine blk_alloc ?_ _)); exact BK1.out)) : gb1 ≠ gb13)); have n6_ := Aside0.mk ((by rw [hg]; exact Nat.ne_of_gt (blk_lt (g := gb1) (o := .cells #[.int .i64 0, .int .i64 0] 41 (0, 0)) (by (with_reducible repeat (first | refine blk_drewN ?_ _ | refine blk_drew ?_ | refine blk_alloc ?_ _)); exact BK1.out)) : gb13 ≠ gb1)); clear BK1; clear HB; have BK1 := n0_; have HB := n1_; have BK13 := n2_; have GW13 := n3_; have GE13 := n4_; have NB1_13 := n5_; have NB13_1 := n6_; clear n0_ n1_ n2_ n3_ n4_ n5_ n6_; clear hb hbox hg; have hnb25 := NB13_1.out; have hnc25 := NB1_13.out; have hcz26_0 : w24.cell? ⟨gb13, 0, none⟩ = some (.int .i64 0) := (blk_cell BK13.out 0).trans rfl; have hcz26_1 : w24.cell? ⟨gb13, 1, none⟩ = some (.int .i64 0) := (blk_cell BK13.out 1).trans rfl; have hfz26_0 := blk_frozen BK13.out 0; have hfz26_1 := blk_frozen BK13.out 1; have hcz27_0 : w24.cell? ⟨gb1, 0, none⟩ = some (.int .i64 0) := (blk_cell BK1.out 0).trans rfl; have hcz27_1 : w24.cell? ⟨gb1, 1, none⟩ = some (.int .i64 0) := (blk_cell BK1.out 1).trans rfl; have hfz27_0 := blk_frozen BK1.out 0; have hfz27_1 := blk_frozen BK1.out 1))
        refine bodyPost_ret (results_cell_row rfl _ _ gb1 41 #[.int .i64 t10, .int .i64 t10] (0, 0) _ rfl (by (with_reducible repeat (first | refine blk_drewN ?_ _ | refine blk_drew ?_ | refine blk_alloc ?_ _)); refine blk_put (cs := #[.int .i64 t10, .int .i64 0]) ?_ 1 _ rfl; (with_reducible repeat (first | refine blk_drewN ?_ _ | refine blk_drew ?_ | refine blk_alloc ?_ _)); refine blk_put (cs := #[.int .i64 0, .int .i64 0]) ?_ 0 _ rfl; (with_reducible repeat (first | refine blk_drewN ?_ _ | refine blk_drew ?_ | refine blk_alloc ?_ _)); refine blk_far ?_ NB1_13.out _; (with_reducible repeat (first | refine blk_drewN ?_ _ | refine blk_drew ?_ | refine blk_alloc ?_ _)); refine blk_far ?_ NB1_13.out _; (with_reducible repeat (first | refine blk_drewN ?_ _ | refine blk_drew ?_ | refine blk_alloc ?_ _)); exact BK1.out) Try.underlying41 rfl (by kernel_rfl)) rfl ?_
        exact ⟨by first | rfl | (simp [errW_none, errW_some] <;> rfl) | (simp only [← hji4]; first | rfl | (simp [errW_none, errW_some] <;> rfl)) | (simp [*, errW_none, errW_some] <;> rfl), by repeat (first | (with_reducible first | exact HB.out | apply below_alloc | apply pw_below_drewN | apply below_drew1 | refine below_set ?_ GE1.out | refine below_set ?_ GE13.out) | exact HB.out)⟩
  · rw [if_neg c3] at H
    exact absurd H (by simp)

end Go.Proofs.Ytpmkkidljmedaaa.X
namespace Go.Proofs.Ytpmkkidljmedaaa.X
open Go.RowKit Go.Proofs.YtpmkkidljmedaaaW.PrintWords Go.Proofs.YtpmkkidljmedaaaW.PrintLast Go.Proofs.YtpmkkidljmedaaaW.PrintMore
attribute [local go_sem] max2_int min2_int max_two min_two max_three min_three max_four min_four   -- for this text's walks alone
set_option linter.unusedVariables false
set_option linter.unusedSimpArgs false

/-! ### cx_Shift: function 87 -/
def cx_Shift.f (a0_0 : Int) (a0_1 : Int) (a1 : Int) (a2 : Int) : Option (Int × Int × Int) := (round_Shift.f a0_0 a1 a2).bind fun bt3 => (if bt3.2 = 0 then ((round_Shift.f a0_1 a1 a2).bind fun bt5 => (some (bt3.1, bt5.1, 0))) else (some (0, 0, bt3.2)))
set_option maxHeartbeats 8000000 in
set_option maxRecDepth 100000 in
theorem cx_Shift.calls (a0_0 : Int) (a0_1 : Int) (a1 : Int) (a2 : Int) (r1 : Int) (r2 : Int) (r3 : Int) (w : World) (h : cx_Shift.f a0_0 a0_1 a1 a2 = some (r1, r2, r3)) :
    Calls Try.prog 87 #[.agg #[.int .i64 a0_0, .int .i64 a0_1], .int .i64 a1, .int .i64 a2] w fun e w' => e = .returned (.tuple #[.agg #[.int .i64 r1, .int .i64 r2], .int .i64 r3]) ∧ Below w.heap.size w w' := by
  have hu41 := Try.underlying41
  have HB := Aside0.mk (Below.refl w.heap.size w)
  have H : ((round_Shift.f a0_0 a1 a2).bind fun bt3 => (if bt3.2 = 0 then ((round_Shift.f a0_1 a1 a2).bind fun bt5 => (some (bt3.1, bt5.1, 0))) else (some (0, 0, bt3.2)))) = some (r1, r2, r3) := h
  clear h
  replace H := Option.bind_eq_some_iff.mp H
  obtain ⟨⟨t3, t4⟩, A40, H⟩ := H
  replace H : (if t4 = 0 then ((round_Shift.f a0_1 a1 a2).bind fun bt5 => (some (t3, bt5.1, 0))) else (some (0, 0, t4))) = some (r1, r2, r3) := H
  have A4 := Aside0.mk A40
  clear A40
  by_cases c5 : t4 = 0
  · rw [if_pos c5] at H
    have c5b0 : (t4 == 0) = true := beq_iff_eq.mpr c5
    have c5b1 : (t4 != 0) = false := bne_eq_false_iff_eq.mpr c5
    clear c5
    replace H := Option.bind_eq_some_iff.mp H
    obtain ⟨⟨t5, t6⟩, A60, H⟩ := H
    replace H : (some (t3, t5, 0)) = some (r1, r2, r3) := H
    have A6 := Aside0.mk A60
    clear A60
    simp only [Option.some.injEq, Prod.mk.injEq] at H
    obtain ⟨rfl, rfl, rfl⟩ := H
    go_enter Try.func87, Try.ntmps87
    go_wp2_with (first | ((with_reducible refine gate_dst (N := 3) rfl ?_); refine box_event ?hg (N := 3) ?hd (cs := #[.int .i64 a0_0, .int .i64 a0_1]) (t := 41) ?hr ?_; (case hd => rfl); (case hg => rfl); (case hr => first | (go_simp; done) | (go_simp; rfl)); intro gb1 hg w7 hbox hb; have n0_ := Aside0.mk (below_step (by repeat (first | (with_reducible first | exact HB.out | apply below_alloc | apply pw_below_drewN | apply below_drew1) | exact HB.out)) hb); have n1_ := Aside0.mk (hbox); have n2_ := Aside0.mk ((by rw [hg]; exact (below_size (by repeat (first | (with_reducible first | exact HB.out | apply below_alloc | apply pw_below_drewN | apply below_drew1) | exact HB.out))) : w.heap.size ≤ gb1)); have n3_ := Aside0.mk ((by rw [hg]; exact (below_size (by repeat (first | (with_reducible first | exact HB.out | apply below_alloc | apply pw_below_drewN | apply below_drew1) | exact HB.out))) : w.heap.size ≤ gb1)); clear HB; have HB := n0_; have BK1 := n1_; have GW1 := n2_; have GE1 := n3_; clear n0_ n1_ n2_ n3_; clear hb hbox hg) | ((with_reducible refine gate_dst (N := 6) rfl ?_); refine box_event ?hg (N := 6) ?hd (cs := #[.int .i64 0, .int .i64 0]) (t := 41) ?hr ?_; (case hd => rfl); (case hg => rfl); (case hr => first | (go_simp; done) | (go_simp; rfl)); intro gb2 hg w8 hbox hb; have n0_ := Aside0.mk (blk_below (g := gb1) (o := .cells #[.int .i64 a0_0, .int .i64 a0_1] 41 (0, 0)) (by (with_reducible repeat (first | refine blk_drewN ?_ _ | refine blk_drew ?_ | refine blk_alloc ?_ _)); exact BK1.out) hb); have n1_ := Aside0.mk (below_step (by repeat (first | (with_reducible first | exact HB.out | apply below_alloc | apply pw_below_drewN | apply below_drew1 | refine below_set ?_ GE1.out) | exact HB.out)) hb); have n2_ := Aside0.mk (hbox); have n3_ := Aside0.mk ((by rw [hg]; exact (below_size (by repeat (first | (with_reducible first | exact HB.out | apply below_alloc | apply pw_below_drewN | apply below_drew1 | refine below_set ?_ GE1.out) | exact HB.out))) : w.heap.size ≤ gb2)); have n4_ := Aside0.mk ((by rw [hg]; exact (below_size (by repeat (first | (with_reducible first | exact HB.out | apply below_alloc | apply pw_below_drewN | apply below_drew1 | refine below_set ?_ GE1.out) | exact HB.out))) : w.heap.size ≤ gb2)); have n5_ := Aside0.mk ((by rw [hg]; exact Nat.ne_of_lt (blk_lt (g := gb1) (o := .cells #[.int .i64 a0_0, .int .i64 a0_1] 41 (0, 0)) (by (with_reducible repeat (first | refine blk_drewN ?_ _ | refine blk_drew ?_ | refine blk_alloc ?_ _)); exact BK1.out)) : gb1 ≠ gb2)); have n6_ := Aside0.mk ((by rw [hg]; exact Nat.ne_of_gt (blk_lt (g := gb1) (o := .cells #[.int .i64 a0_0, .int .i64 a0_1] 41 (0, 0)) (by (with_reducible repeat (first | refine blk_drewN ?_ _ | refine blk_drew ?_ | refine blk_alloc ?_ _)); exact BK1.out)) : gb2 ≠ gb1)); clear BK1; clear HB; have BK1 := n0_; have HB := n1_; have BK2 := n2_; have GW2 := n3_; have GE2 := n4_; have NB1_2 := n5_; have NB2_1 := n6_; clear n0_ n1_ n2_ n3_ n4_ n5_ n6_; clear hb hbox hg; have hnb9 := NB1_2.out; have hnc9 := NB2_1.out; have hcz10_0 : w8.cell? ⟨gb1, 0, none⟩ = some (.int .i64 a0_0) := (blk_cell BK1.out 0).trans rfl; have hcz10_1 : w8.cell? ⟨gb1, 1, none⟩ = some (.int .i64 a0_1) := (blk_cell BK1.out 1).trans rfl; have hfz10_0 := blk_frozen BK1.out 0; have hfz10_1 := blk_frozen BK1.out 1) | ((with_reducible refine gate_callee (f := 42) rfl ?_); refine goesL_ (some 17) rfl rfl Try.func42 (by kernel_rfl) rfl #[.int .i64 a0_0, .int .i64 a1, .int .i64 a2] rfl (by (try simp only [List.map_toArray, List.map_cons, List.map_nil]); first | done | rfl | (simp only [List.length_drop, List.length_take]; rfl)) ?_; (with_reducible refine (round_Shift.calls a0_0 a1 a2 t3 t4 _ A4.out).mono ?_); rintro e w11 ⟨rfl, hb⟩; refine ⟨_, rfl, ?_⟩; have n0_ := Aside0.mk (blk_below (g := gb1) (o := .cells #[.int .i64 a0_0, .int .i64 a0_1] 41 (0, 0)) (by (with_reducible repeat (first | refine blk_drewN ?_ _ | refine blk_drew ?_ | refine blk_alloc ?_ _)); exact BK1.out) hb); have n1_ := Aside0.mk (blk_below (g := gb2) (o := .cells #[.int .i64 0, .int .i64 0] 41 (0, 0)) (by (with_reducible repeat (first | refine blk_drewN ?_ _ | refine blk_drew ?_ | refine blk_alloc ?_ _)); exact BK2.out) hb); have n2_ := Aside0.mk (below_step (by repeat (first | (with_reducible first | exact HB.out | apply below_alloc | apply pw_below_drewN | apply below_drew1 | refine below_set ?_ GE1.out | refine below_set ?_ GE2.out) | exact HB.out)) hb); clear BK1; clear BK2; clear HB; have BK1 := n0_; have BK2 := n1_; have HB := n2_; clear n0_ n1_ n2_; (try clear hb); (try clear hb2); (try clear hk); (try clear hi); have hcz12_0 : w11.cell? ⟨gb1, 0, none⟩ = some (.int .i64 a0_0) := (blk_cell BK1.out 0).trans rfl; have hcz12_1 : w11.cell? ⟨gb1, 1, none⟩ = some (.int .i64 a0_1) := (blk_cell BK1.out 1).trans rfl; have hfz12_0 := blk_frozen BK1.out 0; have hfz12_1 := blk_frozen BK1.out 1) | ((with_reducible refine gate_callee (f := 42) rfl ?_); refine goesL_ (some 29) rfl rfl Try.func42 (by kernel_rfl) rfl #[.int .i64 a0_1, .int .i64 a1, .int .i64 a2] rfl (by (try simp only [List.map_toArray, List.map_cons, List.map_nil]); first | done | rfl | (simp only [List.length_drop, List.length_take]; rfl)) ?_; (with_reducible refine (round_Shift.calls a0_1 a1 a2 t5 t6 _ A6.out).mono ?_); rintro e w13 ⟨rfl, hb⟩; refine ⟨_, rfl, ?_⟩; have n0_ := Aside0.mk (blk_below (g := gb1) (o := .cells #[.int .i64 a0_0, .int .i64 a0_1] 41 (0, 0)) (by (with_reducible repeat (first | refine blk_drewN ?_ _ | refine blk_drew ?_ | refine blk_alloc ?_ _)); exact BK1.out) hb); have n1_ := Aside0.mk (blk_below (g := gb2) (o := .cells #[.int .i64 0, .int .i64 0] 41 (0, 0)) (by (with_reducible repeat (first | refine blk_drewN ?_ _ | refine blk_drew ?_ | refine blk_alloc ?_ _)); exact BK2.out) hb); have n2_ := Aside0.mk (below_step (by repeat (first | (with_reducible first | exact HB.out | apply below_alloc | apply pw_below_drewN | apply below_drew1 | refine below_set ?_ GE1.out | refine below_set ?_ GE2.out) | exact HB.out)) hb); clear BK1; clear BK2; clear HB; have BK1 := n0_; have BK2 := n1_; have HB := n2_; clear n0_ n1_ n2_; (try clear hb); (try clear hb2); (try clear hk); (try clear hi); have hcz14_0 : w13.cell? ⟨gb2, 0, none⟩ = some (.int .i64 0) := (blk_cell BK2.out 0).trans rfl; have hcz14_1 : w13.cell? ⟨gb2, 1, none⟩ = some (.int .i64 0) := (blk_cell BK2.out 1).trans rfl; have hfz14_0 := blk_frozen BK2.out 0; have hfz14_1 := blk_frozen BK2.out 1))
    refine bodyPost_ret (results_ct rfl _ _ gb2 41 #[.int .i64 t3, .int .i64 t5] (0, 0) _ rfl (by (with_reducible repeat (first | refine blk_drewN ?_ _ | refine blk_drew ?_ | refine blk_alloc ?_ _)); refine blk_put (cs := #[.int .i64 t3, .int .i64 0]) ?_ 1 _ rfl; (with_reducible repeat (first | refine blk_drewN ?_ _ | refine blk_drew ?_ | refine blk_alloc ?_ _)); refine blk_put (cs := #[.int .i64 0, .int .i64 0]) ?_ 0 _ rfl; (with_reducible repeat (first | refine blk_drewN ?_ _ | refine blk_drew ?_ | refine blk_alloc ?_ _)); exact BK2.out) Try.underlying41 rfl (by kernel_rfl)) rfl ?_
    exact ⟨by first | rfl | (simp [errW_none, errW_some] <;> rfl) | (simp [*, errW_none, errW_some] <;> rfl), by repeat (first | (with_reducible first | exact HB.out | apply below_alloc | apply pw_below_drewN | apply below_drew1 | refine below_set ?_ GE1.out | refine below_set ?_ GE2.out) | exact HB.out)⟩
  · rw [if_neg c5] at H
    have c5b0 : (t4 == 0) = false := beq_eq_false_iff_ne.mpr c5
    have c5b1 : (t4 != 0) = true := bne_iff_ne.mpr c5
    simp only [Option.some.injEq, Prod.mk.injEq] at H
    obtain ⟨rfl, rfl, rfl⟩ := H
    go_enter Try.func87, Try.ntmps87
    go_wp2_with (first | ((with_reducible refine gate_dst (N := 3) rfl ?_); refine box_event ?hg (N := 3) ?hd (cs := #[.int .i64 a0_0, .int .i64 a0_1]) (t := 41) ?hr ?_; (case hd => rfl); (case hg => rfl); (case hr => first | (go_simp; done) | (go_simp; rfl)); intro gb1 hg w15 hbox hb; have n0_ := Aside0.mk (below_step (by repeat (first | (with_reducible first | exact HB.out | apply below_alloc | apply pw_below_drewN | apply below_drew1) | exact HB.out)) hb); have n1_ := Aside0.mk (hbox); have n2_ := Aside0.mk ((by rw [hg]; exact (below_size (by repeat (first | (with_reducible first | exact HB.out | apply below_alloc | apply pw_below_drewN | apply below_drew1) | exact HB.out))) : w.heap.size ≤ gb1)); have n3_ := Aside0.mk ((by rw [hg]; exact (below_size (by repeat (first | (with_reducible first | exact HB.out | apply below_alloc | apply pw_below_drewN | apply below_drew1) | exact HB.out))) : w.heap.size ≤ gb1)); clear HB; have HB := n0_; have BK1 := n1_; have GW1 := n2_; have GE1 := n3_; clear n0_ n1_ n2_ n3_; clear hb hbox hg) | ((with_reducible refine gate_dst (N := 6) rfl ?_); refine box_event ?hg (N := 6) ?hd (cs := #[.int .i64 0, .int .i64 0]) (t := 41) ?hr ?_; (case hd => rfl); (case hg => rfl); (case hr => first | (go_simp; done) | (go_simp; rfl)); intro gb2 hg w16 hbox hb; have n0_ := Aside0.mk (blk_below (g := gb1) (o := .cells #[.int .i64 a0_0, .int .i64 a0_1] 41 (0, 0)) (by (with_reducible repeat (first | refine blk_drewN ?_ _ | refine blk_drew ?_ | refine blk_alloc ?_ _)); exact BK1.out) hb); have n1_ := Aside0.mk (below_step (by repeat (first | (with_reducible first | exact HB.out | apply below_alloc | apply pw_below_drewN | apply below_drew1 | refine below_set ?_ GE1.out) | exact HB.out)) hb); have n2_ := Aside0.mk (hbox); have n3_ := Aside0.mk ((by rw [hg]; exact (below_size (by repeat (first | (with_reducible first | exact HB.out | apply below_alloc | apply pw_below_drewN | apply below_drew1 | refine below_set ?_ GE1.out) | exact HB.out))) : w.heap.size ≤ gb2)); have n4_ := Aside0.mk ((by rw [hg]; exact (below_size (by repeat (first | (with_reducible first | exact HB.out | apply below_alloc | apply pw_below_drewN | apply below_drew1 | refine below_set ?_ GE1.out) | exact HB.out))) : w.heap.size ≤ gb2)); have n5_ := Aside0.mk ((by rw [hg]; exact Nat.ne_of_lt (blk_lt (g := gb1) (o := .cells #[.int .i64 a0_0, .int .i64 a0_1] 41 (0, 0)) (by (with_reducible repeat (first | refine blk_drewN ?_ _ | refine blk_drew ?_ | refine blk_alloc ?_ _)); exact BK1.out)) : gb1 ≠ gb2)); have n6_ := Aside0.mk ((by rw [hg]; exact Nat.ne_of_gt (blk_lt (g := gb1) (o := .cells #[.int .i64 a0_0, .int .i64 a0_1] 41 (0, 0)) (by (with_reducible repeat (first | refine blk_drewN ?_ _ | refine blk_drew ?_ | refine blk_alloc ?_ _)); exact BK1.out)) : gb2 ≠ gb1)); clear BK1; clear HB; have BK1 := n0_; have HB := n1_; have BK2 := n2_; have GW2 := n3_; have GE2 := n4_; have NB1_2 := n5_; have NB2_1 := n6_; clear n0_ n1_ n2_ n3_ n4_ n5_ n6_; clear hb hbox hg; have hnb17 := NB1_2.out; have hnc17 := NB2_1.out; have hcz18_0 : w16.cell? ⟨gb1, 0, none⟩ = some (.int .i64 a0_0) := (blk_cell BK1.out 0).trans rfl; have hcz18_1 : w16.cell? ⟨gb1, 1, none⟩ = some (.int .i64 a0_1) := (blk_cell BK1.out 1).trans rfl; have hfz18_0 := blk_frozen BK1.out 0; have hfz18_1 := blk_frozen BK1.out 1) | ((with_reducible refine gate_callee (f := 42) rfl ?_); refine goesL_ (some 17) rfl rfl Try.func42 (by kernel_rfl) rfl #[.int .i64 a0_0, .int .i64 a1, .int .i64 a2] rfl (by (try simp only [List.map_toArray, List.map_cons, List.map_nil]); first | done | rfl | (simp only [List.length_drop, List.length_take]; rfl)) ?_; (with_reducible refine (round_Shift.calls a0_0 a1 a2 t3 t4 _ A4.out).mono ?_); rintro e w19 ⟨rfl, hb⟩; refine ⟨_, rfl, ?_⟩; have n0_ := Aside0.mk (blk_below (g := gb1) (o := .cells #[.int .i64 a0_0, .int .i64 a0_1] 41 (0, 0)) (by (with_reducible repeat (first | refine blk_drewN ?_ _ | refine blk_drew ?_ | refine blk_alloc ?_ _)); exact BK1.out) hb); have n1_ := Aside0.mk (blk_below (g := gb2) (o := .cells #[.int .i64 0, .int .i64 0] 41 (0, 0)) (by (with_reducible repeat (first | refine blk_drewN ?_ _ | refine blk_drew ?_ | refine blk_alloc ?_ _)); exact BK2.out) hb); have n2_ := Aside0.mk (below_step (by repeat (first | (with_reducible first | exact HB.out | apply below_alloc | apply pw_below_drewN | apply below_drew1 | refine below_set ?_ GE1.out | refine below_set ?_ GE2.out) | exact HB.out)) hb); clear BK1; clear BK2; clear HB; have BK1 := n0_; have BK2 := n1_; have HB := n2_; clear n0_ n1_ n2_; (try clear hb); (try clear hb2); (try clear hk); (try clear hi); have hcz20_0 : w19.cell? ⟨gb2, 0, none⟩ = some (.int .i64 0) := (blk_cell BK2.out 0).trans rfl; have hcz20_1 : w19.cell? ⟨gb2, 1, none⟩ = some (.int .i64 0) := (blk_cell BK2.out 1).trans rfl; have hfz20_0 := blk_frozen BK2.out 0; have hfz20_1 := blk_frozen BK2.out 1))
    refine bodyPost_ret (results_ct rfl _ _ gb2 41 #[.int .i64 0, .int .i64 0] (0, 0) _ rfl (by (with_reducible repeat (first | refine blk_drewN ?_ _ | refine blk_drew ?_ | refine blk_alloc ?_ _)); refine blk_put (cs := #[.int .i64 0, .int .i64 0]) ?_ 1 _ rfl; (with_reducible repeat (first | refine blk_drewN ?_ _ | refine blk_drew ?_ | refine blk_alloc ?_ _)); refine blk_put (cs := #[.int .i64 0, .int .i64 0]) ?_ 0 _ rfl; (with_reducible repeat (first | refine blk_drewN ?_ _ | refine blk_drew ?_ | refine blk_alloc ?_ _)); exact BK2.out) Try.underlying41 rfl (by kernel_rfl)) rfl ?_
    exact ⟨by first | rfl | (simp [errW_none, errW_some] <;> rfl) | (simp [*, errW_none, errW_some] <;> rfl), by repeat (first | (with_reducible first | exact HB.out | apply below_alloc | apply pw_below_drewN | apply below_drew1 | refine below_set ?_ GE1.out | refine below_set ?_ GE2.out) | exact HB.out)⟩

end Go.Proofs.Ytpmkkidljmedaaa.X
namespace Go.Proofs.Ytpmkkidljmedaaa.X
open Go.RowKit Go.Proofs.YtpmkkidljmedaaaW.PrintWords Go.Proofs.YtpmkkidljmedaaaW.PrintLast Go.Proofs.YtpmkkidljmedaaaW.PrintMore
attribute [local go_sem] max2_int min2_int max_two min_two max_three min_three max_four min_four   -- for this text's walks alone
set_option linter.unusedVariables false
set_option linter.unusedSimpArgs false

/-! ### roots_root: function 100 -/
def roots_root.f (a0 : Int) (a1 : Int) (a2 : Int) : Option (Int × Int) := if 0 ≤ a0 then ((roots_point.f a0 (Go.bits .and .i64 (wrap64 (4 * (Go.bits .and .i64 a1 (wrap64 ((shl .i64 1 a0) - 1))))) (wrap64 ((shl .i64 1 a0) - 1)))).bind fun bt2 => ((cx_Shift.f bt2.1 bt2.2 (wrap64 (56 - a2)) 1).bind fun bt4 => ((cx_Turn.f bt4.1 bt4.2.1 (shr .i64 (wrap64 (4 * (Go.bits .and .i64 a1 (wrap64 ((shl .i64 1 a0) - 1))))) a0)).bind fun bt8 => ((cx_Conj.f bt8.1 bt8.2.1).bind fun bt11 => (some (bt11.1, bt11.2.1)))))) else (none)
def roots_root.T4 : Bool × List (List Nat × List Nat) := (true, [([], []), ([], []), ([1], [1]), ([], []), ([2, 3], [2, 3]), ([0, 4], [0, 4]), ([5], [5]), ([6], [6]), ([6], [6]), ([7, 5, 0, 1, 2, 3, 4, 5, 6, 7], [7])])
def roots_root.B4 : List Nat := [0, 0, 2, 0, 14, 31, 63, 127, 127, 255]
theorem roots_root.tab4 : rtab .any (opsOf Try.f100 4) = roots_root.T4 := by kernel_rfl
theorem roots_root.bits4 : waitsOk roots_root.T4.2 roots_root.B4 = true := by kernel_rfl
set_option maxHeartbeats 8000000 in
set_option maxRecDepth 100000 in
theorem roots_root.calls (a0 : Int) (a1 : Int) (a2 : Int) (r1 : Int) (r2 : Int) (w : World) (h : roots_root.f a0 a1 a2 = some (r1, r2)) :
    Calls Try.prog 100 #[.int .i64 a0, .int .i64 a1, .int .i64 a2] w fun e w' => e = .returned (.agg #[.int .i64 r1, .int .i64 r2]) ∧ Below w.heap.size w w' := by
  have hu41 := Try.underlying41
  have HB := Aside0.mk (Below.refl w.heap.size w)
  have H : (if 0 ≤ a0 then ((roots_point.f a0 (Go.bits .and .i64 (wrap64 (4 * (Go.bits .and .i64 a1 (wrap64 ((shl .i64 1 a0) - 1))))) (wrap64 ((shl .i64 1 a0) - 1)))).bind fun bt2 => ((cx_Shift.f bt2.1 bt2.2 (wrap64 (56 - a2)) 1).bind fun bt4 => ((cx_Turn.f bt4.1 bt4.2.1 (shr .i64 (wrap64 (4 * (Go.bits .and .i64 a1 (wrap64 ((shl .i64 1 a0) - 1))))) a0)).bind fun bt8 => ((cx_Conj.f bt8.1 bt8.2.1).bind fun bt11 => (some (bt11.1, bt11.2.1)))))) else (none)) = some (r1, r2) := h
  clear h
  by_cases c4 : 0 ≤ a0
  · rw [if_pos c4] at H
    have c4b0 := eq_true c4
    have c4b1 : decide (0 ≤ a0) = true := decide_eq_true c4
    clear c4
    obtain ⟨ji5, hji5⟩ : ∃ j_ : Int, (shl .i64 1 a0) = j_ := ⟨_, rfl⟩
    replace H : ((roots_point.f a0 (Go.bits .and .i64 (wrap64 (4 * (Go.bits .and .i64 a1 (wrap64 ((ji5) - 1))))) (wrap64 ((ji5) - 1)))).bind fun bt2 => ((cx_Shift.f bt2.1 bt2.2 (wrap64 (56 - a2)) 1).bind fun bt4 => ((cx_Turn.f bt4.1 bt4.2.1 (shr .i64 (wrap64 (4 * (Go.bits .and .i64 a1 (wrap64 ((ji5) - 1))))) a0)).bind fun bt8 => ((cx_Conj.f bt8.1 bt8.2.1).bind fun bt11 => (some (bt11.1, bt11.2.1)))))) = some (r1, r2) := by first | (rw [hji5] at H; exact H) | (simp only [hji5] at H ⊢; exact H)
    have hji5_ : (IntKind.i64.wrap (1 * 2 ^ min a0.toNat 64)) = ji5 := hji5
    have hji5z : a0 ≤ 64 → (IntKind.i64.wrap (1 * 2 ^ a0.toNat)) = ji5 := shl_small hji5
    have hji5u : (IntKind.i64.wrap (2 ^ min a0.toNat 64)) = ji5 := by have h_ := hji5_; rw [Int.one_mul] at h_; exact h_
    have hji5v : a0 ≤ 64 → (IntKind.i64.wrap (2 ^ a0.toNat)) = ji5 := fun hle_ => by have h_ := hji5z hle_; rw [Int.one_mul] at h_; exact h_
    have hji5y : (wrap64 (1 * 2 ^ min a0.toNat 64)) = ji5 := (i64_w _).symm.trans hji5_
    have hji5x : a0 ≤ 64 → (wrap64 (1 * 2 ^ a0.toNat)) = ji5 := fun h_ => (i64_w _).symm.trans (hji5z h_)
    replace H := Option.bind_eq_some_iff.mp H
    obtain ⟨⟨t2, t3⟩, A60, H⟩ := H
    replace H : ((cx_Shift.f t2 t3 (wrap64 (56 - a2)) 1).bind fun bt4 => ((cx_Turn.f bt4.1 bt4.2.1 (shr .i64 (wrap64 (4 * (Go.bits .and .i64 a1 (wrap64 ((ji5) - 1))))) a0)).bind fun bt8 => ((cx_Conj.f bt8.1 bt8.2.1).bind fun bt11 => (some (bt11.1, bt11.2.1))))) = some (r1, r2) := H
    have A6 := Aside0.mk A60
    clear A60
    replace H := Option.bind_eq_some_iff.mp H
    obtain ⟨⟨t4, t5, t6⟩, A70, H⟩ := H
    replace H : ((cx_Turn.f t4 t5 (shr .i64 (wrap64 (4 * (Go.bits .and .i64 a1 (wrap64 ((ji5) - 1))))) a0)).bind fun bt8 => ((cx_Conj.f bt8.1 bt8.2.1).bind fun bt11 => (some (bt11.1, bt11.2.1)))) = some (r1, r2) := H
    have A7 := Aside0.mk A70
    clear A70
    have c8b0 := eq_true (of_decide_eq_true (by first | (with_reducible assumption) | assumption) : 0 ≤ a0)
    obtain ⟨ji9, hji9⟩ : ∃ j_ : Int, (shr .i64 (wrap64 (4 * (Go.bits .and .i64 a1 (wrap64 ((ji5) - 1))))) a0) = j_ := ⟨_, rfl⟩
    replace H : ((cx_Turn.f t4 t5 (ji9)).bind fun bt8 => ((cx_Conj.f bt8.1 bt8.2.1).bind fun bt11 => (some (bt11.1, bt11.2.1)))) = some (r1, r2) := by first | (rw [hji9] at H; exact H) | (simp only [hji9] at H ⊢; exact H)
    (try rw [hji9] at A6)
    (try rw [hji9] at A7)
    have hji9_ : ((wrap64 (4 * (Go.bits .and .i64 a1 (wrap64 ((ji5) - 1))))) / 2 ^ min a0.toNat 64) = ji9 := hji9
    have hji9z : a0 ≤ 64 → ((wrap64 (4 * (Go.bits .and .i64 a1 (wrap64 ((ji5) - 1))))) / 2 ^ a0.toNat) = ji9 := shr_small hji9
    replace H := Option.bind_eq_some_iff.mp H
    obtain ⟨⟨t8, t9, t10⟩, A100, H⟩ := H
    replace H : ((cx_Conj.f t8 t9).bind fun bt11 => (some (bt11.1, bt11.2.1))) = some (r1, r2) := H
    have A10 := Aside0.mk A100
    clear A100
    replace H := Option.bind_eq_some_iff.mp H
    obtain ⟨⟨t11, t12, t13⟩, A110, H⟩ := H
    replace H : (some (t11, t12)) = some (r1, r2) := H
    have A11 := Aside0.mk A110
    clear A110
    simp only [Option.some.injEq, Prod.mk.injEq] at H
    obtain ⟨rfl, rfl⟩ := H
    go_enter Try.func100, Try.ntmps100
    try go_wp2_with (first | ((with_reducible refine gate_dst (N := 6) rfl ?_); refine box_event ?hg (N := 6) ?hd (cs := #[.int .i64 0, .int .i64 0]) (t := 41) ?hr ?_; (case hd => rfl); (case hg => rfl); (case hr => first | (go_simp; done) | (go_simp; rfl)); intro gb1 hg w12 hbox hb; have n0_ := Aside0.mk (below_step (by repeat (first | (with_reducible first | exact HB.out | apply below_alloc | apply pw_below_drewN | apply below_drew1) | exact HB.out)) hb); have n1_ := Aside0.mk (hbox); have n2_ := Aside0.mk ((by rw [hg]; exact (below_size (by repeat (first | (with_reducible first | exact HB.out | apply below_alloc | apply pw_below_drewN | apply below_drew1) | exact HB.out))) : w.heap.size ≤ gb1)); have n3_ := Aside0.mk ((by rw [hg]; exact (below_size (by repeat (first | (with_reducible first | exact HB.out | apply below_alloc | apply pw_below_drewN | apply below_drew1) | exact HB.out))) : w.heap.size ≤ gb1)); clear HB; have HB := n0_; have BK1 := n1_; have GW1 := n2_; have GE1 := n3_; clear n0_ n1_ n2_ n3_; clear hb hbox hg) | ((with_reducible refine gate_callee (f := 124) rfl ?_); refine goesL_ (some 24) rfl rfl Try.func124 (by kernel_rfl) rfl #[.int .i64 a0, .int .i64 (Go.bits .and .i64 (wrap64 (4 * (Go.bits .and .i64 a1 (wrap64 ((ji5) - 1))))) (wrap64 ((ji5) - 1)))] rfl (by (try simp only [List.map_toArray, List.map_cons, List.map_nil]); first | done | (simp only [hji5]; rfl) | rfl | (simp only [List.length_drop, List.length_take]; rfl)) ?_; (with_reducible refine (roots_point.calls a0 (Go.bits .and .i64 (wrap64 (4 * (Go.bits .and .i64 a1 (wrap64 ((ji5) - 1))))) (wrap64 ((ji5) - 1))) t2 t3 _ A6.out).mono ?_); rintro e w13 ⟨rfl, hb⟩; refine ⟨_, rfl, ?_⟩; have n0_ := Aside0.mk (blk_below (g := gb1) (o := .cells #[.int .i64 0, .int .i64 0] 41 (0, 0)) (by (with_reducible repeat (first | refine blk_drewN ?_ _ | refine blk_drew ?_ | refine blk_alloc ?_ _)); exact BK1.out) hb); have n1_ := Aside0.mk (below_step (by repeat (first | (with_reducible first | exact HB.out | apply below_alloc | apply pw_below_drewN | apply below_drew1 | refine below_set ?_ GE1.out) | exact HB.out)) hb); clear BK1; clear HB; have BK1 := n0_; have HB := n1_; clear n0_ n1_; (try clear hb); (try clear hb2); (try clear hk); (try clear hi)) | ((with_reducible refine gate_callee (f := 87) rfl ?_); refine goesL_ (some 27) rfl rfl Try.func87 (by kernel_rfl) rfl #[.agg #[.int .i64 t2, .int .i64 t3], .int .i64 (wrap64 (56 - a2)), .int .i64 1] rfl (by (try simp only [List.map_toArray, List.map_cons, List.map_nil]); first | done | rfl | (simp only [List.length_drop, List.length_take]; rfl)) ?_; (with_reducible refine (cx_Shift.calls t2 t3 (wrap64 (56 - a2)) 1 t4 t5 t6 _ A7.out).mono ?_); rintro e w14 ⟨rfl, hb⟩; refine ⟨_, rfl, ?_⟩; have n0_ := Aside0.mk (blk_below (g := gb1) (o := .cells #[.int .i64 0, .int .i64 0] 41 (0, 0)) (by (with_reducible repeat (first | refine blk_drewN ?_ _ | refine blk_drew ?_ | refine blk_alloc ?_ _)); exact BK1.out) hb); have n1_ := Aside0.mk (below_step (by repeat (first | (with_reducible first | exact HB.out | apply below_alloc | apply pw_below_drewN | apply below_drew1 | refine below_set ?_ GE1.out) | exact HB.out)) hb); clear BK1; clear HB; have BK1 := n0_; have HB := n1_; clear n0_ n1_; (try clear hb); (try clear hb2); (try clear hk); (try clear hi)) | ((with_reducible refine gate_dst (N := 9) rfl ?_); refine box_event ?hg (N := 9) ?hd (cs := #[.int .i64 0, .int .i64 0]) (t := 41) ?hr ?_; (case hd => rfl); (case hg => rfl); (case hr => first | (go_simp; done) | (go_simp; rfl)); intro gb7 hg w15 hbox hb; have n0_ := Aside0.mk (blk_below (g := gb1) (o := .cells #[.int .i64 0, .int .i64 0] 41 (0, 0)) (by (with_reducible repeat (first | refine blk_drewN ?_ _ | refine blk_drew ?_ | refine blk_alloc ?_ _)); exact BK1.out) hb); have n1_ := Aside0.mk (below_step (by repeat (first | (with_reducible first | exact HB.out | apply below_alloc | apply pw_below_drewN | apply below_drew1 | refine below_set ?_ GE1.out) | exact HB.out)) hb); have n2_ := Aside0.mk (hbox); have n3_ := Aside0.mk ((by rw [hg]; exact (below_size (by repeat (first | (with_reducible first | exact HB.out | apply below_alloc | apply pw_below_drewN | apply below_drew1 | refine below_set ?_ GE1.out) | exact HB.out))) : w.heap.size ≤ gb7)); have n4_ := Aside0.mk ((by rw [hg]; exact (below_size (by repeat (first | (with_reducible first | exact HB.out | apply below_alloc | apply pw_below_drewN | apply below_drew1 | refine below_set ?_ GE1.out) | exact HB.out))) : w.heap.size ≤ gb7)); have n5_ := Aside0.mk ((by rw [hg]; exact Nat.ne_of_lt (blk_lt (g := gb1) (o := .cells #[.int .i64 0, .int .i64 0] 41 (0, 0)) (by (with_reducible repeat (first | refine blk_drewN ?_ _ | refine blk_drew ?_ | refine blk_alloc ?_ _)); exact BK1.out)) : gb1 ≠ gb7)); have n6_ := Aside0.mk ((by rw [hg]; exact Nat.ne_of_gt (blk_lt (g := gb1) (o := .cells #[.int .i64 0, .int .i64 0] 41 (0, 0)) (by (with_reducible repeat (first | refine blk_drewN ?_ _ | refine blk_drew ?_ | refine blk_alloc ?_ _)); exact BK1.out)) : gb7 ≠ gb1)); clear BK1; clear HB; have BK1 := n0_; have HB := n1_; have BK7 := n2_; have GW7 := n3_; have GE7 := n4_; have NB1_7 := n5_; have NB7_1 := n6_; clear n0_ n1_ n2_ n3_ n4_ n5_ n6_; clear hb hbox hg; have hnb16 := NB7_1.out; have hnc16 := NB1_7.out; have hcz17_0 : w15.cell? ⟨gb7, 0, none⟩ = some (.int .i64 0) := (blk_cell BK7.out 0).trans rfl; have hcz17_1 : w15.cell? ⟨gb7, 1, none⟩ = some (.int .i64 0) := (blk_cell BK7.out 1).trans rfl; have hfz17_0 := blk_frozen BK7.out 0; have hfz17_1 := blk_frozen BK7.out 1))
    have n0_ : Aside0 (((w15.setCell ⟨gb7, 0, none⟩ (.int .i64 t4)).setCell ⟨gb7, 1, none⟩ (.int .i64 t5)).heap[gb1]? = some (.cells #[.int .i64 0, .int .i64 0] 41 (0, 0))) := ⟨by (with_reducible repeat (first | refine blk_drewN ?_ _ | refine blk_drew ?_ | refine blk_alloc ?_ _)); refine blk_far ?_ NB1_7.out _; (with_reducible repeat (first | refine blk_drewN ?_ _ | refine blk_drew ?_ | refine blk_alloc ?_ _)); refine blk_far ?_ NB1_7.out _; (with_reducible repeat (first | refine blk_drewN ?_ _ | refine blk_drew ?_ | refine blk_alloc ?_ _)); exact BK1.out⟩
    have n1_ : Aside0 (((w15.setCell ⟨gb7, 0, none⟩ (.int .i64 t4)).setCell ⟨gb7, 1, none⟩ (.int .i64 t5)).heap[gb7]? = some (.cells #[.int .i64 t4, .int .i64 t5] 41 (0, 0))) := ⟨by (with_reducible repeat (first | refine blk_drewN ?_ _ | refine blk_drew ?_ | refine blk_alloc ?_ _)); refine blk_put (cs := #[.int .i64 t4, .int .i64 0]) ?_ 1 _ rfl; (with_reducible repeat (first | refine blk_drewN ?_ _ | refine blk_drew ?_ | refine blk_alloc ?_ _)); refine blk_put (cs := #[.int .i64 0, .int .i64 0]) ?_ 0 _ rfl; (with_reducible repeat (first | refine blk_drewN ?_ _ | refine blk_drew ?_ | refine blk_alloc ?_ _)); exact BK7.out⟩
    have n2_ : Aside0 (Below w.heap.size w ((w15.setCell ⟨gb7, 0, none⟩ (.int .i64 t4)).setCell ⟨gb7, 1, none⟩ (.int .i64 t5))) := ⟨by repeat (first | (with_reducible first | exact HB.out | apply below_alloc | apply pw_below_drewN | apply below_drew1 | refine below_set ?_ GE1.out | refine below_set ?_ GE7.out) | exact HB.out)⟩
    (try clear BK1)
    (try clear BK7)
    (try clear HB)
    generalize ((w15.setCell ⟨gb7, 0, none⟩ (.int .i64 t4)).setCell ⟨gb7, 1, none⟩ (.int .i64 t5)) = w18 at n0_ n1_ n2_ ⊢
    have BK1 := n0_
    have BK7 := n1_
    have HB := n2_
    clear n0_ n1_ n2_
    have n0_ := Aside0.mk (blk_drew BK1.out)
    have n1_ := Aside0.mk (blk_drew BK7.out)
    have n2_ := Aside0.mk (below_drew1 HB.out)
    clear BK1
    clear BK7
    clear HB
    have BK1 := n0_
    have BK7 := n1_
    have HB := n2_
    clear n0_ n1_ n2_
    refine start_ (n := 10) (S := fun w' => w'.cell? ⟨gb7, 0, none⟩ = some (.int .i64 t4) ∧ w'.cell? ⟨gb7, 1, none⟩ = some (.int .i64 t5)) (ds := [9]) #[false, false, false, false, false, false, false, false, false, false] (by kernel_rfl) rfl rfl ⟨(blk_cell BK7.out 0).trans rfl, (blk_cell BK7.out 1).trans rfl⟩ (fun hHeld => ?_); refine with_tabW roots_root.tab4 roots_root.bits4 (fun HT_ HW_ => ?_)
    generalize w18.drew = w19 at BK1 BK7 HB hHeld ⊢
    refine pure_ (i := 1) (N := some 32) (v := ?_) (a' := ?_) #[false, true, false, false, false, false, false, false, false, false] rfl rfl (any_of HT_.out (by kernel_rfl)) (fun _ _ _ h => h) (Or.inl ⟨by rfl, ?_⟩) ?_ ?_
    rotate_left
    · intro w'
      go_simp
      with_reducible rfl
    rotate_left
    · simp only [Act.put, List.setIfInBounds_toArray, List.set_cons_zero, List.set_cons_succ, i64_w, i32_w]
      rfl
    refine pure_ (i := 2) (N := some 33) (v := ?_) (a' := ?_) #[false, true, true, false, false, false, false, false, false, false] rfl rfl (any_of HT_.out (by kernel_rfl)) (fun _ _ _ h => h) (Or.inl ⟨by rfl, ?_⟩) ?_ ?_
    rotate_left
    · intro w'
      go_simp
      with_reducible rfl
    rotate_left
    · simp only [Act.put, List.setIfInBounds_toArray, List.set_cons_zero, List.set_cons_succ, i64_w, i32_w]
      rfl
    refine pure_ (i := 3) (N := some 34) (v := ?_) (a' := ?_) #[false, true, true, true, false, false, false, false, false, false] rfl rfl (any_of HT_.out (by kernel_rfl)) (fun _ _ _ h => h) (Or.inl ⟨by rfl, ?_⟩) ?_ ?_
    rotate_left
    · intro w'
      go_simp
      with_reducible rfl
    rotate_left
    · simp only [Act.put, List.setIfInBounds_toArray, List.set_cons_zero, List.set_cons_succ, i64_w, i32_w]
      rfl
    refine pure_ (i := 4) (N := some 35) (v := ?_) (a' := ?_) #[false, true, true, true, true, false, false, false, false, false] rfl rfl (any_of HT_.out (by kernel_rfl)) (fun _ _ _ h => h) (Or.inl ⟨by rfl, ?_⟩) ?_ ?_
    rotate_left
    · intro w'
      go_simp
      with_reducible rfl
    rotate_left
    · simp only [Act.put, List.setIfInBounds_toArray, List.set_cons_zero, List.set_cons_succ, i64_w, i32_w]
      rfl
    refine take_ (i := 0) (N := some 31) (v := ?_) (a' := ?_) #[true, true, true, true, true, false, false, false, false, false] rfl rfl (take_ofW HT_.out HW_.out (by kernel_rfl)) (fun _ _ _ h => h) (Or.inl ⟨by rfl, ?_⟩) hHeld ?_ ?_
    rotate_left
    · rintro w' ⟨s0, s1⟩
      go_simp
      with_reducible rfl
    rotate_left
    · simp only [Act.put, List.setIfInBounds_toArray, List.set_cons_zero, List.set_cons_succ, i64_w, i32_w]
      rfl
    refine one_ (i := 5) (N := some 36) #[true, true, true, true, true, true, false, false, false, false] rfl rfl (one_of HT_.out (by kernel_rfl)) (by decide) (fun K hK => ?_)
    refine goes_ Try.func95 (by kernel_rfl) rfl #[.agg #[.int .i64 t4, .int .i64 t5], .int .i64 ji9] (by rfl) rfl rfl (by (try simp only [List.map_toArray, List.map_cons, List.map_nil]); first | done | (simp only [hji9]; rfl) | rfl | (simp only [List.length_drop, List.length_take]; rfl)) ?_
    with_reducible refine (cx_Turn.calls t4 t5 ji9 t8 t9 t10 _ A10.out).mono ?_
    rintro e w20 ⟨rfl, hb⟩
    refine ⟨_, rfl, ?_⟩
    have n0_ := Aside0.mk (blk_below (g := gb1) (o := .cells #[.int .i64 0, .int .i64 0] 41 (0, 0)) (by (with_reducible repeat (first | refine blk_drewN ?_ _ | refine blk_drew ?_ | refine blk_alloc ?_ _)); exact BK1.out) hb)
    have n1_ := Aside0.mk (blk_below (g := gb7) (o := .cells #[.int .i64 t4, .int .i64 t5] 41 (0, 0)) (by (with_reducible repeat (first | refine blk_drewN ?_ _ | refine blk_drew ?_ | refine blk_alloc ?_ _)); exact BK7.out) hb)
    have n2_ := Aside0.mk (below_step (by repeat (first | (with_reducible first | exact HB.out | apply below_alloc | apply pw_below_drewN | apply below_drew1 | refine below_set ?_ GE1.out | refine below_set ?_ GE7.out) | exact HB.out)) hb)
    clear BK1
    clear BK7
    clear HB
    have BK1 := n0_
    have BK7 := n1_
    have HB := n2_
    clear n0_ n1_ n2_
    (try clear hb)
    (try clear hb2)
    (try clear hk)
    (try clear hi)
    refine hK.out _ _ ⟨(blk_cell BK7.out 0).trans rfl, (blk_cell BK7.out 1).trans rfl⟩ (fun hHeld => ?_)
    clear hK K
    refine norm_ (a' := ?_) ?_ ?_
    rotate_left
    · show Act.put _ (some 36) _ = _
      simp only [Act.put, List.setIfInBounds_toArray, List.set_cons_zero, List.set_cons_succ, i64_w, i32_w]
      rfl
    refine pure_ (i := 6) (N := some 30) (v := ?_) (a' := ?_) #[true, true, true, true, true, true, true, false, false, false] rfl rfl (any_of HT_.out (by kernel_rfl)) (fun _ _ _ h => h) (Or.inl ⟨by rfl, ?_⟩) ?_ ?_
    rotate_left
    · intro w'
      go_simp
      with_reducible rfl
    rotate_left
    · simp only [Act.put, List.setIfInBounds_toArray, List.set_cons_zero, List.set_cons_succ, i64_w, i32_w]
      rfl
    refine pure_ (i := 7) (N := some 37) (v := ?_) (a' := ?_) #[true, true, true, true, true, true, true, true, false, false] rfl rfl (any_of HT_.out (by kernel_rfl)) (fun _ _ _ h => h) (Or.inl ⟨by rfl, ?_⟩) ?_ ?_
    rotate_left
    · intro w'
      go_simp
      with_reducible rfl
    rotate_left
    · simp only [Act.put, List.setIfInBounds_toArray, List.set_cons_zero, List.set_cons_succ, i64_w, i32_w]
      rfl
    refine pure_ (i := 8) (N := some 38) (v := ?_) (a' := ?_) #[true, true, true, true, true, true, true, true, true, false] rfl rfl (any_of HT_.out (by kernel_rfl)) (fun _ _ _ h => h) (Or.inl ⟨by rfl, ?_⟩) ?_ ?_
    rotate_left
    · intro w'
      go_simp
      with_reducible rfl
    rotate_left
    · simp only [Act.put, List.setIfInBounds_toArray, List.set_cons_zero, List.set_cons_succ, i64_w, i32_w]
      rfl
    refine last_ (i := 9) (N := none) #[true, true, true, true, true, true, true, true, true, true] rfl rfl (one_of HT_.out (by kernel_rfl)) (by decide) (fun K hK => ?_)
    have hs21 : w20.cell? ⟨gb7, 0, none⟩ = some (.int .i64 t4) := (blk_cell BK7.out 0).trans rfl
    have hfs21 := blk_frozen BK7.out 0
    have hns21_0 := NB1_7.out
    have hms21_0 := NB7_1.out
    have hs22 : w20.cell? ⟨gb7, 1, none⟩ = some (.int .i64 t5) := (blk_cell BK7.out 1).trans rfl
    have hfs22 := blk_frozen BK7.out 1
    have hns22_0 := NB1_7.out
    have hms22_0 := NB7_1.out
    refine skip_ (w1 := ?_) (by rfl) rfl ?_ ?_
    rotate_left
    · go_simp
      rfl
    refine hK.out _ _ ?_
    clear hK K
    refine done_ (done_of HT_.out (by kernel_rfl)) ?_
    have hcz23_0 : w20.cell? ⟨gb7, 0, none⟩ = some (.int .i64 t4) := (blk_cell BK7.out 0).trans rfl
    have hcz23_1 : w20.cell? ⟨gb7, 1, none⟩ = some (.int .i64 t5) := (blk_cell BK7.out 1).trans rfl
    have hfz23_0 := blk_frozen BK7.out 0
    have hfz23_1 := blk_frozen BK7.out 1
    try go_wp2_with (first | ((with_reducible refine gate_callee (f := 71) rfl ?_); refine goesL_ (some 41) rfl rfl Try.func71 (by kernel_rfl) rfl #[.agg #[.int .i64 t8, .int .i64 t9]] rfl (by (try simp only [List.map_toArray, List.map_cons, List.map_nil]); first | done | rfl | (simp only [List.length_drop, List.length_take]; rfl)) ?_; (with_reducible refine (cx_Conj.calls t8 t9 t11 t12 t13 _ A11.out).mono ?_); rintro e w24 ⟨rfl, hb⟩; refine ⟨_, rfl, ?_⟩; have n0_ := Aside0.mk (blk_below (g := gb1) (o := .cells #[.int .i64 0, .int .i64 0] 41 (0, 0)) (by (with_reducible repeat (first | refine blk_drewN ?_ _ | refine blk_drew ?_ | refine blk_alloc ?_ _)); refine blk_far ?_ NB1_7.out _; (with_reducible repeat (first | refine blk_drewN ?_ _ | refine blk_drew ?_ | refine blk_alloc ?_ _)); refine blk_far ?_ NB1_7.out _; (with_reducible repeat (first | refine blk_drewN ?_ _ | refine blk_drew ?_ | refine blk_alloc ?_ _)); exact BK1.out) hb); have n1_ := Aside0.mk (blk_below (g := gb7) (o := .cells #[.int .i64 t8, .int .i64 t9] 41 (0, 0)) (by (with_reducible repeat (first | refine blk_drewN ?_ _ | refine blk_drew ?_ | refine blk_alloc ?_ _)); refine blk_put (cs := #[.int .i64 t8, .int .i64 t5]) ?_ 1 _ rfl; (with_reducible repeat (first | refine blk_drewN ?_ _ | refine blk_drew ?_ | refine blk_alloc ?_ _)); refine blk_put (cs := #[.int .i64 t4, .int .i64 t5]) ?_ 0 _ rfl; (with_reducible repeat (first | refine blk_drewN ?_ _ | refine blk_drew ?_ | refine blk_alloc ?_ _)); exact BK7.out) hb); have n2_ := Aside0.mk (below_step (by repeat (first | (with_reducible first | exact HB.out | apply below_alloc | apply pw_below_drewN | apply below_drew1 | refine below_set ?_ GE1.out | refine below_set ?_ GE7.out) | exact HB.out)) hb); clear BK1; clear BK7; clear HB; have BK1 := n0_; have BK7 := n1_; have HB := n2_; clear n0_ n1_ n2_; (try clear hb); (try clear hb2); (try clear hk); (try clear hi); have hcz25_0 : w24.cell? ⟨gb7, 0, none⟩ = some (.int .i64 t8) := (blk_cell BK7.out 0).trans rfl; have hcz25_1 : w24.cell? ⟨gb7, 1, none⟩ = some (.int .i64 t9) := (blk_cell BK7.out 1).trans rfl; have hfz25_0 := blk_frozen BK7.out 0; have hfz25_1 := blk_frozen BK7.out 1; have hcz26_0 : w24.cell? ⟨gb1, 0, none⟩ = some (.int .i64 0) := (blk_cell BK1.out 0).trans rfl; have hcz26_1 : w24.cell? ⟨gb1, 1, none⟩ = some (.int .i64 0) := (blk_cell BK1.out 1).trans rfl; have hfz26_0 := blk_frozen BK1.out 0; have hfz26_1 := blk_frozen BK1.out 1))
    refine bodyPost_ret (results_cell_row rfl _ _ gb1 41 #[.int .i64 t11, .int .i64 t12] (0, 0) _ rfl (by (with_reducible repeat (first | refine blk_drewN ?_ _ | refine blk_drew ?_ | refine blk_alloc ?_ _)); refine blk_put (cs := #[.int .i64 t11, .int .i64 0]) ?_ 1 _ rfl; (with_reducible repeat (first | refine blk_drewN ?_ _ | refine blk_drew ?_ | refine blk_alloc ?_ _)); refine blk_put (cs := #[.int .i64 0, .int .i64 0]) ?_ 0 _ rfl; (with_reducible repeat (first | refine blk_drewN ?_ _ | refine blk_drew ?_ | refine blk_alloc ?_ _)); refine blk_far ?_ NB1_7.out _; (with_reducible repeat (first | refine blk_drewN ?_ _ | refine blk_drew ?_ | refine blk_alloc ?_ _)); refine blk_far ?_ NB1_7.out _; (with_reducible repeat (first | refine blk_drewN ?_ _ | refine blk_drew ?_ | refine blk_alloc ?_ _)); exact BK1.out) Try.underlying41 rfl (by kernel_rfl)) rfl ?_
    exact ⟨by first | rfl | (simp [errW_none, errW_some] <;> rfl) | (simp only [← hji5, ← hji9]; first | rfl | (simp [errW_none, errW_some] <;> rfl)) | (simp [*, errW_none, errW_some] <;> rfl), by repeat (first | (with_reducible first | exact HB.out | apply below_alloc | apply pw_below_drewN | apply below_drew1 | refine below_set ?_ GE1.out | refine below_set ?_ GE7.out) | exact HB.out)⟩
  · rw [if_neg c4] at H
    exact absurd H (by simp)

end Go.Proofs.Ytpmkkidljmedaaa.X
namespace Go.Proofs.Ytpmkkidljmedaaa.X
open Go.RowKit Go.Proofs.YtpmkkidljmedaaaW.PrintWords Go.Proofs.YtpmkkidljmedaaaW.PrintLast Go.Proofs.YtpmkkidljmedaaaW.PrintMore
attribute [local go_sem] max2_int min2_int max_two min_two max_three min_three max_four min_four   -- for this text's walks alone
set_option linter.unusedVariables false
set_option linter.unusedSimpArgs false

/-! ### roots_may: function 97 -/
def roots_may.f (a0 : Int) (a1 : Int) : Option (Bool) := (round_Shift.f 0 a1 1).bind fun bt1 => (if a0 ≥ 2 then (if a0 ≤ 6 then (if bt1.2 = 0 then (some (decide (a1 ≤ 40))) else (some false)) else (some false)) else (some false))
set_option maxHeartbeats 8000000 in
set_option maxRecDepth 100000 in
theorem roots_may.calls (a0 : Int) (a1 : Int) (r : Bool) (w : World) (h : roots_may.f a0 a1 = some r) :
    Calls Try.prog 97 #[.int .i64 a0, .int .i64 a1] w fun e w' => e = .returned (.bool r) ∧ Below w.heap.size w w' := by
  have HB := Aside0.mk (Below.refl w.heap.size w)
  have H : ((round_Shift.f 0 a1 1).bind fun bt1 => (if a0 ≥ 2 then (if a0 ≤ 6 then (if bt1.2 = 0 then (some (decide (a1 ≤ 40))) else (some false)) else (some false)) else (some false))) = some r := h
  clear h
  replace H := Option.bind_eq_some_iff.mp H
  obtain ⟨⟨t1, t2⟩, A30, H⟩ := H
  replace H : (if a0 ≥ 2 then (if a0 ≤ 6 then (if t2 = 0 then (some (decide (a1 ≤ 40))) else (some false)) else (some false)) else (some false)) = some r := H
  have A3 := Aside0.mk A30
  clear A30
  by_cases c4 : a0 ≥ 2
  · rw [if_pos c4] at H
    have c4b0 : decide (2 ≤ a0) = true := decide_eq_true c4
    clear c4
    by_cases c5 : a0 ≤ 6
    · rw [if_pos c5] at H
      have c5b0 : decide (a0 ≤ 6) = true := decide_eq_true c5
      clear c5
      by_cases c6 : t2 = 0
      · rw [if_pos c6] at H
        have c6b0 : (t2 == 0) = true := beq_iff_eq.mpr c6
        have c6b1 : (t2 != 0) = false := bne_eq_false_iff_eq.mpr c6
        clear c6
        obtain rfl := Option.some.inj H
        go_enter Try.func97, Try.ntmps97
        go_wp2_with (first | ((with_reducible refine gate_callee (f := 42) rfl ?_); refine goesL_ (some 9) rfl rfl Try.func42 (by kernel_rfl) rfl #[.int .i64 0, .int .i64 a1, .int .i64 1] rfl (by (try simp only [List.map_toArray, List.map_cons, List.map_nil]); first | done | rfl | (simp only [List.length_drop, List.length_take]; rfl)) ?_; (with_reducible refine (round_Shift.calls 0 a1 1 t1 t2 _ A3.out).mono ?_); rintro e w7 ⟨rfl, hb⟩; refine ⟨_, rfl, ?_⟩; have n0_ := Aside0.mk (below_step (by repeat (first | (with_reducible first | exact HB.out | apply below_alloc | apply pw_below_drewN | apply below_drew1) | exact HB.out)) hb); clear HB; have HB := n0_; clear n0_; (try clear hb); (try clear hb2); (try clear hk); (try clear hi)))
        go_ret
        exact ⟨by first | rfl | (simp [errW_none, errW_some] <;> rfl) | (simp [*, errW_none, errW_some] <;> rfl), by repeat (first | (with_reducible first | exact HB.out | apply below_alloc | apply pw_below_drewN | apply below_drew1) | exact HB.out)⟩
      · rw [if_neg c6] at H
        have c6b0 : (t2 == 0) = false := beq_eq_false_iff_ne.mpr c6
        have c6b1 : (t2 != 0) = true := bne_iff_ne.mpr c6
        obtain rfl := Option.some.inj H
        go_enter Try.func97, Try.ntmps97
        go_wp2_with (first | ((with_reducible refine gate_callee (f := 42) rfl ?_); refine goesL_ (some 9) rfl rfl Try.func42 (by kernel_rfl) rfl #[.int .i64 0, .int .i64 a1, .int .i64 1] rfl (by (try simp only [List.map_toArray, List.map_cons, List.map_nil]); first | done | rfl | (simp only [List.length_drop, List.length_take]; rfl)) ?_; (with_reducible refine (round_Shift.calls 0 a1 1 t1 t2 _ A3.out).mono ?_); rintro e w8 ⟨rfl, hb⟩; refine ⟨_, rfl, ?_⟩; have n0_ := Aside0.mk (below_step (by repeat (first | (with_reducible first | exact HB.out | apply below_alloc | apply pw_below_drewN | apply below_drew1) | exact HB.out)) hb); clear HB; have HB := n0_; clear n0_; (try clear hb); (try clear hb2); (try clear hk); (try clear hi)))
        go_ret
        exact ⟨by first | rfl | (simp [errW_none, errW_some] <;> rfl) | (simp [*, errW_none, errW_some] <;> rfl), by repeat (first | (with_reducible first | exact HB.out | apply below_alloc | apply pw_below_drewN | apply below_drew1) | exact HB.out)⟩
    · rw [if_neg c5] at H
      have c5b0 : decide (a0 ≤ 6) = false := decide_eq_false c5
      clear c5
      obtain rfl := Option.some.inj H
      go_enter Try.func97, Try.ntmps97
      go_wp2_with (first | ((with_reducible refine gate_callee (f := 42) rfl ?_); refine goesL_ (some 9) rfl rfl Try.func42 (by kernel_rfl) rfl #[.int .i64 0, .int .i64 a1, .int .i64 1] rfl (by (try simp only [List.map_toArray, List.map_cons, List.map_nil]); first | done | rfl | (simp only [List.length_drop, List.length_take]; rfl)) ?_; (with_reducible refine (round_Shift.calls 0 a1 1 t1 t2 _ A3.out).mono ?_); rintro e w9 ⟨rfl, hb⟩; refine ⟨_, rfl, ?_⟩; have n0_ := Aside0.mk (below_step (by repeat (first | (with_reducible first | exact HB.out | apply below_alloc | apply pw_below_drewN | apply below_drew1) | exact HB.out)) hb); clear HB; have HB := n0_; clear n0_; (try clear hb); (try clear hb2); (try clear hk); (try clear hi)))
      go_ret
      exact ⟨by first | rfl | (simp [errW_none, errW_some] <;> rfl) | (simp [*, errW_none, errW_some] <;> rfl), by repeat (first | (with_reducible first | exact HB.out | apply below_alloc | apply pw_below_drewN | apply below_drew1) | exact HB.out)⟩
  · rw [if_neg c4] at H
    have c4b0 : decide (2 ≤ a0) = false := decide_eq_false c4
    clear c4
    obtain rfl := Option.some.inj H
    go_enter Try.func97, Try.ntmps97
    go_wp2_with (first | ((with_reducible refine gate_callee (f := 42) rfl ?_); refine goesL_ (some 9) rfl rfl Try.func42 (by kernel_rfl) rfl #[.int .i64 0, .int .i64 a1, .int .i64 1] rfl (by (try simp only [List.map_toArray, List.map_cons, List.map_nil]); first | done | rfl | (simp only [List.length_drop, List.length_take]; rfl)) ?_; (with_reducible refine (round_Shift.calls 0 a1 1 t1 t2 _ A3.out).mono ?_); rintro e w10 ⟨rfl, hb⟩; refine ⟨_, rfl, ?_⟩; have n0_ := Aside0.mk (below_step (by repeat (first | (with_reducible first | exact HB.out | apply below_alloc | apply pw_below_drewN | apply below_drew1) | exact HB.out)) hb); clear HB; have HB := n0_; clear n0_; (try clear hb); (try clear hb2); (try clear hk); (try clear hi)))
    go_ret
    exact ⟨by first | rfl | (simp [errW_none, errW_some] <;> rfl) | (simp [*, errW_none, errW_some] <;> rfl), by repeat (first | (with_reducible first | exact HB.out | apply below_alloc | apply pw_below_drewN | apply below_drew1) | exact HB.out)⟩

end Go.Proofs.Ytpmkkidljmedaaa.X
namespace Go.Proofs.Ytpmkkidljmedaaa.X
open Go.RowKit Go.Proofs.YtpmkkidljmedaaaW.PrintWords Go.Proofs.YtpmkkidljmedaaaW.PrintLast Go.Proofs.YtpmkkidljmedaaaW.PrintMore
attribute [local go_sem] max2_int min2_int max_two min_two max_three min_three max_four min_four
set_option linter.unusedVariables false
set_option linter.unusedSimpArgs false

/-- The first i of n things, and zeros behind them. -/
def rowTo (F : Nat → CxN) (n i : Nat) : List CxN := (List.range n).map fun j => if j < i then F j else ⟨0, 0⟩
theorem rowTo_length (F : Nat → CxN) (n i : Nat) : (rowTo F n i).length = n := by simp [rowTo]
theorem rowTo_zero (F : Nat → CxN) (n : Nat) : rowTo F n 0 = List.replicate n ⟨0, 0⟩ := by
  apply List.ext_getElem
  · simp [rowTo]
  · intro i h1 h2
    simp [rowTo]
theorem rowTo_full (F : Nat → CxN) (n : Nat) : rowTo F n n = (List.range n).map F := by
  unfold rowTo
  apply List.map_congr_left
  intro j hj
  rw [if_pos (List.mem_range.1 hj)]
theorem rowTo_get (F : Nat → CxN) (n i : Nat) (h : i < n) : (rowTo F n i)[i]? = some ⟨0, 0⟩ := by simp [rowTo, h]
theorem rowTo_set (F : Nat → CxN) (n i : Nat) (h : i < n) : (rowTo F n i).set i ⟨(F i).f0, (F i).f1⟩ = rowTo F n (i + 1) := by
  apply List.ext_getElem
  · simp [rowTo]
  · intro j h1 h2
    have hj : j < n := by simpa [rowTo] using h2
    rw [List.getElem_set]
    by_cases e : i = j
    · subst e; simp [rowTo]
    · rw [if_neg e]
      simp only [rowTo, List.getElem_map, List.getElem_range]
      by_cases l : j < i
      · rw [if_pos l, if_pos (by omega)]
      · rw [if_neg l, if_neg (by omega)]

theorem info_cx : ∃ i, Try.prog.info? 41 = some i ∧ i.zero = some (.agg #[.int .i64 0, .int .i64 0]) ∧ i.size = 2 ∧ i.bytes = 16 := by
  have h : (Try.prog.info? 41).map (fun i => (i.zero, i.size, i.bytes)) = some (some (.agg #[(.int .i64 0), (.int .i64 0)]), 2, 16) := by kernel_rfl
  obtain ⟨i, hi, he⟩ := Option.map_eq_some_iff.1 h
  simp only [Prod.mk.injEq] at he
  exact ⟨i, hi, he.1, he.2.1, he.2.2⟩
/-- make([]api.Cx, n). -/
theorem make_cx (n : Nat) (hn : n ≤ 4194304) (W : World) : (Instr.makeSlice 22 (.int .i64 (n : Int)) (.int .i64 (n : Int))).run Try.prog W = .ok (.slice (some ⟨W.heap.size, 0, none⟩) n n) (W.alloc (.cells (madeCells #[.int .i64 0, .int .i64 0] (n * 2)) 41)) := by
  obtain ⟨i, hi, hz, hs, hb⟩ := info_cx
  have := run_make (P := Try.prog) W 22 41 i _ Try.underlying22 hi hz .i64 .i64 (n : Int) (n : Int) (by omega) (by omega) (by rw [hb]; omega) (by omega)
  simpa [hs, Value.cells] using this

theorem gather_walk (c n : Nat) (hn : n ≤ 4194304) (lb : Array Value) (F : Nat → CxN) (w : World) (he : ∀ (args : Array Value) (W : World), (callFunc c args).run Try.prog W = .ok (.enter c args) W)
    (hc : ∀ k : Nat, k < n → ∀ W, Below w.heap.size w W → Calls Try.prog c (#[.int .i64 (k : Int)] ++ lb) W fun e w' => e = .returned (.agg #[.int .i64 (F k).f0, .int .i64 (F k).f1]) ∧ Below W.heap.size W w') :
    Calls Try.prog 98 #[.int .i64 (n : Int), .func (.func c) #[] lb] w fun e w' => e = .returned (.slice (some ⟨w.heap.size, 0, none⟩) n n) ∧ CxBlk w' w.heap.size ((List.range n).map F) ∧ Below w.heap.size w w' := by
  have hmk := fun W => make_cx n hn W
  have HC := Aside0.mk hc
  clear hc
  go_enter Try.func98, Try.ntmps98
  go_wp2
  have G := CxBlk.made w n
  have HB := Aside0.mk (below_alloc (Below.refl _ w) (.cells (madeCells #[.int .i64 0, .int .i64 0] (n * 2)) 41 (0, 0)))
  rw [← rowTo_zero F n] at G
  replace G := Aside0.mk G
  clear hmk
  have hq := Nat.le_refl w.heap.size
  go_loopw [11] (fun v11 wr => ∃ i : Nat, i ≤ n ∧ v11 = .int .i64 i ∧ Aside0 (CxBlk wr w.heap.size (rowTo F n i)) ∧ Aside0 (Below w.heap.size w wr)) (fun v11 _ => n - (intOf v11).toNat)
  case atStart => exact ⟨0, by omega, rfl, G, HB⟩
  case round =>
    clear G HB
    obtain ⟨i, hi, rfl, G, HB⟩ := hrel
    by_cases hlt : i < n
    · have hcall := HC.out i hlt wr HB.out
      go_wp2_with fail
      refine hcall.mono ?_
      rintro e w2 ⟨rfl, hb⟩
      replace G := Aside0.mk (G.out.below hb)
      replace HB := Aside0.mk (below_step HB.out hb)
      clear hb hcall
      have c0 := G.out.cell0 i _ (rowTo_get F n i hlt)
      have c1 := G.out.cell1 i _ (rowTo_get F n i hlt)
      have f0 := G.out.frozen (i * 2)
      have f1 := G.out.frozen (i * 2 + 1)
      go_wp2
      go_roundw
      case rel => exact ⟨i + 1, by omega, by go_num, ⟨by rw [← rowTo_set F n i hlt]; exact G.out.set i _ _⟩, ⟨below_set (below_set HB.out hq) hq⟩⟩
      case measure => simp [intOf]; omega
    · obtain rfl : i = n := by omega
      clear HC he
      go_wp2
      go_ret
      exact ⟨rfl, by rw [← rowTo_full F i]; exact G.out, HB.out⟩

/-- One root. -/
theorem table1_calls (k log bits re im : Int) (hf : roots_root.f log k bits = some (re, im)) (g h : Nat) (w : World) (c0 : w.cell? ⟨g, 0, none⟩ = some (.int .i64 log)) (c1 : w.cell? ⟨h, 0, none⟩ = some (.int .i64 bits)) :
    Calls Try.prog 99 #[.int .i64 k, .pointer (some ⟨g, 0, none⟩), .pointer (some ⟨h, 0, none⟩)] w fun e w' => e = .returned (.agg #[.int .i64 re, .int .i64 im]) ∧ Below w.heap.size w w' := by
  have HF := Lib.hid hf
  have hg := World.block_lt_of_cell? w _ c0
  have hh := World.block_lt_of_cell? w _ c1
  have d0 : ∀ o, (w.alloc o).cell? ⟨g, 0, none⟩ = some (.int .i64 log) := fun o => (World.cell?_alloc_past _ _ _ hg).trans c0
  have d1 : ∀ o, (w.alloc o).cell? ⟨h, 0, none⟩ = some (.int .i64 bits) := fun o => (World.cell?_alloc_past _ _ _ hh).trans c1
  clear hf c0 c1 hg hh
  go_enter Try.func99, Try.ntmps99
  go_wp2_with fail
  have R := blk_new w (.cells #[.int .i64 0, .int .i64 0] 41 (0, 0))
  have HB := below_alloc (Below.refl _ w) (.cells #[.int .i64 0, .int .i64 0] 41 (0, 0))
  refine (roots_root.calls log k bits re im _ HF.out).mono ?_
  rintro e w1 ⟨rfl, hb⟩
  replace R := Aside0.mk (blk_below R hb)
  replace HB := Aside0.mk (below_step HB hb)
  clear hb d0 d1 HF
  have c0 := blk_cell R.out 0
  have c1 := blk_cell R.out 1
  have f0 := blk_frozen R.out 0
  have f1 := blk_frozen R.out 1
  go_wp2
  exact bodyPost_ret (results_cell_row rfl _ _ w.heap.size 41 #[.int .i64 re, .int .i64 im] (0, 0) _ rfl (blk_put (cs := #[.int .i64 re, .int .i64 0]) (blk_put R.out 0 _ rfl) 1 _ rfl) Try.underlying41 rfl (by kernel_rfl)) rfl ⟨rfl, below_set (below_set HB.out (Nat.le_refl _)) (Nat.le_refl _)⟩

/-- A root, or 0 where there is none. -/
def rootV (log bits : Int) (k : Nat) : CxN := match roots_root.f log k bits with | some (a, b) => ⟨a, b⟩ | none => ⟨0, 0⟩
/-- All roots of a length. -/
def tableV (log bits : Int) : List CxN := (List.range (2 ^ log.toNat)).map (rootV log bits)
/-- Are all of them told? -/
def tableOk (log bits : Int) : Bool := (List.range (2 ^ log.toNat)).all fun k => (roots_root.f log (k : Int) bits).isSome

def roots_Table.f (log bits : Int) : Option (List CxN × Int) :=
  (roots_may.f log bits).bind fun m => if m = true then (if log ≤ 6 ∧ 2 ≤ log ∧ tableOk log bits = true then some (tableV log bits, 0) else none) else some ([], 1)
theorem roots_Table.calls (a0 a1 : Int) (r1 : List CxN) (r2 : Int) (w : World) (h : roots_Table.f a0 a1 = some (r1, r2)) :
    Calls Try.prog 70 #[.int .i64 a0, .int .i64 a1] w fun e w' => ∃ v0_ : Value, e = .returned (.tuple #[v0_, .int .i64 r2]) ∧ Kd.R k41 41 w' w.heap.size (fun _ => True) v0_ r1 ∧ Below w.heap.size w w' := by
  have hmf : ∀ (fn : Fn) (first cap : Array Value) (w : World), (Instr.makeFunc fn first cap).run Try.prog w = .ok (.func fn first cap) w := fun _ _ _ _ => rfl
  unfold roots_Table.f at h
  obtain ⟨m, hm, h⟩ := Option.bind_eq_some_iff.mp h
  have HM1 := Lib.hid hm
  clear hm
  cases m with
  | false =>
    simp only [Bool.false_eq_true, if_false, Option.some.injEq, Prod.mk.injEq] at h
    obtain ⟨rfl, rfl⟩ := h
    go_enter Try.func70, Try.ntmps70
    go_wp2_with (go_at_call 97; refine (roots_may.calls a0 a1 false _ HM1.out).mono ?_; rintro e w1 ⟨rfl, hb⟩)
    go_ret2
    exact ⟨_, rfl, Kd.R_nil _ _ _ _ _, below_step (below_alloc (below_alloc (Below.refl _ w) (.cells #[.int .i64 a0] 3 (0, 0))) (.cells #[.int .i64 a1] 3 (0, 0))) hb⟩
  | true =>
    rw [if_pos rfl] at h
    split at h
    case isFalse => cases h
    rename_i hv
    simp only [Option.some.injEq, Prod.mk.injEq] at h
    obtain ⟨rfl, rfl⟩ := h
    obtain ⟨h6, h2, hok⟩ := hv
    go_enter Try.func70, Try.ntmps70
    have HOK := Lib.hid hok
    clear hok
    go_wp2_with fail
    have BL := blk_alloc (blk_new w (.cells #[.int .i64 a0] 3 (0, 0))) (.cells #[.int .i64 a1] 3 (0, 0))
    have BB := blk_new (w.alloc (.cells #[.int .i64 a0] 3 (0, 0))) (.cells #[.int .i64 a1] 3 (0, 0))
    have HB := below_alloc (below_alloc (Below.refl _ w) (.cells #[.int .i64 a0] 3 (0, 0))) (.cells #[.int .i64 a1] 3 (0, 0))
    simp only [World.size_alloc] at BB
    refine (roots_may.calls a0 a1 true _ HM1.out).mono ?_
    rintro e w1 ⟨rfl, hb⟩
    replace BL := blk_below BL hb
    replace BB := blk_below BB hb
    replace HB := below_step HB hb
    clear hb HM1
    have c0 := blk_cell BL 0
    have hp := HM.pow_pos a0.toNat
    have hm := HM.pow_lt62 (i := a0.toNat) (by omega)
    have hn6 : 2 ^ a0.toNat ≤ 2 ^ 6 := Nat.pow_le_pow_right (by omega) (show a0.toNat ≤ 6 by omega)
    have hw : wrap64 (2 ^ a0.toNat) = ((2 ^ a0.toNat : Nat) : Int) := by
      rw [HM.wrap64_id _ (by omega) (by omega)]
      norm_cast
    have HW := Lib.hid hw
    have HN := Lib.hid hn6
    clear hp hm hw hn6
    go_wp2_with fail
    rw [HW.out]
    have hc : ∀ k : Nat, k < 2 ^ a0.toNat → ∀ W, Below w1.heap.size w1 W → Calls Try.prog 99 (#[.int .i64 (k : Int)] ++ #[.pointer (some ⟨w.heap.size, 0, none⟩), .pointer (some ⟨w.heap.size + 1, 0, none⟩)]) W fun e w' => e = .returned (.agg #[.int .i64 (rootV a0 a1 k).f0, .int .i64 (rootV a0 a1 k).f1]) ∧ Below W.heap.size W w' := by
      intro k hk W hW
      have hs := List.all_eq_true.1 HOK.out k (List.mem_range.2 hk)
      obtain ⟨⟨re, im⟩, hr⟩ := Option.isSome_iff_exists.1 hs
      have := table1_calls k a0 a1 re im hr w.heap.size (w.heap.size + 1) W ((blk_cell (blk_below BL hW) 0).trans rfl) ((blk_cell (blk_below BB hW) 0).trans rfl)
      simpa [rootV, hr] using this
    refine (gather_walk 99 (2 ^ a0.toNat) (by have := HN.out; omega) _ (rootV a0 a1) _ (fun args W => enters_ Try.func99 (by kernel_rfl) rfl args W) hc).mono ?_
    rintro e w2 ⟨rfl, G, hb⟩
    have hl : (tableV a0 a1).length = 2 ^ a0.toNat := by simp [tableV]
    have hR := CxBlk.owns (base := w.heap.size) G HB.size (by have := HN.out; rw [List.length_map, List.length_range]; omega)
    replace HB := below_step HB hb
    have e1 : ((List.range (2 ^ a0.toNat)).map (rootV a0 a1)).length = 2 ^ a0.toNat := by simp
    rw [e1] at hR
    clear hb hc c0 BL BB G
    have HR := Lib.hid hR
    have HL := Lib.hid hl
    have HE := Lib.hid e1
    clear hR hl e1
    go_wp2
    go_ret2
    exact ⟨_, rfl, HR.out, HB⟩
end Go.Proofs.Ytpmkkidljmedaaa.X
namespace Go.Proofs.Ytpmkkidljmedaaa.X
open Go.RowKit Go.Proofs.YtpmkkidljmedaaaW.PrintWords Go.Proofs.YtpmkkidljmedaaaW.PrintLast Go.Proofs.YtpmkkidljmedaaaW.PrintMore
attribute [local go_sem] max2_int min2_int max_two min_two max_three min_three max_four min_four   -- for this text's walks alone
set_option linter.unusedVariables false
set_option linter.unusedSimpArgs false

/-! ### window_half: function 110 -/
def window_half.f (a0 : Int) : Option (Int) := (round_Shift.f a0 1 1).bind fun bt1 => (some bt1.1)
set_option maxHeartbeats 8000000 in
set_option maxRecDepth 100000 in
theorem window_half.calls (a0 : Int) (r : Int) (w : World) (h : window_half.f a0 = some r) :
    Calls Try.prog 110 #[.int .i64 a0] w fun e w' => e = .returned (.int .i64 r) ∧ Below w.heap.size w w' := by
  have HB := Aside0.mk (Below.refl w.heap.size w)
  have H : ((round_Shift.f a0 1 1).bind fun bt1 => (some bt1.1)) = some r := h
  clear h
  replace H := Option.bind_eq_some_iff.mp H
  obtain ⟨⟨t1, t2⟩, A20, H⟩ := H
  replace H : (some t1) = some r := H
  have A2 := Aside0.mk A20
  clear A20
  obtain rfl := Option.some.inj H
  go_enter Try.func110, Try.ntmps110
  go_wp2_with (first | ((with_reducible refine gate_callee (f := 42) rfl ?_); refine goesL_ (some 7) rfl rfl Try.func42 (by kernel_rfl) rfl #[.int .i64 a0, .int .i64 1, .int .i64 1] rfl (by (try simp only [List.map_toArray, List.map_cons, List.map_nil]); first | done | rfl | (simp only [List.length_drop, List.length_take]; rfl)) ?_; (with_reducible refine (round_Shift.calls a0 1 1 t1 t2 _ A2.out).mono ?_); rintro e w3 ⟨rfl, hb⟩; refine ⟨_, rfl, ?_⟩; have n0_ := Aside0.mk (below_step (by repeat (first | (with_reducible first | exact HB.out | apply below_alloc | apply pw_below_drewN | apply below_drew1) | exact HB.out)) hb); clear HB; have HB := n0_; clear n0_; (try clear hb); (try clear hb2); (try clear hk); (try clear hi)))
  go_ret
  exact ⟨by first | rfl | (simp [errW_none, errW_some] <;> rfl) | (simp [*, errW_none, errW_some] <;> rfl), by repeat (first | (with_reducible first | exact HB.out | apply below_alloc | apply pw_below_drewN | apply below_drew1) | exact HB.out)⟩

end Go.Proofs.Ytpmkkidljmedaaa.X
namespace Go.Proofs.Ytpmkkidljmedaaa.X
open Go.RowKit Go.Proofs.YtpmkkidljmedaaaW.PrintWords Go.Proofs.YtpmkkidljmedaaaW.PrintLast Go.Proofs.YtpmkkidljmedaaaW.PrintMore
attribute [local go_sem] max2_int min2_int max_two min_two max_three min_three max_four min_four   -- for this text's walks alone
set_option linter.unusedVariables false
set_option linter.unusedSimpArgs false

/-! ### window_div: function 112 -/
def window_div.f (a0 : Int) (a1 : Int) : Option (Int) := (round_Div.f a0 a1).bind fun bt1 => (some bt1.1)
set_option maxHeartbeats 8000000 in
set_option maxRecDepth 100000 in
theorem window_div.calls (a0 : Int) (a1 : Int) (r : Int) (w : World) (h : window_div.f a0 a1 = some r) :
    Calls Try.prog 112 #[.int .i64 a0, .int .i64 a1] w fun e w' => e = .returned (.int .i64 r) ∧ Drawn0 w w' := by
  have H : ((round_Div.f a0 a1).bind fun bt1 => (some bt1.1)) = some r := h
  clear h
  replace H := Option.bind_eq_some_iff.mp H
  obtain ⟨⟨t1, t2⟩, A30, H⟩ := H
  replace H : (some t1) = some r := H
  have A3 := Aside0.mk A30
  clear A30
  obtain rfl := Option.some.inj H
  go_enter Try.func112, Try.ntmps112
  go_wp2_with (first | ((with_reducible refine gate_callee (f := 125) rfl ?_); refine goesL_ (some 10) rfl rfl Try.func125 (by kernel_rfl) rfl #[.int .i64 a0, .int .i64 a1] rfl (by (try simp only [List.map_toArray, List.map_cons, List.map_nil]); first | done | rfl | (simp only [List.length_drop, List.length_take]; rfl)) ?_; (with_reducible refine (round_Div.calls a0 a1 t1 t2 _ A3.out).mono ?_); rintro e w' ⟨rfl, ⟨nd, rfl⟩⟩; refine ⟨_, rfl, ?_⟩))
  go_ret
  exact ⟨by first | rfl | (simp; done) | (simp [*]; done), by repeat (first | exact Drawn0.refl _ | apply Drawn0.step)⟩

end Go.Proofs.Ytpmkkidljmedaaa.X
namespace Go.Proofs.Ytpmkkidljmedaaa.X
open Go.RowKit Go.Proofs.YtpmkkidljmedaaaW.PrintWords Go.Proofs.YtpmkkidljmedaaaW.PrintLast Go.Proofs.YtpmkkidljmedaaaW.PrintMore
set_option linter.unusedVariables false
set_option linter.unusedSimpArgs false

theorem run_put_new {P : Program} {w : World} (mty kt et : TypeId) (r clock : Nat) (es : Array MapEntry) (x : Int) (val : Value) (hm : P.underlying mty = some (.map kt et)) (hk : P.underlying kt = some (.int .i64)) (hb : w.heap[r]? = some (.map es clock))
    (hf : Instr.findNow (.int .i64) (.int .i64 x) es.toList 0 = some none) :
    (Instr.mapUpdate mty (.map (some r)) (.int .i64 x) val).run P w = .ok () { w with heap := w.heap.setIfInBounds r (.map (es.push { key := .int .i64 x, val := val, born := clock }) (clock + 1)) } := by
  have hc : (Instr.checkKey false 10000 kt (.int .i64 x)).run P w = .ok () w := MapKept.run_checkKey (k := .int .i64 x) hk (by simp [MapKept.IsKey]) false 9999
  simp [Instr.mapUpdate, run_underlying hm, MapKept.run_getObj_map hb, hc, MapKept.run_findKey hk hf, MapKept.run_setObj_map _ hb, Result.andThen]
theorem run_look_yes {P : Program} {w : World} (mty kt et : TypeId) (r clock : Nat) (es : Array MapEntry) (x : Int) (i : Nat) (val : Value) (hm : P.underlying mty = some (.map kt et)) (hk : P.underlying kt = some (.int .i64)) (hb : w.heap[r]? = some (.map es clock))
    (hf : Instr.findNow (.int .i64) (.int .i64 x) es.toList 0 = some (some (i, val))) :
    (Instr.lookup mty (.map (some r)) (.int .i64 x) true).run P w = .ok (.tuple #[val, .bool true]) w := by
  have hc : ∀ b, (Instr.checkKey b 10000 kt (.int .i64 x)).run P w = .ok () w := fun b => MapKept.run_checkKey (k := .int .i64 x) hk (by simp [MapKept.IsKey]) b 9999
  simp [Instr.lookup, run_underlying hm, MapKept.run_getObj_map hb, hc, MapKept.run_findKey hk hf, Result.andThen]
theorem run_look_no {P : Program} {w : World} (mty kt et : TypeId) (r clock : Nat) (es : Array MapEntry) (x : Int) (z : Value) (hm : P.underlying mty = some (.map kt et)) (hk : P.underlying kt = some (.int .i64)) (hb : w.heap[r]? = some (.map es clock))
    (hf : Instr.findNow (.int .i64) (.int .i64 x) es.toList 0 = some none) (hz : (zeroValue et).run P w = .ok z w) :
    (Instr.lookup mty (.map (some r)) (.int .i64 x) true).run P w = .ok (.tuple #[z, .bool false]) w := by
  have hc : ∀ b, (Instr.checkKey b 10000 kt (.int .i64 x)).run P w = .ok () w := fun b => MapKept.run_checkKey (k := .int .i64 x) hk (by simp [MapKept.IsKey]) b 9999
  simp [Instr.lookup, run_underlying hm, MapKept.run_getObj_map hb, hc, MapKept.run_findKey hk hf, hz, Result.andThen]
theorem put_step {P : Program} {w : World} {mty kt et : TypeId} {r clock : Nat} {es : Array MapEntry} (x : Int) (val : Value) (hm : P.underlying mty = some (.map kt et)) (hk : P.underlying kt = some (.int .i64)) (hb : w.heap[r]? = some (.map es clock))
    (hf : Instr.findNow (.int .i64) (.int .i64 x) es.toList 0 = some none) :
    ∃ W' : World, (Instr.mapUpdate mty (.map (some r)) (.int .i64 x) val).run P w = .ok () W' ∧ W'.heap[r]? = some (.map (es.push { key := .int .i64 x, val := val, born := clock }) (clock + 1)) ∧ ∀ B, B ≤ r → Below B w W' := by
  refine ⟨_, run_put_new mty kt et r clock es x val hm hk hb hf, ?_, ?_⟩
  · have hlt : r < w.heap.size := (Array.getElem?_eq_some_iff.1 hb).1
    simp [Array.getElem?_setIfInBounds, hlt]
  · intro B hB
    refine ⟨rfl, rfl, rfl, by simp, fun k hk => ?_⟩
    simp only [Array.getElem?_setIfInBounds]
    rw [if_neg (by omega)]
end Go.Proofs.Ytpmkkidljmedaaa.X
namespace Go.Proofs.Ytpmkkidljmedaaa.X
open Go.RowKit Go.Proofs.YtpmkkidljmedaaaW.PrintWords Go.Proofs.YtpmkkidljmedaaaW.PrintLast Go.Proofs.YtpmkkidljmedaaaW.PrintMore
attribute [local go_sem] max2_int min2_int max_two min_two max_three min_three max_four min_four
set_option linter.unusedVariables false
set_option linter.unusedSimpArgs false

/-- The formulas, by their kinds. -/
def formulasM : Array MapEntry := #[{ key := .int .i64 0, val := .func (.func 108) #[] #[], born := 0 }, { key := .int .i64 1, val := .func (.func 109) #[] #[], born := 1 }, { key := .int .i64 2, val := .func (.func 111) #[] #[], born := 2 }, { key := .int .i64 3, val := .func (.func 113) #[] #[], born := 3 }]
theorem formulas_calls (w : World) : Calls Try.prog 79 #[] w fun e w' => e = .returned (.map (some w.heap.size)) ∧ w'.heap[w.heap.size]? = some (.map formulasM 4) ∧ Below w.heap.size w w' := by
  have hmm := @run_makeMap Try.prog
  have b0 : (w.alloc (.map #[] 0)).heap[w.heap.size]? = some (.map #[] 0) := heap_alloc_new w _
  obtain ⟨W1, r1, b1, k1⟩ := put_step (P := Try.prog) 0 (.func (.func 108) #[] #[]) Try.underlying104 Try.underlying3 b0 rfl
  obtain ⟨W2, r2, b2, k2⟩ := put_step (P := Try.prog) 1 (.func (.func 109) #[] #[]) Try.underlying104 Try.underlying3 b1 rfl
  obtain ⟨W3, r3, b3, k3⟩ := put_step (P := Try.prog) 2 (.func (.func 111) #[] #[]) Try.underlying104 Try.underlying3 b2 rfl
  obtain ⟨W4, r4, b4, k4⟩ := put_step (P := Try.prog) 3 (.func (.func 113) #[] #[]) Try.underlying104 Try.underlying3 b3 rfl
  have HB := ((((below_alloc (Below.refl _ w) (.map #[] 0)).trans (k1 _ (Nat.le_refl _))).trans (k2 _ (Nat.le_refl _))).trans (k3 _ (Nat.le_refl _))).trans (k4 _ (Nat.le_refl _))
  replace HB := Aside0.mk HB
  replace b4 := Aside0.mk b4
  clear b0 b1 b2 b3 k1 k2 k3 k4
  go_enter Try.func79, Try.ntmps79
  go_wp2
  go_ret
  exact ⟨rfl, b4.out, HB.out⟩

/-- A weight: by its kind, of 1, and the first and the second cosine. -/
def weight (kind o c d : Int) : Option Int :=
  if kind = 0 then some o else if kind = 1 then window_half.f (wrap64 (o - c)) else if kind = 2 then window_div.f (wrap64 (wrap64 (25 * o) - wrap64 (21 * c))) 46
  else if kind = 3 then window_div.f (wrap64 (wrap64 (wrap64 (21 * o) - wrap64 (25 * c)) + wrap64 (4 * d))) 50 else none
/-- A function answers as the weights of a kind. -/
def Weighs (c : Nat) (kind : Int) : Prop := ∀ (x y z r : Int), weight kind x y z = some r → ∀ w, Calls Try.prog c #[.int .i64 x, .int .i64 y, .int .i64 z] w fun e w' => e = .returned (.int .i64 r) ∧ Below w.heap.size w w'
theorem weighs0 : Weighs 108 0 := by
  intro x y z r h w
  obtain rfl : x = r := by simpa [weight] using h
  clear h
  go_enter Try.func108, Try.ntmps108
  go_wp2
  go_ret
  exact ⟨rfl, Below.refl _ _⟩
theorem weighs1 : Weighs 109 1 := by
  intro x y z r h w
  have H : Hid (window_half.f (wrap64 (x - y)) = some r) := Lib.hid (by simpa [weight] using h)
  clear h
  go_enter Try.func109, Try.ntmps109
  go_wp2_with (go_at_call 110; (with_reducible refine (window_half.calls _ r _ H.out).mono ?_); rintro e w' ⟨rfl, hb⟩)
  go_ret
  exact ⟨rfl, hb⟩
theorem weighs2 : Weighs 111 2 := by
  intro x y z r h w
  have H : Hid (window_div.f (wrap64 (wrap64 (25 * x) - wrap64 (21 * y))) 46 = some r) := Lib.hid (by simpa [weight] using h)
  clear h
  go_enter Try.func111, Try.ntmps111
  go_wp2_with (go_at_call 112; (with_reducible refine (window_div.calls _ 46 r _ H.out).mono ?_); rintro e w' ⟨rfl, hb⟩)
  go_ret
  exact ⟨rfl, hb.below⟩
theorem weighs3 : Weighs 113 3 := by
  intro x y z r h w
  have H : Hid (window_div.f (wrap64 (wrap64 (wrap64 (21 * x) - wrap64 (25 * y)) + wrap64 (4 * z))) 50 = some r) := Lib.hid (by simpa [weight] using h)
  clear h
  go_enter Try.func113, Try.ntmps113
  go_wp2_with (go_at_call 112; (with_reducible refine (window_div.calls _ 50 r _ H.out).mono ?_); rintro e w' ⟨rfl, hb⟩)
  go_ret
  exact ⟨rfl, hb.below⟩

theorem find_yes (kind : Int) (i : Nat) (v : Value) (h : formulasM.toList[i]? = some { key := .int .i64 kind, val := v, born := i }) (hk : kind = i) : Instr.findNow (.int .i64) (.int .i64 kind) formulasM.toList 0 = some (some (i, v)) := by
  subst hk
  match i, h with
  | 0, h => simp [formulasM] at h; subst h; rfl
  | 1, h => simp [formulasM] at h; subst h; rfl
  | 2, h => simp [formulasM] at h; subst h; rfl
  | 3, h => simp [formulasM] at h; subst h; rfl
  | i + 4, h => simp [formulasM] at h
/-- The weights of the first places. -/
def weightsTo (kind o : Int) (t : List CxN) : Nat → Option (List Int)
  | 0 => some []
  | i + 1 => (weightsTo kind o t i).bind fun l => (weight kind o (rd_T41 t i).f0 (rd_T41 t ((2 * (i : Int)) % t.length)).f0).bind fun r => some (l ++ [r])
theorem weightsTo_some (kind o : Int) (t : List CxN) (n : Nat) (s : List Int) (h : weightsTo kind o t n = some s) : ∀ i, i ≤ n → ∃ s, weightsTo kind o t i = some s := by
  induction n generalizing s with
  | zero =>
    intro i hi
    obtain rfl : i = 0 := by omega
    exact ⟨s, h⟩
  | succ n ih =>
    intro i hi
    obtain ⟨t, ht, h2⟩ := Option.bind_eq_some_iff.mp h
    by_cases e : i = n + 1
    · subst e; exact ⟨s, h⟩
    · exact ih t ht i (by omega)
theorem weightsTo_length (kind o : Int) (t : List CxN) (n : Nat) (s : List Int) (h : weightsTo kind o t n = some s) : s.length = n := by
  induction n generalizing s with
  | zero => simp [weightsTo] at h; subst h; rfl
  | succ n ih =>
    obtain ⟨l, hl, h⟩ := Option.bind_eq_some_iff.mp h
    obtain ⟨r, hr, h⟩ := Option.bind_eq_some_iff.mp h
    simp only [Option.some.injEq] at h
    subst h
    simp [ih l hl]

theorem undrew {B : Nat} {w W : World} (h : Below B w.drew W) : Below B w W := ⟨h.os, h.tape, h.output, h.size, h.block⟩
theorem row_cell0 {W : World} {base : Nat} {ok : Nat → Prop} {ad : Addr} {n c : Nat} {t : List CxN} (h : Kd.R k41 41 W base ok (.slice (some ad) n c) t) (i : Int) (h0 : 0 ≤ i) (h1 : i < t.length) : W.cell? (ad.add (i.toNat * 2)) = some (.int .i64 (rd_T41 t i).f0) := by
  obtain ⟨_, e, x, _⟩ := at_T41 (Kd.R_reads' h).2.2 i h0 h1
  cases e
  exact x
set_option maxHeartbeats 4000000 in
set_option maxRecDepth 100000 in
theorem wtable_walk (c : Nat) (kind log bits : Int) (i0 : Nat) (hi : kind = i0) (hfm : formulasM.toList[i0]? = some { key := .int .i64 kind, val := .func (.func c) #[] #[], born := i0 }) (hw : Weighs c kind) (he : ∀ (args : Array Value) (W : World), (callFunc c args).run Try.prog W = .ok (.enter c args) W)
    (t1 : List CxN) (hlen : t1.length ≤ 64) (hb0 : 0 ≤ bits) (hb1 : bits ≤ 40) (ht : roots_Table.f log bits = some (t1, 0)) (l : List Int) (hl : weightsTo kind (2 ^ bits.toNat) t1 t1.length = some l) (w : World) :
    Calls Try.prog 43 #[.int .i64 kind, .int .i64 log, .int .i64 bits] w fun e w' => ∃ v0_ : Value, e = .returned (.tuple #[v0_, .int .i64 0]) ∧ Kd.R (Kd.int .i64) 3 w' w.heap.size (fun _ => True) v0_ l ∧ Below w.heap.size w w' := by
  have hf := Lib.hid (find_yes kind i0 _ hfm hi)
  have HT := Lib.hid ht
  have HS := Lib.hid (weightsTo_some _ _ _ _ _ hl)
  have HL := Lib.hid hl
  have HW := Lib.hid hw
  have hp := HM.pow_pos bits.toNat
  have hm := HM.pow_lt62 (i := bits.toNat) (by omega)
  have HP : Hid (wrap64 (2 ^ bits.toNat) = 2 ^ bits.toNat) := Lib.hid (HM.wrap64_id _ (by omega) (by omega))
  clear ht hl hw hfm hi hp hm
  go_enter Try.func43, Try.ntmps43
  go_wp2_with fail
  refine (formulas_calls _).mono ?_
  rintro e w1 ⟨rfl, b, hb⟩
  have hlk := run_look_yes (P := Try.prog) 104 3 73 w.heap.size 4 formulasM kind i0 (.func (.func c) #[] #[]) Try.underlying104 Try.underlying3 b hf.out
  replace HB := Aside0.mk hb
  clear b hb
  go_wp2_with fail
  refine (roots_Table.calls log bits t1 0 _ HT.out).mono ?_
  rintro e w2 ⟨v0, rfl, hR, hb⟩
  replace hR := Kd.R_lower hR HB.out.size
  replace HB := Aside0.mk (below_step HB.out hb)
  obtain ⟨A, cp, rfl⟩ := Kd.R_slice hR
  obtain ⟨_, hc, hC⟩ := Kd.R_reads' hR
  have HR := Aside0.mk hR
  clear hR hb hlk hC
  go_wp2_with fail
  go_loopw [12, 34] (fun v12 v34 wr => ∃ (i : Int) (s : List Int), 0 ≤ i ∧ i ≤ t1.length ∧ v34 = .int .i64 i ∧ Aside0 (weightsTo kind (2 ^ bits.toNat) t1 i.toNat = some s) ∧ Aside0 (Kd.R (Kd.int .i64) 3 wr w.heap.size (fun _ => True) v12 s) ∧ Aside0 (Kd.R k41 41 wr w.heap.size (fun _ => True) (.slice A t1.length cp) t1) ∧ Aside0 (Below w.heap.size w wr)) (fun _ v34 _ => t1.length - (intOf v34).toNat)
  case atStart => exact ⟨0, [], by omega, by omega, rfl, ⟨rfl⟩, ⟨Kd.R_nil _ _ _ _ _⟩, HR, HB⟩
  case round =>
    clear HR HB
    obtain ⟨i, s, hi0, hi, rfl, HE, HO, HR, HB⟩ := hrel
    by_cases hlt : i < (t1.length : Int)
    · obtain ⟨s', hs'⟩ := HS.out (i.toNat + 1) (by omega)
      obtain ⟨s0, hs0, hs1⟩ := Option.bind_eq_some_iff.mp hs'
      rw [HE.out] at hs0
      cases hs0
      obtain ⟨r, hr, hs2⟩ := Option.bind_eq_some_iff.mp hs1
      simp only [Option.some.injEq] at hs2
      have HS' := Lib.hid hs'
      clear hs' hs1
      rw [Int.toNat_of_nonneg hi0] at hr
      have hlen2 := weightsTo_length _ _ _ _ _ HE.out
      have HM2 : Hid (s.length ≤ 64) := Lib.hid (by omega)
      clear hlen2
      have q0 := decide_eq_true hlt
      have q3 := decide_eq_true hi0
      have hnz : ¬ (t1.length : Int) = 0 := by omega
      have hnz1 : ((t1.length : Int) == 0) = false := beq_eq_false_iff_ne.2 hnz
      have hnil : ¬ t1 = [] := by rintro rfl; exact hnz rfl
      obtain ⟨J, hJ⟩ : ∃ J, J = 2 * i % (t1.length : Int) := ⟨_, rfl⟩
      have hx0 : 0 ≤ J := by rw [hJ]; exact Int.emod_nonneg _ (by omega)
      have hx1 : J < t1.length := by rw [hJ]; exact Int.emod_lt_of_pos _ (by omega)
      have q1 := decide_eq_true hx0
      have q2 := decide_eq_true hx1
      have ew : wrap64 (2 * i) = 2 * i := HM.wrap64_id _ (by omega) (by omega)
      have ew' : IntKind.i64.wrap (2 * i) = 2 * i := (HM.i64wrap _).trans ew
      have em : Int.tmod (2 * i) (t1.length : Int) = J := (Int.tmod_eq_emod_of_nonneg (by omega)).trans hJ.symm
      have em' : 2 * i % (t1.length : Int) = J := hJ.symm
      rw [em'] at hr
      clear hJ
      obtain ⟨ad0, e0, x0, x1⟩ := at_T41 (Kd.R_reads' HR.out).2.2 i hi0 hlt
      subst e0
      obtain ⟨ad1, e1, y0, y1⟩ := at_T41 (Kd.R_reads' HR.out).2.2 _ hx0 hx1
      cases e1
      have hcall : ∀ W, Calls Try.prog c #[.int .i64 (2 ^ bits.toNat), .int .i64 (rd_T41 t1 i).f0, .int .i64 (rd_T41 t1 J).f0] W fun e w' => e = .returned (.int .i64 r) ∧ Below W.heap.size W w' := by
        exact HW.out _ _ _ r hr
      have hw2 : IntKind.i64.wrap (2 ^ bits.toNat) = 2 ^ bits.toNat := (HM.i64wrap _).trans HP.out
      clear hr
      replace hs2 := Lib.hid hs2
      go_upto_region 9 with (fail)
      have hle := Aside0.mk HB.out.size
      have HO' := HO
      go_region_held3 (fun w' => w'.cell? (ad0.add (i.toNat * 2)) = some (Value.int IntKind.i64 (rd_T41 t1 i).f0) ∧ w'.cell? (ad0.add (J.toNat * 2)) = some (Value.int IntKind.i64 (rd_T41 t1 J).f0)) (first | go_keep | exact ⟨pw_cell_below hb x0, pw_cell_below hb y0⟩ | exact ⟨row_cell0 (Kd.R_over (Kd.R_below HR.out hb) (Kd.R_below HO.out hb) (by decide) hg) i hi0 hlt, row_cell0 (Kd.R_over (Kd.R_below HR.out hb) (Kd.R_below HO.out hb) (by decide) hg) J hx0 hx1⟩)
        (first | ((with_reducible refine (hcall _).mono ?_); rintro e W3 ⟨rfl, hb⟩; replace hb := undrew hb) | (refine Kd.R_append_step (Kd.int .i64) (w0 := w) w.heap.size (by rfl) (.tmp 37) (.tmp 56) 31 3 (.int .i64 0) 8 (by rfl) Try.underlying31 info3 rfl (by decide) (by omega) u12 s r [.int .i64 r] (fun _ => True) (fun _ => False) (by rfl) (by rfl) (by rfl) (fun _ hk => hk.elim) (fun _ _ => trivial) (Kd.R_below HO.out hb) (below_step HB.out hb) (Nat.le_trans HB.out.size hb.size) (by have := HM2.out; omega) ?_; intro v12 w4 ho hb4 hg hat))
      have HR4 := Aside0.mk (Kd.R_over (Kd.R_below HR.out hb) (Kd.R_below HO.out hb) (by decide) hg)
      replace ho := Aside0.mk ho
      replace hb4 := Aside0.mk hb4
      have ei : wrap64 (i + 1) = i + 1 := HM.wrap64_id _ (by omega) (by omega)
      have HS2 : Hid (weightsTo kind (2 ^ bits.toNat) t1 (i + 1).toNat = some (s ++ [r])) := Lib.hid (by rw [show (i + 1).toNat = i.toNat + 1 by omega, HS'.out, ← hs2.out])
      clear hb hg hat hcall x0 x1 y0 y1 q1 q2 em em' ew ew' hw2 hnz hnz1 hnil HR HO HO' HB hle HS' HE
      go_wp2
      go_roundw
      case rel => exact ⟨i + 1, s ++ [r], by omega, by omega, rfl, ⟨HS2.out⟩, ho, HR4, hb4⟩
      case measure => simp [intOf]; omega
    · obtain rfl : i = t1.length := by omega
      have e : s = l := by
        have := HE.out
        rw [Int.toNat_natCast, HL.out] at this
        exact (Option.some.inj this).symm
      subst e
      go_wp2
      go_ret2
      exact ⟨_, rfl, HO.out, HB.out⟩

theorem find_no (kind : Int) (h : kind < 0 ∨ 3 < kind) : Instr.findNow (.int .i64) (.int .i64 kind) formulasM.toList 0 = some none := by
  have h0 : ¬ kind = 0 := by omega
  have h1 : ¬ kind = 1 := by omega
  have h2 : ¬ kind = 2 := by omega
  have h3 : ¬ kind = 3 := by omega
  have e0 : (kind == 0) = false := beq_eq_false_iff_ne.2 h0
  have e1 : (kind == 1) = false := beq_eq_false_iff_ne.2 h1
  have e2 : (kind == 2) = false := beq_eq_false_iff_ne.2 h2
  have e3 : (kind == 3) = false := beq_eq_false_iff_ne.2 h3
  simp [formulasM, Instr.findNow, Instr.sameNow, e0, e1, e2, e3]
theorem wtable_none (kind log bits : Int) (hk : kind < 0 ∨ 3 < kind) (t1 : List CxN) (t2 : Int) (ht : roots_Table.f log bits = some (t1, t2)) (w : World) :
    Calls Try.prog 43 #[.int .i64 kind, .int .i64 log, .int .i64 bits] w fun e w' => ∃ v0_ : Value, e = .returned (.tuple #[v0_, .int .i64 1]) ∧ Kd.R (Kd.int .i64) 3 w' w.heap.size (fun _ => True) v0_ [] ∧ Below w.heap.size w w' := by
  have hf := Lib.hid (find_no kind hk)
  have HT := Lib.hid ht
  clear ht hk
  go_enter Try.func43, Try.ntmps43
  go_wp2_with fail
  refine (formulas_calls _).mono ?_
  rintro e w1 ⟨rfl, b, hb⟩
  have hlk := run_look_no (P := Try.prog) 104 3 73 w.heap.size 4 formulasM kind _ Try.underlying104 Try.underlying3 b hf.out (Try.zeroValue73 _)
  replace HB := Aside0.mk hb
  clear b hb
  go_wp2_with fail
  refine (roots_Table.calls log bits t1 t2 _ HT.out).mono ?_
  rintro e w2 ⟨v0, rfl, hR, hb⟩
  replace HB := Aside0.mk (below_step HB.out hb)
  clear hR hb hlk
  go_wp2_with fail
  go_ret2
  exact ⟨_, rfl, Kd.R_nil _ _ _ _ _, HB.out⟩
theorem wtable_bad (c : Nat) (kind log bits : Int) (i0 : Nat) (hi : kind = i0) (hfm : formulasM.toList[i0]? = some { key := .int .i64 kind, val := .func (.func c) #[] #[], born := i0 }) (t1 : List CxN) (t2 : Int) (h2 : ¬ t2 = 0) (ht : roots_Table.f log bits = some (t1, t2)) (w : World) :
    Calls Try.prog 43 #[.int .i64 kind, .int .i64 log, .int .i64 bits] w fun e w' => ∃ v0_ : Value, e = .returned (.tuple #[v0_, .int .i64 1]) ∧ Kd.R (Kd.int .i64) 3 w' w.heap.size (fun _ => True) v0_ [] ∧ Below w.heap.size w w' := by
  have hf := Lib.hid (find_yes kind i0 _ hfm hi)
  have HT := Lib.hid ht
  have h20 : (t2 == 0) = false := beq_eq_false_iff_ne.2 h2
  have h21 : (t2 != 0) = true := bne_iff_ne.2 h2
  clear ht hfm hi
  go_enter Try.func43, Try.ntmps43
  go_wp2_with fail
  refine (formulas_calls _).mono ?_
  rintro e w1 ⟨rfl, b, hb⟩
  have hlk := run_look_yes (P := Try.prog) 104 3 73 w.heap.size 4 formulasM kind i0 (.func (.func c) #[] #[]) Try.underlying104 Try.underlying3 b hf.out
  replace HB := Aside0.mk hb
  clear b hb
  go_wp2_with fail
  refine (roots_Table.calls log bits t1 t2 _ HT.out).mono ?_
  rintro e w2 ⟨v0, rfl, hR, hb⟩
  replace HB := Aside0.mk (below_step HB.out hb)
  clear hR hb hlk
  go_wp2_with fail
  go_ret2
  exact ⟨_, rfl, Kd.R_nil _ _ _ _ _, HB.out⟩
/-- A window of a length, in bits. -/
def window_Table.f (kind log bits : Int) : Option (List Int × Int) :=
  (roots_Table.f log bits).bind fun t => if 0 ≤ kind ∧ kind ≤ 3 ∧ t.2 = 0 then (if t.1.length ≤ 64 ∧ 0 ≤ bits ∧ bits ≤ 40 then (weightsTo kind (2 ^ bits.toNat) t.1 t.1.length).map (·, 0) else none) else some ([], 1)
theorem window_Table.calls (a0 a1 a2 : Int) (r1 : List Int) (r2 : Int) (w : World) (h : window_Table.f a0 a1 a2 = some (r1, r2)) :
    Calls Try.prog 43 #[.int .i64 a0, .int .i64 a1, .int .i64 a2] w fun e w' => ∃ v0_ : Value, e = .returned (.tuple #[v0_, .int .i64 r2]) ∧ Kd.R (Kd.int .i64) 3 w' w.heap.size (fun _ => True) v0_ r1 ∧ Below w.heap.size w w' := by
  unfold window_Table.f at h
  obtain ⟨⟨t1, t2⟩, ht, h⟩ := Option.bind_eq_some_iff.mp h
  dsimp only at h
  by_cases hk : 0 ≤ a0 ∧ a0 ≤ 3
  · have hc : ∃ (c i0 : Nat), a0 = i0 ∧ formulasM.toList[i0]? = some { key := .int .i64 a0, val := .func (.func c) #[] #[], born := i0 } ∧ Weighs c a0 ∧ ∀ (args : Array Value) (W : World), (callFunc c args).run Try.prog W = .ok (.enter c args) W := by
      obtain rfl | rfl | rfl | rfl : a0 = 0 ∨ a0 = 1 ∨ a0 = 2 ∨ a0 = 3 := by omega
      · exact ⟨_, 0, rfl, rfl, weighs0, fun args W => enters_ Try.func108 (by kernel_rfl) rfl args W⟩
      · exact ⟨_, 1, rfl, rfl, weighs1, fun args W => enters_ Try.func109 (by kernel_rfl) rfl args W⟩
      · exact ⟨_, 2, rfl, rfl, weighs2, fun args W => enters_ Try.func111 (by kernel_rfl) rfl args W⟩
      · exact ⟨_, 3, rfl, rfl, weighs3, fun args W => enters_ Try.func113 (by kernel_rfl) rfl args W⟩
    obtain ⟨c, i0, hi, hfm, hw, he⟩ := hc
    by_cases h2 : t2 = 0
    · subst h2
      rw [if_pos ⟨hk.1, hk.2, rfl⟩] at h
      split at h
      case isFalse => cases h
      rename_i hb
      obtain ⟨l, hl, e⟩ := Option.map_eq_some_iff.1 h
      simp only [Prod.mk.injEq] at e
      obtain ⟨rfl, rfl⟩ := e
      exact wtable_walk c a0 a1 a2 i0 hi hfm hw he t1 hb.1 hb.2.1 hb.2.2 ht l hl w
    · rw [if_neg (by omega)] at h
      simp only [Option.some.injEq, Prod.mk.injEq] at h
      obtain ⟨rfl, rfl⟩ := h
      exact wtable_bad c a0 a1 a2 i0 hi hfm t1 t2 h2 ht w
  · rw [if_neg (by omega)] at h
    simp only [Option.some.injEq, Prod.mk.injEq] at h
    obtain ⟨rfl, rfl⟩ := h
    exact wtable_none a0 a1 a2 (by omega) t1 t2 ht w
end Go.Proofs.Ytpmkkidljmedaaa.X
