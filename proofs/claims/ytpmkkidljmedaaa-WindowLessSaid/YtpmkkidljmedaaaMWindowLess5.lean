/- Part 5 of 5 of the proof of the given statement WindowLess: the last functions, the plain law, and the statement. No conditions but those in the statements. -/
import Derived.Test.YtpmkkidljmedaaaMWindowLess4
import Derived.Test.YtpmkkidljmedaaaRows
import Derived.WalkKit
import Derived.ProofKit
import Derived.OpenShut
import Derived.ShutString
import Derived.ChangeOld
import Derived.Below
import Derived.SizedLaws
import Derived.Test.YtpmkkidljmedaaaVWindowLess
namespace Go.Proofs.Ytpmkkidljmedaaa.Pure
open Go.RowKit Go.Proofs.Ytpmkkidljmedaaa.X Go.Proofs.YtpmkkidljmedaaaW.PrintWords Go.Proofs.YtpmkkidljmedaaaW.PrintLast Go.Proofs.YtpmkkidljmedaaaW.PrintMore
set_option linter.unusedVariables false

theorem alive19 : headroomlaw19_alive.f 200 = some true := by kernel_rfl
theorem rd_at_int (l : List Int) (i : Nat) (h : i < l.length) : rd l (i : Int) = l[i] := by simp [rd, List.getD_eq_getElem?_getD, h]
theorem same_ints_loop (l : List Int) (hl : l.length ≤ 9223372036854775807) : ∀ (d i k : Nat), l.length - i = d → i ≤ l.length → d < k → headroomref04_Same.l0 k l l l.length i = some true := by
  intro d
  induction d with
  | zero =>
    intro i k hd hi hk
    cases k with
    | zero => omega
    | succ k => rw [headroomref04_Same.l0, if_neg (by omega)]
  | succ d ih =>
    intro i k hd hi hk
    cases k with
    | zero => omega
    | succ k =>
      have e2 : ((i : Int) + 1) = ((i + 1 : Nat) : Int) := by norm_cast
      rw [headroomref04_Same.l0, if_pos (by omega), if_pos (by omega), if_pos (by omega), if_pos (by omega), if_pos rfl, HM.wrap64_id _ (by omega) (by omega), e2]
      exact ih (i + 1) k (by omega) (by omega) (by omega)
theorem same_ints (l : List Int) (k : Nat) (hl : l.length ≤ 9223372036854775807) (hk : l.length < k) : headroomref04_Same.f k l l = some true := by
  unfold headroomref04_Same.f
  rw [if_pos rfl]
  exact same_ints_loop l hl l.length 0 k (by omega) (by omega) (by omega)
/-- A number shifted down, rounded. -/
def sh (x s m : Int) : Int := if s = 0 then x else if upB m (x % 2 ^ s.toNat) (2 ^ (s.toNat - 1)) (x / 2 ^ s.toNat % 2 == 1) = true then wrap64 (x / 2 ^ s.toNat + 1) else x / 2 ^ s.toNat
theorem sh_val (x s m : Int) (h0 : 0 ≤ s) (h1 : s ≤ 62) (hm0 : 0 ≤ m) (hm1 : m ≤ 2) : round_Shift.f x s m = some (sh x s m, 0) := by
  unfold round_Shift.f sh
  rw [if_neg (by omega), if_neg (by omega), if_neg (by omega), if_neg (by omega)]
  by_cases c : s = 0
  · rw [if_pos c, if_pos c]
  · rw [if_neg c, if_neg c]
theorem win_table (kind : Int) (b e : Nat) (hk0 : 0 ≤ kind) (hk : kind ≤ 3) (hb : b = 13 ∨ b = 29) (h0 : 2 ≤ e) (h1 : e ≤ 6) : ∃ a : List Int, window_Table.f kind e b = some (a, 0) ∧ headroomref19_Table.f 200 kind e b = some a ∧ a.length = 2 ^ e ∧ (∀ x ∈ a, 0 ≤ x ∧ x ≤ 2 ^ b) ∧ (kind = 0 → ∀ x ∈ a, x = 2 ^ b) := by
  obtain ⟨a, w1, w2, w3, w4, w5⟩ := win_spec kind.toNat b e (by omega) hb h0 h1
  rw [Int.toNat_of_nonneg hk0] at w1 w2
  obtain ⟨t1, t2, t3, t4⟩ := tabsOk_spec (tabs_W b e hb h0 h1)
  have h64 : 2 ^ e ≤ 2 ^ 6 := Nat.pow_le_pow_right (by omega) h1
  refine ⟨a, ?_, ?_, w3, w4, fun h => w5 (by omega)⟩
  · unfold window_Table.f
    rw [t1, Option.bind_some, if_pos ⟨hk0, hk, rfl⟩, if_pos ⟨by rw [t3]; omega, by omega, by omega⟩, t3, Int.toNat_natCast, w1]
    rfl
  · unfold headroomref19_Table.f
    rw [t2, Option.bind_some, t3]
    exact w2
theorem weighed_val (b m : Int) (w l : List Int) (hb0 : 2 ≤ b) (hb1 : b ≤ 60) (hm0 : 0 ≤ m) (hm1 : m ≤ 2) : ∀ i : Nat, i ≤ w.length → weighedTo b m w l i = some ((List.range i).map fun (j : Nat) => sh (wrap64 (rd l j * rd w j)) (b - 2) m) := by
  intro i
  induction i with
  | zero => intro _; rfl
  | succ i ih =>
    intro hi
    rw [weighedTo, ih (by omega), Option.bind_some, if_pos (by omega), sh_val _ _ _ (by omega) (by omega) hm0 hm1, Option.bind_some, List.range_succ, List.map_append]
    rfl
theorem ref_apply_loop (b m : Int) (w l : List Int) (hb0 : 2 ≤ b) (hb1 : b ≤ 60) (hm0 : 0 ≤ m) (hm1 : m ≤ 2) (hl : l.length ≤ 70) (hw : w.length = l.length) : ∀ (d i K : Nat) (acc : List Int), l.length - i = d → i ≤ l.length → d + 80 < K → acc.length ≤ i →
    headroomref19_Apply.l0 K m (b - 2) w acc l l.length i = some (acc ++ (List.range' i d).map fun (j : Nat) => sh (wrap64 (rd l j * rd w j)) (b - 2) m) := by
  intro d
  induction d with
  | zero =>
    intro i K acc hd hi hK ha
    obtain ⟨K, rfl⟩ : ∃ j, K = j + 1 := ⟨K - 1, by omega⟩
    rw [headroomref19_Apply.l0, if_neg (by omega)]
    simp
  | succ d ih =>
    intro i K acc hd hi hK ha
    obtain ⟨K, rfl⟩ : ∃ j, K = j + 1 := ⟨K - 1, by omega⟩
    have e2 : ((i : Int) + 1) = ((i + 1 : Nat) : Int) := by norm_cast
    have hx : In64 (wrap64 (rd l i * rd w i)) := ⟨HM.wrap64_lo _, HM.wrap64_hi _⟩
    rw [headroomref19_Apply.l0, if_pos (by omega), if_pos (by omega), if_pos (by omega), if_pos (by omega), ref_shift _ _ _ K hx (by omega) (by omega) hm0 hm1 (by omega), sh_val _ _ _ (by omega) (by omega) hm0 hm1, Option.bind_some, Option.bind_some, if_pos (by omega), HM.wrap64_id ((i : Int) + 1) (by omega) (by omega), e2, ih (i + 1) K _ (by omega) (by omega) (by omega) (by simp; omega), List.range'_succ, List.map_cons, List.append_assoc]
    rfl
theorem in_val (x fmt : Int) (b : Nat) (hb : (fmt = 0 ∧ b = 15) ∨ (fmt ≠ 0 ∧ b = 31)) (k : Nat) (hk : 64 < k) : headroomref02_In.f k x fmt = some (!oddB b x) := by
  have h15 : ∀ k, 64 < k → headroomref02_One.f k fmt = some (2 ^ b) := by
    intro k hk
    unfold headroomref02_One.f headroomref02_Bits.f
    rcases hb with ⟨h, rfl⟩ | ⟨h, rfl⟩
    · rw [if_pos h, Option.bind_some, ref_pow' 15 k (by omega) (by omega) (by omega)]
      rfl
    · rw [if_neg h, Option.bind_some, ref_pow' 31 k (by omega) (by omega) (by omega)]
      rfl
  have hp := HM.pow_pos b
  have hm := HM.pow_lt62 (i := b) (by omega)
  unfold headroomref02_In.f
  rw [h15 k hk, Option.bind_some, HM.wrap64_id _ (by omega) (by omega), Option.bind_some]
  unfold oddB
  rw [Int.toNat_natCast]
  have d1 : ∀ p q : Prop, ∀ [Decidable p] [Decidable q], (p ↔ ¬ q) → decide p = !decide q := by
    intro p q _ _ h
    by_cases hq : q
    · rw [decide_eq_true hq, decide_eq_false (fun hp => h.1 hp hq)]; rfl
    · rw [decide_eq_false hq, decide_eq_true (h.2 hq)]; rfl
  rw [d1 (x < -(2 ^ b)) (x ≥ -(2 ^ b)) (by omega), d1 (x ≥ 2 ^ b) (x < 2 ^ b) (by omega)]
  by_cases c : x ≥ -(2 ^ b)
  · rw [if_pos c, decide_eq_true c]
    cases decide (x < 2 ^ b) <;> rfl
  · rw [if_neg c, decide_eq_false c]
    rfl
theorem mant_loop (fmt : Int) (b : Nat) (hb : (fmt = 0 ∧ b = 15) ∨ (fmt ≠ 0 ∧ b = 31)) (l : List Int) (hl : l.length ≤ 1000000) : ∀ (d i k : Nat), l.length - i = d → i ≤ l.length → d + 80 < k →
    headroomref19_Mantissas.l0 k fmt l l.length i = some (!(l.drop i).any (oddB b)) := by
  intro d
  induction d with
  | zero =>
    intro i k hd hi hk
    obtain ⟨k, rfl⟩ : ∃ j, k = j + 1 := ⟨k - 1, by omega⟩
    rw [headroomref19_Mantissas.l0, if_neg (by omega), List.drop_of_length_le (by omega)]
    rfl
  | succ d ih =>
    intro i k hd hi hk
    obtain ⟨k, rfl⟩ : ∃ j, k = j + 1 := ⟨k - 1, by omega⟩
    have e2 : ((i : Int) + 1) = ((i + 1 : Nat) : Int) := by norm_cast
    rw [headroomref19_Mantissas.l0, if_pos (by omega), if_pos (by omega), if_pos (by omega), in_val _ fmt b hb k (by omega), Option.bind_some, HM.wrap64_id _ (by omega) (by omega), e2, rd_at_int l i (by omega), List.drop_eq_getElem_cons (by omega), List.any_cons]
    cases oddB b l[i]
    · rw [Bool.not_false, if_pos rfl, ih (i + 1) k (by omega) (by omega) (by omega), Bool.false_or]
    · rw [Bool.not_true, if_neg (by simp), Bool.true_or]
      rfl
theorem win_bad (kind : Int) (b e : Nat) (hk : kind < 0 ∨ 3 < kind) (hb : b = 13 ∨ b = 29) (h0 : 2 ≤ e) (h1 : e ≤ 6) : window_Table.f kind e b = some ([], 1) := by
  obtain ⟨t1, t2, t3, t4⟩ := tabsOk_spec (tabs_W b e hb h0 h1)
  unfold window_Table.f
  rw [t1, Option.bind_some, if_neg (by omega)]
theorem why_true (l : List Int) (fmt : Int) : headroomref19_Why.j0 200 l fmt true = some 1 := by
  rw [show (200 : Nat) = 199 + 1 from rfl, headroomref19_Why.j0, if_pos rfl]
theorem why_false (l : List Int) (hl : l.length ≤ 70) (fmt : Int) (b : Nat) (hb : (fmt = 0 ∧ b = 15) ∨ (fmt ≠ 0 ∧ b = 31)) : headroomref19_Why.j0 200 l fmt false = some (if l.any (oddB b) = true then 2 else 0) := by
  have h := mant_loop fmt b hb l (by omega) l.length 0 199 (by omega) (by omega) (by omega)
  rw [show (200 : Nat) = 199 + 1 from rfl, headroomref19_Why.j0, if_neg (by simp), headroomref19_Mantissas.f]
  simp only [Int.natCast_zero, List.drop_zero] at h
  rw [h, Option.bind_some]
  cases l.any (oddB b) <;> rfl
/-- Weighing where the length, the format and the mode may be. -/
theorem apply_good (l : List Int) (hl : l.length ≤ 70) (kind fmt m : Int) (hm0 : 0 ≤ m) (hm1 : m ≤ 2) (e b : Nat) (h2 : 2 ≤ e) (h6 : e ≤ 6) (hn : (l.length : Int) = 2 ^ e) (hlog : ∀ k, 20 < k → flip_Log.f k l.length = some ((e : Int), 0) ∧ headroomref08_Log.f k l.length = some (e : Int))
    (hf : (fmt = 0 ∧ b = 13) ∨ (fmt = 1 ∧ b = 29)) (hk0 : 0 ≤ kind) (hk : kind ≤ 3) :
    (window_Apply.f l kind fmt m = some ([], 2) ∧ headroomref19_Why.f 200 l kind fmt m = some 2) ∨
    (∃ (a : List Int), (b = 13 ∨ b = 29) ∧ 0 ≤ m ∧ m ≤ 2 ∧ a.length = l.length ∧ (∀ x ∈ a, 0 ≤ x ∧ x ≤ 2 ^ b) ∧ (kind = 0 → ∀ x ∈ a, x = 2 ^ b) ∧ (∀ n ∈ l, oddB ((b + 2 : Nat) : Int) n = false) ∧
      window_Apply.f l kind fmt m = some ((List.range l.length).map (fun (j : Nat) => sh (wrap64 (rd l j * rd a j)) b m), 0) ∧ headroomref19_Why.f 200 l kind fmt m = some 0 ∧
      headroomref19_Apply.f 200 l kind fmt m = some ((List.range l.length).map fun (j : Nat) => sh (wrap64 (rd l j * rd a j)) b m)) := by
  have hbb : b = 13 ∨ b = 29 := by omega
  obtain ⟨a, w1, w2, w3, w4, w5⟩ := win_table kind b e hk0 hk hbb h2 h6
  have hS : sat_Bits.f fmt = some (((b + 2 : Nat) : Int), 0) := by
    unfold sat_Bits.f
    rcases hf with ⟨rfl, rfl⟩ | ⟨rfl, rfl⟩
    · rfl
    · rfl
  have hmx : mx (wrap64 (((b + 2 : Nat) : Int) - 2)) 0 = b := by
    rw [HM.wrap64_id _ (by omega) (by omega)]
    unfold mx
    rw [if_neg (by omega)]
    omega
  have hno : round_Shift.f 0 0 m = some (0, 0) := sh_val 0 0 m (by omega) (by omega) hm0 hm1
  have hnn : l.length = 2 ^ e := by exact_mod_cast hn
  have hwb : headroomref02_Format.f fmt = some true := by
    unfold headroomref02_Format.f
    rcases hf with ⟨rfl, rfl⟩ | ⟨rfl, rfl⟩ <;> rfl
  have hwhy : headroomref19_Why.f 200 l kind fmt m = headroomref19_Why.j0 200 l fmt false := by
    unfold headroomref19_Why.f
    rw [(hlog 200 (by omega)).2, Option.bind_some, if_neg (by omega), if_neg (by omega), if_neg (by omega), hwb, Option.bind_some, if_pos rfl, if_neg (by omega), decide_eq_false (by omega)]
  rw [hwhy, why_false l hl fmt (b + 2) (by omega)]
  have hA : window_Apply.f l kind fmt m = if l.any (oddB ((b + 2 : Nat) : Int)) = true then some ([], 2) else (weighedTo ((b + 2 : Nat) : Int) m a l l.length).bind fun r => some (r, 0) := by
    unfold window_Apply.f
    rw [if_pos (by omega), (hlog 30 (by omega)).1, Option.bind_some, if_pos rfl, hS, Option.bind_some, hno, Option.bind_some]
    dsimp only
    rw [hmx, w1, Option.bind_some, if_pos ⟨rfl, rfl, rfl⟩, if_pos (by omega)]
  cases hany : l.any (oddB ((b + 2 : Nat) : Int)) with
  | true => exact .inl ⟨by rw [hA, hany, if_pos rfl], by rw [if_pos rfl]⟩
  | false =>
    refine .inr ⟨a, hbb, hm0, hm1, by rw [w3, hnn], w4, w5, fun n hn => ?_, ?_, by rw [if_neg (by simp)], ?_⟩
    · have := List.any_eq_false.1 hany n hn
      simpa using this
    · rw [hA, hany, if_neg (by simp), weighed_val _ m a l (by omega) (by omega) hm0 hm1 l.length (by omega), Option.bind_some]
      rw [show (((b + 2 : Nat) : Int) - 2) = (b : Int) by omega]
    · unfold headroomref19_Apply.f headroomref07_Bits.f headroomref02_Bits.f
      have hb7 : ((if fmt = 0 then (some 15) else (some 31) : Option Int).bind fun t1 => some (wrap64 (t1 - 2))) = some (b : Int) := by
        rcases hf with ⟨rfl, rfl⟩ | ⟨rfl, rfl⟩
        · rw [if_pos rfl, Option.bind_some, HM.wrap64_id _ (by omega) (by omega)]; rfl
        · rw [if_neg (by omega), Option.bind_some, HM.wrap64_id _ (by omega) (by omega)]; rfl
      rw [hb7, Option.bind_some, (hlog 200 (by omega)).2, Option.bind_some, w2, Option.bind_some]
      have h := ref_apply_loop ((b + 2 : Nat) : Int) m a l (by omega) (by omega) hm0 hm1 hl (by omega) l.length 0 200 [] (by omega) (by omega) (by omega) (by simp)
      rw [show (((b + 2 : Nat) : Int) - 2) = (b : Int) by omega] at h
      simp only [List.nil_append, Int.natCast_zero] at h
      rw [h, List.range_eq_range']
theorem why_mode (l : List Int) (kind fmt m : Int) (e : Int) (he : 0 ≤ e) (hlog : headroomref08_Log.f 200 l.length = some e) (hm : m < 0 ∨ m > 2) : headroomref19_Why.f 200 l kind fmt m = some 1 := by
  have hwb : ∃ b, headroomref02_Format.f fmt = some b := by
    unfold headroomref02_Format.f
    by_cases c : fmt = 0
    · exact ⟨true, by rw [if_pos c]⟩
    · exact ⟨_, by rw [if_neg c]⟩
  obtain ⟨b, hb⟩ := hwb
  unfold headroomref19_Why.f
  rw [hlog, Option.bind_some, if_neg (by omega)]
  by_cases c : kind < 0
  · rw [if_pos c, why_true]
  · rw [if_neg c]
    by_cases d : kind > 3
    · rw [if_pos d, why_true]
    · rw [if_neg d, hb, Option.bind_some]
      cases b with
      | false => rw [if_neg (by simp), why_true]
      | true =>
        rw [if_pos rfl]
        by_cases f : m < 0
        · rw [if_pos f, why_true]
        · rw [if_neg f, decide_eq_true (by omega), why_true]
/-- What weighing comes to: refused, the same by both; or weighed, the same by both. -/
theorem apply_cases (l : List Int) (hl : l.length ≤ 70) (kind fmt m : Int) :
    (∃ c : Int, c ≠ 0 ∧ window_Apply.f l kind fmt m = some ([], c) ∧ headroomref19_Why.f 200 l kind fmt m = some c) ∨
    (∃ (b : Nat) (a : List Int), (b = 13 ∨ b = 29) ∧ 0 ≤ m ∧ m ≤ 2 ∧ a.length = l.length ∧ (∀ x ∈ a, 0 ≤ x ∧ x ≤ 2 ^ b) ∧ (kind = 0 → ∀ x ∈ a, x = 2 ^ b) ∧ (∀ n ∈ l, oddB ((b + 2 : Nat) : Int) n = false) ∧
      window_Apply.f l kind fmt m = some ((List.range l.length).map (fun (j : Nat) => sh (wrap64 (rd l j * rd a j)) b m), 0) ∧ headroomref19_Why.f 200 l kind fmt m = some 0 ∧
      headroomref19_Apply.f 200 l kind fmt m = some ((List.range l.length).map fun (j : Nat) => sh (wrap64 (rd l j * rd a j)) b m)) := by
  have hB : (fmt = 0 ∧ sat_Bits.f fmt = some (15, 0)) ∨ (fmt = 1 ∧ sat_Bits.f fmt = some (31, 0)) ∨ (fmt ≠ 0 ∧ fmt ≠ 1 ∧ sat_Bits.f fmt = some (0, 1)) := by
    unfold sat_Bits.f
    by_cases c0 : fmt = 0
    · exact .inl ⟨c0, by rw [if_pos c0]⟩
    · by_cases c1 : fmt = 1
      · exact .inr (.inl ⟨c1, by rw [if_neg c0, if_pos c1]⟩)
      · exact .inr (.inr ⟨c0, c1, by rw [if_neg c0, if_neg c1]⟩)
  have hM : (0 ≤ m ∧ m ≤ 2 ∧ round_Shift.f 0 0 m = some (0, 0)) ∨ ((m < 0 ∨ m > 2) ∧ round_Shift.f 0 0 m = some (0, 1)) := by
    unfold round_Shift.f
    rw [if_neg (by omega), if_neg (by omega)]
    by_cases c0 : m < 0
    · exact .inr ⟨.inl c0, by rw [if_pos c0]⟩
    · by_cases c1 : m ≥ 3
      · exact .inr ⟨.inr (by omega), by rw [if_neg c0, if_pos c1]⟩
      · exact .inl ⟨by omega, by omega, by rw [if_neg c0, if_neg c1, if_pos rfl]⟩
  have hlen : l.length ≤ 4194304 := by omega
  rcases logs (l.length : Int) with hlog | ⟨e, h2, h6, hn, hlog⟩
  · refine .inl ⟨3, by omega, ?_, ?_⟩
    · unfold window_Apply.f
      rw [if_pos hlen, (hlog 30 (by omega)).1, Option.bind_some, if_neg (by omega)]
    · unfold headroomref19_Why.f
      rw [(hlog 200 (by omega)).2, Option.bind_some, if_pos (by omega)]
  · rcases hB with ⟨hf, hS⟩ | ⟨hf, hS⟩ | ⟨f0, f1, hS⟩
    · rcases hM with ⟨hm0, hm1, hno⟩ | ⟨hm, hno⟩
      · by_cases hk : 0 ≤ kind ∧ kind ≤ 3
        · rcases apply_good l hl kind fmt m hm0 hm1 e 13 h2 h6 hn hlog (.inl ⟨hf, rfl⟩) hk.1 hk.2 with ⟨q1, q2⟩ | ⟨a, q⟩
          · exact .inl ⟨2, by omega, q1, q2⟩
          · exact .inr ⟨13, a, q⟩
        · refine .inl ⟨1, by omega, ?_, ?_⟩
          · unfold window_Apply.f
            rw [if_pos hlen, (hlog 30 (by omega)).1, Option.bind_some, if_pos rfl, hS, Option.bind_some, hno, Option.bind_some]
            dsimp only
            rw [show mx (wrap64 (15 - 2)) 0 = ((13 : Nat) : Int) by decide +kernel, win_bad kind 13 e (by omega) (.inl rfl) h2 h6, Option.bind_some, if_neg (by omega)]
          · unfold headroomref19_Why.f
            rw [(hlog 200 (by omega)).2, Option.bind_some, if_neg (by omega)]
            by_cases c : kind < 0
            · rw [if_pos c, why_true]
            · rw [if_neg c, if_pos (by omega), why_true]
      · refine .inl ⟨1, by omega, ?_, ?_⟩
        · unfold window_Apply.f
          rw [if_pos hlen, (hlog 30 (by omega)).1, Option.bind_some, if_pos rfl, hS, Option.bind_some, hno, Option.bind_some]
          dsimp only
          rw [show mx (wrap64 (15 - 2)) 0 = ((13 : Nat) : Int) by decide +kernel]
          have ht : ∃ r, window_Table.f kind e ((13 : Nat) : Int) = some r := by
            by_cases hk : 0 ≤ kind ∧ kind ≤ 3
            · obtain ⟨a, w, _⟩ := win_table kind 13 e hk.1 hk.2 (.inl rfl) h2 h6
              exact ⟨_, w⟩
            · exact ⟨_, win_bad kind 13 e (by omega) (.inl rfl) h2 h6⟩
          obtain ⟨r, hr⟩ := ht
          rw [hr, Option.bind_some, if_neg (by omega)]
        · exact why_mode l kind fmt m e (by omega) (hlog 200 (by omega)).2 hm
    · rcases hM with ⟨hm0, hm1, hno⟩ | ⟨hm, hno⟩
      · by_cases hk : 0 ≤ kind ∧ kind ≤ 3
        · rcases apply_good l hl kind fmt m hm0 hm1 e 29 h2 h6 hn hlog (.inr ⟨hf, rfl⟩) hk.1 hk.2 with ⟨q1, q2⟩ | ⟨a, q⟩
          · exact .inl ⟨2, by omega, q1, q2⟩
          · exact .inr ⟨29, a, q⟩
        · refine .inl ⟨1, by omega, ?_, ?_⟩
          · unfold window_Apply.f
            rw [if_pos hlen, (hlog 30 (by omega)).1, Option.bind_some, if_pos rfl, hS, Option.bind_some, hno, Option.bind_some]
            dsimp only
            rw [show mx (wrap64 (31 - 2)) 0 = ((29 : Nat) : Int) by decide +kernel, win_bad kind 29 e (by omega) (.inr rfl) h2 h6, Option.bind_some, if_neg (by omega)]
          · unfold headroomref19_Why.f
            rw [(hlog 200 (by omega)).2, Option.bind_some, if_neg (by omega)]
            by_cases c : kind < 0
            · rw [if_pos c, why_true]
            · rw [if_neg c, if_pos (by omega), why_true]
      · refine .inl ⟨1, by omega, ?_, ?_⟩
        · unfold window_Apply.f
          rw [if_pos hlen, (hlog 30 (by omega)).1, Option.bind_some, if_pos rfl, hS, Option.bind_some, hno, Option.bind_some]
          dsimp only
          rw [show mx (wrap64 (31 - 2)) 0 = ((29 : Nat) : Int) by decide +kernel]
          have ht : ∃ r, window_Table.f kind e ((29 : Nat) : Int) = some r := by
            by_cases hk : 0 ≤ kind ∧ kind ≤ 3
            · obtain ⟨a, w, _⟩ := win_table kind 29 e hk.1 hk.2 (.inr rfl) h2 h6
              exact ⟨_, w⟩
            · exact ⟨_, win_bad kind 29 e (by omega) (.inr rfl) h2 h6⟩
          obtain ⟨r, hr⟩ := ht
          rw [hr, Option.bind_some, if_neg (by omega)]
        · exact why_mode l kind fmt m e (by omega) (hlog 200 (by omega)).2 hm
    · refine .inl ⟨1, by omega, ?_, ?_⟩
      · unfold window_Apply.f
        have hno' : ∃ r, round_Shift.f 0 0 m = some r := by
          rcases hM with ⟨_, _, h⟩ | ⟨_, h⟩ <;> exact ⟨_, h⟩
        obtain ⟨r, hr⟩ := hno'
        obtain ⟨r2, hr2⟩ := none_spec kind e h2 h6
        rw [if_pos hlen, (hlog 30 (by omega)).1, Option.bind_some, if_pos rfl, hS, Option.bind_some, hr, Option.bind_some]
        dsimp only
        rw [show mx (wrap64 (0 - 2)) 0 = 0 by decide +kernel, hr2, Option.bind_some, if_neg (by omega)]
      · unfold headroomref19_Why.f
        rw [(hlog 200 (by omega)).2, Option.bind_some, if_neg (by omega)]
        have hwb : headroomref02_Format.f fmt = some false := by
          unfold headroomref02_Format.f
          rw [if_neg f0, beq_eq_false_iff_ne.2 f1]
        by_cases c : kind < 0
        · rw [if_pos c, why_true]
        · rw [if_neg c]
          by_cases d : kind > 3
          · rw [if_pos d, why_true]
          · rw [if_neg d, hwb, Option.bind_some, if_neg (by simp), why_true]
end Go.Proofs.Ytpmkkidljmedaaa.Pure
namespace Go.Proofs.Ytpmkkidljmedaaa.Pure
open Go.RowKit Go.Proofs.Ytpmkkidljmedaaa.X Go.Proofs.YtpmkkidljmedaaaW.PrintWords Go.Proofs.YtpmkkidljmedaaaW.PrintLast Go.Proofs.YtpmkkidljmedaaaW.PrintMore
set_option linter.unusedVariables false
/-- A number weighed by a weight from 0 to 1 is not farther from 0, and 1; a zero stays; by 1 a number is as it was. -/
theorem less_one (n w m : Int) (b : Nat) (hb : b = 13 ∨ b = 29) (h0 : 0 ≤ w) (h1 : w ≤ 2 ^ b) (hn : oddB ((b + 2 : Nat) : Int) n = false) :
    -2147483648 ≤ n ∧ n < 2147483648 ∧ (if n < 0 then n else 0) ≤ sh (wrap64 (n * w)) b m ∧ sh (wrap64 (n * w)) b m ≤ (if n < 0 then 0 else n) + 1 ∧ (n = 0 → sh (wrap64 (n * w)) b m = 0) ∧ (w = 2 ^ b → sh (wrap64 (n * w)) b m = n) := by
  have hp := HM.pow_pos b
  have hn' : -2147483648 ≤ n ∧ n < 2147483648 := by
    unfold oddB at hn
    rw [Bool.or_eq_false_iff, decide_eq_false_iff_not, decide_eq_false_iff_not, Int.toNat_natCast] at hn
    rcases hb with rfl | rfl
    · have : (2 : Int) ^ (13 + 2) = 32768 := by decide
      omega
    · have : (2 : Int) ^ (29 + 2) = 2147483648 := by decide
      omega
  have hP : (2 : Int) ^ b ≤ 536870912 := by
    rcases hb with rfl | rfl <;> decide
  have hmul := HM.mul_bound 2147483648 (2 ^ b) n w (by omega) (by omega) (by omega) (by omega) (by omega) h1
  have hW : wrap64 (n * w) = n * w := HM.wrap64_id _ (by omega) (by omega)
  rw [hW]
  have hbt : ((b : Nat) : Int).toNat = b := Int.toNat_natCast b
  have hb0 : ¬ ((b : Nat) : Int) = 0 := by omega
  unfold sh
  rw [if_neg hb0, hbt]
  generalize hX : n * w = X
  generalize hQ : (2 : Int) ^ b = P at *
  have hPh : (2 : Int) ^ (b - 1) > 0 := HM.pow_pos _
  have hq0 := Int.mul_ediv_add_emod X P
  have hr0 := Int.emod_nonneg X (show P ≠ 0 by omega)
  have hr1 := Int.emod_lt_of_pos X hp
  have hqn : (0 ≤ n → 0 ≤ X / P ∧ X / P ≤ n) ∧ (n < 0 → n ≤ X / P ∧ X / P ≤ 0) := by
    constructor
    · intro hn0
      have h3 : 0 ≤ X := by rw [← hX]; exact Int.mul_nonneg hn0 h0
      have h4 : X ≤ n * P := by rw [← hX]; exact Int.mul_le_mul_of_nonneg_left h1 hn0
      exact ⟨Int.ediv_nonneg h3 (by omega), Int.ediv_le_of_le_mul hp h4⟩
    · intro hn0
      have h3 : X ≤ 0 := by rw [← hX]; exact Int.mul_nonpos_of_nonpos_of_nonneg (by omega) h0
      have h4 : n * P ≤ X := by
        rw [← hX]
        have := Int.mul_le_mul_of_nonneg_left h1 (show 0 ≤ -n by omega)
        rw [Int.neg_mul, Int.neg_mul] at this
        omega
      refine ⟨Int.le_ediv_of_mul_le hp h4, ?_⟩
      have := Int.ediv_le_of_le_mul hp (show X ≤ 0 * P by omega)
      exact this
  have hw1 : wrap64 (X / P + 1) = X / P + 1 := HM.wrap64_id _ (by omega) (by omega)
  have hzero : X % P = 0 → upB m (X % P) (2 ^ (b - 1)) (X / P % 2 == 1) = false := by
    intro h
    rw [h]
    unfold upB
    by_cases c0 : m = 0
    · rw [if_pos c0]
    · rw [if_neg c0]
      by_cases c1 : m = 1
      · rw [if_pos c1, decide_eq_false (by omega)]
      · rw [if_neg c1, decide_eq_false (by omega), decide_eq_false (by omega)]
        rfl
  refine ⟨hn'.1, hn'.2, ?_, ?_, ?_, ?_⟩
  · rw [hw1]; split <;> split <;> omega
  · rw [hw1]; split <;> split <;> omega
  · intro h
    have hX0 : X = 0 := by rw [← hX, h, Int.zero_mul]
    rw [hzero (by rw [hX0, Int.zero_emod]), if_neg (by simp), hX0, Int.zero_ediv]
  · intro h
    have hX0 : X = n * P := by rw [← hX, h]
    rw [hzero (by rw [hX0, Int.mul_emod_left]), if_neg (by simp), hX0, Int.mul_ediv_cancel _ (by omega)]
theorem less_loop (kind m : Int) (l a : List Int) (b : Nat) (hb : b = 13 ∨ b = 29) (hl : l.length ≤ 70) (hal : a.length = l.length) (ha : ∀ x ∈ a, 0 ≤ x ∧ x ≤ 2 ^ b) (hz : kind = 0 → ∀ x ∈ a, x = 2 ^ b) (hn : ∀ n ∈ l, oddB ((b + 2 : Nat) : Int) n = false) : ∀ (d i k : Nat), l.length - i = d → i ≤ l.length → d < k →
    headroomlaw19_WindowLess.l0 k kind ((List.range l.length).map (fun (j : Nat) => sh (wrap64 (rd l j * rd a j)) b m)) l l.length i = some true := by
  intro d
  induction d with
  | zero =>
    intro i k hd hi hk
    obtain ⟨k, rfl⟩ : ∃ j, k = j + 1 := ⟨k - 1, by omega⟩
    rw [headroomlaw19_WindowLess.l0, if_neg (by omega)]
  | succ d ih =>
    intro i k hd hi hk
    obtain ⟨k, rfl⟩ : ∃ j, k = j + 1 := ⟨k - 1, by omega⟩
    have e2 : ((i : Int) + 1) = ((i + 1 : Nat) : Int) := by norm_cast
    have hi' : i < l.length := by omega
    have hy : rd ((List.range l.length).map (fun (j : Nat) => sh (wrap64 (rd l j * rd a j)) b m)) (i : Int) = sh (wrap64 (rd l i * rd a i)) b m := by
      rw [rd_at_int _ i (by simpa using hi')]
      simp
    obtain ⟨h1, h2, h3, h4, h5, h6⟩ := less_one (rd l i) (rd a i) m b hb (by rw [rd_at_int a i (by omega)]; exact (ha _ (List.getElem_mem _)).1) (by rw [rd_at_int a i (by omega)]; exact (ha _ (List.getElem_mem _)).2) (by rw [rd_at_int l i hi']; exact hn _ (List.getElem_mem _))
    have h7 : kind = 0 → sh (wrap64 (rd l i * rd a i)) b m = rd l i := fun h => h6 (by rw [rd_at_int a i (by omega)]; exact hz h _ (List.getElem_mem _))
    have hrec := ih (i + 1) k (by omega) (by omega) (by omega)
    rw [headroomlaw19_WindowLess.l0, if_pos (by omega), if_pos (by omega), if_pos (by omega), if_pos (by simp; omega), hy, HM.wrap64_id ((i : Int) + 1) (by omega) (by omega), e2, hrec]
    generalize sh (wrap64 (rd l i * rd a i)) b m = y at *
    generalize rd l (i : Int) = n at *
    have hc : ¬ mx y (wrap64 (-y)) > wrap64 (mx n (wrap64 (-n)) + 1) := by
      have hy1 : -2147483648 ≤ y ∧ y ≤ 2147483648 := by split at h3 <;> split at h4 <;> omega
      rw [HM.wrap64_id (-y) (by omega) (by omega), HM.wrap64_id (-n) (by omega) (by omega)]
      have hmx : mx n (-n) ≤ 2147483648 ∧ 0 ≤ mx n (-n) := by unfold mx; split <;> omega
      rw [HM.wrap64_id (mx n (-n) + 1) (by omega) (by omega)]
      unfold mx
      split at h3 <;> split at h4 <;> split <;> split <;> omega
    rw [if_neg hc]
    by_cases c0 : n = 0
    · rw [if_pos c0, if_pos (h5 c0)]
      by_cases ck : kind = 0
      · rw [if_pos ck, if_pos (h7 ck)]
      · rw [if_neg ck]
    · rw [if_neg c0]
      by_cases ck : kind = 0
      · rw [if_pos ck, if_pos (h7 ck)]
      · rw [if_neg ck]
theorem WindowLess : headroomlaw19_WindowLess.Pure := by
  intro l0 a1 a2 a3 _ _ _ _ _ _
  refine ⟨200, ?_⟩
  unfold headroomlaw19_WindowLess.f
  have hm0 : 0 ≤ mn (l0.length : Int) 70 := by unfold mn; split <;> omega
  have hm1 : mn (l0.length : Int) 70 ≤ l0.length := by unfold mn; split <;> omega
  have hm2 : mn (l0.length : Int) 70 ≤ 70 := by unfold mn; split <;> omega
  rw [if_pos hm0, if_pos hm1]
  have hlen : (l0.take (mn (l0.length : Int) 70).toNat).length ≤ 70 := by
    rw [List.length_take]
    omega
  generalize l0.take (mn (l0.length : Int) 70).toNat = l at hlen
  rcases apply_cases l hlen a1 a2 a3 with ⟨c, hc, h1, h2⟩ | ⟨b, a, hb, h0, h2, hal, ha, hz, hn, e1, e2, e3⟩
  · rw [h1, Option.bind_some, if_neg hc, alive19, Option.bind_some, if_pos rfl]
    rfl
  · rw [e1, Option.bind_some, if_pos rfl, if_pos (by simp), alive19, Option.bind_some]
    have h := less_loop a1 a3 l a b hb hlen hal ha hz hn l.length 0 199 (by omega) (by omega) (by omega)
    rw [show (200 : Nat) = 199 + 1 from rfl, headroomlaw19_WindowLess.j0, if_neg (by simp)]
    exact h
end Go.Proofs.Ytpmkkidljmedaaa.Pure
namespace Go.Proofs.Ytpmkkidljmedaaa.windowLess
open Go.ChangeShapes Go.WideShapes Go.ChangeAt Go.RowKit
open Go.ChangeMaps (open_string shut_string)
set_option linter.unusedVariables false
theorem own : ownKnob Try.prog.godebug = none := by kernel_rfl
theorem laidOut : laidOutB Try.prog = true := by kernel_rfl
def IsRow (k : IntKind) (w : World) (a : Option Addr) (len cap : Nat) (zs : List Int) : Prop :=
  (a = none ∧ len = 0 ∧ cap = 0 ∧ zs = []) ∨
  ∃ x, a = some x ∧ len ≤ cap ∧ cap ≤ maxLen ∧ zs.length = cap ∧ (∀ i, i < zs.length → w.cell? (x.add i) = some (.int k (zs.getD i 0))) ∧ ∀ n ∈ zs, (Lit.int k n).wf = true
set_option maxRecDepth 100000 in
theorem lifted (os : Os) (started : os.Started) (H : Type) (enc : TypeId × Value → H) :
    ReturnsInHanded {} Try.checked os 5 .any (Rows.windowLessSpec.pre6 enc Try.prog Try.f5 Rows.windowLessRow.domain false) (Rows.windowLessSpec.post enc Try.prog Try.f5 false true false false) := by
  refine returnsInHanded_of_change_sized (C := Try.checked) own started (by kernel_rfl) Try.func5
    (ChangeSpec.witness6 (enc := enc) (C := Try.checked) false ⟨#[], #[.slice none 0 0, .int .i64 0, .int .i64 0, .int .i64 0], []⟩ 8 (by kernel_rfl) (by kernel_rfl) (by kernel_rfl) (by kernel_rfl)) ?_
  intro W base args ds gs before hval0 hW hcnd hsz0 _
  have hsz : (DataW.weightsEach Try.prog (Try.f5.params.toList ++ Rows.windowLessSpec.plain.varTypes Try.prog) (ds ++ gs)).all (· ≤ reachBytes) = true := hsz0
  have hval : ∀ (j : Nat) t v, Try.f5.params[j]? = some t → args[j]? = some v → Value.okWide Try.prog W .any base t v := hval0
  have hW' := hW
  obtain ⟨p, q, hA0, hV, rfl, hfz, hnd⟩ := hW
  have hA : DataW.TrodAll enc Try.prog W 0 (fun _ => true) true Try.f5.params.toList args.toList ds p := hA0
  rw [Try.params5] at hA hval hsz
  obtain ⟨v0, vs0, d0, ds0, p0, q0, hargs, rfl, rfl, h0, r0⟩ := trodAll_cons hA
  obtain ⟨v1, vs1, d1, ds1, p1, q1, rfl, rfl, rfl, h1, r1⟩ := trodAll_cons r0
  obtain ⟨v2, vs2, d2, ds2, p2, q2, rfl, rfl, rfl, h2, r2⟩ := trodAll_cons r1
  obtain ⟨v3, vs3, d3, ds3, p3, q3, rfl, rfl, rfl, h3, r3⟩ := trodAll_cons r2
  obtain ⟨rfl, rfl, rfl⟩ := trodAll_nil r3
  obtain rfl : args = #[v0, v1, v2, v3] := by cases args; simp_all
  obtain ⟨rfl, rfl⟩ := trodVars_none hV
  obtain ⟨a0, len0, cap0, rfl⟩ := okWide_slice Try.underlying31 (hval 0 31 v0 rfl rfl)
  have k0 := h0
  have lt0 : ∀ x ∈ p0, x.block < W.heap.size := by obtain ⟨m, hm⟩ := k0; exact DataW.trod_lt m _ _ _ hm
  obtain ⟨z0, w0⟩ : ∃ zs, IsRow .i64 W a0 len0 cap0 zs := by
    obtain ⟨fuel, hf⟩ := h0
    rcases open_ints Try.underlying31 Try.underlying3 (by kernel_rfl) hf with ⟨hcs, _⟩ | ⟨x, l, c, zs, hcs, _, hl, hm, hz, _, hcell, hwz⟩
    · simp [Value.cells] at hcs
      obtain ⟨rfl, rfl, rfl⟩ := hcs
      exact ⟨[], .inl ⟨rfl, rfl, rfl, rfl⟩⟩
    · simp [Value.cells] at hcs
      obtain ⟨rfl, rfl, rfl⟩ := hcs
      exact ⟨zs, .inr ⟨_, rfl, hl, hm, by simpa using hz, hcell, hwz⟩⟩
  have y0 : len0 * 8 ≤ 140737488351232 := Go.Proofs.YtpmkkidljmedaaaW.PrintWords.sized_ints hsz (j := 0) (t := 31) rfl rfl Try.underlying31 Try.underlying3 (by kernel_rfl) (by kernel_rfl) h0
  obtain ⟨a1, rfl, rfl, rfl, w1⟩ := open_int Try.underlying3 (hval 1 3 v1 rfl rfl) h1
  obtain ⟨a2, rfl, rfl, rfl, w2⟩ := open_int Try.underlying3 (hval 2 3 v2 rfl rfl) h2
  obtain ⟨a3, rfl, rfl, rfl, w3⟩ := open_int Try.underlying3 (hval 3 3 v3 rfl rfl) h3
  clear hA0 hval0 hsz0 hsz
  refine (X.headroomlaw19_WindowLess.walk Pure.WindowLess a0 len0 cap0 z0 a1 a2 a3 W w0 y0 w1 w2 w3).mono fun e W' ⟨he, bel⟩ => ?_
  subst he
  exact ⟨_, rfl, _, _, _, [], _, [], hW', trodAll_mk1 (shut_bool Try.underlying4 _), (trodAll_cons_mk (Below.trod laidOut (by kernel_rfl) (of_decide_eq_true (by kernel_rfl)) k0 bel lt0) (trodAll_cons_mk (shut_int Try.underlying3 w1) (trodAll_cons_mk (shut_int Try.underlying3 w2) (trodAll_cons_mk (shut_int Try.underlying3 w3) trodAll_mk0)))), rfl, bel.frame _, fun h => by cases h⟩
theorem over : Rows.windowLessRow.holds Try.pinned (OpenSpec.ofChange Rows.windowLessSpec) :=
  OpenClaim.holds_of_wide 5 Try.f5 rfl rfl rfl rfl rfl rfl rfl ⟨rfl, rfl, rfl, rfl, rfl⟩ rfl rfl rfl rfl rfl (by kernel_rfl) Try.func5 (by kernel_rfl)
    (of_decide_eq_true (by kernel_rfl)) (by unfold Func.isWrapper; first | (rw [if_pos (by decide +kernel)]; kernel_rfl) | (rw [if_neg (by decide +kernel)]; exact ⟨rfl, rfl⟩))
    (fun os started H enc _ => lifted os started H enc)
theorem proved : Rows.WindowLessSaid := over
#print axioms proved
end Go.Proofs.Ytpmkkidljmedaaa.windowLess
namespace Go.Proofs.Ytpmkkidljmedaaa
/-- The row, under a short name, for the claim. -/
theorem windowLess_holds : Rows.WindowLessSaid := windowLess.proved
end Go.Proofs.Ytpmkkidljmedaaa
