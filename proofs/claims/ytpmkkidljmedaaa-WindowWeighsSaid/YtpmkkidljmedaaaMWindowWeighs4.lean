/- Part 4 of 4 of the proof of the given statement WindowWeighs: the last functions, the plain law, and the statement. No conditions but those in the statements. -/
import Derived.Test.YtpmkkidljmedaaaMWindowWeighs3
import Derived.Lib.Hide
import Derived.RegionTactic
import Derived.Test.YtpmkkidljmedaaaRows
import Derived.WalkKit
import Derived.ProofKit
import Derived.OpenShut
import Derived.ShutString
import Derived.ChangeOld
import Derived.Below
import Derived.SizedLaws
import Derived.Test.YtpmkkidljmedaaaVWindowWeighs
namespace Go.Proofs.Ytpmkkidljmedaaa.X
open Go.RowKit Go.Proofs.YtpmkkidljmedaaaW.PrintWords Go.Proofs.YtpmkkidljmedaaaW.PrintLast Go.Proofs.YtpmkkidljmedaaaW.PrintMore
attribute [local go_sem] max2_int min2_int max_two min_two max_three min_three max_four min_four
set_option linter.unusedVariables false
set_option linter.unusedSimpArgs false

def addHi (hi a b : Int) : Int := wrap64 (hi + wrap64 (a / 65536 * b))
def addLo (lo a b : Int) : Int := wrap64 (lo + wrap64 (a % 65536 * b))
theorem add_walk (hi lo a b : Int) (g : Nat) (w : World) (G : w.heap[g]? = some (.cells #[.int .i64 hi, .int .i64 lo] 89 (0, 0))) :
    Calls Try.prog 72 #[.pointer (some ⟨g, 0, none⟩), .int .i64 a, .int .i64 b] w fun e w' => e = .returned (.tuple #[]) ∧ w'.heap[g]? = some (.cells #[.int .i64 (addHi hi a b), .int .i64 (addLo lo a b)] 89 (0, 0)) ∧ Below g w w' ∧ KeepBut w w' g none := by
  have c0 := blk_cell G 0
  have c1 := blk_cell G 1
  have f0 := blk_frozen G 0
  have f1 := blk_frozen G 1
  go_enter Try.func72, Try.ntmps72
  go_wp2_with fail
  go_region
  have G1 := Aside0.mk (blk_drew (blk_put (cs' := #[.int .i64 (addHi hi a b), .int .i64 lo]) G 0 (.int .i64 (wrap64 (hi + wrap64 (a / 65536 * b)))) rfl))
  have HB := Aside0.mk (below_drew (((Below.refl g w).setCell (p := ⟨g, 0, none⟩) (Nat.le_refl _) (.int .i64 (wrap64 (hi + wrap64 (a / 65536 * b)))))))
  have HK := Aside0.mk (keep_drew ((KeepBut.refl w g none).set_ 0 (.int .i64 (wrap64 (hi + wrap64 (a / 65536 * b))))))
  clear c0 c1 f0 f1
  obtain ⟨W, hW⟩ : ∃ W, W = (w.setCell ⟨g, 0, none⟩ (.int .i64 (wrap64 (hi + wrap64 (a / 65536 * b))))).drew := ⟨_, rfl⟩
  rw [← hW] at G1 HB HK ⊢
  clear hW
  have hm := HM.and_mask a 16 (by omega)
  have e16 : (2 : Int) ^ 16 = 65536 := by decide
  rw [e16] at hm
  have hm' : bits .and .i64 a 65535 = a % 65536 := hm
  clear hm e16
  have c0 := blk_cell G1.out 0
  have c1 := blk_cell G1.out 1
  have f0 := blk_frozen G1.out 0
  have f1 := blk_frozen G1.out 1
  go_wp2_with fail
  go_region
  go_end0
  exact ⟨rfl, blk_drew (blk_put G1.out 1 _ rfl), below_drew (HB.out.setCell (p := ⟨g, 1, none⟩) (Nat.le_refl _) _), keep_drew (HK.out.set_ 1 _)⟩

def sumDown (hi lo : Int) : Int := wrap64 (hi + lo / 65536) / 65536
theorem down_walk (hi lo : Int) (w : World) :
    Calls Try.prog 73 #[.agg #[.int .i64 hi, .int .i64 lo]] w fun e w' => e = .returned (.int .i64 (sumDown hi lo)) ∧ Below w.heap.size w w' := by
  have H1 : ∀ x : Int, round_Shift.f x 16 0 = some (x / 65536, 0) := by
    intro x
    simp [round_Shift.f, upB]
  replace H1 := Lib.hid H1
  go_enter Try.func73, Try.ntmps73
  go_wp2_with fail
  have G := blk_new w (.cells #[.int .i64 hi, .int .i64 lo] 89 (0, 0))
  have HB := below_alloc (Below.refl _ w) (.cells #[.int .i64 hi, .int .i64 lo] 89 (0, 0))
  refine (round_Shift.calls lo 16 0 (lo / 65536) 0 _ (H1.out lo)).mono ?_
  rintro e w1 ⟨rfl, hb⟩
  replace G := Aside0.mk (blk_below G hb)
  replace HB := Aside0.mk (below_step HB hb)
  clear hb
  have c0 := blk_cell G.out 0
  have c1 := blk_cell G.out 1
  go_wp2_with fail
  have H2 : ∀ x : Int, round_Shift.f x 16 0 = some (x / 65536, 0) := H1.out
  refine (round_Shift.calls (wrap64 (hi + lo / 65536)) 16 0 (sumDown hi lo) 0 _ (H1.out _)).mono ?_
  rintro e w2 ⟨rfl, hb⟩
  go_wp2
  go_ret
  exact ⟨rfl, below_step HB.out hb⟩

/-- The sums of a bin so far: of the real parts, higher and lower, and of the others. -/
abbrev Sums := Int × Int × Int × Int
/-- The root that a number is turned by. -/
def binRoot (l1 : List CxN) (n k : Int) (inv : Bool) (j : Nat) : Option CxN :=
  if 0 ≤ bits .and .i64 (wrap64 ((j : Int) * k)) (n - 1) ∧ bits .and .i64 (wrap64 ((j : Int) * k)) (n - 1) < l1.length then
    (if inv = true then (cx_Conj.f (rd_T41 l1 (bits .and .i64 (wrap64 ((j : Int) * k)) (n - 1))).f0 (rd_T41 l1 (bits .and .i64 (wrap64 ((j : Int) * k)) (n - 1))).f1).bind fun r => some ⟨r.1, r.2.1⟩
    else some (rd_T41 l1 (bits .and .i64 (wrap64 ((j : Int) * k)) (n - 1))))
  else none
def binStep (x r : CxN) (s : Sums) : Sums :=
  (addHi (addHi s.1 x.f0 r.f0) (wrap64 (-x.f1)) r.f1, addLo (addLo s.2.1 x.f0 r.f0) (wrap64 (-x.f1)) r.f1,
   addHi (addHi s.2.2.1 x.f0 r.f1) x.f1 r.f0, addLo (addLo s.2.2.2 x.f0 r.f1) x.f1 r.f0)
def binTo (l0 l1 : List CxN) (k : Int) (inv : Bool) : Nat → Option Sums
  | 0 => some (0, 0, 0, 0)
  | i + 1 => (binTo l0 l1 k inv i).bind fun s => (binRoot l1 l0.length k inv i).bind fun r => some (binStep (rd_T41 l0 i) r s)
theorem binTo_some (l0 l1 : List CxN) (k : Int) (inv : Bool) (n : Nat) (s : Sums) (h : binTo l0 l1 k inv n = some s) : ∀ i, i ≤ n → ∃ s, binTo l0 l1 k inv i = some s := by
  induction n generalizing s with
  | zero =>
    intro i hi
    obtain rfl : i = 0 := by omega
    exact ⟨s, h⟩
  | succ n ih =>
    intro i hi
    obtain ⟨t, ht, h2⟩ := Option.bind_eq_some_iff.mp h
    by_cases e : i = n + 1
    · subst e; exact ⟨s, h⟩
    · exact ih t ht i (by omega)
def dft_bin.f (l0 l1 : List CxN) (k : Int) (inv : Bool) : Option (Int × Int) :=
  (binTo l0 l1 k inv l0.length).bind fun s => some (sumDown s.1 s.2.1, sumDown s.2.2.1 s.2.2.2)

theorem two_put {V : World} {g : Nat} {a b x y : Value} {t : TypeId} (h : ((V.setCell ⟨g, 0, none⟩ x).setCell ⟨g, 1, none⟩ y).heap[g]? = some (.cells #[a, b] t (0, 0))) :
    ((V.setCell ⟨g, 0, none⟩ x).setCell ⟨g, 1, none⟩ y).heap[g]? = some (.cells #[x, y] t (0, 0)) := by
  have h0 := h
  rw [h]
  simp only [World.setCell, Array.getElem?_modify, if_true, Option.map_map] at h0
  obtain ⟨o, ho, e⟩ := Option.map_eq_some_iff.1 h0
  cases o with
  | cells c t' fr =>
    simp only [Function.comp, Option.isSome_none, Bool.false_eq_true, if_false, Obj.cells.injEq] at e
    obtain ⟨e, rfl, rfl⟩ := e
    have e0 := congrArg (fun z => z[0]?) e
    have e1 := congrArg (fun z => z[1]?) e
    have hs := congrArg Array.size e
    simp at e0 e1 hs
    rw [Array.getElem?_setIfInBounds, if_pos rfl, if_pos (by omega)] at e0
    simp only [Option.some.injEq] at e0
    subst e0
    rw [Array.getElem?_setIfInBounds, if_pos rfl, if_pos (by simp; omega)] at e1
    simp only [Option.some.injEq] at e1
    subst e1
    rfl
  | _ => simp at e

set_option maxHeartbeats 4000000 in
set_option maxRecDepth 100000 in
theorem dft_bin.calls (A0 : Option Addr) (c0 : Nat) (l0 : List CxN) (A1 : Option Addr) (c1 : Nat) (l1 : List CxN) (a2 : Int) (a3 : Bool) (r1 r2 : Int) (w : World) (hr0 : Kd.C k41 w A0 l0.length l0) (hc0 : l0.length ≤ c0) (hr1 : Kd.C k41 w A1 l1.length l1) (hc1 : l1.length ≤ c1) (h : dft_bin.f l0 l1 a2 a3 = some (r1, r2)) :
    Calls Try.prog 36 #[.slice A0 l0.length c0, .slice A1 l1.length c1, .int .i64 a2, .bool a3] w fun e w' => e = .returned (.agg #[.int .i64 r1, .int .i64 r2]) ∧ Below w.heap.size w w' := by
  obtain ⟨⟨s1, s2, s3, s4⟩, hs, h⟩ := Option.bind_eq_some_iff.mp h
  simp only [Option.some.injEq, Prod.mk.injEq] at h
  obtain ⟨rfl, rfl⟩ := h
  have HT := Lib.hid (binTo_some l0 l1 a2 a3 _ _ hs)
  have HS := Lib.hid hs
  have hl0 : l0.length ≤ 9223372036854775807 := hr0.2.1
  have HR0 := Aside0.mk hr0
  have HR1 := Aside0.mk hr1
  clear hs hr0 hr1
  go_enter Try.func36, Try.ntmps36
  go_wp2_with fail
  have R := Aside0.mk (blk_alloc (blk_alloc (blk_new w (.cells #[.int .i64 0, .int .i64 0] 41 (0, 0))) (.cells #[.int .i64 0, .int .i64 0] 89 (0, 0))) (.cells #[.int .i64 0, .int .i64 0] 89 (0, 0)))
  have S := blk_alloc (blk_new (w.alloc (.cells #[.int .i64 0, .int .i64 0] 41 (0, 0))) (.cells #[.int .i64 0, .int .i64 0] 89 (0, 0))) (.cells #[.int .i64 0, .int .i64 0] 89 (0, 0))
  have T := blk_new ((w.alloc (.cells #[.int .i64 0, .int .i64 0] 41 (0, 0))).alloc (.cells #[.int .i64 0, .int .i64 0] 89 (0, 0))) (.cells #[.int .i64 0, .int .i64 0] 89 (0, 0))
  simp only [World.size_alloc] at S T
  replace S := Aside0.mk S
  replace T := Aside0.mk T
  have HB := Aside0.mk (below_alloc (below_alloc (below_alloc (Below.refl _ w) (.cells #[.int .i64 0, .int .i64 0] 41 (0, 0))) (.cells #[.int .i64 0, .int .i64 0] 89 (0, 0))) (.cells #[.int .i64 0, .int .i64 0] 89 (0, 0)))
  go_loopw [16] (fun v16 wr => ∃ (i : Int) (s : Sums), 0 ≤ i ∧ i ≤ l0.length ∧ v16 = .int .i64 i ∧ Aside0 (binTo l0 l1 a2 a3 i.toNat = some s) ∧ Aside0 (wr.heap[w.heap.size]? = some (.cells #[.int .i64 0, .int .i64 0] 41 (0, 0)))
      ∧ Aside0 (wr.heap[w.heap.size + 1]? = some (.cells #[.int .i64 s.1, .int .i64 s.2.1] 89 (0, 0))) ∧ Aside0 (wr.heap[w.heap.size + 1 + 1]? = some (.cells #[.int .i64 s.2.2.1, .int .i64 s.2.2.2] 89 (0, 0))) ∧ Aside0 (Below w.heap.size w wr)) (fun v16 _ => l0.length - (intOf v16).toNat)
  case atStart => exact ⟨0, (0, 0, 0, 0), by omega, by omega, rfl, ⟨rfl⟩, R, S, T, HB⟩
  case round =>
    clear R S T HB
    obtain ⟨i, s, hi0, hi, rfl, HE, R, S, T, HB⟩ := hrel
    by_cases hlt : i < (l0.length : Int)
    · obtain ⟨s', hs'⟩ := HT.out (i.toNat + 1) (by omega)
      obtain ⟨s0, hs0, hs1⟩ := Option.bind_eq_some_iff.mp hs'
      rw [HE.out] at hs0
      cases hs0
      obtain ⟨r, hr, hs2⟩ := Option.bind_eq_some_iff.mp hs1
      simp only [Option.some.injEq] at hs2
      have HS' := Lib.hid hs'
      clear hs' hs1
      unfold binRoot at hr
      rw [Int.toNat_of_nonneg hi0] at hr hs2
      split at hr
      case isFalse => cases hr
      rename_i hix
      obtain ⟨hx0, hx1⟩ := hix
      have q0 := decide_eq_true hlt
      have q1 := decide_eq_true hx0
      have q2 := decide_eq_true hx1
      have q3 := decide_eq_true hi0
      obtain ⟨ad0, e0, x0, x1⟩ := at_T41 (Kd.C_below HR0.out HB.out) i hi0 hlt
      subst e0
      obtain ⟨ad1, e1, y0, y1⟩ := at_T41 (Kd.C_below HR1.out HB.out) _ hx0 hx1
      subst e1
      have hgt := blk_lt T.out
      cases a3 with
      | false =>
        simp only [Bool.false_eq_true, if_false, Option.some.injEq] at hr
        subst hr
        go_upto_region 5 with (fail)
        have X := blk_new wr (.cells #[.int .i64 (rd_T41 l0 i).f0, .int .i64 (rd_T41 l0 i).f1] 41 (0, 0))
        have hb := below_alloc (Below.refl _ wr) (.cells #[.int .i64 (rd_T41 l0 i).f0, .int .i64 (rd_T41 l0 i).f1] 41 (0, 0))
        obtain ⟨W1, hW⟩ : ∃ W, W = wr.alloc (.cells #[.int .i64 (rd_T41 l0 i).f0, .int .i64 (rd_T41 l0 i).f1] 41 (0, 0)) := ⟨_, rfl⟩
        rw [← hW] at X hb ⊢
        clear hW
        replace X := Aside0.mk X
        replace y0 := pw_cell_below hb y0
        replace y1 := pw_cell_below hb y1
        replace R := Aside0.mk (blk_below R.out hb)
        replace S := Aside0.mk (blk_below S.out hb)
        replace T := Aside0.mk (blk_below T.out hb)
        replace HB := Aside0.mk (below_step HB.out hb)
        clear hb
        clear x0 x1
        have hgy := blk_lt X.out
        go_upto_region 6 with (fail)
        have Y := blk_new W1 (.cells #[.int .i64 (rd_T41 l1 (bits .and .i64 (wrap64 (i * a2)) ((l0.length : Int) - 1))).f0, .int .i64 (rd_T41 l1 (bits .and .i64 (wrap64 (i * a2)) ((l0.length : Int) - 1))).f1] 41 (0, 0))
        have hb := below_alloc (Below.refl _ W1) (.cells #[.int .i64 (rd_T41 l1 (bits .and .i64 (wrap64 (i * a2)) ((l0.length : Int) - 1))).f0, .int .i64 (rd_T41 l1 (bits .and .i64 (wrap64 (i * a2)) ((l0.length : Int) - 1))).f1] 41 (0, 0))
        obtain ⟨W2, hW⟩ : ∃ W, W = W1.alloc (.cells #[.int .i64 (rd_T41 l1 (bits .and .i64 (wrap64 (i * a2)) ((l0.length : Int) - 1))).f0, .int .i64 (rd_T41 l1 (bits .and .i64 (wrap64 (i * a2)) ((l0.length : Int) - 1))).f1] 41 (0, 0)) := ⟨_, rfl⟩
        rw [← hW] at Y hb ⊢
        clear hW
        replace Y := Aside0.mk Y
        replace R := Aside0.mk (blk_below R.out hb)
        replace S := Aside0.mk (blk_below S.out hb)
        replace T := Aside0.mk (blk_below T.out hb)
        replace X := Aside0.mk (blk_below X.out hb)
        replace HB := Aside0.mk (below_step HB.out hb)
        clear hb
        clear y0 y1
        have cX0 := blk_cell X.out 0
        have fX0 := blk_frozen X.out 0
        have cX1 := blk_cell X.out 1
        have fX1 := blk_frozen X.out 1
        have cY0 := blk_cell Y.out 0
        have fY0 := blk_frozen Y.out 0
        have cY1 := blk_cell Y.out 1
        have fY1 := blk_frozen Y.out 1
        go_wp2_with fail
        clear cX0 fX0 cX1 fX1 cY0 fY0 cY1 fY1
        refine (add_walk s.1 s.2.1 (rd_T41 l0 i).f0 (rd_T41 l1 (bits .and .i64 (wrap64 (i * a2)) ((l0.length : Int) - 1))).f0 (w.heap.size + 1) _ S.out).mono ?_
        rintro e W3 ⟨rfl, hn, hb, hk⟩
        replace R := Aside0.mk (KeepBut.blk hk R.out (by omega) (by simp))
        replace T := Aside0.mk (KeepBut.blk hk T.out (by omega) (by simp))
        replace X := Aside0.mk (KeepBut.blk hk X.out (by omega) (by simp))
        replace Y := Aside0.mk (KeepBut.blk hk Y.out (by omega) (by simp))
        replace S := Aside0.mk hn
        replace HB := Aside0.mk (HB.out.trans (hb.mono (by omega)))
        clear hn hb hk
        have cX0 := blk_cell X.out 0
        have fX0 := blk_frozen X.out 0
        have cX1 := blk_cell X.out 1
        have fX1 := blk_frozen X.out 1
        have cY0 := blk_cell Y.out 0
        have fY0 := blk_frozen Y.out 0
        have cY1 := blk_cell Y.out 1
        have fY1 := blk_frozen Y.out 1
        go_wp2_with fail
        clear cX0 fX0 cX1 fX1 cY0 fY0 cY1 fY1
        refine (add_walk (addHi s.1 (rd_T41 l0 i).f0 (rd_T41 l1 (bits .and .i64 (wrap64 (i * a2)) ((l0.length : Int) - 1))).f0) (addLo s.2.1 (rd_T41 l0 i).f0 (rd_T41 l1 (bits .and .i64 (wrap64 (i * a2)) ((l0.length : Int) - 1))).f0) (wrap64 (-(rd_T41 l0 i).f1)) (rd_T41 l1 (bits .and .i64 (wrap64 (i * a2)) ((l0.length : Int) - 1))).f1 (w.heap.size + 1) _ S.out).mono ?_
        rintro e W4 ⟨rfl, hn, hb, hk⟩
        replace R := Aside0.mk (KeepBut.blk hk R.out (by omega) (by simp))
        replace T := Aside0.mk (KeepBut.blk hk T.out (by omega) (by simp))
        replace X := Aside0.mk (KeepBut.blk hk X.out (by omega) (by simp))
        replace Y := Aside0.mk (KeepBut.blk hk Y.out (by omega) (by simp))
        replace S := Aside0.mk hn
        replace HB := Aside0.mk (HB.out.trans (hb.mono (by omega)))
        clear hn hb hk
        have cX0 := blk_cell X.out 0
        have fX0 := blk_frozen X.out 0
        have cX1 := blk_cell X.out 1
        have fX1 := blk_frozen X.out 1
        have cY0 := blk_cell Y.out 0
        have fY0 := blk_frozen Y.out 0
        have cY1 := blk_cell Y.out 1
        have fY1 := blk_frozen Y.out 1
        go_wp2_with fail
        clear cX0 fX0 cX1 fX1 cY0 fY0 cY1 fY1
        refine (add_walk s.2.2.1 s.2.2.2 (rd_T41 l0 i).f0 (rd_T41 l1 (bits .and .i64 (wrap64 (i * a2)) ((l0.length : Int) - 1))).f1 (w.heap.size + 1 + 1) _ T.out).mono ?_
        rintro e W5 ⟨rfl, hn, hb, hk⟩
        replace R := Aside0.mk (KeepBut.blk hk R.out (by omega) (by simp))
        replace S := Aside0.mk (KeepBut.blk hk S.out (by omega) (by simp))
        replace X := Aside0.mk (KeepBut.blk hk X.out (by omega) (by simp))
        replace Y := Aside0.mk (KeepBut.blk hk Y.out (by omega) (by simp))
        replace T := Aside0.mk hn
        replace HB := Aside0.mk (HB.out.trans (hb.mono (by omega)))
        clear hn hb hk
        have cX0 := blk_cell X.out 0
        have fX0 := blk_frozen X.out 0
        have cX1 := blk_cell X.out 1
        have fX1 := blk_frozen X.out 1
        have cY0 := blk_cell Y.out 0
        have fY0 := blk_frozen Y.out 0
        have cY1 := blk_cell Y.out 1
        have fY1 := blk_frozen Y.out 1
        go_wp2_with fail
        clear cX0 fX0 cX1 fX1 cY0 fY0 cY1 fY1
        refine (add_walk (addHi s.2.2.1 (rd_T41 l0 i).f0 (rd_T41 l1 (bits .and .i64 (wrap64 (i * a2)) ((l0.length : Int) - 1))).f1) (addLo s.2.2.2 (rd_T41 l0 i).f0 (rd_T41 l1 (bits .and .i64 (wrap64 (i * a2)) ((l0.length : Int) - 1))).f1) (rd_T41 l0 i).f1 (rd_T41 l1 (bits .and .i64 (wrap64 (i * a2)) ((l0.length : Int) - 1))).f0 (w.heap.size + 1 + 1) _ T.out).mono ?_
        rintro e W6 ⟨rfl, hn, hb, hk⟩
        replace R := Aside0.mk (KeepBut.blk hk R.out (by omega) (by simp))
        replace S := Aside0.mk (KeepBut.blk hk S.out (by omega) (by simp))
        replace X := Aside0.mk (KeepBut.blk hk X.out (by omega) (by simp))
        replace Y := Aside0.mk (KeepBut.blk hk Y.out (by omega) (by simp))
        replace T := Aside0.mk hn
        replace HB := Aside0.mk (HB.out.trans (hb.mono (by omega)))
        clear hn hb hk
        go_wp2
        go_roundw
        case rel => exact ⟨i + 1, s', by omega, by omega, by go_num, by rw [Int.toNat_add hi0 (by decide)]; exact ⟨HS'.out⟩, R, by rw [← hs2]; exact S, by rw [← hs2]; exact T, HB⟩
        case measure => simp [intOf]; omega
      | true =>
        rw [if_pos rfl] at hr
        obtain ⟨⟨z1, z2, z3⟩, hcj, hr⟩ := Option.bind_eq_some_iff.mp hr
        simp only [Option.some.injEq] at hr
        subst hr
        have HJ := Lib.hid hcj
        clear hcj
        go_upto_region 5 with (fail)
        have X := blk_new wr (.cells #[.int .i64 (rd_T41 l0 i).f0, .int .i64 (rd_T41 l0 i).f1] 41 (0, 0))
        have hb := below_alloc (Below.refl _ wr) (.cells #[.int .i64 (rd_T41 l0 i).f0, .int .i64 (rd_T41 l0 i).f1] 41 (0, 0))
        obtain ⟨W1, hW⟩ : ∃ W, W = wr.alloc (.cells #[.int .i64 (rd_T41 l0 i).f0, .int .i64 (rd_T41 l0 i).f1] 41 (0, 0)) := ⟨_, rfl⟩
        rw [← hW] at X hb ⊢
        clear hW
        replace X := Aside0.mk X
        replace y0 := pw_cell_below hb y0
        replace y1 := pw_cell_below hb y1
        replace R := Aside0.mk (blk_below R.out hb)
        replace S := Aside0.mk (blk_below S.out hb)
        replace T := Aside0.mk (blk_below T.out hb)
        replace HB := Aside0.mk (below_step HB.out hb)
        clear hb
        clear x0 x1
        have hgy := blk_lt X.out
        go_upto_region 6 with (fail)
        have Y := blk_new W1 (.cells #[.int .i64 (rd_T41 l1 (bits .and .i64 (wrap64 (i * a2)) ((l0.length : Int) - 1))).f0, .int .i64 (rd_T41 l1 (bits .and .i64 (wrap64 (i * a2)) ((l0.length : Int) - 1))).f1] 41 (0, 0))
        have hb := below_alloc (Below.refl _ W1) (.cells #[.int .i64 (rd_T41 l1 (bits .and .i64 (wrap64 (i * a2)) ((l0.length : Int) - 1))).f0, .int .i64 (rd_T41 l1 (bits .and .i64 (wrap64 (i * a2)) ((l0.length : Int) - 1))).f1] 41 (0, 0))
        obtain ⟨W2, hW⟩ : ∃ W, W = W1.alloc (.cells #[.int .i64 (rd_T41 l1 (bits .and .i64 (wrap64 (i * a2)) ((l0.length : Int) - 1))).f0, .int .i64 (rd_T41 l1 (bits .and .i64 (wrap64 (i * a2)) ((l0.length : Int) - 1))).f1] 41 (0, 0)) := ⟨_, rfl⟩
        rw [← hW] at Y hb ⊢
        clear hW
        replace Y := Aside0.mk Y
        replace R := Aside0.mk (blk_below R.out hb)
        replace S := Aside0.mk (blk_below S.out hb)
        replace T := Aside0.mk (blk_below T.out hb)
        replace X := Aside0.mk (blk_below X.out hb)
        replace HB := Aside0.mk (below_step HB.out hb)
        clear hb
        clear y0 y1
        have fY0 := blk_frozen Y.out 0
        have fY1 := blk_frozen Y.out 1
        have cY0 := blk_cell Y.out 0
        have cY1 := blk_cell Y.out 1
        go_wp2_with fail
        clear fY0 fY1 cY0 cY1
        refine (cx_Conj.calls _ _ z1 z2 z3 _ HJ.out).mono ?_
        rintro e W2a ⟨rfl, hb⟩
        replace R := Aside0.mk (blk_below R.out hb)
        replace S := Aside0.mk (blk_below S.out hb)
        replace T := Aside0.mk (blk_below T.out hb)
        replace X := Aside0.mk (blk_below X.out hb)
        replace Y := Aside0.mk (blk_below Y.out hb)
        replace HB := Aside0.mk (below_step HB.out hb)
        clear hb
        have fY0 := blk_frozen Y.out 0
        have fY1 := blk_frozen Y.out 1
        have cY0 := blk_cell Y.out 0
        have cY1 := blk_cell Y.out 1
        go_upto_region 8 with (fail)
        clear fY0 fY1 cY0 cY1
        replace R := Aside0.mk (blk_far (blk_far R.out (p := ⟨W1.heap.size, 0, none⟩) (by simp; omega) (.int .i64 z1)) (p := ⟨W1.heap.size, 1, none⟩) (by simp; omega) (.int .i64 z2))
        replace S := Aside0.mk (blk_far (blk_far S.out (p := ⟨W1.heap.size, 0, none⟩) (by simp; omega) (.int .i64 z1)) (p := ⟨W1.heap.size, 1, none⟩) (by simp; omega) (.int .i64 z2))
        replace T := Aside0.mk (blk_far (blk_far T.out (p := ⟨W1.heap.size, 0, none⟩) (by simp; omega) (.int .i64 z1)) (p := ⟨W1.heap.size, 1, none⟩) (by simp; omega) (.int .i64 z2))
        replace X := Aside0.mk (blk_far (blk_far X.out (p := ⟨W1.heap.size, 0, none⟩) (by simp; omega) (.int .i64 z1)) (p := ⟨W1.heap.size, 1, none⟩) (by simp; omega) (.int .i64 z2))
        replace Y := Aside0.mk (blk_put (cs' := #[.int .i64 z1, .int .i64 z2]) (blk_put (cs' := #[.int .i64 z1, .int .i64 (rd_T41 l1 (bits .and .i64 (wrap64 (i * a2)) ((l0.length : Int) - 1))).f1]) Y.out 0 (.int .i64 z1) rfl) 1 (.int .i64 z2) rfl)
        replace HB := Aside0.mk (below_set (j := 1) (v := .int .i64 z2) (below_set (g := W1.heap.size) (j := 0) (v := .int .i64 z1) HB.out (show w.heap.size ≤ W1.heap.size by omega)) (show w.heap.size ≤ W1.heap.size by omega))
        obtain ⟨W2b, hW⟩ : ∃ W, W = (W2a.setCell ⟨W1.heap.size, 0, none⟩ (.int .i64 z1)).setCell ⟨W1.heap.size, 1, none⟩ (.int .i64 z2) := ⟨_, rfl⟩
        rw [← hW] at R S T X Y HB ⊢
        clear hW
        have cX0 := blk_cell X.out 0
        have fX0 := blk_frozen X.out 0
        have cX1 := blk_cell X.out 1
        have fX1 := blk_frozen X.out 1
        have cY0 := blk_cell Y.out 0
        have fY0 := blk_frozen Y.out 0
        have cY1 := blk_cell Y.out 1
        have fY1 := blk_frozen Y.out 1
        go_wp2_with fail
        clear cX0 fX0 cX1 fX1 cY0 fY0 cY1 fY1
        refine (add_walk s.1 s.2.1 (rd_T41 l0 i).f0 z1 (w.heap.size + 1) _ S.out).mono ?_
        rintro e W3 ⟨rfl, hn, hb, hk⟩
        replace R := Aside0.mk (KeepBut.blk hk R.out (by omega) (by simp))
        replace T := Aside0.mk (KeepBut.blk hk T.out (by omega) (by simp))
        replace X := Aside0.mk (KeepBut.blk hk X.out (by omega) (by simp))
        replace Y := Aside0.mk (KeepBut.blk hk Y.out (by omega) (by simp))
        replace S := Aside0.mk hn
        replace HB := Aside0.mk (HB.out.trans (hb.mono (by omega)))
        clear hn hb hk
        have cX0 := blk_cell X.out 0
        have fX0 := blk_frozen X.out 0
        have cX1 := blk_cell X.out 1
        have fX1 := blk_frozen X.out 1
        have cY0 := blk_cell Y.out 0
        have fY0 := blk_frozen Y.out 0
        have cY1 := blk_cell Y.out 1
        have fY1 := blk_frozen Y.out 1
        go_wp2_with fail
        clear cX0 fX0 cX1 fX1 cY0 fY0 cY1 fY1
        refine (add_walk (addHi s.1 (rd_T41 l0 i).f0 z1) (addLo s.2.1 (rd_T41 l0 i).f0 z1) (wrap64 (-(rd_T41 l0 i).f1)) z2 (w.heap.size + 1) _ S.out).mono ?_
        rintro e W4 ⟨rfl, hn, hb, hk⟩
        replace R := Aside0.mk (KeepBut.blk hk R.out (by omega) (by simp))
        replace T := Aside0.mk (KeepBut.blk hk T.out (by omega) (by simp))
        replace X := Aside0.mk (KeepBut.blk hk X.out (by omega) (by simp))
        replace Y := Aside0.mk (KeepBut.blk hk Y.out (by omega) (by simp))
        replace S := Aside0.mk hn
        replace HB := Aside0.mk (HB.out.trans (hb.mono (by omega)))
        clear hn hb hk
        have cX0 := blk_cell X.out 0
        have fX0 := blk_frozen X.out 0
        have cX1 := blk_cell X.out 1
        have fX1 := blk_frozen X.out 1
        have cY0 := blk_cell Y.out 0
        have fY0 := blk_frozen Y.out 0
        have cY1 := blk_cell Y.out 1
        have fY1 := blk_frozen Y.out 1
        go_wp2_with fail
        clear cX0 fX0 cX1 fX1 cY0 fY0 cY1 fY1
        refine (add_walk s.2.2.1 s.2.2.2 (rd_T41 l0 i).f0 z2 (w.heap.size + 1 + 1) _ T.out).mono ?_
        rintro e W5 ⟨rfl, hn, hb, hk⟩
        replace R := Aside0.mk (KeepBut.blk hk R.out (by omega) (by simp))
        replace S := Aside0.mk (KeepBut.blk hk S.out (by omega) (by simp))
        replace X := Aside0.mk (KeepBut.blk hk X.out (by omega) (by simp))
        replace Y := Aside0.mk (KeepBut.blk hk Y.out (by omega) (by simp))
        replace T := Aside0.mk hn
        replace HB := Aside0.mk (HB.out.trans (hb.mono (by omega)))
        clear hn hb hk
        have cX0 := blk_cell X.out 0
        have fX0 := blk_frozen X.out 0
        have cX1 := blk_cell X.out 1
        have fX1 := blk_frozen X.out 1
        have cY0 := blk_cell Y.out 0
        have fY0 := blk_frozen Y.out 0
        have cY1 := blk_cell Y.out 1
        have fY1 := blk_frozen Y.out 1
        go_wp2_with fail
        clear cX0 fX0 cX1 fX1 cY0 fY0 cY1 fY1
        refine (add_walk (addHi s.2.2.1 (rd_T41 l0 i).f0 z2) (addLo s.2.2.2 (rd_T41 l0 i).f0 z2) (rd_T41 l0 i).f1 z1 (w.heap.size + 1 + 1) _ T.out).mono ?_
        rintro e W6 ⟨rfl, hn, hb, hk⟩
        replace R := Aside0.mk (KeepBut.blk hk R.out (by omega) (by simp))
        replace S := Aside0.mk (KeepBut.blk hk S.out (by omega) (by simp))
        replace X := Aside0.mk (KeepBut.blk hk X.out (by omega) (by simp))
        replace Y := Aside0.mk (KeepBut.blk hk Y.out (by omega) (by simp))
        replace T := Aside0.mk hn
        replace HB := Aside0.mk (HB.out.trans (hb.mono (by omega)))
        clear hn hb hk
        go_wp2
        go_roundw
        case rel => exact ⟨i + 1, s', by omega, by omega, by go_num, by rw [Int.toNat_add hi0 (by decide)]; exact ⟨HS'.out⟩, R, by rw [← hs2]; exact S, by rw [← hs2]; exact T, HB⟩
        case measure => simp [intOf]; omega
    · obtain rfl : i = (l0.length : Int) := by omega
      have hs2 := HE.out
      rw [Int.toNat_natCast, HS.out] at hs2
      simp only [Option.some.injEq] at hs2
      subst hs2
      clear HT HE HS
      go_upto_region 13 with (fail)
      have c10 : wr.cell? ⟨w.heap.size + 1, 0, none⟩ = some (.int .i64 s1) := (blk_cell S.out 0).trans rfl
      have c11 : wr.cell? ⟨w.heap.size + 1, 1, none⟩ = some (.int .i64 s2) := (blk_cell S.out 1).trans rfl
      have c20 : wr.cell? ⟨w.heap.size + 1 + 1, 0, none⟩ = some (.int .i64 s3) := (blk_cell T.out 0).trans rfl
      have c21 : wr.cell? ⟨w.heap.size + 1 + 1, 1, none⟩ = some (.int .i64 s4) := (blk_cell T.out 1).trans rfl
      obtain ⟨F, hF⟩ : ∃ F : World → Nat → Value, ∀ W cs, W.heap[w.heap.size]? = some (.cells cs 41 (0, 0)) → ∀ i, F W i = cs.getD i undef := ⟨fun W i => match W.heap[w.heap.size]? with | some (.cells cs _ _) => cs.getD i undef | _ => undef, fun W cs h i => by simp only [h]⟩
      have hS0 : wr.drew.heap[w.heap.size]? = some (.cells #[F wr.drew 0, F wr.drew 1] 41 (0, 0)) ∧ wr.drew.cell? ⟨w.heap.size, 0, none⟩ = some (F wr.drew 0) ∧ wr.drew.cell? ⟨w.heap.size, 1, none⟩ = some (F wr.drew 1) ∧ wr.drew.frozen? ⟨w.heap.size, 0, none⟩ = false ∧ wr.drew.frozen? ⟨w.heap.size, 1, none⟩ = false ∧ wr.drew.cell? ⟨w.heap.size + 1, 0, none⟩ = some (.int .i64 s1) ∧ wr.drew.cell? ⟨w.heap.size + 1, 1, none⟩ = some (.int .i64 s2) ∧ wr.drew.cell? ⟨w.heap.size + 1 + 1, 0, none⟩ = some (.int .i64 s3) ∧ wr.drew.cell? ⟨w.heap.size + 1 + 1, 1, none⟩ = some (.int .i64 s4) ∧ Below w.heap.size w wr.drew := by
        have e0 : F wr.drew 0 = .int .i64 0 := hF wr.drew _ R.out 0
        have e1 : F wr.drew 1 = .int .i64 0 := hF wr.drew _ R.out 1
        rw [e0, e1]
        exact ⟨R.out, (blk_cell R.out 0).trans rfl, (blk_cell R.out 1).trans rfl, blk_frozen R.out 0, blk_frozen R.out 1, c10, c11, c20, c21, below_drew HB.out⟩
      have hS : ∀ W W' : World, (W.heap[w.heap.size]? = some (.cells #[F W 0, F W 1] 41 (0, 0)) ∧ W.cell? ⟨w.heap.size, 0, none⟩ = some (F W 0) ∧ W.cell? ⟨w.heap.size, 1, none⟩ = some (F W 1) ∧ W.frozen? ⟨w.heap.size, 0, none⟩ = false ∧ W.frozen? ⟨w.heap.size, 1, none⟩ = false ∧ W.cell? ⟨w.heap.size + 1, 0, none⟩ = some (.int .i64 s1) ∧ W.cell? ⟨w.heap.size + 1, 1, none⟩ = some (.int .i64 s2) ∧ W.cell? ⟨w.heap.size + 1 + 1, 0, none⟩ = some (.int .i64 s3) ∧ W.cell? ⟨w.heap.size + 1 + 1, 1, none⟩ = some (.int .i64 s4) ∧ Below w.heap.size w W) → Below W.heap.size W W' → (W'.heap[w.heap.size]? = some (.cells #[F W' 0, F W' 1] 41 (0, 0)) ∧ W'.cell? ⟨w.heap.size, 0, none⟩ = some (F W' 0) ∧ W'.cell? ⟨w.heap.size, 1, none⟩ = some (F W' 1) ∧ W'.frozen? ⟨w.heap.size, 0, none⟩ = false ∧ W'.frozen? ⟨w.heap.size, 1, none⟩ = false ∧ W'.cell? ⟨w.heap.size + 1, 0, none⟩ = some (.int .i64 s1) ∧ W'.cell? ⟨w.heap.size + 1, 1, none⟩ = some (.int .i64 s2) ∧ W'.cell? ⟨w.heap.size + 1 + 1, 0, none⟩ = some (.int .i64 s3) ∧ W'.cell? ⟨w.heap.size + 1 + 1, 1, none⟩ = some (.int .i64 s4) ∧ Below w.heap.size w W') := by
        rintro W W' ⟨h1, h2, h3, h4, h5, h6, h7, h8, h9, h10⟩ hb
        have h1' := blk_below h1 hb
        have e0 : F W' 0 = F W 0 := hF W' _ h1' 0
        have e1 : F W' 1 = F W 1 := hF W' _ h1' 1
        rw [e0, e1]
        exact ⟨h1', pw_cell_below hb h2, pw_cell_below hb h3, blk_frozen h1' 0, blk_frozen h1' 1, pw_cell_below hb h6, pw_cell_below hb h7, pw_cell_below hb h8, pw_cell_below hb h9, below_step h10 hb⟩
      have hT : ∀ W : World, (W.heap[w.heap.size]? = some (.cells #[F W 0, F W 1] 41 (0, 0)) ∧ W.cell? ⟨w.heap.size, 0, none⟩ = some (F W 0) ∧ W.cell? ⟨w.heap.size, 1, none⟩ = some (F W 1) ∧ W.frozen? ⟨w.heap.size, 0, none⟩ = false ∧ W.frozen? ⟨w.heap.size, 1, none⟩ = false ∧ W.cell? ⟨w.heap.size + 1, 0, none⟩ = some (.int .i64 s1) ∧ W.cell? ⟨w.heap.size + 1, 1, none⟩ = some (.int .i64 s2) ∧ W.cell? ⟨w.heap.size + 1 + 1, 0, none⟩ = some (.int .i64 s3) ∧ W.cell? ⟨w.heap.size + 1 + 1, 1, none⟩ = some (.int .i64 s4) ∧ Below w.heap.size w W) → (((W.setCell ⟨w.heap.size, 0, none⟩ (.int .i64 (sumDown s1 s2))).setCell ⟨w.heap.size, 1, none⟩ (.int .i64 (sumDown s3 s4))).heap[w.heap.size]? = some (.cells #[F ((W.setCell ⟨w.heap.size, 0, none⟩ (.int .i64 (sumDown s1 s2))).setCell ⟨w.heap.size, 1, none⟩ (.int .i64 (sumDown s3 s4))) 0, F ((W.setCell ⟨w.heap.size, 0, none⟩ (.int .i64 (sumDown s1 s2))).setCell ⟨w.heap.size, 1, none⟩ (.int .i64 (sumDown s3 s4))) 1] 41 (0, 0)) ∧ ((W.setCell ⟨w.heap.size, 0, none⟩ (.int .i64 (sumDown s1 s2))).setCell ⟨w.heap.size, 1, none⟩ (.int .i64 (sumDown s3 s4))).cell? ⟨w.heap.size, 0, none⟩ = some (F ((W.setCell ⟨w.heap.size, 0, none⟩ (.int .i64 (sumDown s1 s2))).setCell ⟨w.heap.size, 1, none⟩ (.int .i64 (sumDown s3 s4))) 0) ∧ ((W.setCell ⟨w.heap.size, 0, none⟩ (.int .i64 (sumDown s1 s2))).setCell ⟨w.heap.size, 1, none⟩ (.int .i64 (sumDown s3 s4))).cell? ⟨w.heap.size, 1, none⟩ = some (F ((W.setCell ⟨w.heap.size, 0, none⟩ (.int .i64 (sumDown s1 s2))).setCell ⟨w.heap.size, 1, none⟩ (.int .i64 (sumDown s3 s4))) 1) ∧ ((W.setCell ⟨w.heap.size, 0, none⟩ (.int .i64 (sumDown s1 s2))).setCell ⟨w.heap.size, 1, none⟩ (.int .i64 (sumDown s3 s4))).frozen? ⟨w.heap.size, 0, none⟩ = false ∧ ((W.setCell ⟨w.heap.size, 0, none⟩ (.int .i64 (sumDown s1 s2))).setCell ⟨w.heap.size, 1, none⟩ (.int .i64 (sumDown s3 s4))).frozen? ⟨w.heap.size, 1, none⟩ = false ∧ ((W.setCell ⟨w.heap.size, 0, none⟩ (.int .i64 (sumDown s1 s2))).setCell ⟨w.heap.size, 1, none⟩ (.int .i64 (sumDown s3 s4))).cell? ⟨w.heap.size + 1, 0, none⟩ = some (.int .i64 s1) ∧ ((W.setCell ⟨w.heap.size, 0, none⟩ (.int .i64 (sumDown s1 s2))).setCell ⟨w.heap.size, 1, none⟩ (.int .i64 (sumDown s3 s4))).cell? ⟨w.heap.size + 1, 1, none⟩ = some (.int .i64 s2) ∧ ((W.setCell ⟨w.heap.size, 0, none⟩ (.int .i64 (sumDown s1 s2))).setCell ⟨w.heap.size, 1, none⟩ (.int .i64 (sumDown s3 s4))).cell? ⟨w.heap.size + 1 + 1, 0, none⟩ = some (.int .i64 s3) ∧ ((W.setCell ⟨w.heap.size, 0, none⟩ (.int .i64 (sumDown s1 s2))).setCell ⟨w.heap.size, 1, none⟩ (.int .i64 (sumDown s3 s4))).cell? ⟨w.heap.size + 1 + 1, 1, none⟩ = some (.int .i64 s4) ∧ Below w.heap.size w ((W.setCell ⟨w.heap.size, 0, none⟩ (.int .i64 (sumDown s1 s2))).setCell ⟨w.heap.size, 1, none⟩ (.int .i64 (sumDown s3 s4)))) ∧ ((W.setCell ⟨w.heap.size, 0, none⟩ (.int .i64 (sumDown s1 s2))).setCell ⟨w.heap.size, 1, none⟩ (.int .i64 (sumDown s3 s4))).heap[w.heap.size]? = some (.cells #[.int .i64 (sumDown s1 s2), .int .i64 (sumDown s3 s4)] 41 (0, 0)) := by
        rintro W ⟨h1, h2, h3, h4, h5, h6, h7, h8, h9, h10⟩
        have h1' : ((W.setCell ⟨w.heap.size, 0, none⟩ (.int .i64 (sumDown s1 s2))).setCell ⟨w.heap.size, 1, none⟩ (.int .i64 (sumDown s3 s4))).heap[w.heap.size]? = some (.cells #[.int .i64 (sumDown s1 s2), .int .i64 (sumDown s3 s4)] 41 (0, 0)) := blk_put (cs := #[.int .i64 (sumDown s1 s2), F W 1]) (blk_put h1 0 _ rfl) 1 _ rfl
        have hc : ∀ (g i : Nat) (v : Value), W.cell? ⟨g, i, none⟩ = some v → g ≠ w.heap.size → ((W.setCell ⟨w.heap.size, 0, none⟩ (.int .i64 (sumDown s1 s2))).setCell ⟨w.heap.size, 1, none⟩ (.int .i64 (sumDown s3 s4))).cell? ⟨g, i, none⟩ = some v := by
          intro g i v h hne
          have k := KeepBut.set_ (KeepBut.set_ (KeepBut.refl W w.heap.size none) 0 (.int .i64 (sumDown s1 s2))) 1 (.int .i64 (sumDown s3 s4))
          exact keep_cell k h hne
        have e0 : F ((W.setCell ⟨w.heap.size, 0, none⟩ (.int .i64 (sumDown s1 s2))).setCell ⟨w.heap.size, 1, none⟩ (.int .i64 (sumDown s3 s4))) 0 = .int .i64 (sumDown s1 s2) := hF _ _ h1' 0
        have e1 : F ((W.setCell ⟨w.heap.size, 0, none⟩ (.int .i64 (sumDown s1 s2))).setCell ⟨w.heap.size, 1, none⟩ (.int .i64 (sumDown s3 s4))) 1 = .int .i64 (sumDown s3 s4) := hF _ _ h1' 1
        rw [e0, e1]
        exact ⟨⟨h1', (blk_cell h1' 0).trans rfl, (blk_cell h1' 1).trans rfl, blk_frozen h1' 0, blk_frozen h1' 1, hc _ _ _ h6 (by omega), hc _ _ _ h7 (by omega), hc _ _ _ h8 (by omega), hc _ _ _ h9 (by omega), below_set (below_set h10 (Nat.le_refl _)) (Nat.le_refl _)⟩, h1'⟩
      replace hS := Aside0.mk hS
      replace hS0 := Aside0.mk hS0
      replace hT := Aside0.mk hT
      clear R S T HB c10 c11 c20 c21 hF
      go_region_held3 (fun W => W.heap[w.heap.size]? = some (.cells #[F W 0, F W 1] 41 (0, 0)) ∧ W.cell? ⟨w.heap.size, 0, none⟩ = some (F W 0) ∧ W.cell? ⟨w.heap.size, 1, none⟩ = some (F W 1) ∧ W.frozen? ⟨w.heap.size, 0, none⟩ = false ∧ W.frozen? ⟨w.heap.size, 1, none⟩ = false ∧ W.cell? ⟨w.heap.size + 1, 0, none⟩ = some (.int .i64 s1) ∧ W.cell? ⟨w.heap.size + 1, 1, none⟩ = some (.int .i64 s2) ∧ W.cell? ⟨w.heap.size + 1 + 1, 0, none⟩ = some (.int .i64 s3) ∧ W.cell? ⟨w.heap.size + 1 + 1, 1, none⟩ = some (.int .i64 s4) ∧ Below w.heap.size w W) (first | with_reducible exact hS0.out | with_reducible exact hS.out _ _ (by assumption) (by assumption) | with_reducible exact (hT.out _ (by assumption)).1)
        (first | (go_at_call 73; (with_reducible refine (down_walk s1 s2 _).mono ?_); rintro e w' ⟨rfl, hb⟩) | (go_at_call 73; (with_reducible refine (down_walk s3 s4 _).mono ?_); rintro e w' ⟨rfl, hb⟩))
      rename_i hh
      obtain ⟨h1, _, _, _, _, _, _, _, _, h10⟩ := hh
      have h1' := two_put h1
      go_wp2
      exact bodyPost_ret (results_cell_row rfl _ _ w.heap.size 41 #[.int .i64 (sumDown s1 s2), .int .i64 (sumDown s3 s4)] (0, 0) _ rfl h1' Try.underlying41 rfl (by kernel_rfl)) rfl ⟨rfl, h10⟩
end Go.Proofs.Ytpmkkidljmedaaa.X
namespace Go.Proofs.Ytpmkkidljmedaaa.X
open Go.RowKit Go.Proofs.YtpmkkidljmedaaaW.PrintWords Go.Proofs.YtpmkkidljmedaaaW.PrintLast Go.Proofs.YtpmkkidljmedaaaW.PrintMore
attribute [local go_sem] max2_int min2_int max_two min_two max_three min_three max_four min_four   -- for this text's walks alone
set_option linter.unusedVariables false
set_option linter.unusedSimpArgs false

/-! ### headroomref10_Root: function 63 -/
def headroomref10_Root.f (l0 : List (S41)) (a1 : Int) (a2 : Bool) : Option (Int × Int) := if a2 = true then (if 0 ≤ a1 then (if a1 < (l0.length : Int) then ((headroomref03_Conj.f ((rd_T41 l0 a1).f0) ((rd_T41 l0 a1).f1)).bind fun bt3 => (some (bt3.1, bt3.2))) else (none)) else (none)) else (if 0 ≤ a1 then (if a1 < (l0.length : Int) then (some ((rd_T41 l0 a1).f0, (rd_T41 l0 a1).f1)) else (none)) else (none))
set_option maxHeartbeats 8000000 in
set_option maxRecDepth 100000 in
theorem headroomref10_Root.calls (A0 : Option Addr) (c0 : Nat) (l0 : List (S41)) (a1 : Int) (a2 : Bool) (r1 : Int) (r2 : Int) (w : World) (hr0 : Kd.C k41 w A0 l0.length l0) (hc0 : l0.length ≤ c0) (h : headroomref10_Root.f l0 a1 a2 = some (r1, r2)) :
    Calls Try.prog 63 #[.slice A0 l0.length c0, .int .i64 a1, .bool a2] w fun e w' => e = .returned (.agg #[.int .i64 r1, .int .i64 r2]) ∧ Below w.heap.size w w' := by
  have hu41 := Try.underlying41
  have HR0 := Aside0.mk hr0
  have HC0 := Aside0.mk hc0
  clear hr0 hc0
  have HB := Aside0.mk (Below.refl w.heap.size w)
  have H : (if a2 = true then (if 0 ≤ a1 then (if a1 < (l0.length : Int) then ((headroomref03_Conj.f ((rd_T41 l0 a1).f0) ((rd_T41 l0 a1).f1)).bind fun bt3 => (some (bt3.1, bt3.2))) else (none)) else (none)) else (if 0 ≤ a1 then (if a1 < (l0.length : Int) then (some ((rd_T41 l0 a1).f0, (rd_T41 l0 a1).f1)) else (none)) else (none))) = some (r1, r2) := h
  clear h
  by_cases c4 : a2 = true
  · subst c4
    have H1 : (if 0 ≤ a1 then (if a1 < (l0.length : Int) then ((headroomref03_Conj.f ((rd_T41 l0 a1).f0) ((rd_T41 l0 a1).f1)).bind fun bt3 => (some (bt3.1, bt3.2))) else (none)) else (none)) = some (r1, r2) := by rw [if_pos rfl] at H; exact H
    clear H
    have H := H1
    clear H1
    by_cases c5 : 0 ≤ a1
    · rw [if_pos c5] at H
      have c5b0 : decide (0 ≤ a1) = true := decide_eq_true c5
      clear c5
      by_cases c6 : a1 < (l0.length : Int)
      · rw [if_pos c6] at H
        have c6b0 : decide (a1 < (l0.length : Int)) = true := decide_eq_true c6
        clear c6
        replace H := Option.bind_eq_some_iff.mp H
        obtain ⟨⟨t3, t4⟩, A70, H⟩ := H
        replace H : (some (t3, t4)) = some (r1, r2) := H
        have A7 := Aside0.mk A70
        clear A70
        simp only [Option.some.injEq, Prod.mk.injEq] at H
        obtain ⟨rfl, rfl⟩ := H
        go_enter Try.func63, Try.ntmps63
        go_wp2_with (first | ((with_reducible refine gate_dst (N := 6) rfl ?_); refine box_event ?hg (N := 6) ?hd (cs := #[.int .i64 0, .int .i64 0]) (t := 41) ?hr ?_; (case hd => rfl); (case hg => rfl); (case hr => first | (go_simp; done) | (go_simp; rfl)); intro gb1 hg w8 hbox hb; have n0_ := Aside0.mk (below_step (by repeat (first | (with_reducible first | exact HB.out | apply below_alloc | apply pw_below_drewN | apply below_drew1) | exact HB.out)) hb); have n1_ := Aside0.mk (hbox); have n2_ := Aside0.mk ((by rw [hg]; exact (below_size (by repeat (first | (with_reducible first | exact HB.out | apply below_alloc | apply pw_below_drewN | apply below_drew1) | exact HB.out))) : w.heap.size ≤ gb1)); have n3_ := Aside0.mk ((by rw [hg]; exact (below_size (by repeat (first | (with_reducible first | exact HB.out | apply below_alloc | apply pw_below_drewN | apply below_drew1) | exact HB.out))) : w.heap.size ≤ gb1)); clear HB; have HB := n0_; have BK1 := n1_; have GW1 := n2_; have GE1 := n3_; clear n0_ n1_ n2_ n3_; clear hb hbox hg; have p2 : 0 ≤ (a1 : Int) := of_decide_eq_true (by first | (with_reducible assumption) | assumption); have q2 : a1 < (l0.length : Int) := of_decide_eq_true (by first | (with_reducible assumption) | assumption); obtain ⟨ad2, e2, hx2_0, hx2_1⟩ := at_T41 HR0.out a1 p2 q2; cases e2; replace hx2_0 := (HB.out.cell (World.block_lt_of_cell? w _ hx2_0)).trans hx2_0; replace hx2_1 := (HB.out.cell (World.block_lt_of_cell? w _ hx2_1)).trans hx2_1; replace p2 := eq_true p2; replace q2 := eq_true q2) | ((with_reducible refine gate_callee (f := 91) rfl ?_); refine goesL_ (some 12) rfl rfl Try.func91 (by kernel_rfl) rfl #[.agg #[.int .i64 ((rd_T41 l0 a1).f0), .int .i64 ((rd_T41 l0 a1).f1)]] rfl (by (try simp only [List.map_toArray, List.map_cons, List.map_nil]); first | done | rfl | (simp only [List.length_drop, List.length_take]; rfl)) ?_; (with_reducible refine (headroomref03_Conj.calls ((rd_T41 l0 a1).f0) ((rd_T41 l0 a1).f1) t3 t4 _ A7.out).mono ?_); rintro e w9 ⟨rfl, hb⟩; refine ⟨_, rfl, ?_⟩; have n0_ := Aside0.mk (blk_below (g := gb1) (o := .cells #[.int .i64 0, .int .i64 0] 41 (0, 0)) (by (with_reducible repeat (first | refine blk_drewN ?_ _ | refine blk_drew ?_ | refine blk_alloc ?_ _)); exact BK1.out) hb); have n1_ := Aside0.mk (below_step (by repeat (first | (with_reducible first | exact HB.out | apply below_alloc | apply pw_below_drewN | apply below_drew1 | refine below_set ?_ GE1.out) | exact HB.out)) hb); clear BK1; clear HB; have BK1 := n0_; have HB := n1_; clear n0_ n1_; (try clear hb); (try clear hb2); (try clear hk); (try clear hi); have hcz10_0 : w9.cell? ⟨gb1, 0, none⟩ = some (.int .i64 0) := (blk_cell BK1.out 0).trans rfl; have hcz10_1 : w9.cell? ⟨gb1, 1, none⟩ = some (.int .i64 0) := (blk_cell BK1.out 1).trans rfl; have hfz10_0 := blk_frozen BK1.out 0; have hfz10_1 := blk_frozen BK1.out 1))
        refine bodyPost_ret (results_cell_row rfl _ _ gb1 41 #[.int .i64 t3, .int .i64 t4] (0, 0) _ rfl (by (with_reducible repeat (first | refine blk_drewN ?_ _ | refine blk_drew ?_ | refine blk_alloc ?_ _)); refine blk_put (cs := #[.int .i64 t3, .int .i64 0]) ?_ 1 _ rfl; (with_reducible repeat (first | refine blk_drewN ?_ _ | refine blk_drew ?_ | refine blk_alloc ?_ _)); refine blk_put (cs := #[.int .i64 0, .int .i64 0]) ?_ 0 _ rfl; (with_reducible repeat (first | refine blk_drewN ?_ _ | refine blk_drew ?_ | refine blk_alloc ?_ _)); exact BK1.out) Try.underlying41 rfl (by kernel_rfl)) rfl ?_
        exact ⟨by first | rfl | (simp [errW_none, errW_some] <;> rfl) | (simp [*, errW_none, errW_some] <;> rfl), by repeat (first | (with_reducible first | exact HB.out | apply below_alloc | apply pw_below_drewN | apply below_drew1 | refine below_set ?_ GE1.out) | exact HB.out)⟩
      · rw [if_neg c6] at H
        exact absurd H (by simp)
    · rw [if_neg c5] at H
      exact absurd H (by simp)
  · replace c4 := Bool.eq_false_iff.mpr c4
    subst c4
    have H1 : (if 0 ≤ a1 then (if a1 < (l0.length : Int) then (some ((rd_T41 l0 a1).f0, (rd_T41 l0 a1).f1)) else (none)) else (none)) = some (r1, r2) := by rw [if_neg (show ¬ (false = true) by decide)] at H; exact H
    clear H
    have H := H1
    clear H1
    by_cases c11 : 0 ≤ a1
    · rw [if_pos c11] at H
      have c11b0 : decide (0 ≤ a1) = true := decide_eq_true c11
      clear c11
      by_cases c12 : a1 < (l0.length : Int)
      · rw [if_pos c12] at H
        have c12b0 : decide (a1 < (l0.length : Int)) = true := decide_eq_true c12
        clear c12
        simp only [Option.some.injEq, Prod.mk.injEq] at H
        obtain ⟨rfl, rfl⟩ := H
        go_enter Try.func63, Try.ntmps63
        go_wp2_with (first | ((with_reducible refine gate_dst (N := 6) rfl ?_); refine box_event ?hg (N := 6) ?hd (cs := #[.int .i64 0, .int .i64 0]) (t := 41) ?hr ?_; (case hd => rfl); (case hg => rfl); (case hr => first | (go_simp; done) | (go_simp; rfl)); intro gb1 hg w13 hbox hb; have n0_ := Aside0.mk (below_step (by repeat (first | (with_reducible first | exact HB.out | apply below_alloc | apply pw_below_drewN | apply below_drew1) | exact HB.out)) hb); have n1_ := Aside0.mk (hbox); have n2_ := Aside0.mk ((by rw [hg]; exact (below_size (by repeat (first | (with_reducible first | exact HB.out | apply below_alloc | apply pw_below_drewN | apply below_drew1) | exact HB.out))) : w.heap.size ≤ gb1)); have n3_ := Aside0.mk ((by rw [hg]; exact (below_size (by repeat (first | (with_reducible first | exact HB.out | apply below_alloc | apply pw_below_drewN | apply below_drew1) | exact HB.out))) : w.heap.size ≤ gb1)); clear HB; have HB := n0_; have BK1 := n1_; have GW1 := n2_; have GE1 := n3_; clear n0_ n1_ n2_ n3_; clear hb hbox hg; have p5 : 0 ≤ (a1 : Int) := of_decide_eq_true (by first | (with_reducible assumption) | assumption); have q5 : a1 < (l0.length : Int) := of_decide_eq_true (by first | (with_reducible assumption) | assumption); obtain ⟨ad5, e5, hx5_0, hx5_1⟩ := at_T41 HR0.out a1 p5 q5; cases e5; replace hx5_0 := (HB.out.cell (World.block_lt_of_cell? w _ hx5_0)).trans hx5_0; replace hx5_1 := (HB.out.cell (World.block_lt_of_cell? w _ hx5_1)).trans hx5_1; replace p5 := eq_true p5; replace q5 := eq_true q5; have hcz14_0 : w13.cell? ⟨gb1, 0, none⟩ = some (.int .i64 0) := (blk_cell BK1.out 0).trans rfl; have hcz14_1 : w13.cell? ⟨gb1, 1, none⟩ = some (.int .i64 0) := (blk_cell BK1.out 1).trans rfl; have hfz14_0 := blk_frozen BK1.out 0; have hfz14_1 := blk_frozen BK1.out 1))
        refine bodyPost_ret (results_cell_row rfl _ _ gb1 41 #[.int .i64 ((rd_T41 l0 a1).f0), .int .i64 ((rd_T41 l0 a1).f1)] (0, 0) _ rfl (by (with_reducible repeat (first | refine blk_drewN ?_ _ | refine blk_drew ?_ | refine blk_alloc ?_ _)); refine blk_put (cs := #[.int .i64 ((rd_T41 l0 a1).f0), .int .i64 0]) ?_ 1 _ rfl; (with_reducible repeat (first | refine blk_drewN ?_ _ | refine blk_drew ?_ | refine blk_alloc ?_ _)); refine blk_put (cs := #[.int .i64 0, .int .i64 0]) ?_ 0 _ rfl; (with_reducible repeat (first | refine blk_drewN ?_ _ | refine blk_drew ?_ | refine blk_alloc ?_ _)); exact BK1.out) Try.underlying41 rfl (by kernel_rfl)) rfl ?_
        exact ⟨by first | rfl | (simp [errW_none, errW_some] <;> rfl) | (simp [*, errW_none, errW_some] <;> rfl), by repeat (first | (with_reducible first | exact HB.out | apply below_alloc | apply pw_below_drewN | apply below_drew1 | refine below_set ?_ GE1.out) | exact HB.out)⟩
      · rw [if_neg c12] at H
        exact absurd H (by simp)
    · rw [if_neg c11] at H
      exact absurd H (by simp)

end Go.Proofs.Ytpmkkidljmedaaa.X
namespace Go.Proofs.Ytpmkkidljmedaaa.X
open Go.RowKit Go.Proofs.YtpmkkidljmedaaaW.PrintWords Go.Proofs.YtpmkkidljmedaaaW.PrintLast Go.Proofs.YtpmkkidljmedaaaW.PrintMore
attribute [local go_sem] max2_int min2_int max_two min_two max_three min_three max_four min_four   -- for this text's walks alone
set_option linter.unusedVariables false
set_option linter.unusedSimpArgs false

/-! ### headroomref16_norm: function 104 -/
def headroomref16_norm.f (k : Nat) (a0_0 : Int) (a0_1 : Int) : Option (Int × Int) := (headroomref01_Floor.f k a0_1 20).bind fun t3 => ((headroomref01_Pow.f k 20).bind fun t4 => (some (wrap64 (a0_0 + t3), wrap64 (a0_1 - (wrap64 (t3 * t4))))))
theorem headroomref16_norm.mono : ∀ a0 a1 k, LeO (headroomref16_norm.f k a0 a1) (headroomref16_norm.f (k + 1) a0 a1) := by
  intro a0 a1 k
  unfold headroomref16_norm.f
  repeat' first
      | (with_reducible exact headroomref01_Floor.mono _ _ _)
      | (with_reducible exact headroomref01_Pow.mono _ _)
      | (with_reducible exact LeO.refl _)
      | (with_reducible exact LeO.none _)
      | (with_reducible refine LeO.ite ?_ ?_)
      | (with_reducible refine LeO.bind ?_ (fun _ => ?_))
      | exact headroomref01_Floor.mono _ _ _
      | exact headroomref01_Pow.mono _ _
      | exact LeO.none _
      | refine LeO.ite ?_ ?_
      | refine LeO.bind ?_ (fun _ => ?_)
def headroomref16_norm.T2 : Bool × List (List Nat × List Nat) := (true, [([], []), ([0], [0]), ([], []), ([1, 2], [1, 2]), ([], []), ([4], [4]), ([], []), ([], []), ([6, 7], [6, 7]), ([5, 8], [5, 8]), ([3, 9], [3, 9]), ([10, 7, 0, 1, 2, 3, 4, 5, 6, 7, 8, 9, 10], [10])])
def headroomref16_norm.B2 : List Nat := [0, 1, 0, 7, 0, 16, 0, 0, 192, 496, 1023, 2047]
theorem headroomref16_norm.tab2 : rtab .any (opsOf Try.f104 2) = headroomref16_norm.T2 := by kernel_rfl
theorem headroomref16_norm.bits2 : waitsOk headroomref16_norm.T2.2 headroomref16_norm.B2 = true := by kernel_rfl
set_option maxHeartbeats 8000000 in
set_option maxRecDepth 100000 in
theorem headroomref16_norm.calls (k : Nat) (a0_0 : Int) (a0_1 : Int) (r1 : Int) (r2 : Int) (w : World) (h : headroomref16_norm.f k a0_0 a0_1 = some (r1, r2)) :
    Calls Try.prog 104 #[.agg #[.int .i64 a0_0, .int .i64 a0_1]] w fun e w' => e = .returned (.agg #[.int .i64 r1, .int .i64 r2]) ∧ Below w.heap.size w w' := by
  have hu94 := Try.underlying94
  have HB := Aside0.mk (Below.refl w.heap.size w)
  have H : ((headroomref01_Floor.f k a0_1 20).bind fun t3 => ((headroomref01_Pow.f k 20).bind fun t4 => (some (wrap64 (a0_0 + t3), wrap64 (a0_1 - (wrap64 (t3 * t4))))))) = some (r1, r2) := h
  clear h
  replace H := Option.bind_eq_some_iff.mp H
  obtain ⟨t3, A20, H⟩ := H
  replace H : ((headroomref01_Pow.f k 20).bind fun t4 => (some (wrap64 (a0_0 + t3), wrap64 (a0_1 - (wrap64 (t3 * t4)))))) = some (r1, r2) := H
  have A2 := Aside0.mk A20
  clear A20
  replace H := Option.bind_eq_some_iff.mp H
  obtain ⟨t4, A30, H⟩ := H
  replace H : (some (wrap64 (a0_0 + t3), wrap64 (a0_1 - (wrap64 (t3 * t4))))) = some (r1, r2) := H
  have A3 := Aside0.mk A30
  clear A30
  simp only [Option.some.injEq, Prod.mk.injEq] at H
  obtain ⟨rfl, rfl⟩ := H
  go_enter Try.func104, Try.ntmps104
  try go_wp2_with (first | ((with_reducible refine gate_dst (N := 1) rfl ?_); refine box_event ?hg (N := 1) ?hd (cs := #[.int .i64 a0_0, .int .i64 a0_1]) (t := 94) ?hr ?_; (case hd => rfl); (case hg => rfl); (case hr => first | (go_simp; done) | (go_simp; rfl)); intro gb1 hg w4 hbox hb; have n0_ := Aside0.mk (below_step (by repeat (first | (with_reducible first | exact HB.out | apply below_alloc | apply pw_below_drewN | apply below_drew1) | exact HB.out)) hb); have n1_ := Aside0.mk (hbox); have n2_ := Aside0.mk ((by rw [hg]; exact (below_size (by repeat (first | (with_reducible first | exact HB.out | apply below_alloc | apply pw_below_drewN | apply below_drew1) | exact HB.out))) : w.heap.size ≤ gb1)); have n3_ := Aside0.mk ((by rw [hg]; exact (below_size (by repeat (first | (with_reducible first | exact HB.out | apply below_alloc | apply pw_below_drewN | apply below_drew1) | exact HB.out))) : w.heap.size ≤ gb1)); clear HB; have HB := n0_; have BK1 := n1_; have GW1 := n2_; have GE1 := n3_; clear n0_ n1_ n2_ n3_; clear hb hbox hg) | ((with_reducible refine gate_dst (N := 2) rfl ?_); refine box_event ?hg (N := 2) ?hd (cs := #[.int .i64 0, .int .i64 0]) (t := 94) ?hr ?_; (case hd => rfl); (case hg => rfl); (case hr => first | (go_simp; done) | (go_simp; rfl)); intro gb2 hg w5 hbox hb; have n0_ := Aside0.mk (blk_below (g := gb1) (o := .cells #[.int .i64 a0_0, .int .i64 a0_1] 94 (0, 0)) (by (with_reducible repeat (first | refine blk_drewN ?_ _ | refine blk_drew ?_ | refine blk_alloc ?_ _)); exact BK1.out) hb); have n1_ := Aside0.mk (below_step (by repeat (first | (with_reducible first | exact HB.out | apply below_alloc | apply pw_below_drewN | apply below_drew1 | refine below_set ?_ GE1.out) | exact HB.out)) hb); have n2_ := Aside0.mk (hbox); have n3_ := Aside0.mk ((by rw [hg]; exact (below_size (by repeat (first | (with_reducible first | exact HB.out | apply below_alloc | apply pw_below_drewN | apply below_drew1 | refine below_set ?_ GE1.out) | exact HB.out))) : w.heap.size ≤ gb2)); have n4_ := Aside0.mk ((by rw [hg]; exact (below_size (by repeat (first | (with_reducible first | exact HB.out | apply below_alloc | apply pw_below_drewN | apply below_drew1 | refine below_set ?_ GE1.out) | exact HB.out))) : w.heap.size ≤ gb2)); have n5_ := Aside0.mk ((by rw [hg]; exact Nat.ne_of_lt (blk_lt (g := gb1) (o := .cells #[.int .i64 a0_0, .int .i64 a0_1] 94 (0, 0)) (by (with_reducible repeat (first | refine blk_drewN ?_ _ | refine blk_drew ?_ | refine blk_alloc ?_ _)); exact BK1.out)) : gb1 ≠ gb2)); have n6_ := Aside0.mk ((by rw [hg]; exact Nat.ne_of_gt (blk_lt (g := gb1) (o := .cells #[.int .i64 a0_0, .int .i64 a0_1] 94 (0, 0)) (by (with_reducible repeat (first | refine blk_drewN ?_ _ | refine blk_drew ?_ | refine blk_alloc ?_ _)); exact BK1.out)) : gb2 ≠ gb1)); clear BK1; clear HB; have BK1 := n0_; have HB := n1_; have BK2 := n2_; have GW2 := n3_; have GE2 := n4_; have NB1_2 := n5_; have NB2_1 := n6_; clear n0_ n1_ n2_ n3_ n4_ n5_ n6_; clear hb hbox hg; have hnb6 := NB1_2.out; have hnc6 := NB2_1.out; have hcz7_0 : w5.cell? ⟨gb1, 0, none⟩ = some (.int .i64 a0_0) := (blk_cell BK1.out 0).trans rfl; have hcz7_1 : w5.cell? ⟨gb1, 1, none⟩ = some (.int .i64 a0_1) := (blk_cell BK1.out 1).trans rfl; have hfz7_0 := blk_frozen BK1.out 0; have hfz7_1 := blk_frozen BK1.out 1) | ((with_reducible refine gate_callee (f := 83) rfl ?_); refine goesL_ (some 6) rfl rfl Try.func83 (by kernel_rfl) rfl #[.int .i64 a0_1, .int .i64 20] rfl (by (try simp only [List.map_toArray, List.map_cons, List.map_nil]); first | done | rfl | (simp only [List.length_drop, List.length_take]; rfl)) ?_; (with_reducible refine (headroomref01_Floor.calls k a0_1 20 t3 _ A2.out).mono ?_); rintro e w' ⟨rfl, ⟨nd, rfl⟩⟩; refine ⟨_, rfl, ?_⟩; (try (rw [drewN_self w5]; generalize hq_ : World.drewN w5 _ = w5; have n0_ : Aside0 (w5.heap[gb1]? = some (.cells #[.int .i64 a0_0, .int .i64 a0_1] 94 (0, 0))) := ⟨by rw [← hq_]; exact (by (with_reducible repeat (first | refine blk_drewN ?_ _ | refine blk_drew ?_ | refine blk_alloc ?_ _)); exact BK1.out)⟩; have n1_ : Aside0 (w5.heap[gb2]? = some (.cells #[.int .i64 0, .int .i64 0] 94 (0, 0))) := ⟨by rw [← hq_]; exact (by (with_reducible repeat (first | refine blk_drewN ?_ _ | refine blk_drew ?_ | refine blk_alloc ?_ _)); exact BK2.out)⟩; have n2_ : Aside0 (Below w.heap.size w w5) := ⟨by rw [← hq_]; exact (by repeat (first | (with_reducible first | exact HB.out | apply below_alloc | apply pw_below_drewN | apply below_drew1 | refine below_set ?_ GE1.out | refine below_set ?_ GE2.out) | exact HB.out))⟩; clear BK1 BK2 HB hq_; have BK1 := n0_; have BK2 := n1_; have HB := n2_; clear n0_ n1_ n2_))))
  have n0_ := Aside0.mk (blk_drew BK1.out)
  have n1_ := Aside0.mk (blk_drew BK2.out)
  have n2_ := Aside0.mk (below_drew1 HB.out)
  clear BK1
  clear BK2
  clear HB
  have BK1 := n0_
  have BK2 := n1_
  have HB := n2_
  clear n0_ n1_ n2_
  refine start_ (n := 12) (S := fun w' => w'.cell? ⟨gb1, 0, none⟩ = some (.int .i64 a0_0) ∧ w'.cell? ⟨gb1, 1, none⟩ = some (.int .i64 a0_1)) (ds := []) #[false, false, false, false, false, false, false, false, false, false, false, false] (by kernel_rfl) rfl rfl ⟨(blk_cell BK1.out 0).trans rfl, (blk_cell BK1.out 1).trans rfl⟩ (fun hHeld => ?_); refine with_tabW headroomref16_norm.tab2 headroomref16_norm.bits2 (fun HT_ HW_ => ?_)
  generalize w5.drew = w8 at BK1 BK2 HB hHeld ⊢
  refine pure_ (i := 0) (N := some 7) (v := ?_) (a' := ?_) #[true, false, false, false, false, false, false, false, false, false, false, false] rfl rfl (any_of HT_.out (by kernel_rfl)) (fun _ _ _ h => h) (Or.inl ⟨by rfl, ?_⟩) ?_ ?_
  rotate_left
  · intro w'
    go_simp
    with_reducible rfl
  rotate_left
  · simp only [Act.put, List.setIfInBounds_toArray, List.set_cons_zero, List.set_cons_succ, i64_w, i32_w]
    rfl
  refine pure_ (i := 2) (N := some 9) (v := ?_) (a' := ?_) #[true, false, true, false, false, false, false, false, false, false, false, false] rfl rfl (any_of HT_.out (by kernel_rfl)) (fun _ _ _ h => h) (Or.inl ⟨by rfl, ?_⟩) ?_ ?_
  rotate_left
  · intro w'
    go_simp
    with_reducible rfl
  rotate_left
  · simp only [Act.put, List.setIfInBounds_toArray, List.set_cons_zero, List.set_cons_succ, i64_w, i32_w]
    rfl
  refine pure_ (i := 4) (N := some 11) (v := ?_) (a' := ?_) #[true, false, true, false, true, false, false, false, false, false, false, false] rfl rfl (any_of HT_.out (by kernel_rfl)) (fun _ _ _ h => h) (Or.inl ⟨by rfl, ?_⟩) ?_ ?_
  rotate_left
  · intro w'
    go_simp
    with_reducible rfl
  rotate_left
  · simp only [Act.put, List.setIfInBounds_toArray, List.set_cons_zero, List.set_cons_succ, i64_w, i32_w]
    rfl
  refine pure_ (i := 6) (N := some 13) (v := ?_) (a' := ?_) #[true, false, true, false, true, false, true, false, false, false, false, false] rfl rfl (any_of HT_.out (by kernel_rfl)) (fun _ _ _ h => h) (Or.inl ⟨by rfl, ?_⟩) ?_ ?_
  rotate_left
  · intro w'
    go_simp
    with_reducible rfl
  rotate_left
  · simp only [Act.put, List.setIfInBounds_toArray, List.set_cons_zero, List.set_cons_succ, i64_w, i32_w]
    rfl
  refine take_ (i := 1) (N := some 8) (v := ?_) (a' := ?_) #[true, true, true, false, true, false, true, false, false, false, false, false] rfl rfl (take_ofW HT_.out HW_.out (by kernel_rfl)) (fun _ _ _ h => h) (Or.inl ⟨by rfl, ?_⟩) hHeld ?_ ?_
  rotate_left
  · rintro w' ⟨s0, s1⟩
    go_simp
    with_reducible rfl
  rotate_left
  · simp only [Act.put, List.setIfInBounds_toArray, List.set_cons_zero, List.set_cons_succ, i64_w, i32_w]
    rfl
  refine pure_ (i := 3) (N := some 10) (v := ?_) (a' := ?_) #[true, true, true, true, true, false, true, false, false, false, false, false] rfl rfl (any_of HT_.out (by kernel_rfl)) (fun _ _ _ h => h) (Or.inl ⟨by rfl, ?_⟩) ?_ ?_
  rotate_left
  · intro w'
    go_simp
    with_reducible rfl
  rotate_left
  · simp only [Act.put, List.setIfInBounds_toArray, List.set_cons_zero, List.set_cons_succ, i64_w, i32_w]
    rfl
  refine take_ (i := 5) (N := some 12) (v := ?_) (a' := ?_) #[true, true, true, true, true, true, true, false, false, false, false, false] rfl rfl (take_ofW HT_.out HW_.out (by kernel_rfl)) (fun _ _ _ h => h) (Or.inl ⟨by rfl, ?_⟩) hHeld ?_ ?_
  rotate_left
  · rintro w' ⟨s0, s1⟩
    go_simp
    with_reducible rfl
  rotate_left
  · simp only [Act.put, List.setIfInBounds_toArray, List.set_cons_zero, List.set_cons_succ, i64_w, i32_w]
    rfl
  refine one_ (i := 7) (N := some 14) #[true, true, true, true, true, true, true, true, false, false, false, false] rfl rfl (one_of HT_.out (by kernel_rfl)) (by decide) (fun K hK => ?_)
  refine goes_ Try.func56 (by kernel_rfl) rfl #[.int .i64 20] (by rfl) rfl rfl (by (try simp only [List.map_toArray, List.map_cons, List.map_nil]); first | done | rfl | (simp only [List.length_drop, List.length_take]; rfl)) ?_
  with_reducible refine (headroomref01_Pow.calls k 20 t4 _ A3.out).mono ?_
  rintro e w' ⟨rfl, ⟨nd, rfl⟩⟩
  refine ⟨_, rfl, ?_⟩
  refine hK.out _ _ ⟨(blk_cell BK1.out 0).trans rfl, (blk_cell BK1.out 1).trans rfl⟩ (fun hHeld => ?_)
  clear hK K
  refine norm_ (a' := ?_) ?_ ?_
  rotate_left
  · show Act.put _ (some 14) _ = _
    simp only [Act.put, List.setIfInBounds_toArray, List.set_cons_zero, List.set_cons_succ, i64_w, i32_w]
    rfl
  refine pure_ (i := 8) (N := some 15) (v := ?_) (a' := ?_) #[true, true, true, true, true, true, true, true, true, false, false, false] rfl rfl (any_of HT_.out (by kernel_rfl)) (fun _ _ _ h => h) (Or.inl ⟨by rfl, ?_⟩) ?_ ?_
  rotate_left
  · intro w'
    go_simp
    with_reducible rfl
  rotate_left
  · simp only [Act.put, List.setIfInBounds_toArray, List.set_cons_zero, List.set_cons_succ, i64_w, i32_w]
    rfl
  refine pure_ (i := 9) (N := some 16) (v := ?_) (a' := ?_) #[true, true, true, true, true, true, true, true, true, true, false, false] rfl rfl (any_of HT_.out (by kernel_rfl)) (fun _ _ _ h => h) (Or.inl ⟨by rfl, ?_⟩) ?_ ?_
  rotate_left
  · intro w'
    go_simp
    with_reducible rfl
  rotate_left
  · simp only [Act.put, List.setIfInBounds_toArray, List.set_cons_zero, List.set_cons_succ, i64_w, i32_w]
    rfl
  refine pure_ (i := 10) (N := some 17) (v := ?_) (a' := ?_) #[true, true, true, true, true, true, true, true, true, true, true, false] rfl rfl (any_of HT_.out (by kernel_rfl)) (fun _ _ _ h => h) (Or.inl ⟨by rfl, ?_⟩) ?_ ?_
  rotate_left
  · intro w'
    go_simp
    with_reducible rfl
  rotate_left
  · simp only [Act.put, List.setIfInBounds_toArray, List.set_cons_zero, List.set_cons_succ, i64_w, i32_w]
    rfl
  refine one_ (i := 11) (N := none) #[true, true, true, true, true, true, true, true, true, true, true, true] rfl rfl (one_of HT_.out (by kernel_rfl)) (by decide) (fun K hK => ?_)
  have hs9 : w8.cell? ⟨gb2, 0, none⟩ = some (.int .i64 0) := (blk_cell BK2.out 0).trans rfl
  have hfs9 := blk_frozen BK2.out 0
  have hns9_0 := NB1_2.out
  have hms9_0 := NB2_1.out
  have hs10 : w8.cell? ⟨gb2, 1, none⟩ = some (.int .i64 0) := (blk_cell BK2.out 1).trans rfl
  have hfs10 := blk_frozen BK2.out 1
  have hns10_0 := NB1_2.out
  have hms10_0 := NB2_1.out
  refine skip_ (w1 := ?_) (by rfl) rfl ?_ ?_
  rotate_left
  · go_simp
    rfl
  refine hK.out _ _ ⟨((cell_far (p := ⟨gb2, _, none⟩) NB1_2.out _).trans (((cell_far (p := ⟨gb2, _, none⟩) NB1_2.out _).trans (hHeld.1)))), ((cell_far (p := ⟨gb2, _, none⟩) NB1_2.out _).trans (((cell_far (p := ⟨gb2, _, none⟩) NB1_2.out _).trans (hHeld.2))))⟩ (fun hHeld => ?_)
  clear hK K
  refine done_ (done_of HT_.out (by kernel_rfl)) ?_
  try go_wp2
  refine bodyPost_ret (results_cell_row rfl _ _ gb2 94 #[.int .i64 (wrap64 (a0_0 + t3)), .int .i64 (wrap64 (a0_1 - (wrap64 (t3 * t4))))] (0, 0) _ rfl (by (with_reducible repeat (first | refine blk_drewN ?_ _ | refine blk_drew ?_ | refine blk_alloc ?_ _)); refine blk_put (cs := #[.int .i64 (wrap64 (a0_0 + t3)), .int .i64 0]) ?_ 1 _ rfl; (with_reducible repeat (first | refine blk_drewN ?_ _ | refine blk_drew ?_ | refine blk_alloc ?_ _)); refine blk_put (cs := #[.int .i64 0, .int .i64 0]) ?_ 0 _ rfl; (with_reducible repeat (first | refine blk_drewN ?_ _ | refine blk_drew ?_ | refine blk_alloc ?_ _)); exact BK2.out) Try.underlying94 rfl (by kernel_rfl)) rfl ?_
  exact ⟨by first | rfl | (simp [errW_none, errW_some] <;> rfl) | (simp [*, errW_none, errW_some] <;> rfl), by repeat (first | (with_reducible first | exact HB.out | apply below_alloc | apply pw_below_drewN | apply below_drew1 | refine below_set ?_ GE1.out | refine below_set ?_ GE2.out) | exact HB.out)⟩

end Go.Proofs.Ytpmkkidljmedaaa.X
namespace Go.Proofs.Ytpmkkidljmedaaa.X
open Go.RowKit Go.Proofs.YtpmkkidljmedaaaW.PrintWords Go.Proofs.YtpmkkidljmedaaaW.PrintLast Go.Proofs.YtpmkkidljmedaaaW.PrintMore
attribute [local go_sem] max2_int min2_int max_two min_two max_three min_three max_four min_four   -- for this text's walks alone
set_option linter.unusedVariables false
set_option linter.unusedSimpArgs false

/-! ### headroomref16_less: function 74 -/
def headroomref16_less.f (k : Nat) (a0_0 : Int) (a0_1 : Int) (a1_0 : Int) (a1_1 : Int) : Option (Int × Int) := (headroomref16_norm.f k (wrap64 (a0_0 - a1_0)) (wrap64 (a0_1 - a1_1))).bind fun bt4 => (some (bt4.1, bt4.2))
theorem headroomref16_less.mono : ∀ a0 a1 a2 a3 k, LeO (headroomref16_less.f k a0 a1 a2 a3) (headroomref16_less.f (k + 1) a0 a1 a2 a3) := by
  intro a0 a1 a2 a3 k
  unfold headroomref16_less.f
  repeat' first
      | (with_reducible exact headroomref16_norm.mono _ _ _)
      | (with_reducible exact LeO.refl _)
      | (with_reducible exact LeO.none _)
      | (with_reducible refine LeO.ite ?_ ?_)
      | (with_reducible refine LeO.bind ?_ (fun _ => ?_))
      | exact headroomref16_norm.mono _ _ _
      | exact LeO.none _
      | refine LeO.ite ?_ ?_
      | refine LeO.bind ?_ (fun _ => ?_)
set_option maxHeartbeats 8000000 in
set_option maxRecDepth 100000 in
theorem headroomref16_less.calls (k : Nat) (a0_0 : Int) (a0_1 : Int) (a1_0 : Int) (a1_1 : Int) (r1 : Int) (r2 : Int) (w : World) (h : headroomref16_less.f k a0_0 a0_1 a1_0 a1_1 = some (r1, r2)) :
    Calls Try.prog 74 #[.agg #[.int .i64 a0_0, .int .i64 a0_1], .agg #[.int .i64 a1_0, .int .i64 a1_1]] w fun e w' => e = .returned (.agg #[.int .i64 r1, .int .i64 r2]) ∧ Below w.heap.size w w' := by
  have hu94 := Try.underlying94
  have HB := Aside0.mk (Below.refl w.heap.size w)
  have H : ((headroomref16_norm.f k (wrap64 (a0_0 - a1_0)) (wrap64 (a0_1 - a1_1))).bind fun bt4 => (some (bt4.1, bt4.2))) = some (r1, r2) := h
  clear h
  replace H := Option.bind_eq_some_iff.mp H
  obtain ⟨⟨t4, t5⟩, A30, H⟩ := H
  replace H : (some (t4, t5)) = some (r1, r2) := H
  have A3 := Aside0.mk A30
  clear A30
  simp only [Option.some.injEq, Prod.mk.injEq] at H
  obtain ⟨rfl, rfl⟩ := H
  go_enter Try.func74, Try.ntmps74
  go_wp2_with (first | ((with_reducible refine gate_dst (N := 2) rfl ?_); refine box_event ?hg (N := 2) ?hd (cs := #[.int .i64 a0_0, .int .i64 a0_1]) (t := 94) ?hr ?_; (case hd => rfl); (case hg => rfl); (case hr => first | (go_simp; done) | (go_simp; rfl)); intro gb1 hg w4 hbox hb; have n0_ := Aside0.mk (below_step (by repeat (first | (with_reducible first | exact HB.out | apply below_alloc | apply pw_below_drewN | apply below_drew1) | exact HB.out)) hb); have n1_ := Aside0.mk (hbox); have n2_ := Aside0.mk ((by rw [hg]; exact (below_size (by repeat (first | (with_reducible first | exact HB.out | apply below_alloc | apply pw_below_drewN | apply below_drew1) | exact HB.out))) : w.heap.size ≤ gb1)); have n3_ := Aside0.mk ((by rw [hg]; exact (below_size (by repeat (first | (with_reducible first | exact HB.out | apply below_alloc | apply pw_below_drewN | apply below_drew1) | exact HB.out))) : w.heap.size ≤ gb1)); clear HB; have HB := n0_; have BK1 := n1_; have GW1 := n2_; have GE1 := n3_; clear n0_ n1_ n2_ n3_; clear hb hbox hg) | ((with_reducible refine gate_dst (N := 3) rfl ?_); refine box_event ?hg (N := 3) ?hd (cs := #[.int .i64 a1_0, .int .i64 a1_1]) (t := 94) ?hr ?_; (case hd => rfl); (case hg => rfl); (case hr => first | (go_simp; done) | (go_simp; rfl)); intro gb2 hg w5 hbox hb; have n0_ := Aside0.mk (blk_below (g := gb1) (o := .cells #[.int .i64 a0_0, .int .i64 a0_1] 94 (0, 0)) (by (with_reducible repeat (first | refine blk_drewN ?_ _ | refine blk_drew ?_ | refine blk_alloc ?_ _)); exact BK1.out) hb); have n1_ := Aside0.mk (below_step (by repeat (first | (with_reducible first | exact HB.out | apply below_alloc | apply pw_below_drewN | apply below_drew1 | refine below_set ?_ GE1.out) | exact HB.out)) hb); have n2_ := Aside0.mk (hbox); have n3_ := Aside0.mk ((by rw [hg]; exact (below_size (by repeat (first | (with_reducible first | exact HB.out | apply below_alloc | apply pw_below_drewN | apply below_drew1 | refine below_set ?_ GE1.out) | exact HB.out))) : w.heap.size ≤ gb2)); have n4_ := Aside0.mk ((by rw [hg]; exact (below_size (by repeat (first | (with_reducible first | exact HB.out | apply below_alloc | apply pw_below_drewN | apply below_drew1 | refine below_set ?_ GE1.out) | exact HB.out))) : w.heap.size ≤ gb2)); have n5_ := Aside0.mk ((by rw [hg]; exact Nat.ne_of_lt (blk_lt (g := gb1) (o := .cells #[.int .i64 a0_0, .int .i64 a0_1] 94 (0, 0)) (by (with_reducible repeat (first | refine blk_drewN ?_ _ | refine blk_drew ?_ | refine blk_alloc ?_ _)); exact BK1.out)) : gb1 ≠ gb2)); have n6_ := Aside0.mk ((by rw [hg]; exact Nat.ne_of_gt (blk_lt (g := gb1) (o := .cells #[.int .i64 a0_0, .int .i64 a0_1] 94 (0, 0)) (by (with_reducible repeat (first | refine blk_drewN ?_ _ | refine blk_drew ?_ | refine blk_alloc ?_ _)); exact BK1.out)) : gb2 ≠ gb1)); clear BK1; clear HB; have BK1 := n0_; have HB := n1_; have BK2 := n2_; have GW2 := n3_; have GE2 := n4_; have NB1_2 := n5_; have NB2_1 := n6_; clear n0_ n1_ n2_ n3_ n4_ n5_ n6_; clear hb hbox hg) | ((with_reducible refine gate_dst (N := 4) rfl ?_); refine box_event ?hg (N := 4) ?hd (cs := #[.int .i64 0, .int .i64 0]) (t := 94) ?hr ?_; (case hd => rfl); (case hg => rfl); (case hr => first | (go_simp; done) | (go_simp; rfl)); intro gb3 hg w6 hbox hb; have n0_ := Aside0.mk (blk_below (g := gb1) (o := .cells #[.int .i64 a0_0, .int .i64 a0_1] 94 (0, 0)) (by (with_reducible repeat (first | refine blk_drewN ?_ _ | refine blk_drew ?_ | refine blk_alloc ?_ _)); exact BK1.out) hb); have n1_ := Aside0.mk (blk_below (g := gb2) (o := .cells #[.int .i64 a1_0, .int .i64 a1_1] 94 (0, 0)) (by (with_reducible repeat (first | refine blk_drewN ?_ _ | refine blk_drew ?_ | refine blk_alloc ?_ _)); exact BK2.out) hb); have n2_ := Aside0.mk (below_step (by repeat (first | (with_reducible first | exact HB.out | apply below_alloc | apply pw_below_drewN | apply below_drew1 | refine below_set ?_ GE1.out | refine below_set ?_ GE2.out) | exact HB.out)) hb); have n3_ := Aside0.mk (hbox); have n4_ := Aside0.mk ((by rw [hg]; exact (below_size (by repeat (first | (with_reducible first | exact HB.out | apply below_alloc | apply pw_below_drewN | apply below_drew1 | refine below_set ?_ GE1.out | refine below_set ?_ GE2.out) | exact HB.out))) : w.heap.size ≤ gb3)); have n5_ := Aside0.mk ((by rw [hg]; exact (below_size (by repeat (first | (with_reducible first | exact HB.out | apply below_alloc | apply pw_below_drewN | apply below_drew1 | refine below_set ?_ GE1.out | refine below_set ?_ GE2.out) | exact HB.out))) : w.heap.size ≤ gb3)); have n6_ := Aside0.mk ((by rw [hg]; exact Nat.ne_of_lt (blk_lt (g := gb1) (o := .cells #[.int .i64 a0_0, .int .i64 a0_1] 94 (0, 0)) (by (with_reducible repeat (first | refine blk_drewN ?_ _ | refine blk_drew ?_ | refine blk_alloc ?_ _)); exact BK1.out)) : gb1 ≠ gb3)); have n7_ := Aside0.mk ((by rw [hg]; exact Nat.ne_of_gt (blk_lt (g := gb1) (o := .cells #[.int .i64 a0_0, .int .i64 a0_1] 94 (0, 0)) (by (with_reducible repeat (first | refine blk_drewN ?_ _ | refine blk_drew ?_ | refine blk_alloc ?_ _)); exact BK1.out)) : gb3 ≠ gb1)); have n8_ := Aside0.mk ((by rw [hg]; exact Nat.ne_of_lt (blk_lt (g := gb2) (o := .cells #[.int .i64 a1_0, .int .i64 a1_1] 94 (0, 0)) (by (with_reducible repeat (first | refine blk_drewN ?_ _ | refine blk_drew ?_ | refine blk_alloc ?_ _)); exact BK2.out)) : gb2 ≠ gb3)); have n9_ := Aside0.mk ((by rw [hg]; exact Nat.ne_of_gt (blk_lt (g := gb2) (o := .cells #[.int .i64 a1_0, .int .i64 a1_1] 94 (0, 0)) (by (with_reducible repeat (first | refine blk_drewN ?_ _ | refine blk_drew ?_ | refine blk_alloc ?_ _)); exact BK2.out)) : gb3 ≠ gb2)); clear BK1; clear BK2; clear HB; have BK1 := n0_; have BK2 := n1_; have HB := n2_; have BK3 := n3_; have GW3 := n4_; have GE3 := n5_; have NB1_3 := n6_; have NB3_1 := n7_; have NB2_3 := n8_; have NB3_2 := n9_; clear n0_ n1_ n2_ n3_ n4_ n5_ n6_ n7_ n8_ n9_; clear hb hbox hg; have hnb7 := NB1_2.out; have hnc7 := NB2_1.out; have hnb8 := NB1_3.out; have hnc8 := NB3_1.out; have hcz9_0 : w6.cell? ⟨gb1, 0, none⟩ = some (.int .i64 a0_0) := (blk_cell BK1.out 0).trans rfl; have hcz9_1 : w6.cell? ⟨gb1, 1, none⟩ = some (.int .i64 a0_1) := (blk_cell BK1.out 1).trans rfl; have hfz9_0 := blk_frozen BK1.out 0; have hfz9_1 := blk_frozen BK1.out 1; have hnb10 := NB2_3.out; have hnc10 := NB3_2.out; have hcz11_0 : w6.cell? ⟨gb2, 0, none⟩ = some (.int .i64 a1_0) := (blk_cell BK2.out 0).trans rfl; have hcz11_1 : w6.cell? ⟨gb2, 1, none⟩ = some (.int .i64 a1_1) := (blk_cell BK2.out 1).trans rfl; have hfz11_0 := blk_frozen BK2.out 0; have hfz11_1 := blk_frozen BK2.out 1) | ((with_reducible refine gate_callee (f := 104) rfl ?_); refine goesL_ (some 16) rfl rfl Try.func104 (by kernel_rfl) rfl #[.agg #[.int .i64 (wrap64 (a0_0 - a1_0)), .int .i64 (wrap64 (a0_1 - a1_1))]] rfl (by (try simp only [List.map_toArray, List.map_cons, List.map_nil]); first | done | rfl | (simp only [List.length_drop, List.length_take]; rfl)) ?_; (with_reducible refine (headroomref16_norm.calls k (wrap64 (a0_0 - a1_0)) (wrap64 (a0_1 - a1_1)) t4 t5 _ A3.out).mono ?_); rintro e w12 ⟨rfl, hb⟩; refine ⟨_, rfl, ?_⟩; have n0_ := Aside0.mk (blk_below (g := gb1) (o := .cells #[.int .i64 a0_0, .int .i64 a0_1] 94 (0, 0)) (by (with_reducible repeat (first | refine blk_drewN ?_ _ | refine blk_drew ?_ | refine blk_alloc ?_ _)); exact BK1.out) hb); have n1_ := Aside0.mk (blk_below (g := gb2) (o := .cells #[.int .i64 a1_0, .int .i64 a1_1] 94 (0, 0)) (by (with_reducible repeat (first | refine blk_drewN ?_ _ | refine blk_drew ?_ | refine blk_alloc ?_ _)); exact BK2.out) hb); have n2_ := Aside0.mk (blk_below (g := gb3) (o := .cells #[.int .i64 0, .int .i64 0] 94 (0, 0)) (by (with_reducible repeat (first | refine blk_drewN ?_ _ | refine blk_drew ?_ | refine blk_alloc ?_ _)); exact BK3.out) hb); have n3_ := Aside0.mk (below_step (by repeat (first | (with_reducible first | exact HB.out | apply below_alloc | apply pw_below_drewN | apply below_drew1 | refine below_set ?_ GE1.out | refine below_set ?_ GE2.out | refine below_set ?_ GE3.out) | exact HB.out)) hb); clear BK1; clear BK2; clear BK3; clear HB; have BK1 := n0_; have BK2 := n1_; have BK3 := n2_; have HB := n3_; clear n0_ n1_ n2_ n3_; (try clear hb); (try clear hb2); (try clear hk); (try clear hi); have hcz13_0 : w12.cell? ⟨gb3, 0, none⟩ = some (.int .i64 0) := (blk_cell BK3.out 0).trans rfl; have hcz13_1 : w12.cell? ⟨gb3, 1, none⟩ = some (.int .i64 0) := (blk_cell BK3.out 1).trans rfl; have hfz13_0 := blk_frozen BK3.out 0; have hfz13_1 := blk_frozen BK3.out 1))
  refine bodyPost_ret (results_cell_row rfl _ _ gb3 94 #[.int .i64 t4, .int .i64 t5] (0, 0) _ rfl (by (with_reducible repeat (first | refine blk_drewN ?_ _ | refine blk_drew ?_ | refine blk_alloc ?_ _)); refine blk_put (cs := #[.int .i64 t4, .int .i64 0]) ?_ 1 _ rfl; (with_reducible repeat (first | refine blk_drewN ?_ _ | refine blk_drew ?_ | refine blk_alloc ?_ _)); refine blk_put (cs := #[.int .i64 0, .int .i64 0]) ?_ 0 _ rfl; (with_reducible repeat (first | refine blk_drewN ?_ _ | refine blk_drew ?_ | refine blk_alloc ?_ _)); exact BK3.out) Try.underlying94 rfl (by kernel_rfl)) rfl ?_
  exact ⟨by first | rfl | (simp [errW_none, errW_some] <;> rfl) | (simp [*, errW_none, errW_some] <;> rfl), by repeat (first | (with_reducible first | exact HB.out | apply below_alloc | apply pw_below_drewN | apply below_drew1 | refine below_set ?_ GE1.out | refine below_set ?_ GE2.out | refine below_set ?_ GE3.out) | exact HB.out)⟩

end Go.Proofs.Ytpmkkidljmedaaa.X
namespace Go.Proofs.Ytpmkkidljmedaaa.X
open Go.RowKit Go.Proofs.YtpmkkidljmedaaaW.PrintWords Go.Proofs.YtpmkkidljmedaaaW.PrintLast Go.Proofs.YtpmkkidljmedaaaW.PrintMore
attribute [local go_sem] max2_int min2_int max_two min_two max_three min_three max_four min_four   -- for this text's walks alone
set_option linter.unusedVariables false
set_option linter.unusedSimpArgs false

/-! ### headroomref16_add: function 75 -/
def headroomref16_add.f (k : Nat) (a0_0 : Int) (a0_1 : Int) (a1_0 : Int) (a1_1 : Int) : Option (Int × Int) := (headroomref16_norm.f k (wrap64 (a0_0 + a1_0)) (wrap64 (a0_1 + a1_1))).bind fun bt4 => (some (bt4.1, bt4.2))
theorem headroomref16_add.mono : ∀ a0 a1 a2 a3 k, LeO (headroomref16_add.f k a0 a1 a2 a3) (headroomref16_add.f (k + 1) a0 a1 a2 a3) := by
  intro a0 a1 a2 a3 k
  unfold headroomref16_add.f
  repeat' first
      | (with_reducible exact headroomref16_norm.mono _ _ _)
      | (with_reducible exact LeO.refl _)
      | (with_reducible exact LeO.none _)
      | (with_reducible refine LeO.ite ?_ ?_)
      | (with_reducible refine LeO.bind ?_ (fun _ => ?_))
      | exact headroomref16_norm.mono _ _ _
      | exact LeO.none _
      | refine LeO.ite ?_ ?_
      | refine LeO.bind ?_ (fun _ => ?_)
set_option maxHeartbeats 8000000 in
set_option maxRecDepth 100000 in
theorem headroomref16_add.calls (k : Nat) (a0_0 : Int) (a0_1 : Int) (a1_0 : Int) (a1_1 : Int) (r1 : Int) (r2 : Int) (w : World) (h : headroomref16_add.f k a0_0 a0_1 a1_0 a1_1 = some (r1, r2)) :
    Calls Try.prog 75 #[.agg #[.int .i64 a0_0, .int .i64 a0_1], .agg #[.int .i64 a1_0, .int .i64 a1_1]] w fun e w' => e = .returned (.agg #[.int .i64 r1, .int .i64 r2]) ∧ Below w.heap.size w w' := by
  have hu94 := Try.underlying94
  have HB := Aside0.mk (Below.refl w.heap.size w)
  have H : ((headroomref16_norm.f k (wrap64 (a0_0 + a1_0)) (wrap64 (a0_1 + a1_1))).bind fun bt4 => (some (bt4.1, bt4.2))) = some (r1, r2) := h
  clear h
  replace H := Option.bind_eq_some_iff.mp H
  obtain ⟨⟨t4, t5⟩, A30, H⟩ := H
  replace H : (some (t4, t5)) = some (r1, r2) := H
  have A3 := Aside0.mk A30
  clear A30
  simp only [Option.some.injEq, Prod.mk.injEq] at H
  obtain ⟨rfl, rfl⟩ := H
  go_enter Try.func75, Try.ntmps75
  go_wp2_with (first | ((with_reducible refine gate_dst (N := 2) rfl ?_); refine box_event ?hg (N := 2) ?hd (cs := #[.int .i64 a0_0, .int .i64 a0_1]) (t := 94) ?hr ?_; (case hd => rfl); (case hg => rfl); (case hr => first | (go_simp; done) | (go_simp; rfl)); intro gb1 hg w4 hbox hb; have n0_ := Aside0.mk (below_step (by repeat (first | (with_reducible first | exact HB.out | apply below_alloc | apply pw_below_drewN | apply below_drew1) | exact HB.out)) hb); have n1_ := Aside0.mk (hbox); have n2_ := Aside0.mk ((by rw [hg]; exact (below_size (by repeat (first | (with_reducible first | exact HB.out | apply below_alloc | apply pw_below_drewN | apply below_drew1) | exact HB.out))) : w.heap.size ≤ gb1)); have n3_ := Aside0.mk ((by rw [hg]; exact (below_size (by repeat (first | (with_reducible first | exact HB.out | apply below_alloc | apply pw_below_drewN | apply below_drew1) | exact HB.out))) : w.heap.size ≤ gb1)); clear HB; have HB := n0_; have BK1 := n1_; have GW1 := n2_; have GE1 := n3_; clear n0_ n1_ n2_ n3_; clear hb hbox hg) | ((with_reducible refine gate_dst (N := 3) rfl ?_); refine box_event ?hg (N := 3) ?hd (cs := #[.int .i64 a1_0, .int .i64 a1_1]) (t := 94) ?hr ?_; (case hd => rfl); (case hg => rfl); (case hr => first | (go_simp; done) | (go_simp; rfl)); intro gb2 hg w5 hbox hb; have n0_ := Aside0.mk (blk_below (g := gb1) (o := .cells #[.int .i64 a0_0, .int .i64 a0_1] 94 (0, 0)) (by (with_reducible repeat (first | refine blk_drewN ?_ _ | refine blk_drew ?_ | refine blk_alloc ?_ _)); exact BK1.out) hb); have n1_ := Aside0.mk (below_step (by repeat (first | (with_reducible first | exact HB.out | apply below_alloc | apply pw_below_drewN | apply below_drew1 | refine below_set ?_ GE1.out) | exact HB.out)) hb); have n2_ := Aside0.mk (hbox); have n3_ := Aside0.mk ((by rw [hg]; exact (below_size (by repeat (first | (with_reducible first | exact HB.out | apply below_alloc | apply pw_below_drewN | apply below_drew1 | refine below_set ?_ GE1.out) | exact HB.out))) : w.heap.size ≤ gb2)); have n4_ := Aside0.mk ((by rw [hg]; exact (below_size (by repeat (first | (with_reducible first | exact HB.out | apply below_alloc | apply pw_below_drewN | apply below_drew1 | refine below_set ?_ GE1.out) | exact HB.out))) : w.heap.size ≤ gb2)); have n5_ := Aside0.mk ((by rw [hg]; exact Nat.ne_of_lt (blk_lt (g := gb1) (o := .cells #[.int .i64 a0_0, .int .i64 a0_1] 94 (0, 0)) (by (with_reducible repeat (first | refine blk_drewN ?_ _ | refine blk_drew ?_ | refine blk_alloc ?_ _)); exact BK1.out)) : gb1 ≠ gb2)); have n6_ := Aside0.mk ((by rw [hg]; exact Nat.ne_of_gt (blk_lt (g := gb1) (o := .cells #[.int .i64 a0_0, .int .i64 a0_1] 94 (0, 0)) (by (with_reducible repeat (first | refine blk_drewN ?_ _ | refine blk_drew ?_ | refine blk_alloc ?_ _)); exact BK1.out)) : gb2 ≠ gb1)); clear BK1; clear HB; have BK1 := n0_; have HB := n1_; have BK2 := n2_; have GW2 := n3_; have GE2 := n4_; have NB1_2 := n5_; have NB2_1 := n6_; clear n0_ n1_ n2_ n3_ n4_ n5_ n6_; clear hb hbox hg) | ((with_reducible refine gate_dst (N := 4) rfl ?_); refine box_event ?hg (N := 4) ?hd (cs := #[.int .i64 0, .int .i64 0]) (t := 94) ?hr ?_; (case hd => rfl); (case hg => rfl); (case hr => first | (go_simp; done) | (go_simp; rfl)); intro gb3 hg w6 hbox hb; have n0_ := Aside0.mk (blk_below (g := gb1) (o := .cells #[.int .i64 a0_0, .int .i64 a0_1] 94 (0, 0)) (by (with_reducible repeat (first | refine blk_drewN ?_ _ | refine blk_drew ?_ | refine blk_alloc ?_ _)); exact BK1.out) hb); have n1_ := Aside0.mk (blk_below (g := gb2) (o := .cells #[.int .i64 a1_0, .int .i64 a1_1] 94 (0, 0)) (by (with_reducible repeat (first | refine blk_drewN ?_ _ | refine blk_drew ?_ | refine blk_alloc ?_ _)); exact BK2.out) hb); have n2_ := Aside0.mk (below_step (by repeat (first | (with_reducible first | exact HB.out | apply below_alloc | apply pw_below_drewN | apply below_drew1 | refine below_set ?_ GE1.out | refine below_set ?_ GE2.out) | exact HB.out)) hb); have n3_ := Aside0.mk (hbox); have n4_ := Aside0.mk ((by rw [hg]; exact (below_size (by repeat (first | (with_reducible first | exact HB.out | apply below_alloc | apply pw_below_drewN | apply below_drew1 | refine below_set ?_ GE1.out | refine below_set ?_ GE2.out) | exact HB.out))) : w.heap.size ≤ gb3)); have n5_ := Aside0.mk ((by rw [hg]; exact (below_size (by repeat (first | (with_reducible first | exact HB.out | apply below_alloc | apply pw_below_drewN | apply below_drew1 | refine below_set ?_ GE1.out | refine below_set ?_ GE2.out) | exact HB.out))) : w.heap.size ≤ gb3)); have n6_ := Aside0.mk ((by rw [hg]; exact Nat.ne_of_lt (blk_lt (g := gb1) (o := .cells #[.int .i64 a0_0, .int .i64 a0_1] 94 (0, 0)) (by (with_reducible repeat (first | refine blk_drewN ?_ _ | refine blk_drew ?_ | refine blk_alloc ?_ _)); exact BK1.out)) : gb1 ≠ gb3)); have n7_ := Aside0.mk ((by rw [hg]; exact Nat.ne_of_gt (blk_lt (g := gb1) (o := .cells #[.int .i64 a0_0, .int .i64 a0_1] 94 (0, 0)) (by (with_reducible repeat (first | refine blk_drewN ?_ _ | refine blk_drew ?_ | refine blk_alloc ?_ _)); exact BK1.out)) : gb3 ≠ gb1)); have n8_ := Aside0.mk ((by rw [hg]; exact Nat.ne_of_lt (blk_lt (g := gb2) (o := .cells #[.int .i64 a1_0, .int .i64 a1_1] 94 (0, 0)) (by (with_reducible repeat (first | refine blk_drewN ?_ _ | refine blk_drew ?_ | refine blk_alloc ?_ _)); exact BK2.out)) : gb2 ≠ gb3)); have n9_ := Aside0.mk ((by rw [hg]; exact Nat.ne_of_gt (blk_lt (g := gb2) (o := .cells #[.int .i64 a1_0, .int .i64 a1_1] 94 (0, 0)) (by (with_reducible repeat (first | refine blk_drewN ?_ _ | refine blk_drew ?_ | refine blk_alloc ?_ _)); exact BK2.out)) : gb3 ≠ gb2)); clear BK1; clear BK2; clear HB; have BK1 := n0_; have BK2 := n1_; have HB := n2_; have BK3 := n3_; have GW3 := n4_; have GE3 := n5_; have NB1_3 := n6_; have NB3_1 := n7_; have NB2_3 := n8_; have NB3_2 := n9_; clear n0_ n1_ n2_ n3_ n4_ n5_ n6_ n7_ n8_ n9_; clear hb hbox hg; have hnb7 := NB1_2.out; have hnc7 := NB2_1.out; have hnb8 := NB1_3.out; have hnc8 := NB3_1.out; have hcz9_0 : w6.cell? ⟨gb1, 0, none⟩ = some (.int .i64 a0_0) := (blk_cell BK1.out 0).trans rfl; have hcz9_1 : w6.cell? ⟨gb1, 1, none⟩ = some (.int .i64 a0_1) := (blk_cell BK1.out 1).trans rfl; have hfz9_0 := blk_frozen BK1.out 0; have hfz9_1 := blk_frozen BK1.out 1; have hnb10 := NB2_3.out; have hnc10 := NB3_2.out; have hcz11_0 : w6.cell? ⟨gb2, 0, none⟩ = some (.int .i64 a1_0) := (blk_cell BK2.out 0).trans rfl; have hcz11_1 : w6.cell? ⟨gb2, 1, none⟩ = some (.int .i64 a1_1) := (blk_cell BK2.out 1).trans rfl; have hfz11_0 := blk_frozen BK2.out 0; have hfz11_1 := blk_frozen BK2.out 1) | ((with_reducible refine gate_callee (f := 104) rfl ?_); refine goesL_ (some 16) rfl rfl Try.func104 (by kernel_rfl) rfl #[.agg #[.int .i64 (wrap64 (a0_0 + a1_0)), .int .i64 (wrap64 (a0_1 + a1_1))]] rfl (by (try simp only [List.map_toArray, List.map_cons, List.map_nil]); first | done | rfl | (simp only [List.length_drop, List.length_take]; rfl)) ?_; (with_reducible refine (headroomref16_norm.calls k (wrap64 (a0_0 + a1_0)) (wrap64 (a0_1 + a1_1)) t4 t5 _ A3.out).mono ?_); rintro e w12 ⟨rfl, hb⟩; refine ⟨_, rfl, ?_⟩; have n0_ := Aside0.mk (blk_below (g := gb1) (o := .cells #[.int .i64 a0_0, .int .i64 a0_1] 94 (0, 0)) (by (with_reducible repeat (first | refine blk_drewN ?_ _ | refine blk_drew ?_ | refine blk_alloc ?_ _)); exact BK1.out) hb); have n1_ := Aside0.mk (blk_below (g := gb2) (o := .cells #[.int .i64 a1_0, .int .i64 a1_1] 94 (0, 0)) (by (with_reducible repeat (first | refine blk_drewN ?_ _ | refine blk_drew ?_ | refine blk_alloc ?_ _)); exact BK2.out) hb); have n2_ := Aside0.mk (blk_below (g := gb3) (o := .cells #[.int .i64 0, .int .i64 0] 94 (0, 0)) (by (with_reducible repeat (first | refine blk_drewN ?_ _ | refine blk_drew ?_ | refine blk_alloc ?_ _)); exact BK3.out) hb); have n3_ := Aside0.mk (below_step (by repeat (first | (with_reducible first | exact HB.out | apply below_alloc | apply pw_below_drewN | apply below_drew1 | refine below_set ?_ GE1.out | refine below_set ?_ GE2.out | refine below_set ?_ GE3.out) | exact HB.out)) hb); clear BK1; clear BK2; clear BK3; clear HB; have BK1 := n0_; have BK2 := n1_; have BK3 := n2_; have HB := n3_; clear n0_ n1_ n2_ n3_; (try clear hb); (try clear hb2); (try clear hk); (try clear hi); have hcz13_0 : w12.cell? ⟨gb3, 0, none⟩ = some (.int .i64 0) := (blk_cell BK3.out 0).trans rfl; have hcz13_1 : w12.cell? ⟨gb3, 1, none⟩ = some (.int .i64 0) := (blk_cell BK3.out 1).trans rfl; have hfz13_0 := blk_frozen BK3.out 0; have hfz13_1 := blk_frozen BK3.out 1))
  refine bodyPost_ret (results_cell_row rfl _ _ gb3 94 #[.int .i64 t4, .int .i64 t5] (0, 0) _ rfl (by (with_reducible repeat (first | refine blk_drewN ?_ _ | refine blk_drew ?_ | refine blk_alloc ?_ _)); refine blk_put (cs := #[.int .i64 t4, .int .i64 0]) ?_ 1 _ rfl; (with_reducible repeat (first | refine blk_drewN ?_ _ | refine blk_drew ?_ | refine blk_alloc ?_ _)); refine blk_put (cs := #[.int .i64 0, .int .i64 0]) ?_ 0 _ rfl; (with_reducible repeat (first | refine blk_drewN ?_ _ | refine blk_drew ?_ | refine blk_alloc ?_ _)); exact BK3.out) Try.underlying94 rfl (by kernel_rfl)) rfl ?_
  exact ⟨by first | rfl | (simp [errW_none, errW_some] <;> rfl) | (simp [*, errW_none, errW_some] <;> rfl), by repeat (first | (with_reducible first | exact HB.out | apply below_alloc | apply pw_below_drewN | apply below_drew1 | refine below_set ?_ GE1.out | refine below_set ?_ GE2.out | refine below_set ?_ GE3.out) | exact HB.out)⟩

end Go.Proofs.Ytpmkkidljmedaaa.X
namespace Go.Proofs.Ytpmkkidljmedaaa.X
open Go.RowKit Go.Proofs.YtpmkkidljmedaaaW.PrintWords Go.Proofs.YtpmkkidljmedaaaW.PrintLast Go.Proofs.YtpmkkidljmedaaaW.PrintMore
attribute [local go_sem] max2_int min2_int max_two min_two max_three min_three max_four min_four   -- for this text's walks alone
set_option linter.unusedVariables false
set_option linter.unusedSimpArgs false

/-! ### headroomref16_times: function 76 -/
def headroomref16_times.f (k : Nat) (a0 : Int) (a1 : Int) : Option (Int × Int) := (headroomref01_Floor.f k a1 20).bind fun t2 => ((headroomref01_Pow.f k 20).bind fun t3 => ((headroomref16_norm.f k (wrap64 (a0 * t2)) (wrap64 (a0 * (wrap64 (a1 - (wrap64 (t2 * t3))))))).bind fun bt4 => (some (bt4.1, bt4.2))))
theorem headroomref16_times.mono : ∀ a0 a1 k, LeO (headroomref16_times.f k a0 a1) (headroomref16_times.f (k + 1) a0 a1) := by
  intro a0 a1 k
  unfold headroomref16_times.f
  repeat' first
      | (with_reducible exact headroomref01_Floor.mono _ _ _)
      | (with_reducible exact headroomref01_Pow.mono _ _)
      | (with_reducible exact headroomref16_norm.mono _ _ _)
      | (with_reducible exact LeO.refl _)
      | (with_reducible exact LeO.none _)
      | (with_reducible refine LeO.ite ?_ ?_)
      | (with_reducible refine LeO.bind ?_ (fun _ => ?_))
      | exact headroomref01_Floor.mono _ _ _
      | exact headroomref01_Pow.mono _ _
      | exact headroomref16_norm.mono _ _ _
      | exact LeO.none _
      | refine LeO.ite ?_ ?_
      | refine LeO.bind ?_ (fun _ => ?_)
set_option maxHeartbeats 8000000 in
set_option maxRecDepth 100000 in
theorem headroomref16_times.calls (k : Nat) (a0 : Int) (a1 : Int) (r1 : Int) (r2 : Int) (w : World) (h : headroomref16_times.f k a0 a1 = some (r1, r2)) :
    Calls Try.prog 76 #[.int .i64 a0, .int .i64 a1] w fun e w' => e = .returned (.agg #[.int .i64 r1, .int .i64 r2]) ∧ Below w.heap.size w w' := by
  have hu94 := Try.underlying94
  have HB := Aside0.mk (Below.refl w.heap.size w)
  have H : ((headroomref01_Floor.f k a1 20).bind fun t2 => ((headroomref01_Pow.f k 20).bind fun t3 => ((headroomref16_norm.f k (wrap64 (a0 * t2)) (wrap64 (a0 * (wrap64 (a1 - (wrap64 (t2 * t3))))))).bind fun bt4 => (some (bt4.1, bt4.2))))) = some (r1, r2) := h
  clear h
  replace H := Option.bind_eq_some_iff.mp H
  obtain ⟨t2, A30, H⟩ := H
  replace H : ((headroomref01_Pow.f k 20).bind fun t3 => ((headroomref16_norm.f k (wrap64 (a0 * t2)) (wrap64 (a0 * (wrap64 (a1 - (wrap64 (t2 * t3))))))).bind fun bt4 => (some (bt4.1, bt4.2)))) = some (r1, r2) := H
  have A3 := Aside0.mk A30
  clear A30
  replace H := Option.bind_eq_some_iff.mp H
  obtain ⟨t3, A40, H⟩ := H
  replace H : ((headroomref16_norm.f k (wrap64 (a0 * t2)) (wrap64 (a0 * (wrap64 (a1 - (wrap64 (t2 * t3))))))).bind fun bt4 => (some (bt4.1, bt4.2))) = some (r1, r2) := H
  have A4 := Aside0.mk A40
  clear A40
  replace H := Option.bind_eq_some_iff.mp H
  obtain ⟨⟨t4, t5⟩, A50, H⟩ := H
  replace H : (some (t4, t5)) = some (r1, r2) := H
  have A5 := Aside0.mk A50
  clear A50
  simp only [Option.some.injEq, Prod.mk.injEq] at H
  obtain ⟨rfl, rfl⟩ := H
  go_enter Try.func76, Try.ntmps76
  go_wp2_with (first | ((with_reducible refine gate_dst (N := 4) rfl ?_); refine box_event ?hg (N := 4) ?hd (cs := #[.int .i64 0, .int .i64 0]) (t := 94) ?hr ?_; (case hd => rfl); (case hg => rfl); (case hr => first | (go_simp; done) | (go_simp; rfl)); intro gb1 hg w6 hbox hb; have n0_ := Aside0.mk (below_step (by repeat (first | (with_reducible first | exact HB.out | apply below_alloc | apply pw_below_drewN | apply below_drew1) | exact HB.out)) hb); have n1_ := Aside0.mk (hbox); have n2_ := Aside0.mk ((by rw [hg]; exact (below_size (by repeat (first | (with_reducible first | exact HB.out | apply below_alloc | apply pw_below_drewN | apply below_drew1) | exact HB.out))) : w.heap.size ≤ gb1)); have n3_ := Aside0.mk ((by rw [hg]; exact (below_size (by repeat (first | (with_reducible first | exact HB.out | apply below_alloc | apply pw_below_drewN | apply below_drew1) | exact HB.out))) : w.heap.size ≤ gb1)); clear HB; have HB := n0_; have BK1 := n1_; have GW1 := n2_; have GE1 := n3_; clear n0_ n1_ n2_ n3_; clear hb hbox hg) | ((with_reducible refine gate_callee (f := 83) rfl ?_); refine goesL_ (some 8) rfl rfl Try.func83 (by kernel_rfl) rfl #[.int .i64 a1, .int .i64 20] rfl (by (try simp only [List.map_toArray, List.map_cons, List.map_nil]); first | done | rfl | (simp only [List.length_drop, List.length_take]; rfl)) ?_; (with_reducible refine (headroomref01_Floor.calls k a1 20 t2 _ A3.out).mono ?_); rintro e w' ⟨rfl, ⟨nd, rfl⟩⟩; refine ⟨_, rfl, ?_⟩; (try (rw [drewN_self w6]; generalize hq_ : World.drewN w6 _ = w6; have n0_ : Aside0 (w6.heap[gb1]? = some (.cells #[.int .i64 0, .int .i64 0] 94 (0, 0))) := ⟨by rw [← hq_]; exact (by (with_reducible repeat (first | refine blk_drewN ?_ _ | refine blk_drew ?_ | refine blk_alloc ?_ _)); exact BK1.out)⟩; have n1_ : Aside0 (Below w.heap.size w w6) := ⟨by rw [← hq_]; exact (by repeat (first | (with_reducible first | exact HB.out | apply below_alloc | apply pw_below_drewN | apply below_drew1 | refine below_set ?_ GE1.out) | exact HB.out))⟩; clear BK1 HB hq_; have BK1 := n0_; have HB := n1_; clear n0_ n1_))) | ((with_reducible refine gate_callee (f := 56) rfl ?_); refine goesL_ (some 11) rfl rfl Try.func56 (by kernel_rfl) rfl #[.int .i64 20] rfl (by (try simp only [List.map_toArray, List.map_cons, List.map_nil]); first | done | rfl | (simp only [List.length_drop, List.length_take]; rfl)) ?_; (with_reducible refine (headroomref01_Pow.calls k 20 t3 _ A4.out).mono ?_); rintro e w' ⟨rfl, ⟨nd, rfl⟩⟩; refine ⟨_, rfl, ?_⟩; (try (rw [drewN_self w6]; generalize hq_ : World.drewN w6 _ = w6; have n0_ : Aside0 (w6.heap[gb1]? = some (.cells #[.int .i64 0, .int .i64 0] 94 (0, 0))) := ⟨by rw [← hq_]; exact (by (with_reducible repeat (first | refine blk_drewN ?_ _ | refine blk_drew ?_ | refine blk_alloc ?_ _)); exact BK1.out)⟩; have n1_ : Aside0 (Below w.heap.size w w6) := ⟨by rw [← hq_]; exact (by repeat (first | (with_reducible first | exact HB.out | apply below_alloc | apply pw_below_drewN | apply below_drew1 | refine below_set ?_ GE1.out) | exact HB.out))⟩; clear BK1 HB hq_; have BK1 := n0_; have HB := n1_; clear n0_ n1_))) | ((with_reducible refine gate_callee (f := 104) rfl ?_); refine goesL_ (some 21) rfl rfl Try.func104 (by kernel_rfl) rfl #[.agg #[.int .i64 (wrap64 (a0 * t2)), .int .i64 (wrap64 (a0 * (wrap64 (a1 - (wrap64 (t2 * t3))))))]] rfl (by (try simp only [List.map_toArray, List.map_cons, List.map_nil]); first | done | rfl | (simp only [List.length_drop, List.length_take]; rfl)) ?_; (with_reducible refine (headroomref16_norm.calls k (wrap64 (a0 * t2)) (wrap64 (a0 * (wrap64 (a1 - (wrap64 (t2 * t3)))))) t4 t5 _ A5.out).mono ?_); rintro e w7 ⟨rfl, hb⟩; refine ⟨_, rfl, ?_⟩; have n0_ := Aside0.mk (blk_below (g := gb1) (o := .cells #[.int .i64 0, .int .i64 0] 94 (0, 0)) (by (with_reducible repeat (first | refine blk_drewN ?_ _ | refine blk_drew ?_ | refine blk_alloc ?_ _)); exact BK1.out) hb); have n1_ := Aside0.mk (below_step (by repeat (first | (with_reducible first | exact HB.out | apply below_alloc | apply pw_below_drewN | apply below_drew1 | refine below_set ?_ GE1.out) | exact HB.out)) hb); clear BK1; clear HB; have BK1 := n0_; have HB := n1_; clear n0_ n1_; (try clear hb); (try clear hb2); (try clear hk); (try clear hi); have hcz8_0 : w7.cell? ⟨gb1, 0, none⟩ = some (.int .i64 0) := (blk_cell BK1.out 0).trans rfl; have hcz8_1 : w7.cell? ⟨gb1, 1, none⟩ = some (.int .i64 0) := (blk_cell BK1.out 1).trans rfl; have hfz8_0 := blk_frozen BK1.out 0; have hfz8_1 := blk_frozen BK1.out 1))
  refine bodyPost_ret (results_cell_row rfl _ _ gb1 94 #[.int .i64 t4, .int .i64 t5] (0, 0) _ rfl (by (with_reducible repeat (first | refine blk_drewN ?_ _ | refine blk_drew ?_ | refine blk_alloc ?_ _)); refine blk_put (cs := #[.int .i64 t4, .int .i64 0]) ?_ 1 _ rfl; (with_reducible repeat (first | refine blk_drewN ?_ _ | refine blk_drew ?_ | refine blk_alloc ?_ _)); refine blk_put (cs := #[.int .i64 0, .int .i64 0]) ?_ 0 _ rfl; (with_reducible repeat (first | refine blk_drewN ?_ _ | refine blk_drew ?_ | refine blk_alloc ?_ _)); exact BK1.out) Try.underlying94 rfl (by kernel_rfl)) rfl ?_
  exact ⟨by first | rfl | (simp [errW_none, errW_some] <;> rfl) | (simp [*, errW_none, errW_some] <;> rfl), by repeat (first | (with_reducible first | exact HB.out | apply below_alloc | apply pw_below_drewN | apply below_drew1 | refine below_set ?_ GE1.out) | exact HB.out)⟩

end Go.Proofs.Ytpmkkidljmedaaa.X
namespace Go.Proofs.Ytpmkkidljmedaaa.X
open Go.RowKit Go.Proofs.YtpmkkidljmedaaaW.PrintWords Go.Proofs.YtpmkkidljmedaaaW.PrintLast Go.Proofs.YtpmkkidljmedaaaW.PrintMore
attribute [local go_sem] max2_int min2_int max_two min_two max_three min_three max_four min_four   -- for this text's walks alone
set_option linter.unusedVariables false
set_option linter.unusedSimpArgs false

/-! ### headroomref16_down: function 77 -/
def headroomref16_down.f (k : Nat) (a0_0 : Int) (a0_1 : Int) : Option (Int) := (headroomref01_Floor.f k a0_0 12).bind fun t2 => (some t2)
theorem headroomref16_down.mono : ∀ a0 a1 k, LeO (headroomref16_down.f k a0 a1) (headroomref16_down.f (k + 1) a0 a1) := by
  intro a0 a1 k
  unfold headroomref16_down.f
  repeat' first
      | (with_reducible exact headroomref01_Floor.mono _ _ _)
      | (with_reducible exact LeO.refl _)
      | (with_reducible exact LeO.none _)
      | (with_reducible refine LeO.ite ?_ ?_)
      | (with_reducible refine LeO.bind ?_ (fun _ => ?_))
      | exact headroomref01_Floor.mono _ _ _
      | exact LeO.none _
      | refine LeO.ite ?_ ?_
      | refine LeO.bind ?_ (fun _ => ?_)
set_option maxHeartbeats 8000000 in
set_option maxRecDepth 100000 in
theorem headroomref16_down.calls (k : Nat) (a0_0 : Int) (a0_1 : Int) (r : Int) (w : World) (h : headroomref16_down.f k a0_0 a0_1 = some r) :
    Calls Try.prog 77 #[.agg #[.int .i64 a0_0, .int .i64 a0_1]] w fun e w' => e = .returned (.int .i64 r) ∧ Below w.heap.size w w' := by
  have hu94 := Try.underlying94
  have HB := Aside0.mk (Below.refl w.heap.size w)
  have H : ((headroomref01_Floor.f k a0_0 12).bind fun t2 => (some t2)) = some r := h
  clear h
  replace H := Option.bind_eq_some_iff.mp H
  obtain ⟨t2, A20, H⟩ := H
  replace H : (some t2) = some r := H
  have A2 := Aside0.mk A20
  clear A20
  obtain rfl := Option.some.inj H
  go_enter Try.func77, Try.ntmps77
  go_wp2_with (first | ((with_reducible refine gate_dst (N := 1) rfl ?_); refine box_event ?hg (N := 1) ?hd (cs := #[.int .i64 a0_0, .int .i64 a0_1]) (t := 94) ?hr ?_; (case hd => rfl); (case hg => rfl); (case hr => first | (go_simp; done) | (go_simp; rfl)); intro gb1 hg w3 hbox hb; have n0_ := Aside0.mk (below_step (by repeat (first | (with_reducible first | exact HB.out | apply below_alloc | apply pw_below_drewN | apply below_drew1) | exact HB.out)) hb); have n1_ := Aside0.mk (hbox); have n2_ := Aside0.mk ((by rw [hg]; exact (below_size (by repeat (first | (with_reducible first | exact HB.out | apply below_alloc | apply pw_below_drewN | apply below_drew1) | exact HB.out))) : w.heap.size ≤ gb1)); have n3_ := Aside0.mk ((by rw [hg]; exact (below_size (by repeat (first | (with_reducible first | exact HB.out | apply below_alloc | apply pw_below_drewN | apply below_drew1) | exact HB.out))) : w.heap.size ≤ gb1)); clear HB; have HB := n0_; have BK1 := n1_; have GW1 := n2_; have GE1 := n3_; clear n0_ n1_ n2_ n3_; clear hb hbox hg; have hcz4_0 : w3.cell? ⟨gb1, 0, none⟩ = some (.int .i64 a0_0) := (blk_cell BK1.out 0).trans rfl; have hcz4_1 : w3.cell? ⟨gb1, 1, none⟩ = some (.int .i64 a0_1) := (blk_cell BK1.out 1).trans rfl; have hfz4_0 := blk_frozen BK1.out 0; have hfz4_1 := blk_frozen BK1.out 1) | ((with_reducible refine gate_callee (f := 83) rfl ?_); refine goesL_ (some 5) rfl rfl Try.func83 (by kernel_rfl) rfl #[.int .i64 a0_0, .int .i64 12] rfl (by (try simp only [List.map_toArray, List.map_cons, List.map_nil]); first | done | rfl | (simp only [List.length_drop, List.length_take]; rfl)) ?_; (with_reducible refine (headroomref01_Floor.calls k a0_0 12 t2 _ A2.out).mono ?_); rintro e w' ⟨rfl, ⟨nd, rfl⟩⟩; refine ⟨_, rfl, ?_⟩))
  go_ret
  exact ⟨by first | rfl | (simp [errW_none, errW_some] <;> rfl) | (simp [*, errW_none, errW_some] <;> rfl), by repeat (first | (with_reducible first | exact HB.out | apply below_alloc | apply pw_below_drewN | apply below_drew1 | refine below_set ?_ GE1.out) | exact HB.out)⟩

end Go.Proofs.Ytpmkkidljmedaaa.X
namespace Go.Proofs.Ytpmkkidljmedaaa.X
open Go.RowKit Go.Proofs.YtpmkkidljmedaaaW.PrintWords Go.Proofs.YtpmkkidljmedaaaW.PrintLast Go.Proofs.YtpmkkidljmedaaaW.PrintMore
attribute [local go_sem] max2_int min2_int max_two min_two max_three min_three max_four min_four   -- for this text's walks alone
set_option linter.unusedVariables false
set_option linter.unusedSimpArgs false

/-! ### headroomref16_Bin: function 39 -/
def headroomref16_Bin.l0 : Nat → List (S41) → Int → Bool → Int → List (S41) → Int → Int → Int → Int → Int → Int → Option (Int × Int)
  | 0, _, _, _, _, _, _, _, _, _, _, _ => none
  | k + 1, x1, x2, x3, x9, x19, x20, x21, x3000, x3001, x4000, x4001 => if x21 < x20 then (if 0 ≤ x21 then (if x21 < (x19.length : Int) then (if x9 = 0 then (none) else ((headroomref10_Root.f x1 (Int.tmod (wrap64 (x21 * x2)) x9) x3).bind fun bt8 => ((headroomref16_times.f k ((rd_T41 x19 x21).f0) bt8.1).bind fun bt11 => ((headroomref16_add.f k x3000 x3001 bt11.1 bt11.2).bind fun bt13 => ((headroomref16_times.f k ((rd_T41 x19 x21).f1) bt8.2).bind fun bt15 => ((headroomref16_less.f k bt13.1 bt13.2 bt15.1 bt15.2).bind fun bt17 => ((headroomref16_times.f k ((rd_T41 x19 x21).f0) bt8.2).bind fun bt19 => ((headroomref16_add.f k x4000 x4001 bt19.1 bt19.2).bind fun bt21 => ((headroomref16_times.f k ((rd_T41 x19 x21).f1) bt8.1).bind fun bt23 => ((headroomref16_add.f k bt21.1 bt21.2 bt23.1 bt23.2).bind fun bt25 => (headroomref16_Bin.l0 k x1 x2 x3 x9 x19 x20 (wrap64 (x21 + 1)) bt17.1 bt17.2 bt25.1 bt25.2))))))))))) else (none)) else (none)) else ((headroomref16_down.f k x3000 x3001).bind fun t4 => ((headroomref16_down.f k x4000 x4001).bind fun t5 => (some (t4, t5))))
def headroomref16_Bin.f (k : Nat) (l0 : List (S41)) (l1 : List (S41)) (a2 : Int) (a3 : Bool) : Option (Int × Int) := headroomref16_Bin.l0 k l1 a2 a3 (l0.length : Int) l0 (l0.length : Int) 0 0 0 0 0
theorem headroomref16_Bin.mono_l : ∀ k, (∀ y0 y1 y2 y3 y4 y5 y6 y7 y8 y9 y10, LeO (headroomref16_Bin.l0 k y0 y1 y2 y3 y4 y5 y6 y7 y8 y9 y10) (headroomref16_Bin.l0 (k + 1) y0 y1 y2 y3 y4 y5 y6 y7 y8 y9 y10))
  | 0 => fun _ _ _ _ _ _ _ _ _ _ _ r h => by simp [headroomref16_Bin.l0] at h
  | k + 1 => by
    have ih0 := headroomref16_Bin.mono_l k
    · intro y0 y1 y2 y3 y4 y5 y6 y7 y8 y9 y10
      unfold headroomref16_Bin.l0
      repeat' first
      | (with_reducible exact ih0 _ _ _ _ _ _ _ _ _ _ _)
      | (with_reducible exact headroomref16_add.mono _ _ _ _ _)
      | (with_reducible exact headroomref16_down.mono _ _ _)
      | (with_reducible exact headroomref16_less.mono _ _ _ _ _)
      | (with_reducible exact headroomref16_times.mono _ _ _)
      | (with_reducible exact LeO.refl _)
      | (with_reducible exact LeO.none _)
      | (with_reducible refine LeO.ite ?_ ?_)
      | (with_reducible refine LeO.bind ?_ (fun _ => ?_))
      | exact ih0 _ _ _ _ _ _ _ _ _ _ _
      | exact headroomref16_add.mono _ _ _ _ _
      | exact headroomref16_down.mono _ _ _
      | exact headroomref16_less.mono _ _ _ _ _
      | exact headroomref16_times.mono _ _ _
      | exact LeO.none _
      | refine LeO.ite ?_ ?_
      | refine LeO.bind ?_ (fun _ => ?_)
theorem headroomref16_Bin.mono : ∀ a0 a1 a2 a3 k, LeO (headroomref16_Bin.f k a0 a1 a2 a3) (headroomref16_Bin.f (k + 1) a0 a1 a2 a3) := by
  intro a0 a1 a2 a3 k
  have ih0 := headroomref16_Bin.mono_l k
  unfold headroomref16_Bin.f
  repeat' first
      | (with_reducible exact ih0 _ _ _ _ _ _ _ _ _ _ _)
      | (with_reducible exact headroomref16_add.mono _ _ _ _ _)
      | (with_reducible exact headroomref16_down.mono _ _ _)
      | (with_reducible exact headroomref16_less.mono _ _ _ _ _)
      | (with_reducible exact headroomref16_times.mono _ _ _)
      | (with_reducible exact LeO.refl _)
      | (with_reducible exact LeO.none _)
      | (with_reducible refine LeO.ite ?_ ?_)
      | (with_reducible refine LeO.bind ?_ (fun _ => ?_))
      | exact ih0 _ _ _ _ _ _ _ _ _ _ _
      | exact headroomref16_add.mono _ _ _ _ _
      | exact headroomref16_down.mono _ _ _
      | exact headroomref16_less.mono _ _ _ _ _
      | exact headroomref16_times.mono _ _ _
      | exact LeO.none _
      | refine LeO.ite ?_ ?_
      | refine LeO.bind ?_ (fun _ => ?_)
def headroomref16_Bin.T8 : Bool × List (List Nat × List Nat) := (true, [([], []), ([], []), ([1], [1]), ([], []), ([3], [3]), ([2, 4], [2, 4]), ([0, 5, 5], [0, 5]), ([], []), ([7], [7]), ([], []), ([9], [9]), ([8, 10, 6], [8, 10]), ([6, 11, 11], [6, 11]), ([12, 12, 0, 1, 2, 3, 4, 5, 6, 7, 8, 9, 10, 11, 12], [12])])
def headroomref16_Bin.B8 : List Nat := [0, 0, 2, 0, 8, 30, 63, 0, 128, 0, 512, 2047, 4095, 8191]
theorem headroomref16_Bin.tab8 : rtab .any (opsOf Try.f39 8) = headroomref16_Bin.T8 := by kernel_rfl
theorem headroomref16_Bin.bits8 : waitsOk headroomref16_Bin.T8.2 headroomref16_Bin.B8 = true := by kernel_rfl
def headroomref16_Bin.T9 : Bool × List (List Nat × List Nat) := (true, [([], []), ([], []), ([1], [1]), ([], []), ([3], [3]), ([2, 4], [2, 4]), ([0, 5, 5], [0, 5]), ([], []), ([7], [7]), ([], []), ([9], [9]), ([8, 10, 6], [8, 10]), ([6, 11, 11], [6, 11]), ([12, 12, 0, 1, 2, 3, 4, 5, 6, 7, 8, 9, 10, 11, 12], [12])])
def headroomref16_Bin.B9 : List Nat := [0, 0, 2, 0, 8, 30, 63, 0, 128, 0, 512, 2047, 4095, 8191]
theorem headroomref16_Bin.tab9 : rtab .any (opsOf Try.f39 9) = headroomref16_Bin.T9 := by kernel_rfl
theorem headroomref16_Bin.bits9 : waitsOk headroomref16_Bin.T9.2 headroomref16_Bin.B9 = true := by kernel_rfl
set_option maxHeartbeats 8000000 in
set_option maxRecDepth 100000 in
theorem headroomref16_Bin.calls (k : Nat) (A0 : Option Addr) (c0 : Nat) (l0 : List (S41)) (A1 : Option Addr) (c1 : Nat) (l1 : List (S41)) (a2 : Int) (a3 : Bool) (r1 : Int) (r2 : Int) (w : World) (hr0 : Kd.C k41 w A0 l0.length l0) (hc0 : l0.length ≤ c0) (hr1 : Kd.C k41 w A1 l1.length l1) (hc1 : l1.length ≤ c1) (h : headroomref16_Bin.f k l0 l1 a2 a3 = some (r1, r2)) :
    Calls Try.prog 39 #[.slice A0 l0.length c0, .slice A1 l1.length c1, .int .i64 a2, .bool a3] w fun e w' => e = .returned (.agg #[.int .i64 r1, .int .i64 r2]) ∧ Below w.heap.size w w' := by
  have hu41 := Try.underlying41
  have hu94 := Try.underlying94
  have HR0 := Aside0.mk hr0
  have HC0 := Aside0.mk hc0
  clear hr0 hc0
  have HR1 := Aside0.mk hr1
  have HC1 := Aside0.mk hc1
  clear hr1 hc1
  have HB := Aside0.mk (Below.refl w.heap.size w)
  have H : (headroomref16_Bin.l0 k l1 a2 a3 (l0.length : Int) l0 (l0.length : Int) 0 0 0 0 0) = some (r1, r2) := h
  clear h
  have H' := Aside0.mk H
  clear H
  go_enter Try.func39, Try.ntmps39
  go_wp2_with (first | ((with_reducible refine gate_dst (N := 8) rfl ?_); refine box_event ?hg (N := 8) ?hd (cs := #[.int .i64 0, .int .i64 0]) (t := 41) ?hr ?_; (case hd => rfl); (case hg => rfl); (case hr => first | (go_simp; done) | (go_simp; rfl)); intro gb1 hg w5 hbox hb; have n0_ := Aside0.mk (below_step (by repeat (first | (with_reducible first | exact HB.out | apply below_alloc | apply pw_below_drewN | apply below_drew1) | exact HB.out)) hb); have n1_ := Aside0.mk (hbox); have n2_ := Aside0.mk ((by rw [hg]; exact (below_size (by repeat (first | (with_reducible first | exact HB.out | apply below_alloc | apply pw_below_drewN | apply below_drew1) | exact HB.out))) : w.heap.size ≤ gb1)); have n3_ := Aside0.mk ((by rw [hg]; exact (below_size (by repeat (first | (with_reducible first | exact HB.out | apply below_alloc | apply pw_below_drewN | apply below_drew1) | exact HB.out))) : w.heap.size ≤ gb1)); clear HB; have HB := n0_; have BK1 := n1_; have GW1 := n2_; have GE1 := n3_; clear n0_ n1_ n2_ n3_; clear hb hbox hg) | ((with_reducible refine gate_dst (N := 10) rfl ?_); refine box_event ?hg (N := 10) ?hd (cs := #[.int .i64 0, .int .i64 0]) (t := 94) ?hr ?_; (case hd => rfl); (case hg => rfl); (case hr => first | (go_simp; done) | (go_simp; rfl)); intro gb2 hg w6 hbox hb; have n0_ := Aside0.mk (blk_below (g := gb1) (o := .cells #[.int .i64 0, .int .i64 0] 41 (0, 0)) (by (with_reducible repeat (first | refine blk_drewN ?_ _ | refine blk_drew ?_ | refine blk_alloc ?_ _)); exact BK1.out) hb); have n1_ := Aside0.mk (below_step (by repeat (first | (with_reducible first | exact HB.out | apply below_alloc | apply pw_below_drewN | apply below_drew1 | refine below_set ?_ GE1.out) | exact HB.out)) hb); have n2_ := Aside0.mk (hbox); have n3_ := Aside0.mk ((by rw [hg]; exact (below_size (by repeat (first | (with_reducible first | exact HB.out | apply below_alloc | apply pw_below_drewN | apply below_drew1 | refine below_set ?_ GE1.out) | exact HB.out))) : w.heap.size ≤ gb2)); have n4_ := Aside0.mk ((by rw [hg]; exact (below_size (by repeat (first | (with_reducible first | exact HB.out | apply below_alloc | apply pw_below_drewN | apply below_drew1 | refine below_set ?_ GE1.out) | exact HB.out))) : w.heap.size ≤ gb2)); have n5_ := Aside0.mk ((by rw [hg]; exact Nat.ne_of_lt (blk_lt (g := gb1) (o := .cells #[.int .i64 0, .int .i64 0] 41 (0, 0)) (by (with_reducible repeat (first | refine blk_drewN ?_ _ | refine blk_drew ?_ | refine blk_alloc ?_ _)); exact BK1.out)) : gb1 ≠ gb2)); have n6_ := Aside0.mk ((by rw [hg]; exact Nat.ne_of_gt (blk_lt (g := gb1) (o := .cells #[.int .i64 0, .int .i64 0] 41 (0, 0)) (by (with_reducible repeat (first | refine blk_drewN ?_ _ | refine blk_drew ?_ | refine blk_alloc ?_ _)); exact BK1.out)) : gb2 ≠ gb1)); clear BK1; clear HB; have BK1 := n0_; have HB := n1_; have BK2 := n2_; have GW2 := n3_; have GE2 := n4_; have NB1_2 := n5_; have NB2_1 := n6_; clear n0_ n1_ n2_ n3_ n4_ n5_ n6_; clear hb hbox hg; have hnb7 := NB2_1.out; have hnc7 := NB1_2.out; have hcz8_0 : w6.cell? ⟨gb2, 0, none⟩ = some (.int .i64 0) := (blk_cell BK2.out 0).trans rfl; have hcz8_1 : w6.cell? ⟨gb2, 1, none⟩ = some (.int .i64 0) := (blk_cell BK2.out 1).trans rfl; have hfz8_0 := blk_frozen BK2.out 0; have hfz8_1 := blk_frozen BK2.out 1) | ((with_reducible refine gate_dst (N := 11) rfl ?_); refine box_event ?hg (N := 11) ?hd (cs := #[.int .i64 0, .int .i64 0]) (t := 94) ?hr ?_; (case hd => rfl); (case hg => rfl); (case hr => first | (go_simp; done) | (go_simp; rfl)); intro gb3 hg w9 hbox hb; have n0_ := Aside0.mk (blk_below (g := gb1) (o := .cells #[.int .i64 0, .int .i64 0] 41 (0, 0)) (by (with_reducible repeat (first | refine blk_drewN ?_ _ | refine blk_drew ?_ | refine blk_alloc ?_ _)); refine blk_far ?_ NB1_2.out _; (with_reducible repeat (first | refine blk_drewN ?_ _ | refine blk_drew ?_ | refine blk_alloc ?_ _)); refine blk_far ?_ NB1_2.out _; (with_reducible repeat (first | refine blk_drewN ?_ _ | refine blk_drew ?_ | refine blk_alloc ?_ _)); exact BK1.out) hb); have n1_ := Aside0.mk (blk_below (g := gb2) (o := .cells #[.int .i64 0, .int .i64 0] 94 (0, 0)) (by (with_reducible repeat (first | refine blk_drewN ?_ _ | refine blk_drew ?_ | refine blk_alloc ?_ _)); refine blk_put (cs := #[.int .i64 0, .int .i64 0]) ?_ 1 _ rfl; (with_reducible repeat (first | refine blk_drewN ?_ _ | refine blk_drew ?_ | refine blk_alloc ?_ _)); refine blk_put (cs := #[.int .i64 0, .int .i64 0]) ?_ 0 _ rfl; (with_reducible repeat (first | refine blk_drewN ?_ _ | refine blk_drew ?_ | refine blk_alloc ?_ _)); exact BK2.out) hb); have n2_ := Aside0.mk (below_step (by repeat (first | (with_reducible first | exact HB.out | apply below_alloc | apply pw_below_drewN | apply below_drew1 | refine below_set ?_ GE1.out | refine below_set ?_ GE2.out) | exact HB.out)) hb); have n3_ := Aside0.mk (hbox); have n4_ := Aside0.mk ((by rw [hg]; exact (below_size (by repeat (first | (with_reducible first | exact HB.out | apply below_alloc | apply pw_below_drewN | apply below_drew1 | refine below_set ?_ GE1.out | refine below_set ?_ GE2.out) | exact HB.out))) : w.heap.size ≤ gb3)); have n5_ := Aside0.mk ((by rw [hg]; exact (below_size (by repeat (first | (with_reducible first | exact HB.out | apply below_alloc | apply pw_below_drewN | apply below_drew1 | refine below_set ?_ GE1.out | refine below_set ?_ GE2.out) | exact HB.out))) : w.heap.size ≤ gb3)); have n6_ := Aside0.mk ((by rw [hg]; exact Nat.ne_of_lt (blk_lt (g := gb1) (o := .cells #[.int .i64 0, .int .i64 0] 41 (0, 0)) (by (with_reducible repeat (first | refine blk_drewN ?_ _ | refine blk_drew ?_ | refine blk_alloc ?_ _)); refine blk_far ?_ NB1_2.out _; (with_reducible repeat (first | refine blk_drewN ?_ _ | refine blk_drew ?_ | refine blk_alloc ?_ _)); refine blk_far ?_ NB1_2.out _; (with_reducible repeat (first | refine blk_drewN ?_ _ | refine blk_drew ?_ | refine blk_alloc ?_ _)); exact BK1.out)) : gb1 ≠ gb3)); have n7_ := Aside0.mk ((by rw [hg]; exact Nat.ne_of_gt (blk_lt (g := gb1) (o := .cells #[.int .i64 0, .int .i64 0] 41 (0, 0)) (by (with_reducible repeat (first | refine blk_drewN ?_ _ | refine blk_drew ?_ | refine blk_alloc ?_ _)); refine blk_far ?_ NB1_2.out _; (with_reducible repeat (first | refine blk_drewN ?_ _ | refine blk_drew ?_ | refine blk_alloc ?_ _)); refine blk_far ?_ NB1_2.out _; (with_reducible repeat (first | refine blk_drewN ?_ _ | refine blk_drew ?_ | refine blk_alloc ?_ _)); exact BK1.out)) : gb3 ≠ gb1)); have n8_ := Aside0.mk ((by rw [hg]; exact Nat.ne_of_lt (blk_lt (g := gb2) (o := .cells #[.int .i64 0, .int .i64 0] 94 (0, 0)) (by (with_reducible repeat (first | refine blk_drewN ?_ _ | refine blk_drew ?_ | refine blk_alloc ?_ _)); refine blk_put (cs := #[.int .i64 0, .int .i64 0]) ?_ 1 _ rfl; (with_reducible repeat (first | refine blk_drewN ?_ _ | refine blk_drew ?_ | refine blk_alloc ?_ _)); refine blk_put (cs := #[.int .i64 0, .int .i64 0]) ?_ 0 _ rfl; (with_reducible repeat (first | refine blk_drewN ?_ _ | refine blk_drew ?_ | refine blk_alloc ?_ _)); exact BK2.out)) : gb2 ≠ gb3)); have n9_ := Aside0.mk ((by rw [hg]; exact Nat.ne_of_gt (blk_lt (g := gb2) (o := .cells #[.int .i64 0, .int .i64 0] 94 (0, 0)) (by (with_reducible repeat (first | refine blk_drewN ?_ _ | refine blk_drew ?_ | refine blk_alloc ?_ _)); refine blk_put (cs := #[.int .i64 0, .int .i64 0]) ?_ 1 _ rfl; (with_reducible repeat (first | refine blk_drewN ?_ _ | refine blk_drew ?_ | refine blk_alloc ?_ _)); refine blk_put (cs := #[.int .i64 0, .int .i64 0]) ?_ 0 _ rfl; (with_reducible repeat (first | refine blk_drewN ?_ _ | refine blk_drew ?_ | refine blk_alloc ?_ _)); exact BK2.out)) : gb3 ≠ gb2)); clear BK1; clear BK2; clear HB; have BK1 := n0_; have BK2 := n1_; have HB := n2_; have BK3 := n3_; have GW3 := n4_; have GE3 := n5_; have NB1_3 := n6_; have NB3_1 := n7_; have NB2_3 := n8_; have NB3_2 := n9_; clear n0_ n1_ n2_ n3_ n4_ n5_ n6_ n7_ n8_ n9_; clear hb hbox hg; have hnb10 := NB3_1.out; have hnc10 := NB1_3.out; have hnb11 := NB3_2.out; have hnc11 := NB2_3.out; have hcz12_0 : w9.cell? ⟨gb3, 0, none⟩ = some (.int .i64 0) := (blk_cell BK3.out 0).trans rfl; have hcz12_1 : w9.cell? ⟨gb3, 1, none⟩ = some (.int .i64 0) := (blk_cell BK3.out 1).trans rfl; have hfz12_0 := blk_frozen BK3.out 0; have hfz12_1 := blk_frozen BK3.out 1))
  go_loopg [21] k (fun kq v21 w' => ∃ (x21_1 : Int) (x3000_1 : Int) (x3001_1 : Int) (x4000_1 : Int) (x4001_1 : Int), v21 = .int .i64 x21_1 ∧ Aside0 (headroomref16_Bin.l0 kq l1 a2 a3 (l0.length : Int) l0 (l0.length : Int) x21_1 x3000_1 x3001_1 x4000_1 x4001_1 = some (r1, r2)) ∧ Aside0 (kq ≤ k) ∧ Aside0 (w'.heap[gb1]? = some (.cells #[.int .i64 0, .int .i64 0] 41 (0, 0))) ∧ Aside0 (w'.heap[gb2]? = some (.cells #[.int .i64 x3000_1, .int .i64 x3001_1] 94 (0, 0))) ∧ Aside0 (w'.heap[gb3]? = some (.cells #[.int .i64 x4000_1, .int .i64 x4001_1] 94 (0, 0))) ∧ Aside0 (Below w.heap.size w w'))
  case atStart => exact ⟨(0), (0), (0), (0), (0), (by first | rfl | (simp; done) | (simp [*]; done)), H', ⟨Nat.le_refl _⟩, ⟨by (with_reducible repeat (first | refine blk_drewN ?_ _ | refine blk_drew ?_ | refine blk_alloc ?_ _)); refine blk_far ?_ NB1_3.out _; (with_reducible repeat (first | refine blk_drewN ?_ _ | refine blk_drew ?_ | refine blk_alloc ?_ _)); refine blk_far ?_ NB1_3.out _; (with_reducible repeat (first | refine blk_drewN ?_ _ | refine blk_drew ?_ | refine blk_alloc ?_ _)); exact BK1.out⟩, ⟨by (with_reducible repeat (first | refine blk_drewN ?_ _ | refine blk_drew ?_ | refine blk_alloc ?_ _)); refine blk_far ?_ NB2_3.out _; (with_reducible repeat (first | refine blk_drewN ?_ _ | refine blk_drew ?_ | refine blk_alloc ?_ _)); refine blk_far ?_ NB2_3.out _; (with_reducible repeat (first | refine blk_drewN ?_ _ | refine blk_drew ?_ | refine blk_alloc ?_ _)); exact BK2.out⟩, ⟨by (with_reducible repeat (first | refine blk_drewN ?_ _ | refine blk_drew ?_ | refine blk_alloc ?_ _)); refine blk_put (cs := #[.int .i64 0, .int .i64 0]) ?_ 1 _ rfl; (with_reducible repeat (first | refine blk_drewN ?_ _ | refine blk_drew ?_ | refine blk_alloc ?_ _)); refine blk_put (cs := #[.int .i64 0, .int .i64 0]) ?_ 0 _ rfl; (with_reducible repeat (first | refine blk_drewN ?_ _ | refine blk_drew ?_ | refine blk_alloc ?_ _)); exact BK3.out⟩, ⟨by repeat (first | (with_reducible first | exact HB.out | apply below_alloc | apply pw_below_drewN | apply below_drew1 | refine below_set ?_ GE1.out | refine below_set ?_ GE2.out | refine below_set ?_ GE3.out) | exact HB.out)⟩⟩
  case round =>
    clear H'
    try clear c1
    try clear p2
    try clear c3
    try clear c7
    try clear c10
    try clear c11
    try clear hcz12_0
    try clear hcz12_1
    try clear hcz8_0
    try clear hcz8_1
    try clear hfz12_0
    try clear hfz12_1
    try clear hfz8_0
    try clear hfz8_1
    obtain ⟨x21_1, x3000_1, x3001_1, x4000_1, x4001_1, rfl, HA, HK1, BK1, BK2, BK3, HB⟩ := hrel
    cases gk with
    | zero => exact absurd HA.out (by simp [headroomref16_Bin.l0])
    | succ k1 =>
      have H := HA.out
      clear HA
      simp only [headroomref16_Bin.l0] at H
      by_cases c13 : x21_1 < (l0.length : Int)
      · rw [if_pos c13] at H
        have c13b0 : decide (x21_1 < (l0.length : Int)) = true := decide_eq_true c13
        clear c13
        by_cases c14 : 0 ≤ x21_1
        · rw [if_pos c14] at H
          have c14b0 : decide (0 ≤ x21_1) = true := decide_eq_true c14
          clear c14
          by_cases c15 : x21_1 < (l0.length : Int)
          · rw [if_pos c15] at H
            have c15b0 : decide (x21_1 < (l0.length : Int)) = true := decide_eq_true c15
            clear c15
            by_cases c16 : (l0.length : Int) = 0
            · rw [if_pos c16] at H
              exact absurd H (by simp)
            · rw [if_neg c16] at H
              have c16b0 : ((l0.length : Int) == 0) = false := beq_eq_false_iff_ne.mpr c16
              have c16b1 : ((l0.length : Int) != 0) = true := bne_iff_ne.mpr c16
              have c16b2 : ¬ (l0 = []) := fun h_ => c16 (by rw [h_]; rfl)
              replace H := Option.bind_eq_some_iff.mp H
              obtain ⟨⟨t8, t9⟩, A170, H⟩ := H
              replace H : ((headroomref16_times.f k1 ((rd_T41 l0 x21_1).f0) t8).bind fun bt11 => ((headroomref16_add.f k1 x3000_1 x3001_1 bt11.1 bt11.2).bind fun bt13 => ((headroomref16_times.f k1 ((rd_T41 l0 x21_1).f1) t9).bind fun bt15 => ((headroomref16_less.f k1 bt13.1 bt13.2 bt15.1 bt15.2).bind fun bt17 => ((headroomref16_times.f k1 ((rd_T41 l0 x21_1).f0) t9).bind fun bt19 => ((headroomref16_add.f k1 x4000_1 x4001_1 bt19.1 bt19.2).bind fun bt21 => ((headroomref16_times.f k1 ((rd_T41 l0 x21_1).f1) t8).bind fun bt23 => ((headroomref16_add.f k1 bt21.1 bt21.2 bt23.1 bt23.2).bind fun bt25 => (headroomref16_Bin.l0 k1 l1 a2 a3 (l0.length : Int) l0 (l0.length : Int) (wrap64 (x21_1 + 1)) bt17.1 bt17.2 bt25.1 bt25.2))))))))) = some (r1, r2) := H
              have A17 := Aside0.mk A170
              clear A170
              replace H := Option.bind_eq_some_iff.mp H
              obtain ⟨⟨t11, t12⟩, A180, H⟩ := H
              replace H : ((headroomref16_add.f k1 x3000_1 x3001_1 t11 t12).bind fun bt13 => ((headroomref16_times.f k1 ((rd_T41 l0 x21_1).f1) t9).bind fun bt15 => ((headroomref16_less.f k1 bt13.1 bt13.2 bt15.1 bt15.2).bind fun bt17 => ((headroomref16_times.f k1 ((rd_T41 l0 x21_1).f0) t9).bind fun bt19 => ((headroomref16_add.f k1 x4000_1 x4001_1 bt19.1 bt19.2).bind fun bt21 => ((headroomref16_times.f k1 ((rd_T41 l0 x21_1).f1) t8).bind fun bt23 => ((headroomref16_add.f k1 bt21.1 bt21.2 bt23.1 bt23.2).bind fun bt25 => (headroomref16_Bin.l0 k1 l1 a2 a3 (l0.length : Int) l0 (l0.length : Int) (wrap64 (x21_1 + 1)) bt17.1 bt17.2 bt25.1 bt25.2)))))))) = some (r1, r2) := H
              have A18 := Aside0.mk A180
              clear A180
              replace H := Option.bind_eq_some_iff.mp H
              obtain ⟨⟨t13, t14⟩, A190, H⟩ := H
              replace H : ((headroomref16_times.f k1 ((rd_T41 l0 x21_1).f1) t9).bind fun bt15 => ((headroomref16_less.f k1 t13 t14 bt15.1 bt15.2).bind fun bt17 => ((headroomref16_times.f k1 ((rd_T41 l0 x21_1).f0) t9).bind fun bt19 => ((headroomref16_add.f k1 x4000_1 x4001_1 bt19.1 bt19.2).bind fun bt21 => ((headroomref16_times.f k1 ((rd_T41 l0 x21_1).f1) t8).bind fun bt23 => ((headroomref16_add.f k1 bt21.1 bt21.2 bt23.1 bt23.2).bind fun bt25 => (headroomref16_Bin.l0 k1 l1 a2 a3 (l0.length : Int) l0 (l0.length : Int) (wrap64 (x21_1 + 1)) bt17.1 bt17.2 bt25.1 bt25.2))))))) = some (r1, r2) := H
              have A19 := Aside0.mk A190
              clear A190
              replace H := Option.bind_eq_some_iff.mp H
              obtain ⟨⟨t15, t16⟩, A200, H⟩ := H
              replace H : ((headroomref16_less.f k1 t13 t14 t15 t16).bind fun bt17 => ((headroomref16_times.f k1 ((rd_T41 l0 x21_1).f0) t9).bind fun bt19 => ((headroomref16_add.f k1 x4000_1 x4001_1 bt19.1 bt19.2).bind fun bt21 => ((headroomref16_times.f k1 ((rd_T41 l0 x21_1).f1) t8).bind fun bt23 => ((headroomref16_add.f k1 bt21.1 bt21.2 bt23.1 bt23.2).bind fun bt25 => (headroomref16_Bin.l0 k1 l1 a2 a3 (l0.length : Int) l0 (l0.length : Int) (wrap64 (x21_1 + 1)) bt17.1 bt17.2 bt25.1 bt25.2)))))) = some (r1, r2) := H
              have A20 := Aside0.mk A200
              clear A200
              replace H := Option.bind_eq_some_iff.mp H
              obtain ⟨⟨t17, t18⟩, A210, H⟩ := H
              replace H : ((headroomref16_times.f k1 ((rd_T41 l0 x21_1).f0) t9).bind fun bt19 => ((headroomref16_add.f k1 x4000_1 x4001_1 bt19.1 bt19.2).bind fun bt21 => ((headroomref16_times.f k1 ((rd_T41 l0 x21_1).f1) t8).bind fun bt23 => ((headroomref16_add.f k1 bt21.1 bt21.2 bt23.1 bt23.2).bind fun bt25 => (headroomref16_Bin.l0 k1 l1 a2 a3 (l0.length : Int) l0 (l0.length : Int) (wrap64 (x21_1 + 1)) t17 t18 bt25.1 bt25.2))))) = some (r1, r2) := H
              have A21 := Aside0.mk A210
              clear A210
              replace H := Option.bind_eq_some_iff.mp H
              obtain ⟨⟨t19, t20⟩, A220, H⟩ := H
              replace H : ((headroomref16_add.f k1 x4000_1 x4001_1 t19 t20).bind fun bt21 => ((headroomref16_times.f k1 ((rd_T41 l0 x21_1).f1) t8).bind fun bt23 => ((headroomref16_add.f k1 bt21.1 bt21.2 bt23.1 bt23.2).bind fun bt25 => (headroomref16_Bin.l0 k1 l1 a2 a3 (l0.length : Int) l0 (l0.length : Int) (wrap64 (x21_1 + 1)) t17 t18 bt25.1 bt25.2)))) = some (r1, r2) := H
              have A22 := Aside0.mk A220
              clear A220
              replace H := Option.bind_eq_some_iff.mp H
              obtain ⟨⟨t21, t22⟩, A230, H⟩ := H
              replace H : ((headroomref16_times.f k1 ((rd_T41 l0 x21_1).f1) t8).bind fun bt23 => ((headroomref16_add.f k1 t21 t22 bt23.1 bt23.2).bind fun bt25 => (headroomref16_Bin.l0 k1 l1 a2 a3 (l0.length : Int) l0 (l0.length : Int) (wrap64 (x21_1 + 1)) t17 t18 bt25.1 bt25.2))) = some (r1, r2) := H
              have A23 := Aside0.mk A230
              clear A230
              replace H := Option.bind_eq_some_iff.mp H
              obtain ⟨⟨t23, t24⟩, A240, H⟩ := H
              replace H : ((headroomref16_add.f k1 t21 t22 t23 t24).bind fun bt25 => (headroomref16_Bin.l0 k1 l1 a2 a3 (l0.length : Int) l0 (l0.length : Int) (wrap64 (x21_1 + 1)) t17 t18 bt25.1 bt25.2)) = some (r1, r2) := H
              have A24 := Aside0.mk A240
              clear A240
              replace H := Option.bind_eq_some_iff.mp H
              obtain ⟨⟨t25, t26⟩, A250, H⟩ := H
              replace H : (headroomref16_Bin.l0 k1 l1 a2 a3 (l0.length : Int) l0 (l0.length : Int) (wrap64 (x21_1 + 1)) t17 t18 t25 t26) = some (r1, r2) := H
              have A25 := Aside0.mk A250
              clear A250
              have H' := Aside0.mk H
              clear H
              have p6 : 0 ≤ (x21_1 : Int) := of_decide_eq_true (by first | (with_reducible assumption) | assumption)
              have q6 : x21_1 < (l0.length : Int) := of_decide_eq_true (by first | (with_reducible assumption) | assumption)
              obtain ⟨ad6, e6, hx6_0, hx6_1⟩ := at_T41 HR0.out x21_1 p6 q6
              cases e6
              replace hx6_0 := (HB.out.cell (World.block_lt_of_cell? w _ hx6_0)).trans hx6_0
              replace hx6_1 := (HB.out.cell (World.block_lt_of_cell? w _ hx6_1)).trans hx6_1
              replace p6 := eq_true p6
              replace q6 := eq_true q6
              try go_wp2_with (first | ((with_reducible refine gate_dst (N := 13) rfl ?_); refine box_event ?hg (N := 13) ?hd (cs := #[.int .i64 0, .int .i64 0]) (t := 41) ?hr ?_; (case hd => rfl); (case hg => rfl); (case hr => first | (go_simp; done) | (go_simp; rfl)); intro gb7 hg w26 hbox hb; have n0_ := Aside0.mk (blk_below (g := gb1) (o := .cells #[.int .i64 0, .int .i64 0] 41 (0, 0)) (by (with_reducible repeat (first | refine blk_drewN ?_ _ | refine blk_drew ?_ | refine blk_alloc ?_ _)); exact BK1.out) hb); have n1_ := Aside0.mk (blk_below (g := gb2) (o := .cells #[.int .i64 x3000_1, .int .i64 x3001_1] 94 (0, 0)) (by (with_reducible repeat (first | refine blk_drewN ?_ _ | refine blk_drew ?_ | refine blk_alloc ?_ _)); exact BK2.out) hb); have n2_ := Aside0.mk (blk_below (g := gb3) (o := .cells #[.int .i64 x4000_1, .int .i64 x4001_1] 94 (0, 0)) (by (with_reducible repeat (first | refine blk_drewN ?_ _ | refine blk_drew ?_ | refine blk_alloc ?_ _)); exact BK3.out) hb); have n3_ := Aside0.mk (below_step (by repeat (first | (with_reducible first | exact HB.out | apply below_alloc | apply pw_below_drewN | apply below_drew1 | refine below_set ?_ GE1.out | refine below_set ?_ GE2.out | refine below_set ?_ GE3.out) | exact HB.out)) hb); have n4_ := Aside0.mk (hbox); have n5_ := Aside0.mk ((by rw [hg]; exact (below_size (by repeat (first | (with_reducible first | exact HB.out | apply below_alloc | apply pw_below_drewN | apply below_drew1 | refine below_set ?_ GE1.out | refine below_set ?_ GE2.out | refine below_set ?_ GE3.out) | exact HB.out))) : w.heap.size ≤ gb7)); have n6_ := Aside0.mk ((by rw [hg]; exact (below_size (by repeat (first | (with_reducible first | exact HB.out | apply below_alloc | apply pw_below_drewN | apply below_drew1 | refine below_set ?_ GE1.out | refine below_set ?_ GE2.out | refine below_set ?_ GE3.out) | exact HB.out))) : w.heap.size ≤ gb7)); have n7_ := Aside0.mk ((by rw [hg]; exact Nat.ne_of_lt (blk_lt (g := gb1) (o := .cells #[.int .i64 0, .int .i64 0] 41 (0, 0)) (by (with_reducible repeat (first | refine blk_drewN ?_ _ | refine blk_drew ?_ | refine blk_alloc ?_ _)); exact BK1.out)) : gb1 ≠ gb7)); have n8_ := Aside0.mk ((by rw [hg]; exact Nat.ne_of_gt (blk_lt (g := gb1) (o := .cells #[.int .i64 0, .int .i64 0] 41 (0, 0)) (by (with_reducible repeat (first | refine blk_drewN ?_ _ | refine blk_drew ?_ | refine blk_alloc ?_ _)); exact BK1.out)) : gb7 ≠ gb1)); have n9_ := Aside0.mk ((by rw [hg]; exact Nat.ne_of_lt (blk_lt (g := gb2) (o := .cells #[.int .i64 x3000_1, .int .i64 x3001_1] 94 (0, 0)) (by (with_reducible repeat (first | refine blk_drewN ?_ _ | refine blk_drew ?_ | refine blk_alloc ?_ _)); exact BK2.out)) : gb2 ≠ gb7)); have n10_ := Aside0.mk ((by rw [hg]; exact Nat.ne_of_gt (blk_lt (g := gb2) (o := .cells #[.int .i64 x3000_1, .int .i64 x3001_1] 94 (0, 0)) (by (with_reducible repeat (first | refine blk_drewN ?_ _ | refine blk_drew ?_ | refine blk_alloc ?_ _)); exact BK2.out)) : gb7 ≠ gb2)); have n11_ := Aside0.mk ((by rw [hg]; exact Nat.ne_of_lt (blk_lt (g := gb3) (o := .cells #[.int .i64 x4000_1, .int .i64 x4001_1] 94 (0, 0)) (by (with_reducible repeat (first | refine blk_drewN ?_ _ | refine blk_drew ?_ | refine blk_alloc ?_ _)); exact BK3.out)) : gb3 ≠ gb7)); have n12_ := Aside0.mk ((by rw [hg]; exact Nat.ne_of_gt (blk_lt (g := gb3) (o := .cells #[.int .i64 x4000_1, .int .i64 x4001_1] 94 (0, 0)) (by (with_reducible repeat (first | refine blk_drewN ?_ _ | refine blk_drew ?_ | refine blk_alloc ?_ _)); exact BK3.out)) : gb7 ≠ gb3)); clear BK1; clear BK2; clear BK3; clear HB; have BK1 := n0_; have BK2 := n1_; have BK3 := n2_; have HB := n3_; have BK7 := n4_; have GW7 := n5_; have GE7 := n6_; have NB1_7 := n7_; have NB7_1 := n8_; have NB2_7 := n9_; have NB7_2 := n10_; have NB3_7 := n11_; have NB7_3 := n12_; clear n0_ n1_ n2_ n3_ n4_ n5_ n6_ n7_ n8_ n9_ n10_ n11_ n12_; clear hb hbox hg; have hnb27 := NB7_1.out; have hnc27 := NB1_7.out; have hnb28 := NB7_2.out; have hnc28 := NB2_7.out; have hnb29 := NB7_3.out; have hnc29 := NB3_7.out; have hcz30_0 : w26.cell? ⟨gb7, 0, none⟩ = some (.int .i64 0) := (blk_cell BK7.out 0).trans rfl; have hcz30_1 : w26.cell? ⟨gb7, 1, none⟩ = some (.int .i64 0) := (blk_cell BK7.out 1).trans rfl; have hfz30_0 := blk_frozen BK7.out 0; have hfz30_1 := blk_frozen BK7.out 1) | ((with_reducible refine gate_callee (f := 63) rfl ?_); refine goesL_ (some 33) rfl rfl Try.func63 (by kernel_rfl) rfl #[.slice A1 l1.length c1, .int .i64 (Int.tmod (wrap64 (x21_1 * a2)) (l0.length : Int)), .bool a3] rfl (by (try simp only [List.map_toArray, List.map_cons, List.map_nil]); first | done | rfl | (simp only [List.length_drop, List.length_take]; rfl)) ?_; (with_reducible refine (headroomref10_Root.calls _ _ l1 (Int.tmod (wrap64 (x21_1 * a2)) (l0.length : Int)) a3 t8 t9 _ ?side1 ?side2 A17.out).mono ?_); (case side1 => exact Kd.C_below HR1.out (by repeat (first | (with_reducible first | exact HB.out | apply below_alloc | apply pw_below_drewN | apply below_drew1 | refine below_set ?_ GE1.out | refine below_set ?_ GE2.out | refine below_set ?_ GE3.out | refine below_set ?_ GE7.out) | exact HB.out))); (case side2 => exact HC1.out); rintro e w31 ⟨rfl, hb⟩; refine ⟨_, rfl, ?_⟩; have n0_ := Aside0.mk (blk_below (g := gb1) (o := .cells #[.int .i64 0, .int .i64 0] 41 (0, 0)) (by (with_reducible repeat (first | refine blk_drewN ?_ _ | refine blk_drew ?_ | refine blk_alloc ?_ _)); refine blk_far ?_ NB1_7.out _; (with_reducible repeat (first | refine blk_drewN ?_ _ | refine blk_drew ?_ | refine blk_alloc ?_ _)); refine blk_far ?_ NB1_7.out _; (with_reducible repeat (first | refine blk_drewN ?_ _ | refine blk_drew ?_ | refine blk_alloc ?_ _)); exact BK1.out) hb); have n1_ := Aside0.mk (blk_below (g := gb2) (o := .cells #[.int .i64 x3000_1, .int .i64 x3001_1] 94 (0, 0)) (by (with_reducible repeat (first | refine blk_drewN ?_ _ | refine blk_drew ?_ | refine blk_alloc ?_ _)); refine blk_far ?_ NB2_7.out _; (with_reducible repeat (first | refine blk_drewN ?_ _ | refine blk_drew ?_ | refine blk_alloc ?_ _)); refine blk_far ?_ NB2_7.out _; (with_reducible repeat (first | refine blk_drewN ?_ _ | refine blk_drew ?_ | refine blk_alloc ?_ _)); exact BK2.out) hb); have n2_ := Aside0.mk (blk_below (g := gb3) (o := .cells #[.int .i64 x4000_1, .int .i64 x4001_1] 94 (0, 0)) (by (with_reducible repeat (first | refine blk_drewN ?_ _ | refine blk_drew ?_ | refine blk_alloc ?_ _)); refine blk_far ?_ NB3_7.out _; (with_reducible repeat (first | refine blk_drewN ?_ _ | refine blk_drew ?_ | refine blk_alloc ?_ _)); refine blk_far ?_ NB3_7.out _; (with_reducible repeat (first | refine blk_drewN ?_ _ | refine blk_drew ?_ | refine blk_alloc ?_ _)); exact BK3.out) hb); have n3_ := Aside0.mk (blk_below (g := gb7) (o := .cells #[.int .i64 ((rd_T41 l0 x21_1).f0), .int .i64 ((rd_T41 l0 x21_1).f1)] 41 (0, 0)) (by (with_reducible repeat (first | refine blk_drewN ?_ _ | refine blk_drew ?_ | refine blk_alloc ?_ _)); refine blk_put (cs := #[.int .i64 ((rd_T41 l0 x21_1).f0), .int .i64 0]) ?_ 1 _ rfl; (with_reducible repeat (first | refine blk_drewN ?_ _ | refine blk_drew ?_ | refine blk_alloc ?_ _)); refine blk_put (cs := #[.int .i64 0, .int .i64 0]) ?_ 0 _ rfl; (with_reducible repeat (first | refine blk_drewN ?_ _ | refine blk_drew ?_ | refine blk_alloc ?_ _)); exact BK7.out) hb); have n4_ := Aside0.mk (below_step (by repeat (first | (with_reducible first | exact HB.out | apply below_alloc | apply pw_below_drewN | apply below_drew1 | refine below_set ?_ GE1.out | refine below_set ?_ GE2.out | refine below_set ?_ GE3.out | refine below_set ?_ GE7.out) | exact HB.out)) hb); clear BK1; clear BK2; clear BK3; clear BK7; clear HB; have BK1 := n0_; have BK2 := n1_; have BK3 := n2_; have BK7 := n3_; have HB := n4_; clear n0_ n1_ n2_ n3_ n4_; (try clear hb); (try clear hb2); (try clear hk); (try clear hi)) | ((with_reducible refine gate_dst (N := 14) rfl ?_); refine box_event ?hg (N := 14) ?hd (cs := #[.int .i64 0, .int .i64 0]) (t := 41) ?hr ?_; (case hd => rfl); (case hg => rfl); (case hr => first | (go_simp; done) | (go_simp; rfl)); intro gb10 hg w32 hbox hb; have n0_ := Aside0.mk (blk_below (g := gb1) (o := .cells #[.int .i64 0, .int .i64 0] 41 (0, 0)) (by (with_reducible repeat (first | refine blk_drewN ?_ _ | refine blk_drew ?_ | refine blk_alloc ?_ _)); exact BK1.out) hb); have n1_ := Aside0.mk (blk_below (g := gb2) (o := .cells #[.int .i64 x3000_1, .int .i64 x3001_1] 94 (0, 0)) (by (with_reducible repeat (first | refine blk_drewN ?_ _ | refine blk_drew ?_ | refine blk_alloc ?_ _)); exact BK2.out) hb); have n2_ := Aside0.mk (blk_below (g := gb3) (o := .cells #[.int .i64 x4000_1, .int .i64 x4001_1] 94 (0, 0)) (by (with_reducible repeat (first | refine blk_drewN ?_ _ | refine blk_drew ?_ | refine blk_alloc ?_ _)); exact BK3.out) hb); have n3_ := Aside0.mk (blk_below (g := gb7) (o := .cells #[.int .i64 ((rd_T41 l0 x21_1).f0), .int .i64 ((rd_T41 l0 x21_1).f1)] 41 (0, 0)) (by (with_reducible repeat (first | refine blk_drewN ?_ _ | refine blk_drew ?_ | refine blk_alloc ?_ _)); exact BK7.out) hb); have n4_ := Aside0.mk (below_step (by repeat (first | (with_reducible first | exact HB.out | apply below_alloc | apply pw_below_drewN | apply below_drew1 | refine below_set ?_ GE1.out | refine below_set ?_ GE2.out | refine below_set ?_ GE3.out | refine below_set ?_ GE7.out) | exact HB.out)) hb); have n5_ := Aside0.mk (hbox); have n6_ := Aside0.mk ((by rw [hg]; exact (below_size (by repeat (first | (with_reducible first | exact HB.out | apply below_alloc | apply pw_below_drewN | apply below_drew1 | refine below_set ?_ GE1.out | refine below_set ?_ GE2.out | refine below_set ?_ GE3.out | refine below_set ?_ GE7.out) | exact HB.out))) : w.heap.size ≤ gb10)); have n7_ := Aside0.mk ((by rw [hg]; exact (below_size (by repeat (first | (with_reducible first | exact HB.out | apply below_alloc | apply pw_below_drewN | apply below_drew1 | refine below_set ?_ GE1.out | refine below_set ?_ GE2.out | refine below_set ?_ GE3.out | refine below_set ?_ GE7.out) | exact HB.out))) : w.heap.size ≤ gb10)); have n8_ := Aside0.mk ((by rw [hg]; exact Nat.ne_of_lt (blk_lt (g := gb1) (o := .cells #[.int .i64 0, .int .i64 0] 41 (0, 0)) (by (with_reducible repeat (first | refine blk_drewN ?_ _ | refine blk_drew ?_ | refine blk_alloc ?_ _)); exact BK1.out)) : gb1 ≠ gb10)); have n9_ := Aside0.mk ((by rw [hg]; exact Nat.ne_of_gt (blk_lt (g := gb1) (o := .cells #[.int .i64 0, .int .i64 0] 41 (0, 0)) (by (with_reducible repeat (first | refine blk_drewN ?_ _ | refine blk_drew ?_ | refine blk_alloc ?_ _)); exact BK1.out)) : gb10 ≠ gb1)); have n10_ := Aside0.mk ((by rw [hg]; exact Nat.ne_of_lt (blk_lt (g := gb2) (o := .cells #[.int .i64 x3000_1, .int .i64 x3001_1] 94 (0, 0)) (by (with_reducible repeat (first | refine blk_drewN ?_ _ | refine blk_drew ?_ | refine blk_alloc ?_ _)); exact BK2.out)) : gb2 ≠ gb10)); have n11_ := Aside0.mk ((by rw [hg]; exact Nat.ne_of_gt (blk_lt (g := gb2) (o := .cells #[.int .i64 x3000_1, .int .i64 x3001_1] 94 (0, 0)) (by (with_reducible repeat (first | refine blk_drewN ?_ _ | refine blk_drew ?_ | refine blk_alloc ?_ _)); exact BK2.out)) : gb10 ≠ gb2)); have n12_ := Aside0.mk ((by rw [hg]; exact Nat.ne_of_lt (blk_lt (g := gb3) (o := .cells #[.int .i64 x4000_1, .int .i64 x4001_1] 94 (0, 0)) (by (with_reducible repeat (first | refine blk_drewN ?_ _ | refine blk_drew ?_ | refine blk_alloc ?_ _)); exact BK3.out)) : gb3 ≠ gb10)); have n13_ := Aside0.mk ((by rw [hg]; exact Nat.ne_of_gt (blk_lt (g := gb3) (o := .cells #[.int .i64 x4000_1, .int .i64 x4001_1] 94 (0, 0)) (by (with_reducible repeat (first | refine blk_drewN ?_ _ | refine blk_drew ?_ | refine blk_alloc ?_ _)); exact BK3.out)) : gb10 ≠ gb3)); have n14_ := Aside0.mk ((by rw [hg]; exact Nat.ne_of_lt (blk_lt (g := gb7) (o := .cells #[.int .i64 ((rd_T41 l0 x21_1).f0), .int .i64 ((rd_T41 l0 x21_1).f1)] 41 (0, 0)) (by (with_reducible repeat (first | refine blk_drewN ?_ _ | refine blk_drew ?_ | refine blk_alloc ?_ _)); exact BK7.out)) : gb7 ≠ gb10)); have n15_ := Aside0.mk ((by rw [hg]; exact Nat.ne_of_gt (blk_lt (g := gb7) (o := .cells #[.int .i64 ((rd_T41 l0 x21_1).f0), .int .i64 ((rd_T41 l0 x21_1).f1)] 41 (0, 0)) (by (with_reducible repeat (first | refine blk_drewN ?_ _ | refine blk_drew ?_ | refine blk_alloc ?_ _)); exact BK7.out)) : gb10 ≠ gb7)); clear BK1; clear BK2; clear BK3; clear BK7; clear HB; have BK1 := n0_; have BK2 := n1_; have BK3 := n2_; have BK7 := n3_; have HB := n4_; have BK10 := n5_; have GW10 := n6_; have GE10 := n7_; have NB1_10 := n8_; have NB10_1 := n9_; have NB2_10 := n10_; have NB10_2 := n11_; have NB3_10 := n12_; have NB10_3 := n13_; have NB7_10 := n14_; have NB10_7 := n15_; clear n0_ n1_ n2_ n3_ n4_ n5_ n6_ n7_ n8_ n9_ n10_ n11_ n12_ n13_ n14_ n15_; clear hb hbox hg; have hnb33 := NB10_1.out; have hnc33 := NB1_10.out; have hnb34 := NB10_2.out; have hnc34 := NB2_10.out; have hnb35 := NB10_3.out; have hnc35 := NB3_10.out; have hnb36 := NB10_7.out; have hnc36 := NB7_10.out; have hcz37_0 : w32.cell? ⟨gb10, 0, none⟩ = some (.int .i64 0) := (blk_cell BK10.out 0).trans rfl; have hcz37_1 : w32.cell? ⟨gb10, 1, none⟩ = some (.int .i64 0) := (blk_cell BK10.out 1).trans rfl; have hfz37_0 := blk_frozen BK10.out 0; have hfz37_1 := blk_frozen BK10.out 1))
              have n0_ : Aside0 (((w32.setCell ⟨gb10, 0, none⟩ (.int .i64 t8)).setCell ⟨gb10, 1, none⟩ (.int .i64 t9)).heap[gb1]? = some (.cells #[.int .i64 0, .int .i64 0] 41 (0, 0))) := ⟨by (with_reducible repeat (first | refine blk_drewN ?_ _ | refine blk_drew ?_ | refine blk_alloc ?_ _)); refine blk_far ?_ NB1_10.out _; (with_reducible repeat (first | refine blk_drewN ?_ _ | refine blk_drew ?_ | refine blk_alloc ?_ _)); refine blk_far ?_ NB1_10.out _; (with_reducible repeat (first | refine blk_drewN ?_ _ | refine blk_drew ?_ | refine blk_alloc ?_ _)); exact BK1.out⟩
              have n1_ : Aside0 (((w32.setCell ⟨gb10, 0, none⟩ (.int .i64 t8)).setCell ⟨gb10, 1, none⟩ (.int .i64 t9)).heap[gb2]? = some (.cells #[.int .i64 x3000_1, .int .i64 x3001_1] 94 (0, 0))) := ⟨by (with_reducible repeat (first | refine blk_drewN ?_ _ | refine blk_drew ?_ | refine blk_alloc ?_ _)); refine blk_far ?_ NB2_10.out _; (with_reducible repeat (first | refine blk_drewN ?_ _ | refine blk_drew ?_ | refine blk_alloc ?_ _)); refine blk_far ?_ NB2_10.out _; (with_reducible repeat (first | refine blk_drewN ?_ _ | refine blk_drew ?_ | refine blk_alloc ?_ _)); exact BK2.out⟩
              have n2_ : Aside0 (((w32.setCell ⟨gb10, 0, none⟩ (.int .i64 t8)).setCell ⟨gb10, 1, none⟩ (.int .i64 t9)).heap[gb3]? = some (.cells #[.int .i64 x4000_1, .int .i64 x4001_1] 94 (0, 0))) := ⟨by (with_reducible repeat (first | refine blk_drewN ?_ _ | refine blk_drew ?_ | refine blk_alloc ?_ _)); refine blk_far ?_ NB3_10.out _; (with_reducible repeat (first | refine blk_drewN ?_ _ | refine blk_drew ?_ | refine blk_alloc ?_ _)); refine blk_far ?_ NB3_10.out _; (with_reducible repeat (first | refine blk_drewN ?_ _ | refine blk_drew ?_ | refine blk_alloc ?_ _)); exact BK3.out⟩
              have n3_ : Aside0 (((w32.setCell ⟨gb10, 0, none⟩ (.int .i64 t8)).setCell ⟨gb10, 1, none⟩ (.int .i64 t9)).heap[gb7]? = some (.cells #[.int .i64 ((rd_T41 l0 x21_1).f0), .int .i64 ((rd_T41 l0 x21_1).f1)] 41 (0, 0))) := ⟨by (with_reducible repeat (first | refine blk_drewN ?_ _ | refine blk_drew ?_ | refine blk_alloc ?_ _)); refine blk_far ?_ NB7_10.out _; (with_reducible repeat (first | refine blk_drewN ?_ _ | refine blk_drew ?_ | refine blk_alloc ?_ _)); refine blk_far ?_ NB7_10.out _; (with_reducible repeat (first | refine blk_drewN ?_ _ | refine blk_drew ?_ | refine blk_alloc ?_ _)); exact BK7.out⟩
              have n4_ : Aside0 (((w32.setCell ⟨gb10, 0, none⟩ (.int .i64 t8)).setCell ⟨gb10, 1, none⟩ (.int .i64 t9)).heap[gb10]? = some (.cells #[.int .i64 t8, .int .i64 t9] 41 (0, 0))) := ⟨by (with_reducible repeat (first | refine blk_drewN ?_ _ | refine blk_drew ?_ | refine blk_alloc ?_ _)); refine blk_put (cs := #[.int .i64 t8, .int .i64 0]) ?_ 1 _ rfl; (with_reducible repeat (first | refine blk_drewN ?_ _ | refine blk_drew ?_ | refine blk_alloc ?_ _)); refine blk_put (cs := #[.int .i64 0, .int .i64 0]) ?_ 0 _ rfl; (with_reducible repeat (first | refine blk_drewN ?_ _ | refine blk_drew ?_ | refine blk_alloc ?_ _)); exact BK10.out⟩
              have n5_ : Aside0 (Below w.heap.size w ((w32.setCell ⟨gb10, 0, none⟩ (.int .i64 t8)).setCell ⟨gb10, 1, none⟩ (.int .i64 t9))) := ⟨by repeat (first | (with_reducible first | exact HB.out | apply below_alloc | apply pw_below_drewN | apply below_drew1 | refine below_set ?_ GE1.out | refine below_set ?_ GE2.out | refine below_set ?_ GE3.out | refine below_set ?_ GE7.out | refine below_set ?_ GE10.out) | exact HB.out)⟩
              (try clear BK1)
              (try clear BK2)
              (try clear BK3)
              (try clear BK7)
              (try clear BK10)
              (try clear HB)
              generalize ((w32.setCell ⟨gb10, 0, none⟩ (.int .i64 t8)).setCell ⟨gb10, 1, none⟩ (.int .i64 t9)) = w38 at n0_ n1_ n2_ n3_ n4_ n5_ ⊢
              have BK1 := n0_
              have BK2 := n1_
              have BK3 := n2_
              have BK7 := n3_
              have BK10 := n4_
              have HB := n5_
              clear n0_ n1_ n2_ n3_ n4_ n5_
              have n0_ := Aside0.mk (blk_drew BK1.out)
              have n1_ := Aside0.mk (blk_drew BK2.out)
              have n2_ := Aside0.mk (blk_drew BK3.out)
              have n3_ := Aside0.mk (blk_drew BK7.out)
              have n4_ := Aside0.mk (blk_drew BK10.out)
              have n5_ := Aside0.mk (below_drew1 HB.out)
              clear BK1
              clear BK2
              clear BK3
              clear BK7
              clear BK10
              clear HB
              have BK1 := n0_
              have BK2 := n1_
              have BK3 := n2_
              have BK7 := n3_
              have BK10 := n4_
              have HB := n5_
              clear n0_ n1_ n2_ n3_ n4_ n5_
              refine start_ (n := 14) (S := fun w' => w'.cell? ⟨gb2, 0, none⟩ = some (.int .i64 x3000_1) ∧ w'.cell? ⟨gb2, 1, none⟩ = some (.int .i64 x3001_1) ∧ w'.cell? ⟨gb7, 0, none⟩ = some (.int .i64 ((rd_T41 l0 x21_1).f0)) ∧ w'.cell? ⟨gb7, 1, none⟩ = some (.int .i64 ((rd_T41 l0 x21_1).f1)) ∧ w'.cell? ⟨gb10, 0, none⟩ = some (.int .i64 t8) ∧ w'.cell? ⟨gb10, 1, none⟩ = some (.int .i64 t9)) (ds := [13]) #[false, false, false, false, false, false, false, false, false, false, false, false, false, false] (by kernel_rfl) rfl rfl ⟨(blk_cell BK2.out 0).trans rfl, (blk_cell BK2.out 1).trans rfl, (blk_cell BK7.out 0).trans rfl, (blk_cell BK7.out 1).trans rfl, (blk_cell BK10.out 0).trans rfl, (blk_cell BK10.out 1).trans rfl⟩ (fun hHeld => ?_); refine with_tabW headroomref16_Bin.tab8 headroomref16_Bin.bits8 (fun HT_ HW_ => ?_)
              generalize w38.drew = w39 at BK1 BK2 BK3 BK7 BK10 HB hHeld ⊢
              refine pure_ (i := 1) (N := some 35) (v := ?_) (a' := ?_) #[false, true, false, false, false, false, false, false, false, false, false, false, false, false] rfl rfl (any_of HT_.out (by kernel_rfl)) (fun _ _ _ h => h) (Or.inl ⟨by rfl, ?_⟩) ?_ ?_
              rotate_left
              · intro w'
                go_simp
                with_reducible rfl
              rotate_left
              · simp only [Act.put, List.setIfInBounds_toArray, List.set_cons_zero, List.set_cons_succ, i64_w, i32_w]
                rfl
              refine pure_ (i := 3) (N := some 37) (v := ?_) (a' := ?_) #[false, true, false, true, false, false, false, false, false, false, false, false, false, false] rfl rfl (any_of HT_.out (by kernel_rfl)) (fun _ _ _ h => h) (Or.inl ⟨by rfl, ?_⟩) ?_ ?_
              rotate_left
              · intro w'
                go_simp
                with_reducible rfl
              rotate_left
              · simp only [Act.put, List.setIfInBounds_toArray, List.set_cons_zero, List.set_cons_succ, i64_w, i32_w]
                rfl
              refine pure_ (i := 7) (N := some 41) (v := ?_) (a' := ?_) #[false, true, false, true, false, false, false, true, false, false, false, false, false, false] rfl rfl (any_of HT_.out (by kernel_rfl)) (fun _ _ _ h => h) (Or.inl ⟨by rfl, ?_⟩) ?_ ?_
              rotate_left
              · intro w'
                go_simp
                with_reducible rfl
              rotate_left
              · simp only [Act.put, List.setIfInBounds_toArray, List.set_cons_zero, List.set_cons_succ, i64_w, i32_w]
                rfl
              refine pure_ (i := 9) (N := some 43) (v := ?_) (a' := ?_) #[false, true, false, true, false, false, false, true, false, true, false, false, false, false] rfl rfl (any_of HT_.out (by kernel_rfl)) (fun _ _ _ h => h) (Or.inl ⟨by rfl, ?_⟩) ?_ ?_
              rotate_left
              · intro w'
                go_simp
                with_reducible rfl
              rotate_left
              · simp only [Act.put, List.setIfInBounds_toArray, List.set_cons_zero, List.set_cons_succ, i64_w, i32_w]
                rfl
              refine take_ (i := 0) (N := some 34) (v := ?_) (a' := ?_) #[true, true, false, true, false, false, false, true, false, true, false, false, false, false] rfl rfl (take_ofW HT_.out HW_.out (by kernel_rfl)) (fun _ _ _ h => h) (Or.inl ⟨by rfl, ?_⟩) hHeld ?_ ?_
              rotate_left
              · rintro w' ⟨s0, s1, s2, s3, s4, s5⟩
                go_simp
                with_reducible rfl
              rotate_left
              · simp only [Act.put, List.setIfInBounds_toArray, List.set_cons_zero, List.set_cons_succ, i64_w, i32_w]
                rfl
              refine take_ (i := 2) (N := some 36) (v := ?_) (a' := ?_) #[true, true, true, true, false, false, false, true, false, true, false, false, false, false] rfl rfl (take_ofW HT_.out HW_.out (by kernel_rfl)) (fun _ _ _ h => h) (Or.inl ⟨by rfl, ?_⟩) hHeld ?_ ?_
              rotate_left
              · rintro w' ⟨s0, s1, s2, s3, s4, s5⟩
                go_simp
                with_reducible rfl
              rotate_left
              · simp only [Act.put, List.setIfInBounds_toArray, List.set_cons_zero, List.set_cons_succ, i64_w, i32_w]
                rfl
              refine take_ (i := 4) (N := some 38) (v := ?_) (a' := ?_) #[true, true, true, true, true, false, false, true, false, true, false, false, false, false] rfl rfl (take_ofW HT_.out HW_.out (by kernel_rfl)) (fun _ _ _ h => h) (Or.inl ⟨by rfl, ?_⟩) hHeld ?_ ?_
              rotate_left
              · rintro w' ⟨s0, s1, s2, s3, s4, s5⟩
                go_simp
                with_reducible rfl
              rotate_left
              · simp only [Act.put, List.setIfInBounds_toArray, List.set_cons_zero, List.set_cons_succ, i64_w, i32_w]
                rfl
              refine take_ (i := 8) (N := some 42) (v := ?_) (a' := ?_) #[true, true, true, true, true, false, false, true, true, true, false, false, false, false] rfl rfl (take_ofW HT_.out HW_.out (by kernel_rfl)) (fun _ _ _ h => h) (Or.inl ⟨by rfl, ?_⟩) hHeld ?_ ?_
              rotate_left
              · rintro w' ⟨s0, s1, s2, s3, s4, s5⟩
                go_simp
                with_reducible rfl
              rotate_left
              · simp only [Act.put, List.setIfInBounds_toArray, List.set_cons_zero, List.set_cons_succ, i64_w, i32_w]
                rfl
              refine take_ (i := 10) (N := some 44) (v := ?_) (a' := ?_) #[true, true, true, true, true, false, false, true, true, true, true, false, false, false] rfl rfl (take_ofW HT_.out HW_.out (by kernel_rfl)) (fun _ _ _ h => h) (Or.inl ⟨by rfl, ?_⟩) hHeld ?_ ?_
              rotate_left
              · rintro w' ⟨s0, s1, s2, s3, s4, s5⟩
                go_simp
                with_reducible rfl
              rotate_left
              · simp only [Act.put, List.setIfInBounds_toArray, List.set_cons_zero, List.set_cons_succ, i64_w, i32_w]
                rfl
              refine one_ (i := 5) (N := some 39) #[true, true, true, true, true, true, false, true, true, true, true, false, false, false] rfl rfl (one_of HT_.out (by kernel_rfl)) (by decide) (fun K hK => ?_)
              refine goes_ Try.func76 (by kernel_rfl) rfl #[.int .i64 ((rd_T41 l0 x21_1).f0), .int .i64 t8] (by rfl) rfl rfl (by (try simp only [List.map_toArray, List.map_cons, List.map_nil]); first | done | rfl | (simp only [List.length_drop, List.length_take]; rfl)) ?_
              with_reducible refine (headroomref16_times.calls k1 ((rd_T41 l0 x21_1).f0) t8 t11 t12 _ A18.out).mono ?_
              rintro e w40 ⟨rfl, hb⟩
              refine ⟨_, rfl, ?_⟩
              have n0_ := Aside0.mk (blk_below (g := gb1) (o := .cells #[.int .i64 0, .int .i64 0] 41 (0, 0)) (by (with_reducible repeat (first | refine blk_drewN ?_ _ | refine blk_drew ?_ | refine blk_alloc ?_ _)); exact BK1.out) hb)
              have n1_ := Aside0.mk (blk_below (g := gb2) (o := .cells #[.int .i64 x3000_1, .int .i64 x3001_1] 94 (0, 0)) (by (with_reducible repeat (first | refine blk_drewN ?_ _ | refine blk_drew ?_ | refine blk_alloc ?_ _)); exact BK2.out) hb)
              have n2_ := Aside0.mk (blk_below (g := gb3) (o := .cells #[.int .i64 x4000_1, .int .i64 x4001_1] 94 (0, 0)) (by (with_reducible repeat (first | refine blk_drewN ?_ _ | refine blk_drew ?_ | refine blk_alloc ?_ _)); exact BK3.out) hb)
              have n3_ := Aside0.mk (blk_below (g := gb7) (o := .cells #[.int .i64 ((rd_T41 l0 x21_1).f0), .int .i64 ((rd_T41 l0 x21_1).f1)] 41 (0, 0)) (by (with_reducible repeat (first | refine blk_drewN ?_ _ | refine blk_drew ?_ | refine blk_alloc ?_ _)); exact BK7.out) hb)
              have n4_ := Aside0.mk (blk_below (g := gb10) (o := .cells #[.int .i64 t8, .int .i64 t9] 41 (0, 0)) (by (with_reducible repeat (first | refine blk_drewN ?_ _ | refine blk_drew ?_ | refine blk_alloc ?_ _)); exact BK10.out) hb)
              have n5_ := Aside0.mk (below_step (by repeat (first | (with_reducible first | exact HB.out | apply below_alloc | apply pw_below_drewN | apply below_drew1 | refine below_set ?_ GE1.out | refine below_set ?_ GE2.out | refine below_set ?_ GE3.out | refine below_set ?_ GE7.out | refine below_set ?_ GE10.out) | exact HB.out)) hb)
              clear BK1
              clear BK2
              clear BK3
              clear BK7
              clear BK10
              clear HB
              have BK1 := n0_
              have BK2 := n1_
              have BK3 := n2_
              have BK7 := n3_
              have BK10 := n4_
              have HB := n5_
              clear n0_ n1_ n2_ n3_ n4_ n5_
              (try clear hb)
              (try clear hb2)
              (try clear hk)
              (try clear hi)
              refine hK.out _ _ ⟨(blk_cell BK2.out 0).trans rfl, (blk_cell BK2.out 1).trans rfl, (blk_cell BK7.out 0).trans rfl, (blk_cell BK7.out 1).trans rfl, (blk_cell BK10.out 0).trans rfl, (blk_cell BK10.out 1).trans rfl⟩ (fun hHeld => ?_)
              clear hK K
              refine norm_ (a' := ?_) ?_ ?_
              rotate_left
              · show Act.put _ (some 39) _ = _
                simp only [Act.put, List.setIfInBounds_toArray, List.set_cons_zero, List.set_cons_succ, i64_w, i32_w]
                rfl
              refine one_ (i := 6) (N := some 40) #[true, true, true, true, true, true, true, true, true, true, true, false, false, false] rfl rfl (one_of HT_.out (by kernel_rfl)) (by decide) (fun K hK => ?_)
              refine goes_ Try.func75 (by kernel_rfl) rfl #[.agg #[.int .i64 x3000_1, .int .i64 x3001_1], .agg #[.int .i64 t11, .int .i64 t12]] (by rfl) rfl rfl (by (try simp only [List.map_toArray, List.map_cons, List.map_nil]); first | done | rfl | (simp only [List.length_drop, List.length_take]; rfl)) ?_
              with_reducible refine (headroomref16_add.calls k1 x3000_1 x3001_1 t11 t12 t13 t14 _ A19.out).mono ?_
              rintro e w41 ⟨rfl, hb⟩
              refine ⟨_, rfl, ?_⟩
              have n0_ := Aside0.mk (blk_below (g := gb1) (o := .cells #[.int .i64 0, .int .i64 0] 41 (0, 0)) (by (with_reducible repeat (first | refine blk_drewN ?_ _ | refine blk_drew ?_ | refine blk_alloc ?_ _)); exact BK1.out) hb)
              have n1_ := Aside0.mk (blk_below (g := gb2) (o := .cells #[.int .i64 x3000_1, .int .i64 x3001_1] 94 (0, 0)) (by (with_reducible repeat (first | refine blk_drewN ?_ _ | refine blk_drew ?_ | refine blk_alloc ?_ _)); exact BK2.out) hb)
              have n2_ := Aside0.mk (blk_below (g := gb3) (o := .cells #[.int .i64 x4000_1, .int .i64 x4001_1] 94 (0, 0)) (by (with_reducible repeat (first | refine blk_drewN ?_ _ | refine blk_drew ?_ | refine blk_alloc ?_ _)); exact BK3.out) hb)
              have n3_ := Aside0.mk (blk_below (g := gb7) (o := .cells #[.int .i64 ((rd_T41 l0 x21_1).f0), .int .i64 ((rd_T41 l0 x21_1).f1)] 41 (0, 0)) (by (with_reducible repeat (first | refine blk_drewN ?_ _ | refine blk_drew ?_ | refine blk_alloc ?_ _)); exact BK7.out) hb)
              have n4_ := Aside0.mk (blk_below (g := gb10) (o := .cells #[.int .i64 t8, .int .i64 t9] 41 (0, 0)) (by (with_reducible repeat (first | refine blk_drewN ?_ _ | refine blk_drew ?_ | refine blk_alloc ?_ _)); exact BK10.out) hb)
              have n5_ := Aside0.mk (below_step (by repeat (first | (with_reducible first | exact HB.out | apply below_alloc | apply pw_below_drewN | apply below_drew1 | refine below_set ?_ GE1.out | refine below_set ?_ GE2.out | refine below_set ?_ GE3.out | refine below_set ?_ GE7.out | refine below_set ?_ GE10.out) | exact HB.out)) hb)
              clear BK1
              clear BK2
              clear BK3
              clear BK7
              clear BK10
              clear HB
              have BK1 := n0_
              have BK2 := n1_
              have BK3 := n2_
              have BK7 := n3_
              have BK10 := n4_
              have HB := n5_
              clear n0_ n1_ n2_ n3_ n4_ n5_
              (try clear hb)
              (try clear hb2)
              (try clear hk)
              (try clear hi)
              refine hK.out _ _ ⟨(blk_cell BK2.out 0).trans rfl, (blk_cell BK2.out 1).trans rfl, (blk_cell BK7.out 0).trans rfl, (blk_cell BK7.out 1).trans rfl, (blk_cell BK10.out 0).trans rfl, (blk_cell BK10.out 1).trans rfl⟩ (fun hHeld => ?_)
              clear hK K
              refine norm_ (a' := ?_) ?_ ?_
              rotate_left
              · show Act.put _ (some 40) _ = _
                simp only [Act.put, List.setIfInBounds_toArray, List.set_cons_zero, List.set_cons_succ, i64_w, i32_w]
                rfl
              refine one_ (i := 11) (N := some 45) #[true, true, true, true, true, true, true, true, true, true, true, true, false, false] rfl rfl (one_of HT_.out (by kernel_rfl)) (by decide) (fun K hK => ?_)
              refine goes_ Try.func76 (by kernel_rfl) rfl #[.int .i64 ((rd_T41 l0 x21_1).f1), .int .i64 t9] (by rfl) rfl rfl (by (try simp only [List.map_toArray, List.map_cons, List.map_nil]); first | done | rfl | (simp only [List.length_drop, List.length_take]; rfl)) ?_
              with_reducible refine (headroomref16_times.calls k1 ((rd_T41 l0 x21_1).f1) t9 t15 t16 _ A20.out).mono ?_
              rintro e w42 ⟨rfl, hb⟩
              refine ⟨_, rfl, ?_⟩
              have n0_ := Aside0.mk (blk_below (g := gb1) (o := .cells #[.int .i64 0, .int .i64 0] 41 (0, 0)) (by (with_reducible repeat (first | refine blk_drewN ?_ _ | refine blk_drew ?_ | refine blk_alloc ?_ _)); exact BK1.out) hb)
              have n1_ := Aside0.mk (blk_below (g := gb2) (o := .cells #[.int .i64 x3000_1, .int .i64 x3001_1] 94 (0, 0)) (by (with_reducible repeat (first | refine blk_drewN ?_ _ | refine blk_drew ?_ | refine blk_alloc ?_ _)); exact BK2.out) hb)
              have n2_ := Aside0.mk (blk_below (g := gb3) (o := .cells #[.int .i64 x4000_1, .int .i64 x4001_1] 94 (0, 0)) (by (with_reducible repeat (first | refine blk_drewN ?_ _ | refine blk_drew ?_ | refine blk_alloc ?_ _)); exact BK3.out) hb)
              have n3_ := Aside0.mk (blk_below (g := gb7) (o := .cells #[.int .i64 ((rd_T41 l0 x21_1).f0), .int .i64 ((rd_T41 l0 x21_1).f1)] 41 (0, 0)) (by (with_reducible repeat (first | refine blk_drewN ?_ _ | refine blk_drew ?_ | refine blk_alloc ?_ _)); exact BK7.out) hb)
              have n4_ := Aside0.mk (blk_below (g := gb10) (o := .cells #[.int .i64 t8, .int .i64 t9] 41 (0, 0)) (by (with_reducible repeat (first | refine blk_drewN ?_ _ | refine blk_drew ?_ | refine blk_alloc ?_ _)); exact BK10.out) hb)
              have n5_ := Aside0.mk (below_step (by repeat (first | (with_reducible first | exact HB.out | apply below_alloc | apply pw_below_drewN | apply below_drew1 | refine below_set ?_ GE1.out | refine below_set ?_ GE2.out | refine below_set ?_ GE3.out | refine below_set ?_ GE7.out | refine below_set ?_ GE10.out) | exact HB.out)) hb)
              clear BK1
              clear BK2
              clear BK3
              clear BK7
              clear BK10
              clear HB
              have BK1 := n0_
              have BK2 := n1_
              have BK3 := n2_
              have BK7 := n3_
              have BK10 := n4_
              have HB := n5_
              clear n0_ n1_ n2_ n3_ n4_ n5_
              (try clear hb)
              (try clear hb2)
              (try clear hk)
              (try clear hi)
              refine hK.out _ _ ⟨(blk_cell BK2.out 0).trans rfl, (blk_cell BK2.out 1).trans rfl, (blk_cell BK7.out 0).trans rfl, (blk_cell BK7.out 1).trans rfl, (blk_cell BK10.out 0).trans rfl, (blk_cell BK10.out 1).trans rfl⟩ (fun hHeld => ?_)
              clear hK K
              refine norm_ (a' := ?_) ?_ ?_
              rotate_left
              · show Act.put _ (some 45) _ = _
                simp only [Act.put, List.setIfInBounds_toArray, List.set_cons_zero, List.set_cons_succ, i64_w, i32_w]
                rfl
              refine one_ (i := 12) (N := some 46) #[true, true, true, true, true, true, true, true, true, true, true, true, true, false] rfl rfl (one_of HT_.out (by kernel_rfl)) (by decide) (fun K hK => ?_)
              refine goes_ Try.func74 (by kernel_rfl) rfl #[.agg #[.int .i64 t13, .int .i64 t14], .agg #[.int .i64 t15, .int .i64 t16]] (by rfl) rfl rfl (by (try simp only [List.map_toArray, List.map_cons, List.map_nil]); first | done | rfl | (simp only [List.length_drop, List.length_take]; rfl)) ?_
              with_reducible refine (headroomref16_less.calls k1 t13 t14 t15 t16 t17 t18 _ A21.out).mono ?_
              rintro e w43 ⟨rfl, hb⟩
              refine ⟨_, rfl, ?_⟩
              have n0_ := Aside0.mk (blk_below (g := gb1) (o := .cells #[.int .i64 0, .int .i64 0] 41 (0, 0)) (by (with_reducible repeat (first | refine blk_drewN ?_ _ | refine blk_drew ?_ | refine blk_alloc ?_ _)); exact BK1.out) hb)
              have n1_ := Aside0.mk (blk_below (g := gb2) (o := .cells #[.int .i64 x3000_1, .int .i64 x3001_1] 94 (0, 0)) (by (with_reducible repeat (first | refine blk_drewN ?_ _ | refine blk_drew ?_ | refine blk_alloc ?_ _)); exact BK2.out) hb)
              have n2_ := Aside0.mk (blk_below (g := gb3) (o := .cells #[.int .i64 x4000_1, .int .i64 x4001_1] 94 (0, 0)) (by (with_reducible repeat (first | refine blk_drewN ?_ _ | refine blk_drew ?_ | refine blk_alloc ?_ _)); exact BK3.out) hb)
              have n3_ := Aside0.mk (blk_below (g := gb7) (o := .cells #[.int .i64 ((rd_T41 l0 x21_1).f0), .int .i64 ((rd_T41 l0 x21_1).f1)] 41 (0, 0)) (by (with_reducible repeat (first | refine blk_drewN ?_ _ | refine blk_drew ?_ | refine blk_alloc ?_ _)); exact BK7.out) hb)
              have n4_ := Aside0.mk (blk_below (g := gb10) (o := .cells #[.int .i64 t8, .int .i64 t9] 41 (0, 0)) (by (with_reducible repeat (first | refine blk_drewN ?_ _ | refine blk_drew ?_ | refine blk_alloc ?_ _)); exact BK10.out) hb)
              have n5_ := Aside0.mk (below_step (by repeat (first | (with_reducible first | exact HB.out | apply below_alloc | apply pw_below_drewN | apply below_drew1 | refine below_set ?_ GE1.out | refine below_set ?_ GE2.out | refine below_set ?_ GE3.out | refine below_set ?_ GE7.out | refine below_set ?_ GE10.out) | exact HB.out)) hb)
              clear BK1
              clear BK2
              clear BK3
              clear BK7
              clear BK10
              clear HB
              have BK1 := n0_
              have BK2 := n1_
              have BK3 := n2_
              have BK7 := n3_
              have BK10 := n4_
              have HB := n5_
              clear n0_ n1_ n2_ n3_ n4_ n5_
              (try clear hb)
              (try clear hb2)
              (try clear hk)
              (try clear hi)
              refine hK.out _ _ ⟨(blk_cell BK2.out 0).trans rfl, (blk_cell BK2.out 1).trans rfl, (blk_cell BK7.out 0).trans rfl, (blk_cell BK7.out 1).trans rfl, (blk_cell BK10.out 0).trans rfl, (blk_cell BK10.out 1).trans rfl⟩ (fun hHeld => ?_)
              clear hK K
              refine norm_ (a' := ?_) ?_ ?_
              rotate_left
              · show Act.put _ (some 46) _ = _
                simp only [Act.put, List.setIfInBounds_toArray, List.set_cons_zero, List.set_cons_succ, i64_w, i32_w]
                rfl
              refine last_ (i := 13) (N := none) #[true, true, true, true, true, true, true, true, true, true, true, true, true, true] rfl rfl (one_of HT_.out (by kernel_rfl)) (by decide) (fun K hK => ?_)
              have hs44 : w43.cell? ⟨gb2, 0, none⟩ = some (.int .i64 x3000_1) := (blk_cell BK2.out 0).trans rfl
              have hfs44 := blk_frozen BK2.out 0
              have hns44_0 := NB1_2.out
              have hns44_2 := NB3_2.out
              have hns44_3 := NB7_2.out
              have hns44_4 := NB10_2.out
              have hms44_0 := NB2_1.out
              have hms44_2 := NB2_3.out
              have hms44_3 := NB2_7.out
              have hms44_4 := NB2_10.out
              have hs45 : w43.cell? ⟨gb2, 1, none⟩ = some (.int .i64 x3001_1) := (blk_cell BK2.out 1).trans rfl
              have hfs45 := blk_frozen BK2.out 1
              have hns45_0 := NB1_2.out
              have hns45_2 := NB3_2.out
              have hns45_3 := NB7_2.out
              have hns45_4 := NB10_2.out
              have hms45_0 := NB2_1.out
              have hms45_2 := NB2_3.out
              have hms45_3 := NB2_7.out
              have hms45_4 := NB2_10.out
              refine skip_ (w1 := ?_) (by rfl) rfl ?_ ?_
              rotate_left
              · go_simp
                rfl
              refine hK.out _ _ ?_
              clear hK K
              refine done_ (done_of HT_.out (by kernel_rfl)) ?_
              try go_wp2
              have n0_ : Aside0 (((w43.setCell ⟨gb2, 0, none⟩ (.int .i64 t17)).setCell ⟨gb2, 1, none⟩ (.int .i64 t18)).heap[gb1]? = some (.cells #[.int .i64 0, .int .i64 0] 41 (0, 0))) := ⟨by (with_reducible repeat (first | refine blk_drewN ?_ _ | refine blk_drew ?_ | refine blk_alloc ?_ _)); refine blk_far ?_ NB1_2.out _; (with_reducible repeat (first | refine blk_drewN ?_ _ | refine blk_drew ?_ | refine blk_alloc ?_ _)); refine blk_far ?_ NB1_2.out _; (with_reducible repeat (first | refine blk_drewN ?_ _ | refine blk_drew ?_ | refine blk_alloc ?_ _)); exact BK1.out⟩
              have n1_ : Aside0 (((w43.setCell ⟨gb2, 0, none⟩ (.int .i64 t17)).setCell ⟨gb2, 1, none⟩ (.int .i64 t18)).heap[gb2]? = some (.cells #[.int .i64 t17, .int .i64 t18] 94 (0, 0))) := ⟨by (with_reducible repeat (first | refine blk_drewN ?_ _ | refine blk_drew ?_ | refine blk_alloc ?_ _)); refine blk_put (cs := #[.int .i64 t17, .int .i64 x3001_1]) ?_ 1 _ rfl; (with_reducible repeat (first | refine blk_drewN ?_ _ | refine blk_drew ?_ | refine blk_alloc ?_ _)); refine blk_put (cs := #[.int .i64 x3000_1, .int .i64 x3001_1]) ?_ 0 _ rfl; (with_reducible repeat (first | refine blk_drewN ?_ _ | refine blk_drew ?_ | refine blk_alloc ?_ _)); exact BK2.out⟩
              have n2_ : Aside0 (((w43.setCell ⟨gb2, 0, none⟩ (.int .i64 t17)).setCell ⟨gb2, 1, none⟩ (.int .i64 t18)).heap[gb3]? = some (.cells #[.int .i64 x4000_1, .int .i64 x4001_1] 94 (0, 0))) := ⟨by (with_reducible repeat (first | refine blk_drewN ?_ _ | refine blk_drew ?_ | refine blk_alloc ?_ _)); refine blk_far ?_ NB3_2.out _; (with_reducible repeat (first | refine blk_drewN ?_ _ | refine blk_drew ?_ | refine blk_alloc ?_ _)); refine blk_far ?_ NB3_2.out _; (with_reducible repeat (first | refine blk_drewN ?_ _ | refine blk_drew ?_ | refine blk_alloc ?_ _)); exact BK3.out⟩
              have n3_ : Aside0 (((w43.setCell ⟨gb2, 0, none⟩ (.int .i64 t17)).setCell ⟨gb2, 1, none⟩ (.int .i64 t18)).heap[gb7]? = some (.cells #[.int .i64 ((rd_T41 l0 x21_1).f0), .int .i64 ((rd_T41 l0 x21_1).f1)] 41 (0, 0))) := ⟨by (with_reducible repeat (first | refine blk_drewN ?_ _ | refine blk_drew ?_ | refine blk_alloc ?_ _)); refine blk_far ?_ NB7_2.out _; (with_reducible repeat (first | refine blk_drewN ?_ _ | refine blk_drew ?_ | refine blk_alloc ?_ _)); refine blk_far ?_ NB7_2.out _; (with_reducible repeat (first | refine blk_drewN ?_ _ | refine blk_drew ?_ | refine blk_alloc ?_ _)); exact BK7.out⟩
              have n4_ : Aside0 (((w43.setCell ⟨gb2, 0, none⟩ (.int .i64 t17)).setCell ⟨gb2, 1, none⟩ (.int .i64 t18)).heap[gb10]? = some (.cells #[.int .i64 t8, .int .i64 t9] 41 (0, 0))) := ⟨by (with_reducible repeat (first | refine blk_drewN ?_ _ | refine blk_drew ?_ | refine blk_alloc ?_ _)); refine blk_far ?_ NB10_2.out _; (with_reducible repeat (first | refine blk_drewN ?_ _ | refine blk_drew ?_ | refine blk_alloc ?_ _)); refine blk_far ?_ NB10_2.out _; (with_reducible repeat (first | refine blk_drewN ?_ _ | refine blk_drew ?_ | refine blk_alloc ?_ _)); exact BK10.out⟩
              have n5_ : Aside0 (Below w.heap.size w ((w43.setCell ⟨gb2, 0, none⟩ (.int .i64 t17)).setCell ⟨gb2, 1, none⟩ (.int .i64 t18))) := ⟨by repeat (first | (with_reducible first | exact HB.out | apply below_alloc | apply pw_below_drewN | apply below_drew1 | refine below_set ?_ GE1.out | refine below_set ?_ GE2.out | refine below_set ?_ GE3.out | refine below_set ?_ GE7.out | refine below_set ?_ GE10.out) | exact HB.out)⟩
              (try clear BK1)
              (try clear BK2)
              (try clear BK3)
              (try clear BK7)
              (try clear BK10)
              (try clear HB)
              generalize ((w43.setCell ⟨gb2, 0, none⟩ (.int .i64 t17)).setCell ⟨gb2, 1, none⟩ (.int .i64 t18)) = w46 at n0_ n1_ n2_ n3_ n4_ n5_ ⊢
              have BK1 := n0_
              have BK2 := n1_
              have BK3 := n2_
              have BK7 := n3_
              have BK10 := n4_
              have HB := n5_
              clear n0_ n1_ n2_ n3_ n4_ n5_
              have n0_ := Aside0.mk (blk_drew BK1.out)
              have n1_ := Aside0.mk (blk_drew BK2.out)
              have n2_ := Aside0.mk (blk_drew BK3.out)
              have n3_ := Aside0.mk (blk_drew BK7.out)
              have n4_ := Aside0.mk (blk_drew BK10.out)
              have n5_ := Aside0.mk (below_drew1 HB.out)
              clear BK1
              clear BK2
              clear BK3
              clear BK7
              clear BK10
              clear HB
              have BK1 := n0_
              have BK2 := n1_
              have BK3 := n2_
              have BK7 := n3_
              have BK10 := n4_
              have HB := n5_
              clear n0_ n1_ n2_ n3_ n4_ n5_
              refine start_ (n := 14) (S := fun w' => w'.cell? ⟨gb3, 0, none⟩ = some (.int .i64 x4000_1) ∧ w'.cell? ⟨gb3, 1, none⟩ = some (.int .i64 x4001_1) ∧ w'.cell? ⟨gb7, 0, none⟩ = some (.int .i64 ((rd_T41 l0 x21_1).f0)) ∧ w'.cell? ⟨gb7, 1, none⟩ = some (.int .i64 ((rd_T41 l0 x21_1).f1)) ∧ w'.cell? ⟨gb10, 0, none⟩ = some (.int .i64 t8) ∧ w'.cell? ⟨gb10, 1, none⟩ = some (.int .i64 t9)) (ds := [13]) #[false, false, false, false, false, false, false, false, false, false, false, false, false, false] (by kernel_rfl) rfl rfl ⟨(blk_cell BK3.out 0).trans rfl, (blk_cell BK3.out 1).trans rfl, (blk_cell BK7.out 0).trans rfl, (blk_cell BK7.out 1).trans rfl, (blk_cell BK10.out 0).trans rfl, (blk_cell BK10.out 1).trans rfl⟩ (fun hHeld => ?_); refine with_tabW headroomref16_Bin.tab9 headroomref16_Bin.bits9 (fun HT_ HW_ => ?_)
              generalize w46.drew = w47 at BK1 BK2 BK3 BK7 BK10 HB hHeld ⊢
              refine pure_ (i := 1) (N := some 48) (v := ?_) (a' := ?_) #[false, true, false, false, false, false, false, false, false, false, false, false, false, false] rfl rfl (any_of HT_.out (by kernel_rfl)) (fun _ _ _ h => h) (Or.inl ⟨by rfl, ?_⟩) ?_ ?_
              rotate_left
              · intro w'
                go_simp
                with_reducible rfl
              rotate_left
              · simp only [Act.put, List.setIfInBounds_toArray, List.set_cons_zero, List.set_cons_succ, i64_w, i32_w]
                rfl
              refine pure_ (i := 3) (N := some 50) (v := ?_) (a' := ?_) #[false, true, false, true, false, false, false, false, false, false, false, false, false, false] rfl rfl (any_of HT_.out (by kernel_rfl)) (fun _ _ _ h => h) (Or.inl ⟨by rfl, ?_⟩) ?_ ?_
              rotate_left
              · intro w'
                go_simp
                with_reducible rfl
              rotate_left
              · simp only [Act.put, List.setIfInBounds_toArray, List.set_cons_zero, List.set_cons_succ, i64_w, i32_w]
                rfl
              refine pure_ (i := 7) (N := some 54) (v := ?_) (a' := ?_) #[false, true, false, true, false, false, false, true, false, false, false, false, false, false] rfl rfl (any_of HT_.out (by kernel_rfl)) (fun _ _ _ h => h) (Or.inl ⟨by rfl, ?_⟩) ?_ ?_
              rotate_left
              · intro w'
                go_simp
                with_reducible rfl
              rotate_left
              · simp only [Act.put, List.setIfInBounds_toArray, List.set_cons_zero, List.set_cons_succ, i64_w, i32_w]
                rfl
              refine pure_ (i := 9) (N := some 56) (v := ?_) (a' := ?_) #[false, true, false, true, false, false, false, true, false, true, false, false, false, false] rfl rfl (any_of HT_.out (by kernel_rfl)) (fun _ _ _ h => h) (Or.inl ⟨by rfl, ?_⟩) ?_ ?_
              rotate_left
              · intro w'
                go_simp
                with_reducible rfl
              rotate_left
              · simp only [Act.put, List.setIfInBounds_toArray, List.set_cons_zero, List.set_cons_succ, i64_w, i32_w]
                rfl
              refine take_ (i := 0) (N := some 47) (v := ?_) (a' := ?_) #[true, true, false, true, false, false, false, true, false, true, false, false, false, false] rfl rfl (take_ofW HT_.out HW_.out (by kernel_rfl)) (fun _ _ _ h => h) (Or.inl ⟨by rfl, ?_⟩) hHeld ?_ ?_
              rotate_left
              · rintro w' ⟨s0, s1, s2, s3, s4, s5⟩
                go_simp
                with_reducible rfl
              rotate_left
              · simp only [Act.put, List.setIfInBounds_toArray, List.set_cons_zero, List.set_cons_succ, i64_w, i32_w]
                rfl
              refine take_ (i := 2) (N := some 49) (v := ?_) (a' := ?_) #[true, true, true, true, false, false, false, true, false, true, false, false, false, false] rfl rfl (take_ofW HT_.out HW_.out (by kernel_rfl)) (fun _ _ _ h => h) (Or.inl ⟨by rfl, ?_⟩) hHeld ?_ ?_
              rotate_left
              · rintro w' ⟨s0, s1, s2, s3, s4, s5⟩
                go_simp
                with_reducible rfl
              rotate_left
              · simp only [Act.put, List.setIfInBounds_toArray, List.set_cons_zero, List.set_cons_succ, i64_w, i32_w]
                rfl
              refine take_ (i := 4) (N := some 51) (v := ?_) (a' := ?_) #[true, true, true, true, true, false, false, true, false, true, false, false, false, false] rfl rfl (take_ofW HT_.out HW_.out (by kernel_rfl)) (fun _ _ _ h => h) (Or.inl ⟨by rfl, ?_⟩) hHeld ?_ ?_
              rotate_left
              · rintro w' ⟨s0, s1, s2, s3, s4, s5⟩
                go_simp
                with_reducible rfl
              rotate_left
              · simp only [Act.put, List.setIfInBounds_toArray, List.set_cons_zero, List.set_cons_succ, i64_w, i32_w]
                rfl
              refine take_ (i := 8) (N := some 55) (v := ?_) (a' := ?_) #[true, true, true, true, true, false, false, true, true, true, false, false, false, false] rfl rfl (take_ofW HT_.out HW_.out (by kernel_rfl)) (fun _ _ _ h => h) (Or.inl ⟨by rfl, ?_⟩) hHeld ?_ ?_
              rotate_left
              · rintro w' ⟨s0, s1, s2, s3, s4, s5⟩
                go_simp
                with_reducible rfl
              rotate_left
              · simp only [Act.put, List.setIfInBounds_toArray, List.set_cons_zero, List.set_cons_succ, i64_w, i32_w]
                rfl
              refine take_ (i := 10) (N := some 57) (v := ?_) (a' := ?_) #[true, true, true, true, true, false, false, true, true, true, true, false, false, false] rfl rfl (take_ofW HT_.out HW_.out (by kernel_rfl)) (fun _ _ _ h => h) (Or.inl ⟨by rfl, ?_⟩) hHeld ?_ ?_
              rotate_left
              · rintro w' ⟨s0, s1, s2, s3, s4, s5⟩
                go_simp
                with_reducible rfl
              rotate_left
              · simp only [Act.put, List.setIfInBounds_toArray, List.set_cons_zero, List.set_cons_succ, i64_w, i32_w]
                rfl
              refine one_ (i := 5) (N := some 52) #[true, true, true, true, true, true, false, true, true, true, true, false, false, false] rfl rfl (one_of HT_.out (by kernel_rfl)) (by decide) (fun K hK => ?_)
              refine goes_ Try.func76 (by kernel_rfl) rfl #[.int .i64 ((rd_T41 l0 x21_1).f0), .int .i64 t9] (by rfl) rfl rfl (by (try simp only [List.map_toArray, List.map_cons, List.map_nil]); first | done | rfl | (simp only [List.length_drop, List.length_take]; rfl)) ?_
              with_reducible refine (headroomref16_times.calls k1 ((rd_T41 l0 x21_1).f0) t9 t19 t20 _ A22.out).mono ?_
              rintro e w48 ⟨rfl, hb⟩
              refine ⟨_, rfl, ?_⟩
              have n0_ := Aside0.mk (blk_below (g := gb1) (o := .cells #[.int .i64 0, .int .i64 0] 41 (0, 0)) (by (with_reducible repeat (first | refine blk_drewN ?_ _ | refine blk_drew ?_ | refine blk_alloc ?_ _)); exact BK1.out) hb)
              have n1_ := Aside0.mk (blk_below (g := gb2) (o := .cells #[.int .i64 t17, .int .i64 t18] 94 (0, 0)) (by (with_reducible repeat (first | refine blk_drewN ?_ _ | refine blk_drew ?_ | refine blk_alloc ?_ _)); exact BK2.out) hb)
              have n2_ := Aside0.mk (blk_below (g := gb3) (o := .cells #[.int .i64 x4000_1, .int .i64 x4001_1] 94 (0, 0)) (by (with_reducible repeat (first | refine blk_drewN ?_ _ | refine blk_drew ?_ | refine blk_alloc ?_ _)); exact BK3.out) hb)
              have n3_ := Aside0.mk (blk_below (g := gb7) (o := .cells #[.int .i64 ((rd_T41 l0 x21_1).f0), .int .i64 ((rd_T41 l0 x21_1).f1)] 41 (0, 0)) (by (with_reducible repeat (first | refine blk_drewN ?_ _ | refine blk_drew ?_ | refine blk_alloc ?_ _)); exact BK7.out) hb)
              have n4_ := Aside0.mk (blk_below (g := gb10) (o := .cells #[.int .i64 t8, .int .i64 t9] 41 (0, 0)) (by (with_reducible repeat (first | refine blk_drewN ?_ _ | refine blk_drew ?_ | refine blk_alloc ?_ _)); exact BK10.out) hb)
              have n5_ := Aside0.mk (below_step (by repeat (first | (with_reducible first | exact HB.out | apply below_alloc | apply pw_below_drewN | apply below_drew1 | refine below_set ?_ GE1.out | refine below_set ?_ GE2.out | refine below_set ?_ GE3.out | refine below_set ?_ GE7.out | refine below_set ?_ GE10.out) | exact HB.out)) hb)
              clear BK1
              clear BK2
              clear BK3
              clear BK7
              clear BK10
              clear HB
              have BK1 := n0_
              have BK2 := n1_
              have BK3 := n2_
              have BK7 := n3_
              have BK10 := n4_
              have HB := n5_
              clear n0_ n1_ n2_ n3_ n4_ n5_
              (try clear hb)
              (try clear hb2)
              (try clear hk)
              (try clear hi)
              refine hK.out _ _ ⟨(blk_cell BK3.out 0).trans rfl, (blk_cell BK3.out 1).trans rfl, (blk_cell BK7.out 0).trans rfl, (blk_cell BK7.out 1).trans rfl, (blk_cell BK10.out 0).trans rfl, (blk_cell BK10.out 1).trans rfl⟩ (fun hHeld => ?_)
              clear hK K
              refine norm_ (a' := ?_) ?_ ?_
              rotate_left
              · show Act.put _ (some 52) _ = _
                simp only [Act.put, List.setIfInBounds_toArray, List.set_cons_zero, List.set_cons_succ, i64_w, i32_w]
                rfl
              refine one_ (i := 6) (N := some 53) #[true, true, true, true, true, true, true, true, true, true, true, false, false, false] rfl rfl (one_of HT_.out (by kernel_rfl)) (by decide) (fun K hK => ?_)
              refine goes_ Try.func75 (by kernel_rfl) rfl #[.agg #[.int .i64 x4000_1, .int .i64 x4001_1], .agg #[.int .i64 t19, .int .i64 t20]] (by rfl) rfl rfl (by (try simp only [List.map_toArray, List.map_cons, List.map_nil]); first | done | rfl | (simp only [List.length_drop, List.length_take]; rfl)) ?_
              with_reducible refine (headroomref16_add.calls k1 x4000_1 x4001_1 t19 t20 t21 t22 _ A23.out).mono ?_
              rintro e w49 ⟨rfl, hb⟩
              refine ⟨_, rfl, ?_⟩
              have n0_ := Aside0.mk (blk_below (g := gb1) (o := .cells #[.int .i64 0, .int .i64 0] 41 (0, 0)) (by (with_reducible repeat (first | refine blk_drewN ?_ _ | refine blk_drew ?_ | refine blk_alloc ?_ _)); exact BK1.out) hb)
              have n1_ := Aside0.mk (blk_below (g := gb2) (o := .cells #[.int .i64 t17, .int .i64 t18] 94 (0, 0)) (by (with_reducible repeat (first | refine blk_drewN ?_ _ | refine blk_drew ?_ | refine blk_alloc ?_ _)); exact BK2.out) hb)
              have n2_ := Aside0.mk (blk_below (g := gb3) (o := .cells #[.int .i64 x4000_1, .int .i64 x4001_1] 94 (0, 0)) (by (with_reducible repeat (first | refine blk_drewN ?_ _ | refine blk_drew ?_ | refine blk_alloc ?_ _)); exact BK3.out) hb)
              have n3_ := Aside0.mk (blk_below (g := gb7) (o := .cells #[.int .i64 ((rd_T41 l0 x21_1).f0), .int .i64 ((rd_T41 l0 x21_1).f1)] 41 (0, 0)) (by (with_reducible repeat (first | refine blk_drewN ?_ _ | refine blk_drew ?_ | refine blk_alloc ?_ _)); exact BK7.out) hb)
              have n4_ := Aside0.mk (blk_below (g := gb10) (o := .cells #[.int .i64 t8, .int .i64 t9] 41 (0, 0)) (by (with_reducible repeat (first | refine blk_drewN ?_ _ | refine blk_drew ?_ | refine blk_alloc ?_ _)); exact BK10.out) hb)
              have n5_ := Aside0.mk (below_step (by repeat (first | (with_reducible first | exact HB.out | apply below_alloc | apply pw_below_drewN | apply below_drew1 | refine below_set ?_ GE1.out | refine below_set ?_ GE2.out | refine below_set ?_ GE3.out | refine below_set ?_ GE7.out | refine below_set ?_ GE10.out) | exact HB.out)) hb)
              clear BK1
              clear BK2
              clear BK3
              clear BK7
              clear BK10
              clear HB
              have BK1 := n0_
              have BK2 := n1_
              have BK3 := n2_
              have BK7 := n3_
              have BK10 := n4_
              have HB := n5_
              clear n0_ n1_ n2_ n3_ n4_ n5_
              (try clear hb)
              (try clear hb2)
              (try clear hk)
              (try clear hi)
              refine hK.out _ _ ⟨(blk_cell BK3.out 0).trans rfl, (blk_cell BK3.out 1).trans rfl, (blk_cell BK7.out 0).trans rfl, (blk_cell BK7.out 1).trans rfl, (blk_cell BK10.out 0).trans rfl, (blk_cell BK10.out 1).trans rfl⟩ (fun hHeld => ?_)
              clear hK K
              refine norm_ (a' := ?_) ?_ ?_
              rotate_left
              · show Act.put _ (some 53) _ = _
                simp only [Act.put, List.setIfInBounds_toArray, List.set_cons_zero, List.set_cons_succ, i64_w, i32_w]
                rfl
              refine one_ (i := 11) (N := some 58) #[true, true, true, true, true, true, true, true, true, true, true, true, false, false] rfl rfl (one_of HT_.out (by kernel_rfl)) (by decide) (fun K hK => ?_)
              refine goes_ Try.func76 (by kernel_rfl) rfl #[.int .i64 ((rd_T41 l0 x21_1).f1), .int .i64 t8] (by rfl) rfl rfl (by (try simp only [List.map_toArray, List.map_cons, List.map_nil]); first | done | rfl | (simp only [List.length_drop, List.length_take]; rfl)) ?_
              with_reducible refine (headroomref16_times.calls k1 ((rd_T41 l0 x21_1).f1) t8 t23 t24 _ A24.out).mono ?_
              rintro e w50 ⟨rfl, hb⟩
              refine ⟨_, rfl, ?_⟩
              have n0_ := Aside0.mk (blk_below (g := gb1) (o := .cells #[.int .i64 0, .int .i64 0] 41 (0, 0)) (by (with_reducible repeat (first | refine blk_drewN ?_ _ | refine blk_drew ?_ | refine blk_alloc ?_ _)); exact BK1.out) hb)
              have n1_ := Aside0.mk (blk_below (g := gb2) (o := .cells #[.int .i64 t17, .int .i64 t18] 94 (0, 0)) (by (with_reducible repeat (first | refine blk_drewN ?_ _ | refine blk_drew ?_ | refine blk_alloc ?_ _)); exact BK2.out) hb)
              have n2_ := Aside0.mk (blk_below (g := gb3) (o := .cells #[.int .i64 x4000_1, .int .i64 x4001_1] 94 (0, 0)) (by (with_reducible repeat (first | refine blk_drewN ?_ _ | refine blk_drew ?_ | refine blk_alloc ?_ _)); exact BK3.out) hb)
              have n3_ := Aside0.mk (blk_below (g := gb7) (o := .cells #[.int .i64 ((rd_T41 l0 x21_1).f0), .int .i64 ((rd_T41 l0 x21_1).f1)] 41 (0, 0)) (by (with_reducible repeat (first | refine blk_drewN ?_ _ | refine blk_drew ?_ | refine blk_alloc ?_ _)); exact BK7.out) hb)
              have n4_ := Aside0.mk (blk_below (g := gb10) (o := .cells #[.int .i64 t8, .int .i64 t9] 41 (0, 0)) (by (with_reducible repeat (first | refine blk_drewN ?_ _ | refine blk_drew ?_ | refine blk_alloc ?_ _)); exact BK10.out) hb)
              have n5_ := Aside0.mk (below_step (by repeat (first | (with_reducible first | exact HB.out | apply below_alloc | apply pw_below_drewN | apply below_drew1 | refine below_set ?_ GE1.out | refine below_set ?_ GE2.out | refine below_set ?_ GE3.out | refine below_set ?_ GE7.out | refine below_set ?_ GE10.out) | exact HB.out)) hb)
              clear BK1
              clear BK2
              clear BK3
              clear BK7
              clear BK10
              clear HB
              have BK1 := n0_
              have BK2 := n1_
              have BK3 := n2_
              have BK7 := n3_
              have BK10 := n4_
              have HB := n5_
              clear n0_ n1_ n2_ n3_ n4_ n5_
              (try clear hb)
              (try clear hb2)
              (try clear hk)
              (try clear hi)
              refine hK.out _ _ ⟨(blk_cell BK3.out 0).trans rfl, (blk_cell BK3.out 1).trans rfl, (blk_cell BK7.out 0).trans rfl, (blk_cell BK7.out 1).trans rfl, (blk_cell BK10.out 0).trans rfl, (blk_cell BK10.out 1).trans rfl⟩ (fun hHeld => ?_)
              clear hK K
              refine norm_ (a' := ?_) ?_ ?_
              rotate_left
              · show Act.put _ (some 58) _ = _
                simp only [Act.put, List.setIfInBounds_toArray, List.set_cons_zero, List.set_cons_succ, i64_w, i32_w]
                rfl
              refine one_ (i := 12) (N := some 59) #[true, true, true, true, true, true, true, true, true, true, true, true, true, false] rfl rfl (one_of HT_.out (by kernel_rfl)) (by decide) (fun K hK => ?_)
              refine goes_ Try.func75 (by kernel_rfl) rfl #[.agg #[.int .i64 t21, .int .i64 t22], .agg #[.int .i64 t23, .int .i64 t24]] (by rfl) rfl rfl (by (try simp only [List.map_toArray, List.map_cons, List.map_nil]); first | done | rfl | (simp only [List.length_drop, List.length_take]; rfl)) ?_
              with_reducible refine (headroomref16_add.calls k1 t21 t22 t23 t24 t25 t26 _ A25.out).mono ?_
              rintro e w51 ⟨rfl, hb⟩
              refine ⟨_, rfl, ?_⟩
              have n0_ := Aside0.mk (blk_below (g := gb1) (o := .cells #[.int .i64 0, .int .i64 0] 41 (0, 0)) (by (with_reducible repeat (first | refine blk_drewN ?_ _ | refine blk_drew ?_ | refine blk_alloc ?_ _)); exact BK1.out) hb)
              have n1_ := Aside0.mk (blk_below (g := gb2) (o := .cells #[.int .i64 t17, .int .i64 t18] 94 (0, 0)) (by (with_reducible repeat (first | refine blk_drewN ?_ _ | refine blk_drew ?_ | refine blk_alloc ?_ _)); exact BK2.out) hb)
              have n2_ := Aside0.mk (blk_below (g := gb3) (o := .cells #[.int .i64 x4000_1, .int .i64 x4001_1] 94 (0, 0)) (by (with_reducible repeat (first | refine blk_drewN ?_ _ | refine blk_drew ?_ | refine blk_alloc ?_ _)); exact BK3.out) hb)
              have n3_ := Aside0.mk (blk_below (g := gb7) (o := .cells #[.int .i64 ((rd_T41 l0 x21_1).f0), .int .i64 ((rd_T41 l0 x21_1).f1)] 41 (0, 0)) (by (with_reducible repeat (first | refine blk_drewN ?_ _ | refine blk_drew ?_ | refine blk_alloc ?_ _)); exact BK7.out) hb)
              have n4_ := Aside0.mk (blk_below (g := gb10) (o := .cells #[.int .i64 t8, .int .i64 t9] 41 (0, 0)) (by (with_reducible repeat (first | refine blk_drewN ?_ _ | refine blk_drew ?_ | refine blk_alloc ?_ _)); exact BK10.out) hb)
              have n5_ := Aside0.mk (below_step (by repeat (first | (with_reducible first | exact HB.out | apply below_alloc | apply pw_below_drewN | apply below_drew1 | refine below_set ?_ GE1.out | refine below_set ?_ GE2.out | refine below_set ?_ GE3.out | refine below_set ?_ GE7.out | refine below_set ?_ GE10.out) | exact HB.out)) hb)
              clear BK1
              clear BK2
              clear BK3
              clear BK7
              clear BK10
              clear HB
              have BK1 := n0_
              have BK2 := n1_
              have BK3 := n2_
              have BK7 := n3_
              have BK10 := n4_
              have HB := n5_
              clear n0_ n1_ n2_ n3_ n4_ n5_
              (try clear hb)
              (try clear hb2)
              (try clear hk)
              (try clear hi)
              refine hK.out _ _ ⟨(blk_cell BK3.out 0).trans rfl, (blk_cell BK3.out 1).trans rfl, (blk_cell BK7.out 0).trans rfl, (blk_cell BK7.out 1).trans rfl, (blk_cell BK10.out 0).trans rfl, (blk_cell BK10.out 1).trans rfl⟩ (fun hHeld => ?_)
              clear hK K
              refine norm_ (a' := ?_) ?_ ?_
              rotate_left
              · show Act.put _ (some 59) _ = _
                simp only [Act.put, List.setIfInBounds_toArray, List.set_cons_zero, List.set_cons_succ, i64_w, i32_w]
                rfl
              refine last_ (i := 13) (N := none) #[true, true, true, true, true, true, true, true, true, true, true, true, true, true] rfl rfl (one_of HT_.out (by kernel_rfl)) (by decide) (fun K hK => ?_)
              have hs52 : w51.cell? ⟨gb3, 0, none⟩ = some (.int .i64 x4000_1) := (blk_cell BK3.out 0).trans rfl
              have hfs52 := blk_frozen BK3.out 0
              have hns52_0 := NB1_3.out
              have hns52_1 := NB2_3.out
              have hns52_3 := NB7_3.out
              have hns52_4 := NB10_3.out
              have hms52_0 := NB3_1.out
              have hms52_1 := NB3_2.out
              have hms52_3 := NB3_7.out
              have hms52_4 := NB3_10.out
              have hs53 : w51.cell? ⟨gb3, 1, none⟩ = some (.int .i64 x4001_1) := (blk_cell BK3.out 1).trans rfl
              have hfs53 := blk_frozen BK3.out 1
              have hns53_0 := NB1_3.out
              have hns53_1 := NB2_3.out
              have hns53_3 := NB7_3.out
              have hns53_4 := NB10_3.out
              have hms53_0 := NB3_1.out
              have hms53_1 := NB3_2.out
              have hms53_3 := NB3_7.out
              have hms53_4 := NB3_10.out
              refine skip_ (w1 := ?_) (by rfl) rfl ?_ ?_
              rotate_left
              · go_simp
                rfl
              refine hK.out _ _ ?_
              clear hK K
              refine done_ (done_of HT_.out (by kernel_rfl)) ?_
              try go_wp2
              go_roundg k1
              case measure => have := HK1.out; omega
              case rel => exact ⟨(wrap64 (x21_1 + 1)), (t17), (t18), (t25), (t26), (by first | rfl | (simp; done) | (simp [*]; done)), H', ⟨by have := HK1.out; omega⟩, ⟨by (with_reducible repeat (first | refine blk_drewN ?_ _ | refine blk_drew ?_ | refine blk_alloc ?_ _)); refine blk_far ?_ NB1_3.out _; (with_reducible repeat (first | refine blk_drewN ?_ _ | refine blk_drew ?_ | refine blk_alloc ?_ _)); refine blk_far ?_ NB1_3.out _; (with_reducible repeat (first | refine blk_drewN ?_ _ | refine blk_drew ?_ | refine blk_alloc ?_ _)); exact BK1.out⟩, ⟨by (with_reducible repeat (first | refine blk_drewN ?_ _ | refine blk_drew ?_ | refine blk_alloc ?_ _)); refine blk_far ?_ NB2_3.out _; (with_reducible repeat (first | refine blk_drewN ?_ _ | refine blk_drew ?_ | refine blk_alloc ?_ _)); refine blk_far ?_ NB2_3.out _; (with_reducible repeat (first | refine blk_drewN ?_ _ | refine blk_drew ?_ | refine blk_alloc ?_ _)); exact BK2.out⟩, ⟨by (with_reducible repeat (first | refine blk_drewN ?_ _ | refine blk_drew ?_ | refine blk_alloc ?_ _)); refine blk_put (cs := #[.int .i64 t25, .int .i64 x4001_1]) ?_ 1 _ rfl; (with_reducible repeat (first | refine blk_drewN ?_ _ | refine blk_drew ?_ | refine blk_alloc ?_ _)); refine blk_put (cs := #[.int .i64 x4000_1, .int .i64 x4001_1]) ?_ 0 _ rfl; (with_reducible repeat (first | refine blk_drewN ?_ _ | refine blk_drew ?_ | refine blk_alloc ?_ _)); exact BK3.out⟩, ⟨by repeat (first | (with_reducible first | exact HB.out | apply below_alloc | apply pw_below_drewN | apply below_drew1 | refine below_set ?_ GE1.out | refine below_set ?_ GE2.out | refine below_set ?_ GE3.out | refine below_set ?_ GE7.out | refine below_set ?_ GE10.out) | exact HB.out)⟩⟩
          · rw [if_neg c15] at H
            exact absurd H (by simp)
        · rw [if_neg c14] at H
          exact absurd H (by simp)
      · rw [if_neg c13] at H
        have c13b0 : decide (x21_1 < (l0.length : Int)) = false := decide_eq_false c13
        clear c13
        replace H := Option.bind_eq_some_iff.mp H
        obtain ⟨t4, A540, H⟩ := H
        replace H : ((headroomref16_down.f k1 x4000_1 x4001_1).bind fun t5 => (some (t4, t5))) = some (r1, r2) := H
        have A54 := Aside0.mk A540
        clear A540
        replace H := Option.bind_eq_some_iff.mp H
        obtain ⟨t5, A550, H⟩ := H
        replace H : (some (t4, t5)) = some (r1, r2) := H
        have A55 := Aside0.mk A550
        clear A550
        simp only [Option.some.injEq, Prod.mk.injEq] at H
        obtain ⟨rfl, rfl⟩ := H
        try go_wp2
        have n0_ := Aside0.mk (blk_drew BK1.out)
        have n1_ := Aside0.mk (blk_drew BK2.out)
        have n2_ := Aside0.mk (blk_drew BK3.out)
        have n3_ := Aside0.mk (below_drew1 HB.out)
        clear BK1
        clear BK2
        clear BK3
        clear HB
        have BK1 := n0_
        have BK2 := n1_
        have BK3 := n2_
        have HB := n3_
        clear n0_ n1_ n2_ n3_
        refine start_ (n := 6) (S := fun w' => w'.cell? ⟨gb2, 0, none⟩ = some (.int .i64 x3000_1) ∧ w'.cell? ⟨gb2, 1, none⟩ = some (.int .i64 x3001_1) ∧ w'.cell? ⟨gb3, 0, none⟩ = some (.int .i64 x4000_1) ∧ w'.cell? ⟨gb3, 1, none⟩ = some (.int .i64 x4001_1)) (ds := []) #[false, false, false, false, false, false] (by kernel_rfl) rfl rfl ⟨(blk_cell BK2.out 0).trans rfl, (blk_cell BK2.out 1).trans rfl, (blk_cell BK3.out 0).trans rfl, (blk_cell BK3.out 1).trans rfl⟩ (fun hHeld => ?_)
        generalize wr.drew = w56 at BK1 BK2 BK3 HB hHeld ⊢
        refine take_ (i := 0) (N := some 61) (v := ?_) (a' := ?_) #[true, false, false, false, false, false] rfl rfl (by kernel_rfl) (fun _ _ _ h => h) (Or.inl ⟨by rfl, ?_⟩) hHeld ?_ ?_
        rotate_left
        · rintro w' ⟨s0, s1, s2, s3⟩
          go_simp
          with_reducible rfl
        rotate_left
        · simp only [Act.put, List.setIfInBounds_toArray, List.set_cons_zero, List.set_cons_succ, i64_w, i32_w]
          rfl
        refine take_ (i := 2) (N := some 63) (v := ?_) (a' := ?_) #[true, false, true, false, false, false] rfl rfl (by kernel_rfl) (fun _ _ _ h => h) (Or.inl ⟨by rfl, ?_⟩) hHeld ?_ ?_
        rotate_left
        · rintro w' ⟨s0, s1, s2, s3⟩
          go_simp
          with_reducible rfl
        rotate_left
        · simp only [Act.put, List.setIfInBounds_toArray, List.set_cons_zero, List.set_cons_succ, i64_w, i32_w]
          rfl
        refine one_ (i := 1) (N := some 62) #[true, true, true, false, false, false] rfl rfl (by kernel_rfl) (by decide) (fun K hK => ?_)
        refine goes_ Try.func77 (by kernel_rfl) rfl #[.agg #[.int .i64 x3000_1, .int .i64 x3001_1]] (by rfl) rfl rfl (by (try simp only [List.map_toArray, List.map_cons, List.map_nil]); first | done | rfl | (simp only [List.length_drop, List.length_take]; rfl)) ?_
        with_reducible refine (headroomref16_down.calls k1 x3000_1 x3001_1 t4 _ A54.out).mono ?_
        rintro e w57 ⟨rfl, hb⟩
        refine ⟨_, rfl, ?_⟩
        have n0_ := Aside0.mk (blk_below (g := gb1) (o := .cells #[.int .i64 0, .int .i64 0] 41 (0, 0)) (by (with_reducible repeat (first | refine blk_drewN ?_ _ | refine blk_drew ?_ | refine blk_alloc ?_ _)); exact BK1.out) hb)
        have n1_ := Aside0.mk (blk_below (g := gb2) (o := .cells #[.int .i64 x3000_1, .int .i64 x3001_1] 94 (0, 0)) (by (with_reducible repeat (first | refine blk_drewN ?_ _ | refine blk_drew ?_ | refine blk_alloc ?_ _)); exact BK2.out) hb)
        have n2_ := Aside0.mk (blk_below (g := gb3) (o := .cells #[.int .i64 x4000_1, .int .i64 x4001_1] 94 (0, 0)) (by (with_reducible repeat (first | refine blk_drewN ?_ _ | refine blk_drew ?_ | refine blk_alloc ?_ _)); exact BK3.out) hb)
        have n3_ := Aside0.mk (below_step (by repeat (first | (with_reducible first | exact HB.out | apply below_alloc | apply pw_below_drewN | apply below_drew1 | refine below_set ?_ GE1.out | refine below_set ?_ GE2.out | refine below_set ?_ GE3.out) | exact HB.out)) hb)
        clear BK1
        clear BK2
        clear BK3
        clear HB
        have BK1 := n0_
        have BK2 := n1_
        have BK3 := n2_
        have HB := n3_
        clear n0_ n1_ n2_ n3_
        (try clear hb)
        (try clear hb2)
        (try clear hk)
        (try clear hi)
        refine hK.out _ _ ⟨(blk_cell BK2.out 0).trans rfl, (blk_cell BK2.out 1).trans rfl, (blk_cell BK3.out 0).trans rfl, (blk_cell BK3.out 1).trans rfl⟩ (fun hHeld => ?_)
        clear hK K
        refine norm_ (a' := ?_) ?_ ?_
        rotate_left
        · show Act.put _ (some 62) _ = _
          simp only [Act.put, List.setIfInBounds_toArray, List.set_cons_zero, List.set_cons_succ, i64_w, i32_w]
          rfl
        refine one_ (i := 3) (N := some 64) #[true, true, true, true, false, false] rfl rfl (by kernel_rfl) (by decide) (fun K hK => ?_)
        refine goes_ Try.func77 (by kernel_rfl) rfl #[.agg #[.int .i64 x4000_1, .int .i64 x4001_1]] (by rfl) rfl rfl (by (try simp only [List.map_toArray, List.map_cons, List.map_nil]); first | done | rfl | (simp only [List.length_drop, List.length_take]; rfl)) ?_
        with_reducible refine (headroomref16_down.calls k1 x4000_1 x4001_1 t5 _ A55.out).mono ?_
        rintro e w58 ⟨rfl, hb⟩
        refine ⟨_, rfl, ?_⟩
        have n0_ := Aside0.mk (blk_below (g := gb1) (o := .cells #[.int .i64 0, .int .i64 0] 41 (0, 0)) (by (with_reducible repeat (first | refine blk_drewN ?_ _ | refine blk_drew ?_ | refine blk_alloc ?_ _)); exact BK1.out) hb)
        have n1_ := Aside0.mk (blk_below (g := gb2) (o := .cells #[.int .i64 x3000_1, .int .i64 x3001_1] 94 (0, 0)) (by (with_reducible repeat (first | refine blk_drewN ?_ _ | refine blk_drew ?_ | refine blk_alloc ?_ _)); exact BK2.out) hb)
        have n2_ := Aside0.mk (blk_below (g := gb3) (o := .cells #[.int .i64 x4000_1, .int .i64 x4001_1] 94 (0, 0)) (by (with_reducible repeat (first | refine blk_drewN ?_ _ | refine blk_drew ?_ | refine blk_alloc ?_ _)); exact BK3.out) hb)
        have n3_ := Aside0.mk (below_step (by repeat (first | (with_reducible first | exact HB.out | apply below_alloc | apply pw_below_drewN | apply below_drew1 | refine below_set ?_ GE1.out | refine below_set ?_ GE2.out | refine below_set ?_ GE3.out) | exact HB.out)) hb)
        clear BK1
        clear BK2
        clear BK3
        clear HB
        have BK1 := n0_
        have BK2 := n1_
        have BK3 := n2_
        have HB := n3_
        clear n0_ n1_ n2_ n3_
        (try clear hb)
        (try clear hb2)
        (try clear hk)
        (try clear hi)
        refine hK.out _ _ ⟨(blk_cell BK2.out 0).trans rfl, (blk_cell BK2.out 1).trans rfl, (blk_cell BK3.out 0).trans rfl, (blk_cell BK3.out 1).trans rfl⟩ (fun hHeld => ?_)
        clear hK K
        refine norm_ (a' := ?_) ?_ ?_
        rotate_left
        · show Act.put _ (some 64) _ = _
          simp only [Act.put, List.setIfInBounds_toArray, List.set_cons_zero, List.set_cons_succ, i64_w, i32_w]
          rfl
        refine pure_ (i := 4) (N := some 65) (v := ?_) (a' := ?_) #[true, true, true, true, true, false] rfl rfl (by kernel_rfl) (fun _ _ _ h => h) (Or.inl ⟨by rfl, ?_⟩) ?_ ?_
        rotate_left
        · intro w'
          go_simp
          with_reducible rfl
        rotate_left
        · simp only [Act.put, List.setIfInBounds_toArray, List.set_cons_zero, List.set_cons_succ, i64_w, i32_w]
          rfl
        refine one_ (i := 5) (N := none) #[true, true, true, true, true, true] rfl rfl (by kernel_rfl) (by decide) (fun K hK => ?_)
        have hs59 : w58.cell? ⟨gb1, 0, none⟩ = some (.int .i64 0) := (blk_cell BK1.out 0).trans rfl
        have hfs59 := blk_frozen BK1.out 0
        have hns59_1 := NB2_1.out
        have hns59_2 := NB3_1.out
        have hms59_1 := NB1_2.out
        have hms59_2 := NB1_3.out
        have hs60 : w58.cell? ⟨gb1, 1, none⟩ = some (.int .i64 0) := (blk_cell BK1.out 1).trans rfl
        have hfs60 := blk_frozen BK1.out 1
        have hns60_1 := NB2_1.out
        have hns60_2 := NB3_1.out
        have hms60_1 := NB1_2.out
        have hms60_2 := NB1_3.out
        refine skip_ (w1 := ?_) (by rfl) rfl ?_ ?_
        rotate_left
        · go_simp
          rfl
        refine hK.out _ _ ⟨((cell_far (p := ⟨gb1, _, none⟩) NB2_1.out _).trans (((cell_far (p := ⟨gb1, _, none⟩) NB2_1.out _).trans (hHeld.1)))), ((cell_far (p := ⟨gb1, _, none⟩) NB2_1.out _).trans (((cell_far (p := ⟨gb1, _, none⟩) NB2_1.out _).trans (hHeld.2.1)))), ((cell_far (p := ⟨gb1, _, none⟩) NB3_1.out _).trans (((cell_far (p := ⟨gb1, _, none⟩) NB3_1.out _).trans (hHeld.2.2.1)))), ((cell_far (p := ⟨gb1, _, none⟩) NB3_1.out _).trans (((cell_far (p := ⟨gb1, _, none⟩) NB3_1.out _).trans (hHeld.2.2.2))))⟩ (fun hHeld => ?_)
        clear hK K
        refine done_ (by kernel_rfl) ?_
        try go_wp2
        refine bodyPost_ret (results_cell_row rfl _ _ gb1 41 #[.int .i64 t4, .int .i64 t5] (0, 0) _ rfl (by (with_reducible repeat (first | refine blk_drewN ?_ _ | refine blk_drew ?_ | refine blk_alloc ?_ _)); refine blk_put (cs := #[.int .i64 t4, .int .i64 0]) ?_ 1 _ rfl; (with_reducible repeat (first | refine blk_drewN ?_ _ | refine blk_drew ?_ | refine blk_alloc ?_ _)); refine blk_put (cs := #[.int .i64 0, .int .i64 0]) ?_ 0 _ rfl; (with_reducible repeat (first | refine blk_drewN ?_ _ | refine blk_drew ?_ | refine blk_alloc ?_ _)); exact BK1.out) Try.underlying41 rfl (by kernel_rfl)) rfl ?_
        exact ⟨by first | rfl | (simp [errW_none, errW_some] <;> rfl) | (simp [*, errW_none, errW_some] <;> rfl), by repeat (first | (with_reducible first | exact HB.out | apply below_alloc | apply pw_below_drewN | apply below_drew1 | refine below_set ?_ GE1.out | refine below_set ?_ GE2.out | refine below_set ?_ GE3.out) | exact HB.out)⟩

end Go.Proofs.Ytpmkkidljmedaaa.X
namespace Go.Proofs.Ytpmkkidljmedaaa.X
open Go.RowKit Go.Proofs.YtpmkkidljmedaaaW.PrintWords Go.Proofs.YtpmkkidljmedaaaW.PrintLast Go.Proofs.YtpmkkidljmedaaaW.PrintMore
set_option linter.unusedVariables false

/-- Are both parts so great at most? -/
def Le (m : Int) (x : CxN) : Prop := -m ≤ x.f0 ∧ x.f0 ≤ m ∧ -m ≤ x.f1 ∧ x.f1 ≤ m

theorem norm_spec (a b : Int) (k : Nat) (hk : 30 < k) (ha : -4611686018427387904 ≤ a ∧ a ≤ 4611686018427387904) (hb : -4611686018427387904 ≤ b ∧ b ≤ 4611686018427387904) :
    headroomref16_norm.f k a b = some ((a * 1048576 + b) / 1048576, (a * 1048576 + b) % 1048576) := by
  unfold headroomref16_norm.f
  have e : (2 : Int) ^ (20 : Int).toNat = 1048576 := by decide
  have h1 := ref_floor' b 20 k ⟨by omega, by omega⟩ (by omega) (by omega) (by omega)
  have h2 := ref_pow' 20 k (by omega) (by omega) (by omega)
  rw [e] at h1 h2
  rw [h1, Option.bind_some, h2, Option.bind_some, HM.wrap64_id (a + b / 1048576) (by omega) (by omega), HM.wrap64_id (b / 1048576 * 1048576) (by omega) (by omega), HM.wrap64_id _ (by omega) (by omega)]
  congr 1
  rw [Prod.mk.injEq]
  constructor <;> omega

theorem times_spec (a b : Int) (k : Nat) (hk : 30 < k) (ha : -2147483648 ≤ a ∧ a ≤ 2147483648) (hb : -1099511627776 ≤ b ∧ b ≤ 1099511627776) :
    headroomref16_times.f k a b = some (a * b / 1048576, a * b % 1048576) := by
  unfold headroomref16_times.f
  have e : (2 : Int) ^ (20 : Int).toNat = 1048576 := by decide
  have h1 := ref_floor' b 20 k ⟨by omega, by omega⟩ (by omega) (by omega) (by omega)
  have h2 := ref_pow' 20 k (by omega) (by omega) (by omega)
  rw [e] at h1 h2
  have m1 := HM.mul_bound 2147483648 1048576 a (b / 1048576) (by omega) (by omega) (by omega) (by omega) (by omega) (by omega)
  have m2 := HM.mul_bound 2147483648 1048576 a (b - b / 1048576 * 1048576) (by omega) (by omega) (by omega) (by omega) (by omega) (by omega)
  rw [h1, Option.bind_some, h2, Option.bind_some, HM.wrap64_id (b / 1048576 * 1048576) (by omega) (by omega), HM.wrap64_id (b - b / 1048576 * 1048576) (by omega) (by omega),
    HM.wrap64_id (a * (b / 1048576)) (by omega) (by omega), HM.wrap64_id _ (by omega) (by omega), norm_spec _ _ k hk (by omega) (by omega), Option.bind_some]
  have ev : a * (b / 1048576) * 1048576 + a * (b - b / 1048576 * 1048576) = a * b := by
    rw [Int.mul_sub, Int.mul_assoc]
    omega
  rw [ev]

theorem add_spec (u v : Int) (k : Nat) (hk : 30 < k) (hu : -604462909807314587353088 ≤ u ∧ u ≤ 604462909807314587353088) (hv : -604462909807314587353088 ≤ v ∧ v ≤ 604462909807314587353088) :
    headroomref16_add.f k (u / 1048576) (u % 1048576) (v / 1048576) (v % 1048576) = some ((u + v) / 1048576, (u + v) % 1048576) := by
  unfold headroomref16_add.f
  rw [HM.wrap64_id _ (by omega) (by omega), HM.wrap64_id _ (by omega) (by omega), norm_spec _ _ k hk (by omega) (by omega), Option.bind_some]
  have e : (u / 1048576 + v / 1048576) * 1048576 + (u % 1048576 + v % 1048576) = u + v := by omega
  rw [e]
theorem less_spec (u v : Int) (k : Nat) (hk : 30 < k) (hu : -604462909807314587353088 ≤ u ∧ u ≤ 604462909807314587353088) (hv : -604462909807314587353088 ≤ v ∧ v ≤ 604462909807314587353088) :
    headroomref16_less.f k (u / 1048576) (u % 1048576) (v / 1048576) (v % 1048576) = some ((u - v) / 1048576, (u - v) % 1048576) := by
  unfold headroomref16_less.f
  rw [HM.wrap64_id _ (by omega) (by omega), HM.wrap64_id _ (by omega) (by omega), norm_spec _ _ k hk (by omega) (by omega), Option.bind_some]
  have e : (u / 1048576 - v / 1048576) * 1048576 + (u % 1048576 - v % 1048576) = u - v := by omega
  rw [e]
theorem down_spec (u : Int) (k : Nat) (hk : 30 < k) (hu : -604462909807314587353088 ≤ u ∧ u ≤ 604462909807314587353088) :
    headroomref16_down.f k (u / 1048576) (u % 1048576) = some (u / 4294967296) := by
  unfold headroomref16_down.f
  have e : (2 : Int) ^ (12 : Int).toNat = 4096 := by decide
  have h1 := ref_floor' (u / 1048576) 12 k ⟨by omega, by omega⟩ (by omega) (by omega) (by omega)
  rw [e] at h1
  rw [h1, Option.bind_some]
  congr 1
  omega

/-- A list's number, 0 beyond. -/
def cxAt (l : List CxN) (i : Nat) : CxN := l.getD i ⟨0, 0⟩
theorem rd_at (l : List CxN) (i : Nat) : rd_T41 l (i : Int) = cxAt l i := by
  unfold rd_T41 cxAt
  rw [Int.toNat_natCast]
  rfl
theorem Le.at {m : Int} (hm : 0 ≤ m) {l : List CxN} (h : ∀ x ∈ l, Le m x) (i : Nat) : Le m (cxAt l i) := by
  unfold cxAt
  rw [List.getD_eq_getElem?_getD]
  by_cases c : i < l.length
  · rw [List.getElem?_eq_getElem c]
    exact h _ (List.getElem_mem c)
  · rw [List.getElem?_eq_none (by omega)]
    unfold Le
    simp only [Option.getD_none]
    omega
/-- The root that number j is turned by in bin k. -/
def turnBy (t : List CxN) (n k : Nat) (inv : Bool) (j : Nat) : CxN := if inv = true then ⟨(cxAt t (j * k % n)).f0, -(cxAt t (j * k % n)).f1⟩ else cxAt t (j * k % n)
theorem Le.turnBy {m : Int} (hm : 0 ≤ m) {t : List CxN} (h : ∀ x ∈ t, Le m x) (n k : Nat) (inv : Bool) (j : Nat) : Le m (turnBy t n k inv j) := by
  have := Le.at hm h (j * k % n)
  unfold X.turnBy
  unfold Le at *
  split <;> (try dsimp only) <;> omega
def vre (l t : List CxN) (n k : Nat) (inv : Bool) : Nat → Int
  | 0 => 0
  | j + 1 => vre l t n k inv j + ((cxAt l j).f0 * (turnBy t n k inv j).f0 - (cxAt l j).f1 * (turnBy t n k inv j).f1)
def vim (l t : List CxN) (n k : Nat) (inv : Bool) : Nat → Int
  | 0 => 0
  | j + 1 => vim l t n k inv j + ((cxAt l j).f0 * (turnBy t n k inv j).f1 + (cxAt l j).f1 * (turnBy t n k inv j).f0)
/-- A bin. -/
def binV (l t : List CxN) (n : Nat) (inv : Bool) (k : Nat) : CxN := ⟨vre l t n k inv n / 4294967296, vim l t n k inv n / 4294967296⟩

theorem prod_bound (a b : Int) (ha : -2147483648 ≤ a ∧ a ≤ 2147483648) (hb : -1099511627776 ≤ b ∧ b ≤ 1099511627776) : -2361183241434822606848 ≤ a * b ∧ a * b ≤ 2361183241434822606848 := by
  have := HM.mul_bound 2147483648 1099511627776 a b (by omega) (by omega) (by omega) (by omega) (by omega) (by omega)
  omega
theorem v_bound {l t : List CxN} {n : Nat} (hl : ∀ x ∈ l, Le 2147483648 x) (ht : ∀ x ∈ t, Le 1099511627776 x) (k : Nat) (inv : Bool) (j : Nat) : -(4722366482869645213696 * (j : Int)) ≤ vre l t n k inv j ∧ vre l t n k inv j ≤ 4722366482869645213696 * j ∧ -(4722366482869645213696 * (j : Int)) ≤ vim l t n k inv j ∧ vim l t n k inv j ≤ 4722366482869645213696 * j := by
  induction j with
  | zero => simp [vre, vim]
  | succ j ih =>
    have hx := Le.at (by omega) hl j
    have hr := Le.turnBy (by omega) ht n k inv j
    unfold Le at hx hr
    have p1 := prod_bound (cxAt l j).f0 (turnBy t n k inv j).f0 (by omega) (by omega)
    have p2 := prod_bound (cxAt l j).f1 (turnBy t n k inv j).f1 (by omega) (by omega)
    have p3 := prod_bound (cxAt l j).f0 (turnBy t n k inv j).f1 (by omega) (by omega)
    have p4 := prod_bound (cxAt l j).f1 (turnBy t n k inv j).f0 (by omega) (by omega)
    simp only [vre, vim]
    push_cast
    omega
/-- The document's bin. -/
theorem refbin_loop {l t : List CxN} {n : Nat} (hl : ∀ x ∈ l, Le 2147483648 x) (ht : ∀ x ∈ t, Le 1099511627776 x) (hln : l.length = n) (htn : t.length = n) (hn : n ≤ 64) (k : Nat) (hk : k < n) (inv : Bool) : ∀ (d j K : Nat), n - j = d → j ≤ n → d + 40 < K →
    headroomref16_Bin.l0 K t k inv n l n j (vre l t n k inv j / 1048576) (vre l t n k inv j % 1048576) (vim l t n k inv j / 1048576) (vim l t n k inv j % 1048576) = some (vre l t n k inv n / 4294967296, vim l t n k inv n / 4294967296) := by
  intro d
  induction d with
  | zero =>
    intro j K hd hj hK
    obtain rfl : j = n := by omega
    obtain ⟨K, rfl⟩ : ∃ K', K = K' + 1 := ⟨K - 1, by omega⟩
    have hb := v_bound (n := j) hl ht k inv j
    rw [headroomref16_Bin.l0, if_neg (by omega), down_spec _ K (by omega) (by omega), Option.bind_some, down_spec _ K (by omega) (by omega), Option.bind_some]
  | succ d ih =>
    intro j K hd hj hK
    obtain ⟨K, rfl⟩ : ∃ K', K = K' + 1 := ⟨K - 1, by omega⟩
    have hb := v_bound (n := n) hl ht k inv j
    have hx := Le.at (by omega) hl j
    have hr := Le.turnBy (by omega) ht n k inv j
    have hjk : j * k < 64 * 64 := Nat.mul_lt_mul_of_lt_of_le (by omega) (by omega) (by omega)
    have hmod : Int.tmod (wrap64 ((j : Int) * (k : Int))) (n : Int) = ((j * k % n : Nat) : Int) := by
      rw [HM.wrap64_id _ (by rw [← Int.natCast_mul]; omega) (by rw [← Int.natCast_mul]; omega), ← Int.natCast_mul, Int.tmod_eq_emod_of_nonneg (by omega), ← Int.natCast_emod]
    have hlt : j * k % n < n := Nat.mod_lt _ (by omega)
    have hroot : headroomref10_Root.f t (Int.tmod (wrap64 ((j : Int) * (k : Int))) (n : Int)) inv = some ((turnBy t n k inv j).f0, (turnBy t n k inv j).f1) := by
      rw [hmod]
      unfold headroomref10_Root.f turnBy
      have hc := Le.at (by omega) ht (j * k % n)
      unfold Le at hc
      cases inv
      · rw [if_neg (by simp), if_pos (by omega), if_pos (by omega), rd_at]
        simp
      · rw [if_pos rfl, if_pos (by omega), if_pos (by omega), rd_at]
        unfold headroomref03_Conj.f
        rw [Option.bind_some, HM.wrap64_id _ (by omega) (by omega)]
        simp
    have e2 : ((j : Int) + 1) = ((j + 1 : Nat) : Int) := by norm_cast
    unfold Le at hx hr
    have p1 := prod_bound (cxAt l j).f0 (turnBy t n k inv j).f0 (by omega) (by omega)
    have p2 := prod_bound (cxAt l j).f1 (turnBy t n k inv j).f1 (by omega) (by omega)
    have p3 := prod_bound (cxAt l j).f0 (turnBy t n k inv j).f1 (by omega) (by omega)
    have p4 := prod_bound (cxAt l j).f1 (turnBy t n k inv j).f0 (by omega) (by omega)
    rw [headroomref16_Bin.l0, if_pos (by omega), if_pos (by omega), if_pos (by omega), if_neg (by omega), hroot, Option.bind_some, rd_at]
    simp only
    rw [times_spec (cxAt l j).f0 (turnBy t n k inv j).f0 K (by omega) (by omega) (by omega), Option.bind_some,
      add_spec _ _ K (by omega) (by omega) (by omega), Option.bind_some,
      times_spec (cxAt l j).f1 (turnBy t n k inv j).f1 K (by omega) (by omega) (by omega), Option.bind_some,
      less_spec _ _ K (by omega) (by omega) (by omega), Option.bind_some,
      times_spec (cxAt l j).f0 (turnBy t n k inv j).f1 K (by omega) (by omega) (by omega), Option.bind_some,
      add_spec _ _ K (by omega) (by omega) (by omega), Option.bind_some,
      times_spec (cxAt l j).f1 (turnBy t n k inv j).f0 K (by omega) (by omega) (by omega), Option.bind_some,
      add_spec _ _ K (by omega) (by omega) (by omega), Option.bind_some, HM.wrap64_id _ (by omega) (by omega), e2]
    have q1 : vre l t n k inv j + (cxAt l j).f0 * (turnBy t n k inv j).f0 - (cxAt l j).f1 * (turnBy t n k inv j).f1 = vre l t n k inv (j + 1) := by
      simp only [vre]
      omega
    have q2 : vim l t n k inv j + (cxAt l j).f0 * (turnBy t n k inv j).f1 + (cxAt l j).f1 * (turnBy t n k inv j).f0 = vim l t n k inv (j + 1) := by
      simp only [vim]
      omega
    rw [q1, q2]
    exact ih (j + 1) K (by omega) (by omega) (by omega)
theorem ref_bin {l t : List CxN} {n : Nat} (hl : ∀ x ∈ l, Le 2147483648 x) (ht : ∀ x ∈ t, Le 1099511627776 x) (hln : l.length = n) (htn : t.length = n) (hn : n ≤ 64) (k : Nat) (hk : k < n) (inv : Bool) (K : Nat) (hK : n + 40 < K) : headroomref16_Bin.f K l t k inv = some ((binV l t n inv k).f0, (binV l t n inv k).f1) := by
  unfold headroomref16_Bin.f
  have := refbin_loop hl ht hln htn hn k hk inv n 0 K (by omega) (by omega) (by omega)
  rw [hln]
  simpa [vre, vim, binV] using this

/-- The program's two parts of a sum. -/
theorem addHi_val (hi a b : Int) (h0 : -4611686018427387904 ≤ hi + a / 65536 * b ∧ hi + a / 65536 * b ≤ 4611686018427387904) (h1 : -72057594037927936 ≤ a / 65536 * b ∧ a / 65536 * b ≤ 72057594037927936) : addHi hi a b = hi + a / 65536 * b := by
  unfold addHi
  rw [HM.wrap64_id (a / 65536 * b) (by omega) (by omega), HM.wrap64_id _ (by omega) (by omega)]
theorem addLo_val (lo a b : Int) (h0 : -9223372036854775808 ≤ lo + a % 65536 * b ∧ lo + a % 65536 * b < 9223372036854775808) (h1 : -72057594037927936 ≤ a % 65536 * b ∧ a % 65536 * b ≤ 72057594037927936) : addLo lo a b = lo + a % 65536 * b := by
  unfold addLo
  rw [HM.wrap64_id (a % 65536 * b) (by omega) (by omega), HM.wrap64_id _ (by omega) (by omega)]
/-- One of 80 bits, and how great its parts may be after so many products. -/
def SumOk (m : Nat) (hi lo v : Int) : Prop := hi * 65536 + lo = v ∧ -(36028797018963968 * (m : Int)) ≤ hi ∧ hi ≤ 36028797018963968 * m ∧ -(72056494526300160 * (m : Int)) ≤ lo ∧ lo ≤ 72056494526300160 * m
theorem SumOk.add {m : Nat} {hi lo v a b : Int} (h : SumOk m hi lo v) (hm : m < 128) (ha : -2147483648 ≤ a ∧ a ≤ 2147483648) (hb : -1099511627776 ≤ b ∧ b ≤ 1099511627776) : SumOk (m + 1) (addHi hi a b) (addLo lo a b) (v + a * b) := by
  obtain ⟨h1, h2, h3, h4, h5⟩ := h
  have m1 := HM.mul_bound 32768 1099511627776 (a / 65536) b (by omega) (by omega) (by omega) (by omega) (by omega) (by omega)
  have m2 := HM.mul_bound 65535 1099511627776 (a % 65536) b (by omega) (by omega) (by omega) (by omega) (by omega) (by omega)
  have e : a / 65536 * b * 65536 + a % 65536 * b = a * b := by
    have := Int.mul_ediv_add_emod a 65536
    calc a / 65536 * b * 65536 + a % 65536 * b = (65536 * (a / 65536) + a % 65536) * b := by rw [Int.add_mul, Int.mul_right_comm, Int.mul_comm (a / 65536) 65536]
      _ = a * b := by rw [this]
  rw [addHi_val hi a b (by omega) (by omega), addLo_val lo a b (by omega) (by omega)]
  unfold SumOk
  push_cast
  omega
theorem SumOk.down {m : Nat} {hi lo v : Int} (h : SumOk m hi lo v) (hm : m ≤ 128) : sumDown hi lo = v / 4294967296 := by
  obtain ⟨h1, h2, h3, h4, h5⟩ := h
  unfold sumDown
  rw [HM.wrap64_id _ (by omega) (by omega)]
  omega
theorem binTo_val {l t : List CxN} {n : Nat} (hl : ∀ x ∈ l, Le 2147483648 x) (ht : ∀ x ∈ t, Le 1099511627776 x) {e : Nat} (he : e ≤ 6) (hn : n = 2 ^ e) (hln : l.length = n) (htn : t.length = n) (k : Nat) (hk : k < n) (inv : Bool) : ∀ j, j ≤ n → ∃ s : Sums, binTo l t k inv j = some s ∧ SumOk (2 * j) s.1 s.2.1 (vre l t n k inv j) ∧ SumOk (2 * j) s.2.2.1 s.2.2.2 (vim l t n k inv j) := by
  intro j
  induction j with
  | zero => intro _; exact ⟨(0, 0, 0, 0), rfl, by simp [SumOk, vre], by simp [SumOk, vim]⟩
  | succ j ih =>
    intro hj
    obtain ⟨s, hs, h1, h2⟩ := ih (by omega)
    have h64 : n ≤ 64 := by
      have : 2 ^ e ≤ 2 ^ 6 := Nat.pow_le_pow_right (by omega) he
      omega
    have hx := Le.at (by omega) hl j
    have hr := Le.turnBy (by omega) ht n k inv j
    have hjk : j * k < 64 * 64 := Nat.mul_lt_mul_of_lt_of_le (by omega) (by omega) (by omega)
    have hnE : (n : Int) = 2 ^ e := by rw [hn]; norm_cast
    have hmod : bits .and .i64 (wrap64 ((j : Int) * (k : Int))) ((n : Int) - 1) = ((j * k % n : Nat) : Int) := by
      rw [HM.wrap64_id _ (by rw [← Int.natCast_mul]; omega) (by rw [← Int.natCast_mul]; omega), ← Int.natCast_mul, hnE, HM.and_mask _ e (by omega), ← hnE, ← Int.natCast_emod]
    have hlt : j * k % n < n := Nat.mod_lt _ (by omega)
    have hroot : binRoot t l.length k inv j = some (turnBy t n k inv j) := by
      have hc := Le.at (by omega) ht (j * k % n)
      unfold Le at hc
      unfold binRoot
      rw [hln, hmod, if_pos ⟨by omega, by omega⟩, rd_at]
      unfold turnBy
      cases inv
      · simp
      · rw [if_pos rfl, if_pos rfl]
        unfold cx_Conj.f
        rw [if_pos (by unfold cxIn; simp; omega)]
        rfl
    unfold Le at hx hr
    refine ⟨binStep (cxAt l j) (turnBy t n k inv j) s, ?_, ?_, ?_⟩
    · rw [binTo, hs, Option.bind_some, hroot, Option.bind_some, rd_at]
    · have g1 := h1.add (a := (cxAt l j).f0) (b := (turnBy t n k inv j).f0) (by omega) (by omega) (by omega)
      have g2 := g1.add (a := wrap64 (-(cxAt l j).f1)) (b := (turnBy t n k inv j).f1) (by omega) (by rw [HM.wrap64_id _ (by omega) (by omega)]; omega) (by omega)
      rw [show vre l t n k inv j + (cxAt l j).f0 * (turnBy t n k inv j).f0 + wrap64 (-(cxAt l j).f1) * (turnBy t n k inv j).f1 = vre l t n k inv (j + 1) by
        rw [HM.wrap64_id _ (by omega) (by omega), Int.neg_mul]; simp only [vre]; omega] at g2
      exact g2
    · have g1 := h2.add (a := (cxAt l j).f0) (b := (turnBy t n k inv j).f1) (by omega) (by omega) (by omega)
      have g2 := g1.add (a := (cxAt l j).f1) (b := (turnBy t n k inv j).f0) (by omega) (by omega) (by omega)
      rw [show vim l t n k inv j + (cxAt l j).f0 * (turnBy t n k inv j).f1 + (cxAt l j).f1 * (turnBy t n k inv j).f0 = vim l t n k inv (j + 1) by
        simp only [vim]; omega] at g2
      exact g2
theorem prog_bin {l t : List CxN} {n : Nat} (hl : ∀ x ∈ l, Le 2147483648 x) (ht : ∀ x ∈ t, Le 1099511627776 x) {e : Nat} (he : e ≤ 6) (hn : n = 2 ^ e) (hln : l.length = n) (htn : t.length = n) (k : Nat) (hk : k < n) (inv : Bool) : dft_bin.f l t k inv = some ((binV l t n inv k).f0, (binV l t n inv k).f1) := by
  obtain ⟨s, hs, h1, h2⟩ := binTo_val hl ht he hn hln htn k hk inv n (Nat.le_refl n)
  have h64 : n ≤ 64 := by
    have : 2 ^ e ≤ 2 ^ 6 := Nat.pow_le_pow_right (by omega) he
    omega
  unfold dft_bin.f
  rw [hln, hs, Option.bind_some, h1.down (by omega), h2.down (by omega)]
  rfl
end Go.Proofs.Ytpmkkidljmedaaa.X
namespace Go.Proofs.Ytpmkkidljmedaaa.X
open Go.RowKit Go.Proofs.YtpmkkidljmedaaaW.PrintWords Go.Proofs.YtpmkkidljmedaaaW.PrintLast Go.Proofs.YtpmkkidljmedaaaW.PrintMore
attribute [local go_sem] max2_int min2_int max_two min_two max_three min_three max_four min_four   -- for this text's walks alone
set_option linter.unusedVariables false
set_option linter.unusedSimpArgs false

/-! ### scan_greatest: function 85 -/
def scan_greatest.l0 : Nat → Int → List Int → Int → Int → Option (Int)
  | 0, _, _, _, _ => none
  | k + 1, x3, x6, x7, x8 => if x8 < x7 then (if 0 ≤ x8 then (if x8 < (x6.length : Int) then (scan_greatest.l0 k (mx (mx x3 (rd x6 x8)) (wrap64 (-(rd x6 x8)))) x6 x7 (wrap64 (x8 + 1))) else (none)) else (none)) else (some x3)
def scan_greatest.f (k : Nat) (l0 : List Int) : Option (Int) := scan_greatest.l0 k 0 l0 (l0.length : Int) 0
theorem scan_greatest.mono_l : ∀ k, (∀ y0 y1 y2 y3, LeO (scan_greatest.l0 k y0 y1 y2 y3) (scan_greatest.l0 (k + 1) y0 y1 y2 y3))
  | 0 => fun _ _ _ _ r h => by simp [scan_greatest.l0] at h
  | k + 1 => by
    have ih0 := scan_greatest.mono_l k
    · intro y0 y1 y2 y3
      unfold scan_greatest.l0
      repeat' first
      | (with_reducible exact ih0 _ _ _ _)
      | (with_reducible exact LeO.refl _)
      | (with_reducible exact LeO.none _)
      | (with_reducible refine LeO.ite ?_ ?_)
      | (with_reducible refine LeO.bind ?_ (fun _ => ?_))
      | exact ih0 _ _ _ _
      | exact LeO.none _
      | refine LeO.ite ?_ ?_
      | refine LeO.bind ?_ (fun _ => ?_)
theorem scan_greatest.mono : ∀ a0 k, LeO (scan_greatest.f k a0) (scan_greatest.f (k + 1) a0) := by
  intro a0 k
  have ih0 := scan_greatest.mono_l k
  unfold scan_greatest.f
  repeat' first
      | (with_reducible exact ih0 _ _ _ _)
      | (with_reducible exact LeO.refl _)
      | (with_reducible exact LeO.none _)
      | (with_reducible refine LeO.ite ?_ ?_)
      | (with_reducible refine LeO.bind ?_ (fun _ => ?_))
      | exact ih0 _ _ _ _
      | exact LeO.none _
      | refine LeO.ite ?_ ?_
      | refine LeO.bind ?_ (fun _ => ?_)
set_option maxHeartbeats 8000000 in
set_option maxRecDepth 100000 in
theorem scan_greatest.calls (k : Nat) (A0 : Option Addr) (c0 : Nat) (l0 : List Int) (r : Int) (w : World) (hr0 : Kd.C (Kd.int .i64) w A0 l0.length l0) (hc0 : l0.length ≤ c0) (h : scan_greatest.f k l0 = some r) :
    Calls Try.prog 85 #[.slice A0 l0.length c0] w fun e w' => e = .returned (.int .i64 r) ∧ Below w.heap.size w w' := by
  have HR0 := Aside0.mk hr0
  have HC0 := Aside0.mk hc0
  clear hr0 hc0
  have HB := Aside0.mk (Below.refl w.heap.size w)
  have H : (scan_greatest.l0 k 0 l0 (l0.length : Int) 0) = some r := h
  clear h
  have H' := Aside0.mk H
  clear H
  go_enter Try.func85, Try.ntmps85
  go_wp2
  go_loopg [3, 8] k (fun kq v3 v8 w' => ∃ (x3_1 : Int) (x8_1 : Int), v3 = .int .i64 x3_1 ∧ v8 = .int .i64 x8_1 ∧ Aside0 (scan_greatest.l0 kq x3_1 l0 (l0.length : Int) x8_1 = some r) ∧ Aside0 (kq ≤ k) ∧ Aside0 (Below w.heap.size w w'))
  case atStart => exact ⟨(0), (0), (by first | rfl | (simp; done) | (simp [*]; done)), (by first | rfl | (simp; done) | (simp [*]; done)), H', ⟨Nat.le_refl _⟩, ⟨by repeat (first | (with_reducible first | exact HB.out | apply below_alloc | apply pw_below_drewN | apply below_drew1) | exact HB.out)⟩⟩
  case round =>
    clear H'
    obtain ⟨x3_1, x8_1, rfl, rfl, HA, HK1, HB⟩ := hrel
    cases gk with
    | zero => exact absurd HA.out (by simp [scan_greatest.l0])
    | succ k1 =>
      have H := HA.out
      clear HA
      simp only [scan_greatest.l0] at H
      by_cases c2 : x8_1 < (l0.length : Int)
      · rw [if_pos c2] at H
        have c2b0 : decide (x8_1 < (l0.length : Int)) = true := decide_eq_true c2
        clear c2
        by_cases c3 : 0 ≤ x8_1
        · rw [if_pos c3] at H
          have c3b0 : decide (0 ≤ x8_1) = true := decide_eq_true c3
          clear c3
          by_cases c4 : x8_1 < (l0.length : Int)
          · rw [if_pos c4] at H
            have c4b0 : decide (x8_1 < (l0.length : Int)) = true := decide_eq_true c4
            clear c4
            obtain ⟨ji5, hji5⟩ : ∃ j_ : Int, (mx x3_1 (rd l0 x8_1)) = j_ := ⟨_, rfl⟩
            replace H : (scan_greatest.l0 k1 (mx (ji5) (wrap64 (-(rd l0 x8_1)))) l0 (l0.length : Int) (wrap64 (x8_1 + 1))) = some r := by first | (rw [hji5] at H; exact H) | (simp only [hji5] at H ⊢; exact H)
            have hji5_ : (if x3_1 < (rd l0 x8_1) then (rd l0 x8_1) else x3_1) = ji5 := hji5
            obtain ⟨ji6, hji6⟩ : ∃ j_ : Int, (mx (ji5) (wrap64 (-(rd l0 x8_1)))) = j_ := ⟨_, rfl⟩
            replace H : (scan_greatest.l0 k1 ji6 l0 (l0.length : Int) (wrap64 (x8_1 + 1))) = some r := by first | (rw [hji6] at H; exact H) | (simp only [hji6] at H ⊢; exact H)
            have hji6_ : (if (ji5) < (wrap64 (-(rd l0 x8_1))) then (wrap64 (-(rd l0 x8_1))) else (ji5)) = ji6 := hji6
            have H' := Aside0.mk H
            clear H
            have p1 : 0 ≤ (x8_1 : Int) := of_decide_eq_true (by first | (with_reducible assumption) | assumption)
            have q1 : x8_1 < (l0.length : Int) := of_decide_eq_true (by first | (with_reducible assumption) | assumption)
            obtain ⟨ad1, e1, hx1_0⟩ := Kd.at_int HR0.out x8_1 p1 q1
            cases e1
            replace hx1_0 := (HB.out.cell (World.block_lt_of_cell? w _ hx1_0)).trans hx1_0
            replace p1 := eq_true p1
            replace q1 := eq_true q1
            go_wp2
            go_roundg k1
            case measure => have := HK1.out; omega
            case rel => exact ⟨(ji6), (wrap64 (x8_1 + 1)), (by first | rfl | (simp; done) | (simp only [← hji6] <;> (first | rfl | simp)) | (simp [*]; done)), (by first | rfl | (simp; done) | (simp [*]; done)), H', ⟨by have := HK1.out; omega⟩, ⟨by repeat (first | (with_reducible first | exact HB.out | apply below_alloc | apply pw_below_drewN | apply below_drew1) | exact HB.out)⟩⟩
          · rw [if_neg c4] at H
            exact absurd H (by simp)
        · rw [if_neg c3] at H
          exact absurd H (by simp)
      · rw [if_neg c2] at H
        have c2b0 : decide (x8_1 < (l0.length : Int)) = false := decide_eq_false c2
        clear c2
        obtain rfl := Option.some.inj H
        go_wp2
        go_ret
        exact ⟨by first | rfl | (simp [errW_none, errW_some] <;> rfl) | (simp [*, errW_none, errW_some] <;> rfl), by repeat (first | (with_reducible first | exact HB.out | apply below_alloc | apply pw_below_drewN | apply below_drew1) | exact HB.out)⟩

end Go.Proofs.Ytpmkkidljmedaaa.X
namespace Go.Proofs.Ytpmkkidljmedaaa.X
open Go.RowKit Go.Proofs.YtpmkkidljmedaaaW.PrintWords Go.Proofs.YtpmkkidljmedaaaW.PrintLast Go.Proofs.YtpmkkidljmedaaaW.PrintMore
attribute [local go_sem] max2_int min2_int max_two min_two max_three min_three max_four min_four   -- for this text's walks alone
set_option linter.unusedVariables false
set_option linter.unusedSimpArgs false

/-! ### scan_Max: function 49 -/
def scan_Max.l0 : Nat → Int → List (S41) → Int → Int → Option (Int × Int)
  | 0, _, _, _, _ => none
  | k + 1, x4, x7, x8, x9 => if x9 < x8 then (if 0 ≤ x9 then (if x9 < (x7.length : Int) then (if (mn ((rd_T41 x7 x9).f0) ((rd_T41 x7 x9).f1)) < (-2147483648) then (some (0, 2)) else (if (mx ((rd_T41 x7 x9).f0) ((rd_T41 x7 x9).f1)) > 2147483648 then (some (0, 2)) else ((scan_greatest.f k (([x4, (rd_T41 x7 x9).f0, (rd_T41 x7 x9).f1] : List Int))).bind fun t6 => (scan_Max.l0 k t6 x7 x8 (wrap64 (x9 + 1)))))) else (none)) else (none)) else (some (x4, 0))
def scan_Max.f (k : Nat) (l0 : List (S41)) : Option (Int × Int) := scan_Max.l0 k 0 l0 (l0.length : Int) 0
theorem scan_Max.mono_l : ∀ k, (∀ y0 y1 y2 y3, LeO (scan_Max.l0 k y0 y1 y2 y3) (scan_Max.l0 (k + 1) y0 y1 y2 y3))
  | 0 => fun _ _ _ _ r h => by simp [scan_Max.l0] at h
  | k + 1 => by
    have ih0 := scan_Max.mono_l k
    · intro y0 y1 y2 y3
      unfold scan_Max.l0
      repeat' first
      | (with_reducible exact ih0 _ _ _ _)
      | (with_reducible exact scan_greatest.mono _ _)
      | (with_reducible exact LeO.refl _)
      | (with_reducible exact LeO.none _)
      | (with_reducible refine LeO.ite ?_ ?_)
      | (with_reducible refine LeO.bind ?_ (fun _ => ?_))
      | exact ih0 _ _ _ _
      | exact scan_greatest.mono _ _
      | exact LeO.none _
      | refine LeO.ite ?_ ?_
      | refine LeO.bind ?_ (fun _ => ?_)
theorem scan_Max.mono : ∀ a0 k, LeO (scan_Max.f k a0) (scan_Max.f (k + 1) a0) := by
  intro a0 k
  have ih0 := scan_Max.mono_l k
  unfold scan_Max.f
  repeat' first
      | (with_reducible exact ih0 _ _ _ _)
      | (with_reducible exact scan_greatest.mono _ _)
      | (with_reducible exact LeO.refl _)
      | (with_reducible exact LeO.none _)
      | (with_reducible refine LeO.ite ?_ ?_)
      | (with_reducible refine LeO.bind ?_ (fun _ => ?_))
      | exact ih0 _ _ _ _
      | exact scan_greatest.mono _ _
      | exact LeO.none _
      | refine LeO.ite ?_ ?_
      | refine LeO.bind ?_ (fun _ => ?_)
set_option maxHeartbeats 8000000 in
set_option maxRecDepth 100000 in
theorem scan_Max.calls (k : Nat) (A0 : Option Addr) (c0 : Nat) (l0 : List (S41)) (r1 : Int) (r2 : Int) (w : World) (hr0 : Kd.C k41 w A0 l0.length l0) (hc0 : l0.length ≤ c0) (h : scan_Max.f k l0 = some (r1, r2)) :
    Calls Try.prog 49 #[.slice A0 l0.length c0] w fun e w' => e = .returned (.tuple #[.int .i64 r1, .int .i64 r2]) ∧ Below w.heap.size w w' := by
  have hu41 := Try.underlying41
  have HR0 := Aside0.mk hr0
  have HC0 := Aside0.mk hc0
  clear hr0 hc0
  have HB := Aside0.mk (Below.refl w.heap.size w)
  have H : (scan_Max.l0 k 0 l0 (l0.length : Int) 0) = some (r1, r2) := h
  clear h
  have H' := Aside0.mk H
  clear H
  go_enter Try.func49, Try.ntmps49
  go_wp2
  go_loopg [4, 9] k (fun kq v4 v9 w' => ∃ (x4_1 : Int) (x9_1 : Int), v4 = .int .i64 x4_1 ∧ v9 = .int .i64 x9_1 ∧ Aside0 (scan_Max.l0 kq x4_1 l0 (l0.length : Int) x9_1 = some (r1, r2)) ∧ Aside0 (kq ≤ k) ∧ Aside0 (Below w.heap.size w w'))
  case atStart => exact ⟨(0), (0), (by first | rfl | (simp; done) | (simp [*]; done)), (by first | rfl | (simp; done) | (simp [*]; done)), H', ⟨Nat.le_refl _⟩, ⟨by repeat (first | (with_reducible first | exact HB.out | apply below_alloc | apply pw_below_drewN | apply below_drew1) | exact HB.out)⟩⟩
  case round =>
    clear H'
    obtain ⟨x4_1, x9_1, rfl, rfl, HA, HK1, HB⟩ := hrel
    cases gk with
    | zero => exact absurd HA.out (by simp [scan_Max.l0])
    | succ k1 =>
      have H := HA.out
      clear HA
      simp only [scan_Max.l0] at H
      by_cases c2 : x9_1 < (l0.length : Int)
      · rw [if_pos c2] at H
        have c2b0 : decide (x9_1 < (l0.length : Int)) = true := decide_eq_true c2
        clear c2
        by_cases c3 : 0 ≤ x9_1
        · rw [if_pos c3] at H
          have c3b0 : decide (0 ≤ x9_1) = true := decide_eq_true c3
          clear c3
          by_cases c4 : x9_1 < (l0.length : Int)
          · rw [if_pos c4] at H
            have c4b0 : decide (x9_1 < (l0.length : Int)) = true := decide_eq_true c4
            clear c4
            obtain ⟨ji5, hji5⟩ : ∃ j_ : Int, (mn ((rd_T41 l0 x9_1).f0) ((rd_T41 l0 x9_1).f1)) = j_ := ⟨_, rfl⟩
            replace H : (if (ji5) < (-2147483648) then (some (0, 2)) else (if (mx ((rd_T41 l0 x9_1).f0) ((rd_T41 l0 x9_1).f1)) > 2147483648 then (some (0, 2)) else ((scan_greatest.f k1 (([x4_1, (rd_T41 l0 x9_1).f0, (rd_T41 l0 x9_1).f1] : List Int))).bind fun t6 => (scan_Max.l0 k1 t6 l0 (l0.length : Int) (wrap64 (x9_1 + 1)))))) = some (r1, r2) := by first | (rw [hji5] at H; exact H) | (simp only [hji5] at H ⊢; exact H)
            have hji5_ : (if ((rd_T41 l0 x9_1).f1) < ((rd_T41 l0 x9_1).f0) then ((rd_T41 l0 x9_1).f1) else ((rd_T41 l0 x9_1).f0)) = ji5 := hji5
            by_cases c6 : (ji5) < (-2147483648)
            · rw [if_pos c6] at H
              have c6b0 : decide ((ji5) < (-2147483648)) = true := decide_eq_true c6
              clear c6
              simp only [Option.some.injEq, Prod.mk.injEq] at H
              obtain ⟨rfl, rfl⟩ := H
              have p1 : 0 ≤ (x9_1 : Int) := of_decide_eq_true (by first | (with_reducible assumption) | assumption)
              have q1 : x9_1 < (l0.length : Int) := of_decide_eq_true (by first | (with_reducible assumption) | assumption)
              obtain ⟨ad1, e1, hx1_0, hx1_1⟩ := at_T41 HR0.out x9_1 p1 q1
              cases e1
              replace hx1_0 := (HB.out.cell (World.block_lt_of_cell? w _ hx1_0)).trans hx1_0
              replace hx1_1 := (HB.out.cell (World.block_lt_of_cell? w _ hx1_1)).trans hx1_1
              replace p1 := eq_true p1
              replace q1 := eq_true q1
              go_wp2_with (first | ((with_reducible refine gate_dst (N := 6) rfl ?_); (try (refine gate_guard (by rfl) ?_; dsimp only)); refine box_event ?hg (N := 6) ?hd (cs := #[.int .i64 0, .int .i64 0]) (t := 41) ?hr ?_; (case hd => rfl); (case hg => rfl); (case hr => first | (go_simp; done) | (go_simp; rfl)); intro gb2 hg w7 hbox hb; have n0_ := Aside0.mk (below_step (by repeat (first | (with_reducible first | exact HB.out | apply below_alloc | apply pw_below_drewN | apply below_drew1) | exact HB.out)) hb); have n1_ := Aside0.mk (hbox); have n2_ := Aside0.mk ((by rw [hg]; exact (below_size (by repeat (first | (with_reducible first | exact HB.out | apply below_alloc | apply pw_below_drewN | apply below_drew1) | exact HB.out))) : w.heap.size ≤ gb2)); have n3_ := Aside0.mk ((by rw [hg]; exact (below_size (by repeat (first | (with_reducible first | exact HB.out | apply below_alloc | apply pw_below_drewN | apply below_drew1) | exact HB.out))) : w.heap.size ≤ gb2)); clear HB; have HB := n0_; have BK2 := n1_; have GW2 := n2_; have GE2 := n3_; clear n0_ n1_ n2_ n3_; clear hb hbox hg; have hcz8_0 : w7.cell? ⟨gb2, 0, none⟩ = some (.int .i64 0) := (blk_cell BK2.out 0).trans rfl; have hcz8_1 : w7.cell? ⟨gb2, 1, none⟩ = some (.int .i64 0) := (blk_cell BK2.out 1).trans rfl; have hfz8_0 := blk_frozen BK2.out 0; have hfz8_1 := blk_frozen BK2.out 1))
              go_ret2
              exact ⟨by first | rfl | (simp [errW_none, errW_some] <;> rfl) | (simp only [← hji5]; first | rfl | (simp [errW_none, errW_some] <;> rfl)) | (simp [*, errW_none, errW_some] <;> rfl), by repeat (first | (with_reducible first | exact HB.out | apply below_alloc | apply pw_below_drewN | apply below_drew1 | refine below_set ?_ GE2.out) | exact HB.out)⟩
            · rw [if_neg c6] at H
              have c6b0 : decide ((ji5) < (-2147483648)) = false := decide_eq_false c6
              clear c6
              obtain ⟨ji9, hji9⟩ : ∃ j_ : Int, (mx ((rd_T41 l0 x9_1).f0) ((rd_T41 l0 x9_1).f1)) = j_ := ⟨_, rfl⟩
              replace H : (if (ji9) > 2147483648 then (some (0, 2)) else ((scan_greatest.f k1 (([x4_1, (rd_T41 l0 x9_1).f0, (rd_T41 l0 x9_1).f1] : List Int))).bind fun t6 => (scan_Max.l0 k1 t6 l0 (l0.length : Int) (wrap64 (x9_1 + 1))))) = some (r1, r2) := by first | (rw [hji9] at H; exact H) | (simp only [hji9] at H ⊢; exact H)
              have hji9_ : (if ((rd_T41 l0 x9_1).f0) < ((rd_T41 l0 x9_1).f1) then ((rd_T41 l0 x9_1).f1) else ((rd_T41 l0 x9_1).f0)) = ji9 := hji9
              by_cases c10 : (ji9) > 2147483648
              · rw [if_pos c10] at H
                have c10b0 : decide (2147483648 < (ji9)) = true := decide_eq_true c10
                clear c10
                simp only [Option.some.injEq, Prod.mk.injEq] at H
                obtain ⟨rfl, rfl⟩ := H
                have p1 : 0 ≤ (x9_1 : Int) := of_decide_eq_true (by first | (with_reducible assumption) | assumption)
                have q1 : x9_1 < (l0.length : Int) := of_decide_eq_true (by first | (with_reducible assumption) | assumption)
                obtain ⟨ad1, e1, hx1_0, hx1_1⟩ := at_T41 HR0.out x9_1 p1 q1
                cases e1
                replace hx1_0 := (HB.out.cell (World.block_lt_of_cell? w _ hx1_0)).trans hx1_0
                replace hx1_1 := (HB.out.cell (World.block_lt_of_cell? w _ hx1_1)).trans hx1_1
                replace p1 := eq_true p1
                replace q1 := eq_true q1
                go_wp2_with (first | ((with_reducible refine gate_dst (N := 6) rfl ?_); (try (refine gate_guard (by rfl) ?_; dsimp only)); refine box_event ?hg (N := 6) ?hd (cs := #[.int .i64 0, .int .i64 0]) (t := 41) ?hr ?_; (case hd => rfl); (case hg => rfl); (case hr => first | (go_simp; done) | (go_simp; rfl)); intro gb2 hg w11 hbox hb; have n0_ := Aside0.mk (below_step (by repeat (first | (with_reducible first | exact HB.out | apply below_alloc | apply pw_below_drewN | apply below_drew1) | exact HB.out)) hb); have n1_ := Aside0.mk (hbox); have n2_ := Aside0.mk ((by rw [hg]; exact (below_size (by repeat (first | (with_reducible first | exact HB.out | apply below_alloc | apply pw_below_drewN | apply below_drew1) | exact HB.out))) : w.heap.size ≤ gb2)); have n3_ := Aside0.mk ((by rw [hg]; exact (below_size (by repeat (first | (with_reducible first | exact HB.out | apply below_alloc | apply pw_below_drewN | apply below_drew1) | exact HB.out))) : w.heap.size ≤ gb2)); clear HB; have HB := n0_; have BK2 := n1_; have GW2 := n2_; have GE2 := n3_; clear n0_ n1_ n2_ n3_; clear hb hbox hg; have hcz12_0 : w11.cell? ⟨gb2, 0, none⟩ = some (.int .i64 0) := (blk_cell BK2.out 0).trans rfl; have hcz12_1 : w11.cell? ⟨gb2, 1, none⟩ = some (.int .i64 0) := (blk_cell BK2.out 1).trans rfl; have hfz12_0 := blk_frozen BK2.out 0; have hfz12_1 := blk_frozen BK2.out 1))
                go_ret2
                exact ⟨by first | rfl | (simp [errW_none, errW_some] <;> rfl) | (simp only [← hji5, ← hji9]; first | rfl | (simp [errW_none, errW_some] <;> rfl)) | (simp [*, errW_none, errW_some] <;> rfl), by repeat (first | (with_reducible first | exact HB.out | apply below_alloc | apply pw_below_drewN | apply below_drew1 | refine below_set ?_ GE2.out) | exact HB.out)⟩
              · rw [if_neg c10] at H
                have c10b0 : decide (2147483648 < (ji9)) = false := decide_eq_false c10
                clear c10
                obtain ⟨y3, hy3⟩ : ∃ y_ : List Int, y_ = (([x4_1, (rd_T41 l0 x9_1).f0, (rd_T41 l0 x9_1).f1] : List Int)) := ⟨_, rfl⟩
                replace H : ((scan_greatest.f k1 y3).bind fun t6 => (scan_Max.l0 k1 t6 l0 (l0.length : Int) (wrap64 (x9_1 + 1)))) = some (r1, r2) := by first | (rw [hy3]; with_reducible exact H) | (have H2_ := (Option.bind_some _ _).symm.trans H; rw [hy3]; with_reducible exact H2_) | (have H2_ := (Option.bind_some _ _).symm.trans H; with_reducible exact H2_) | with_reducible exact H | (rw [hy3]; exact H) | exact H
                have Ny3 := Aside0.mk hy3
                clear hy3
                replace H := Option.bind_eq_some_iff.mp H
                obtain ⟨t6, A130, H⟩ := H
                replace H : (scan_Max.l0 k1 t6 l0 (l0.length : Int) (wrap64 (x9_1 + 1))) = some (r1, r2) := H
                have A13 := Aside0.mk A130
                clear A130
                have H' := Aside0.mk H
                clear H
                have p1 : 0 ≤ (x9_1 : Int) := of_decide_eq_true (by first | (with_reducible assumption) | assumption)
                have q1 : x9_1 < (l0.length : Int) := of_decide_eq_true (by first | (with_reducible assumption) | assumption)
                obtain ⟨ad1, e1, hx1_0, hx1_1⟩ := at_T41 HR0.out x9_1 p1 q1
                cases e1
                replace hx1_0 := (HB.out.cell (World.block_lt_of_cell? w _ hx1_0)).trans hx1_0
                replace hx1_1 := (HB.out.cell (World.block_lt_of_cell? w _ hx1_1)).trans hx1_1
                replace p1 := eq_true p1
                replace q1 := eq_true q1
                go_wp2_with (first | ((with_reducible refine gate_dst (N := 6) rfl ?_); (try (refine gate_guard (by rfl) ?_; dsimp only)); refine box_event ?hg (N := 6) ?hd (cs := #[.int .i64 0, .int .i64 0]) (t := 41) ?hr ?_; (case hd => rfl); (case hg => rfl); (case hr => first | (go_simp; done) | (go_simp; rfl)); intro gb2 hg w14 hbox hb; have n0_ := Aside0.mk (below_step (by repeat (first | (with_reducible first | exact HB.out | apply below_alloc | apply pw_below_drewN | apply below_drew1) | exact HB.out)) hb); have n1_ := Aside0.mk (hbox); have n2_ := Aside0.mk ((by rw [hg]; exact (below_size (by repeat (first | (with_reducible first | exact HB.out | apply below_alloc | apply pw_below_drewN | apply below_drew1) | exact HB.out))) : w.heap.size ≤ gb2)); have n3_ := Aside0.mk ((by rw [hg]; exact (below_size (by repeat (first | (with_reducible first | exact HB.out | apply below_alloc | apply pw_below_drewN | apply below_drew1) | exact HB.out))) : w.heap.size ≤ gb2)); clear HB; have HB := n0_; have BK2 := n1_; have GW2 := n2_; have GE2 := n3_; clear n0_ n1_ n2_ n3_; clear hb hbox hg; have hcz15_0 : w14.cell? ⟨gb2, 0, none⟩ = some (.int .i64 0) := (blk_cell BK2.out 0).trans rfl; have hcz15_1 : w14.cell? ⟨gb2, 1, none⟩ = some (.int .i64 0) := (blk_cell BK2.out 1).trans rfl; have hfz15_0 := blk_frozen BK2.out 0; have hfz15_1 := blk_frozen BK2.out 1) | ((with_reducible refine gate_dst (N := 32) rfl ?_); (try (refine gate_guard (by rfl) ?_; dsimp only)); refine Kd.R_lit (Kd.int .i64) _ 3 ?hg (N := 32) ?hd (xs := ([x4_1, (rd_T41 l0 x9_1).f0, (rd_T41 l0 x9_1).f1] : List Int)) (inner := [.int .i64 x4_1, .int .i64 ((rd_T41 l0 x9_1).f0), .int .i64 ((rd_T41 l0 x9_1).f1)]) (ok := fun _ => True) (okp := fun _ => True) ?hr ?hp (fun _ hk => hk) trivial (Below.refl _ _) (Nat.le_refl _) (by simp) ?_; (case hd => rfl); (case hg => rfl); (case hr => first | (go_simp; done) | (go_simp; rfl)); (case hp => exact (Reps.one (show Kd.M (Kd.int .i64) _ _ _ x4_1 [.int .i64 x4_1] from rfl) (Reps.one (show Kd.M (Kd.int .i64) _ _ _ ((rd_T41 l0 x9_1).f0) [.int .i64 ((rd_T41 l0 x9_1).f0)] from rfl) (Reps.one (show Kd.M (Kd.int .i64) _ _ _ ((rd_T41 l0 x9_1).f1) [.int .i64 ((rd_T41 l0 x9_1).f1)] from rfl) (Reps.none _ _))))); intro v4 w16 ho17 hb hg_ hnew_; clear hg_ hnew_; (first | rw [← Ny3.out] at ho17 | (simp only [Int.reduceToNat] at ho17; rw [← Ny3.out] at ho17)); have n0_ := Aside0.mk (Kd.R_lower ho17 (below_size (by repeat (first | (with_reducible first | exact HB.out | apply below_alloc | apply pw_below_drewN | apply below_drew1 | refine below_set ?_ GE2.out) | exact HB.out)))); have n1_ := Aside0.mk (blk_below (g := gb2) (o := .cells #[.int .i64 ((rd_T41 l0 x9_1).f0), .int .i64 ((rd_T41 l0 x9_1).f1)] 41 (0, 0)) (by (with_reducible repeat (first | refine blk_drewN ?_ _ | refine blk_drew ?_ | refine blk_alloc ?_ _)); refine blk_put (cs := #[.int .i64 ((rd_T41 l0 x9_1).f0), .int .i64 0]) ?_ 1 _ rfl; (with_reducible repeat (first | refine blk_drewN ?_ _ | refine blk_drew ?_ | refine blk_alloc ?_ _)); refine blk_put (cs := #[.int .i64 0, .int .i64 0]) ?_ 0 _ rfl; (with_reducible repeat (first | refine blk_drewN ?_ _ | refine blk_drew ?_ | refine blk_alloc ?_ _)); exact BK2.out) hb); have n2_ := Aside0.mk (below_step (by repeat (first | (with_reducible first | exact HB.out | apply below_alloc | apply pw_below_drewN | apply below_drew1 | refine below_set ?_ GE2.out) | exact HB.out)) hb); clear BK2; clear HB; have HO5 := n0_; have BK2 := n1_; have HB := n2_; clear n0_ n1_ n2_; clear hb ho17; obtain ⟨Ao18, co18, eo18⟩ := Kd.R_slice HO5.out; subst eo18) | ((with_reducible refine gate_callee (f := 85) rfl ?_); refine goesL_ (some 33) rfl rfl Try.func85 (by kernel_rfl) rfl #[.slice Ao18 y3.length co18] rfl (by (try simp only [List.map_toArray, List.map_cons, List.map_nil]); first | done | rfl | (simp only [List.length_drop, List.length_take]; rfl)) ?_; (with_reducible refine (scan_greatest.calls k1 _ _ y3 t6 _ ?side1 ?side2 A13.out).mono ?_); (case side1 => repeat (first | exact (Kd.R_reads' HO5.out).2.2 | (with_reducible refine Kd.C_alloc ?_ _) | (with_reducible refine Kd.C_drewN ?_ _) | (with_reducible refine Kd.C_drew ?_))); (case side2 => exact (Kd.R_reads' HO5.out).2.1); rintro e w19 ⟨rfl, hb⟩; refine ⟨_, rfl, ?_⟩; have n0_ := Aside0.mk (Kd.R_below (by (with_reducible repeat (first | apply Kd.R_alloc | apply Kd.R_drewN | apply Kd.R_drew)); exact HO5.out) hb); have n1_ := Aside0.mk (blk_below (g := gb2) (o := .cells #[.int .i64 ((rd_T41 l0 x9_1).f0), .int .i64 ((rd_T41 l0 x9_1).f1)] 41 (0, 0)) (by (with_reducible repeat (first | refine blk_drewN ?_ _ | refine blk_drew ?_ | refine blk_alloc ?_ _)); exact BK2.out) hb); have n2_ := Aside0.mk (below_step (by repeat (first | (with_reducible first | exact HB.out | apply below_alloc | apply pw_below_drewN | apply below_drew1 | refine below_set ?_ GE2.out) | exact HB.out)) hb); clear HO5; clear BK2; clear HB; have HO5 := n0_; have BK2 := n1_; have HB := n2_; clear n0_ n1_ n2_; (try clear hb); (try clear hb2); (try clear hk); (try clear hi)))
                go_roundg k1
                case measure => have := HK1.out; omega
                case rel => exact ⟨(t6), (wrap64 (x9_1 + 1)), (by first | rfl | (simp; done) | (simp [*]; done)), (by first | rfl | (simp; done) | (simp [*]; done)), H', ⟨by have := HK1.out; omega⟩, ⟨by repeat (first | (with_reducible first | exact HB.out | apply below_alloc | apply pw_below_drewN | apply below_drew1 | refine below_set ?_ GE2.out) | exact HB.out)⟩⟩
          · rw [if_neg c4] at H
            exact absurd H (by simp)
        · rw [if_neg c3] at H
          exact absurd H (by simp)
      · rw [if_neg c2] at H
        have c2b0 : decide (x9_1 < (l0.length : Int)) = false := decide_eq_false c2
        clear c2
        simp only [Option.some.injEq, Prod.mk.injEq] at H
        obtain ⟨rfl, rfl⟩ := H
        go_wp2
        go_ret2
        exact ⟨by first | rfl | (simp [errW_none, errW_some] <;> rfl) | (simp [*, errW_none, errW_some] <;> rfl), by repeat (first | (with_reducible first | exact HB.out | apply below_alloc | apply pw_below_drewN | apply below_drew1) | exact HB.out)⟩

end Go.Proofs.Ytpmkkidljmedaaa.X
namespace Go.Proofs.Ytpmkkidljmedaaa.X
open Go.RowKit Go.Proofs.YtpmkkidljmedaaaW.PrintWords Go.Proofs.YtpmkkidljmedaaaW.PrintLast Go.Proofs.YtpmkkidljmedaaaW.PrintMore
set_option linter.unusedVariables false

theorem logs_at (n : Int) (k : Nat) (hk : 20 < k) : (flip_Log.f k n = if n = 4 then some (2, 0) else if n = 8 then some (3, 0) else if n = 16 then some (4, 0) else if n = 32 then some (5, 0) else if n = 64 then some (6, 0) else some (0, 3)) ∧
    (headroomref08_Log.f k n = if n = 4 then some 2 else if n = 8 then some 3 else if n = 16 then some 4 else if n = 32 then some 5 else if n = 64 then some 6 else some (-1)) := by
  obtain ⟨k, rfl⟩ : ∃ j, k = j + 6 := ⟨k - 6, by omega⟩
  have s2 : shl .i64 1 2 = 4 := by decide +kernel
  have s3 : shl .i64 1 3 = 8 := by decide +kernel
  have s4 : shl .i64 1 4 = 16 := by decide +kernel
  have s5 : shl .i64 1 5 = 32 := by decide +kernel
  have s6 : shl .i64 1 6 = 64 := by decide +kernel
  have w2 : wrap64 (2 + 1) = 3 := by decide +kernel
  have w3 : wrap64 (3 + 1) = 4 := by decide +kernel
  have w4 : wrap64 (4 + 1) = 5 := by decide +kernel
  have w5 : wrap64 (5 + 1) = 6 := by decide +kernel
  have w6 : wrap64 (6 + 1) = 7 := by decide +kernel
  have p2 : ∀ j, 6 < j → headroomref01_Pow.f j 2 = some 4 := fun j h => ref_pow' 2 j (by omega) (by omega) (by omega)
  have p3 : ∀ j, 6 < j → headroomref01_Pow.f j 3 = some 8 := fun j h => ref_pow' 3 j (by omega) (by omega) (by omega)
  have p4 : ∀ j, 6 < j → headroomref01_Pow.f j 4 = some 16 := fun j h => ref_pow' 4 j (by omega) (by omega) (by omega)
  have p5 : ∀ j, 6 < j → headroomref01_Pow.f j 5 = some 32 := fun j h => ref_pow' 5 j (by omega) (by omega) (by omega)
  have p6 : ∀ j, 6 < j → headroomref01_Pow.f j 6 = some 64 := fun j h => ref_pow' 6 j (by omega) (by omega) (by omega)
  have hf : flip_Log.f (k + 6) n = if n = 4 then some (2, 0) else if n = 8 then some (3, 0) else if n = 16 then some (4, 0) else if n = 32 then some (5, 0) else if n = 64 then some (6, 0) else some (0, 3) := by
    unfold flip_Log.f
    rw [flip_Log.l0, flip_Log.l0, flip_Log.l0, flip_Log.l0, flip_Log.l0, flip_Log.l0, s2, w2, s3, w3, s4, w4, s5, w5, s6, w6]
    simp
  have hr : headroomref08_Log.f (k + 6) n = if n = 4 then some 2 else if n = 8 then some 3 else if n = 16 then some 4 else if n = 32 then some 5 else if n = 64 then some 6 else some (-1) := by
    unfold headroomref08_Log.f
    rw [headroomref08_Log.l0, headroomref08_Log.l0, headroomref08_Log.l0, headroomref08_Log.l0, headroomref08_Log.l0, headroomref08_Log.l0, p2 _ (by omega), w2, p3 _ (by omega), w3, p4 _ (by omega), w4, p5 _ (by omega), w5, p6 _ (by omega), w6]
    simp [eq_comm]
  exact ⟨hf, hr⟩
theorem logs (n : Int) : (∀ k, 20 < k → flip_Log.f k n = some (0, 3) ∧ headroomref08_Log.f k n = some (-1)) ∨
    ∃ e : Nat, 2 ≤ e ∧ e ≤ 6 ∧ n = 2 ^ e ∧ ∀ k, 20 < k → flip_Log.f k n = some ((e : Int), 0) ∧ headroomref08_Log.f k n = some (e : Int) := by
  by_cases c2 : n = 4
  · exact .inr ⟨2, by omega, by omega, by rw [c2]; decide, fun k hk => by rw [(logs_at n k hk).1, (logs_at n k hk).2]; simp [c2]⟩
  by_cases c3 : n = 8
  · exact .inr ⟨3, by omega, by omega, by rw [c3]; decide, fun k hk => by rw [(logs_at n k hk).1, (logs_at n k hk).2]; simp [c3]⟩
  by_cases c4 : n = 16
  · exact .inr ⟨4, by omega, by omega, by rw [c4]; decide, fun k hk => by rw [(logs_at n k hk).1, (logs_at n k hk).2]; simp [c4]⟩
  by_cases c5 : n = 32
  · exact .inr ⟨5, by omega, by omega, by rw [c5]; decide, fun k hk => by rw [(logs_at n k hk).1, (logs_at n k hk).2]; simp [c5]⟩
  by_cases c6 : n = 64
  · exact .inr ⟨6, by omega, by omega, by rw [c6]; decide, fun k hk => by rw [(logs_at n k hk).1, (logs_at n k hk).2]; simp [c6]⟩
  exact .inl fun k hk => by rw [(logs_at n k hk).1, (logs_at n k hk).2]; simp [c2, c3, c4, c5, c6]

/-- Are a number's parts between -2^31 and 2^31? -/
def narrowB (z : CxN) : Bool := decide (-2147483648 ≤ z.f0) && decide (z.f0 ≤ 2147483648) && decide (-2147483648 ≤ z.f1) && decide (z.f1 ≤ 2147483648)
theorem narrowB_le {z : CxN} (h : narrowB z = true) : Le 2147483648 z := by
  simp only [narrowB, Bool.and_eq_true, decide_eq_true_eq] at h
  unfold Le
  omega
/-- The greatest of a number and the parts of another one, all without their signs. -/
def grow (m : Int) (z : CxN) : Int := mx (mx (mx (mx m z.f0) (-z.f0)) z.f1) (-z.f1)
theorem mx_le (a b c : Int) : mx a b ≤ c ↔ a ≤ c ∧ b ≤ c := by unfold mx; split <;> omega
theorem le_mx (a b : Int) : a ≤ mx a b ∧ b ≤ mx a b := by unfold mx; split <;> omega
theorem greatest_three (m : Int) (z : CxN) (k : Nat) (hk : 5 < k) (hm : 0 ≤ m ∧ m ≤ 2147483648) (hz : Le 2147483648 z) : scan_greatest.f k [m, z.f0, z.f1] = some (grow m z) := by
  obtain ⟨k, rfl⟩ : ∃ j, k = j + 4 := ⟨k - 4, by omega⟩
  unfold Le at hz
  have w0 : wrap64 (0 + 1) = 1 := by decide +kernel
  have w1 : wrap64 (1 + 1) = 2 := by decide +kernel
  have w2 : wrap64 (2 + 1) = 3 := by decide +kernel
  unfold scan_greatest.f
  rw [scan_greatest.l0, w0, scan_greatest.l0, w1, scan_greatest.l0, w2, scan_greatest.l0]
  have r0 : rd [m, z.f0, z.f1] 0 = m := rfl
  have r1 : rd [m, z.f0, z.f1] 1 = z.f0 := rfl
  have r2 : rd [m, z.f0, z.f1] 2 = z.f1 := rfl
  rw [r0, r1, r2, HM.wrap64_id (-m) (by omega) (by omega), HM.wrap64_id (-z.f0) (by omega) (by omega), HM.wrap64_id (-z.f1) (by omega) (by omega)]
  have hm0 : mx (mx 0 m) (-m) = m := by unfold mx; split <;> split <;> omega
  rw [hm0]
  simp [grow]
theorem grow_bound {m : Int} {z : CxN} (hm : 0 ≤ m ∧ m ≤ 2147483648) (hz : Le 2147483648 z) : 0 ≤ grow m z ∧ grow m z ≤ 2147483648 := by
  unfold Le at hz
  unfold grow
  have h1 := le_mx m z.f0
  have h2 := le_mx (mx m z.f0) (-z.f0)
  have h3 := le_mx (mx (mx m z.f0) (-z.f0)) z.f1
  have h4 := le_mx (mx (mx (mx m z.f0) (-z.f0)) z.f1) (-z.f1)
  refine ⟨by omega, ?_⟩
  simp only [mx_le]
  omega
/-- The greatest part of numbers, without its sign. -/
def maxAll (l : List CxN) : Int := l.foldl grow 0
theorem maxTo_bound (l : List CxN) (hl : ∀ z ∈ l, Le 2147483648 z) : ∀ m, 0 ≤ m ∧ m ≤ 2147483648 → 0 ≤ l.foldl grow m ∧ l.foldl grow m ≤ 2147483648 := by
  induction l with
  | nil => intro m h; exact h
  | cons z l ih => intro m h; exact ih (fun z hz => hl z (List.mem_cons_of_mem _ hz)) _ (grow_bound h (hl z List.mem_cons_self))
theorem drop_at (l : List CxN) (i : Nat) (h : i < l.length) : l.drop i = cxAt l i :: l.drop (i + 1) := by
  rw [List.drop_eq_getElem_cons h]
  simp [cxAt, h]
theorem scan_loop (l : List CxN) (hl : l.length ≤ 1000000) : ∀ (d i k : Nat) (m : Int), l.length - i = d → i ≤ l.length → d + 10 < k → (0 ≤ m ∧ m ≤ 2147483648) →
    scan_Max.l0 k m l l.length i = if (l.drop i).all narrowB = true then some ((l.drop i).foldl grow m, 0) else some (0, 2) := by
  intro d
  induction d with
  | zero =>
    intro i k m hd hi hk hm
    obtain ⟨k, rfl⟩ : ∃ j, k = j + 1 := ⟨k - 1, by omega⟩
    rw [scan_Max.l0, if_neg (by omega), List.drop_of_length_le (by omega)]
    simp
  | succ d ih =>
    intro i k m hd hi hk hm
    obtain ⟨k, rfl⟩ : ∃ j, k = j + 1 := ⟨k - 1, by omega⟩
    have e2 : ((i : Int) + 1) = ((i + 1 : Nat) : Int) := by norm_cast
    rw [scan_Max.l0, if_pos (by omega), if_pos (by omega), if_pos (by omega), rd_at, drop_at l i (by omega), HM.wrap64_id _ (by omega) (by omega), e2]
    rw [List.all_cons, List.foldl_cons]
    by_cases c : narrowB (cxAt l i) = true
    · have hz := narrowB_le c
      have hz' := hz
      unfold Le at hz'
      have h1 : ¬ mn (cxAt l i).f0 (cxAt l i).f1 < -2147483648 := by unfold mn; split <;> omega
      have h2 : ¬ mx (cxAt l i).f0 (cxAt l i).f1 > 2147483648 := by unfold mx; split <;> omega
      rw [if_neg h1, if_neg h2, greatest_three m _ k (by omega) hm hz, Option.bind_some, ih (i + 1) k _ (by omega) (by omega) (by omega) (grow_bound hm hz), c, Bool.true_and]
    · rw [Bool.not_eq_true] at c
      have hff : ∀ a b : Option (Int × Int), (if false = true then a else b) = b := fun _ _ => rfl
      rw [c, Bool.false_and, hff]
      simp only [narrowB, Bool.and_eq_false_iff, decide_eq_false_iff_not] at c
      by_cases h1 : mn (cxAt l i).f0 (cxAt l i).f1 < -2147483648
      · rw [if_pos h1]
      · rw [if_neg h1]
        have h2 : mx (cxAt l i).f0 (cxAt l i).f1 > 2147483648 := by
          unfold mn at h1
          unfold mx
          split at h1 <;> split <;> omega
        rw [if_pos h2]
theorem scan_val (l : List CxN) (hl : l.length ≤ 1000000) (k : Nat) (hk : l.length + 10 < k) : scan_Max.f k l = if l.all narrowB = true then some (maxAll l, 0) else some (0, 2) := by
  have := scan_loop l hl l.length 0 k 0 (by omega) (by omega) (by omega) (by omega)
  simpa [scan_Max.f, maxAll] using this
end Go.Proofs.Ytpmkkidljmedaaa.X
namespace Go.Proofs.Ytpmkkidljmedaaa.Pure
open Go.RowKit Go.Proofs.Ytpmkkidljmedaaa.X Go.Proofs.YtpmkkidljmedaaaW.PrintWords Go.Proofs.YtpmkkidljmedaaaW.PrintLast Go.Proofs.YtpmkkidljmedaaaW.PrintMore
set_option linter.unusedVariables false

theorem alive19 : headroomlaw19_alive.f 200 = some true := by kernel_rfl
theorem rd_at_int (l : List Int) (i : Nat) (h : i < l.length) : rd l (i : Int) = l[i] := by simp [rd, List.getD_eq_getElem?_getD, h]
theorem same_ints_loop (l : List Int) (hl : l.length ≤ 9223372036854775807) : ∀ (d i k : Nat), l.length - i = d → i ≤ l.length → d < k → headroomref04_Same.l0 k l l l.length i = some true := by
  intro d
  induction d with
  | zero =>
    intro i k hd hi hk
    cases k with
    | zero => omega
    | succ k => rw [headroomref04_Same.l0, if_neg (by omega)]
  | succ d ih =>
    intro i k hd hi hk
    cases k with
    | zero => omega
    | succ k =>
      have e2 : ((i : Int) + 1) = ((i + 1 : Nat) : Int) := by norm_cast
      rw [headroomref04_Same.l0, if_pos (by omega), if_pos (by omega), if_pos (by omega), if_pos (by omega), if_pos rfl, HM.wrap64_id _ (by omega) (by omega), e2]
      exact ih (i + 1) k (by omega) (by omega) (by omega)
theorem same_ints (l : List Int) (k : Nat) (hl : l.length ≤ 9223372036854775807) (hk : l.length < k) : headroomref04_Same.f k l l = some true := by
  unfold headroomref04_Same.f
  rw [if_pos rfl]
  exact same_ints_loop l hl l.length 0 k (by omega) (by omega) (by omega)
/-- A number shifted down, rounded. -/
def sh (x s m : Int) : Int := if s = 0 then x else if upB m (x % 2 ^ s.toNat) (2 ^ (s.toNat - 1)) (x / 2 ^ s.toNat % 2 == 1) = true then wrap64 (x / 2 ^ s.toNat + 1) else x / 2 ^ s.toNat
theorem sh_val (x s m : Int) (h0 : 0 ≤ s) (h1 : s ≤ 62) (hm0 : 0 ≤ m) (hm1 : m ≤ 2) : round_Shift.f x s m = some (sh x s m, 0) := by
  unfold round_Shift.f sh
  rw [if_neg (by omega), if_neg (by omega), if_neg (by omega), if_neg (by omega)]
  by_cases c : s = 0
  · rw [if_pos c, if_pos c]
  · rw [if_neg c, if_neg c]
theorem win_table (kind : Int) (b e : Nat) (hk0 : 0 ≤ kind) (hk : kind ≤ 3) (hb : b = 13 ∨ b = 29) (h0 : 2 ≤ e) (h1 : e ≤ 6) : ∃ a : List Int, window_Table.f kind e b = some (a, 0) ∧ headroomref19_Table.f 200 kind e b = some a ∧ a.length = 2 ^ e ∧ (∀ x ∈ a, 0 ≤ x ∧ x ≤ 2 ^ b) ∧ (kind = 0 → ∀ x ∈ a, x = 2 ^ b) := by
  obtain ⟨a, w1, w2, w3, w4, w5⟩ := win_spec kind.toNat b e (by omega) hb h0 h1
  rw [Int.toNat_of_nonneg hk0] at w1 w2
  obtain ⟨t1, t2, t3, t4⟩ := tabsOk_spec (tabs_W b e hb h0 h1)
  have h64 : 2 ^ e ≤ 2 ^ 6 := Nat.pow_le_pow_right (by omega) h1
  refine ⟨a, ?_, ?_, w3, w4, fun h => w5 (by omega)⟩
  · unfold window_Table.f
    rw [t1, Option.bind_some, if_pos ⟨hk0, hk, rfl⟩, if_pos ⟨by rw [t3]; omega, by omega, by omega⟩, t3, Int.toNat_natCast, w1]
    rfl
  · unfold headroomref19_Table.f
    rw [t2, Option.bind_some, t3]
    exact w2
theorem weighed_val (b m : Int) (w l : List Int) (hb0 : 2 ≤ b) (hb1 : b ≤ 60) (hm0 : 0 ≤ m) (hm1 : m ≤ 2) : ∀ i : Nat, i ≤ w.length → weighedTo b m w l i = some ((List.range i).map fun (j : Nat) => sh (wrap64 (rd l j * rd w j)) (b - 2) m) := by
  intro i
  induction i with
  | zero => intro _; rfl
  | succ i ih =>
    intro hi
    rw [weighedTo, ih (by omega), Option.bind_some, if_pos (by omega), sh_val _ _ _ (by omega) (by omega) hm0 hm1, Option.bind_some, List.range_succ, List.map_append]
    rfl
theorem ref_apply_loop (b m : Int) (w l : List Int) (hb0 : 2 ≤ b) (hb1 : b ≤ 60) (hm0 : 0 ≤ m) (hm1 : m ≤ 2) (hl : l.length ≤ 70) (hw : w.length = l.length) : ∀ (d i K : Nat) (acc : List Int), l.length - i = d → i ≤ l.length → d + 80 < K → acc.length ≤ i →
    headroomref19_Apply.l0 K m (b - 2) w acc l l.length i = some (acc ++ (List.range' i d).map fun (j : Nat) => sh (wrap64 (rd l j * rd w j)) (b - 2) m) := by
  intro d
  induction d with
  | zero =>
    intro i K acc hd hi hK ha
    obtain ⟨K, rfl⟩ : ∃ j, K = j + 1 := ⟨K - 1, by omega⟩
    rw [headroomref19_Apply.l0, if_neg (by omega)]
    simp
  | succ d ih =>
    intro i K acc hd hi hK ha
    obtain ⟨K, rfl⟩ : ∃ j, K = j + 1 := ⟨K - 1, by omega⟩
    have e2 : ((i : Int) + 1) = ((i + 1 : Nat) : Int) := by norm_cast
    have hx : In64 (wrap64 (rd l i * rd w i)) := ⟨HM.wrap64_lo _, HM.wrap64_hi _⟩
    rw [headroomref19_Apply.l0, if_pos (by omega), if_pos (by omega), if_pos (by omega), if_pos (by omega), ref_shift _ _ _ K hx (by omega) (by omega) hm0 hm1 (by omega), sh_val _ _ _ (by omega) (by omega) hm0 hm1, Option.bind_some, Option.bind_some, if_pos (by omega), HM.wrap64_id ((i : Int) + 1) (by omega) (by omega), e2, ih (i + 1) K _ (by omega) (by omega) (by omega) (by simp; omega), List.range'_succ, List.map_cons, List.append_assoc]
    rfl
theorem in_val (x fmt : Int) (b : Nat) (hb : (fmt = 0 ∧ b = 15) ∨ (fmt ≠ 0 ∧ b = 31)) (k : Nat) (hk : 64 < k) : headroomref02_In.f k x fmt = some (!oddB b x) := by
  have h15 : ∀ k, 64 < k → headroomref02_One.f k fmt = some (2 ^ b) := by
    intro k hk
    unfold headroomref02_One.f headroomref02_Bits.f
    rcases hb with ⟨h, rfl⟩ | ⟨h, rfl⟩
    · rw [if_pos h, Option.bind_some, ref_pow' 15 k (by omega) (by omega) (by omega)]
      rfl
    · rw [if_neg h, Option.bind_some, ref_pow' 31 k (by omega) (by omega) (by omega)]
      rfl
  have hp := HM.pow_pos b
  have hm := HM.pow_lt62 (i := b) (by omega)
  unfold headroomref02_In.f
  rw [h15 k hk, Option.bind_some, HM.wrap64_id _ (by omega) (by omega), Option.bind_some]
  unfold oddB
  rw [Int.toNat_natCast]
  have d1 : ∀ p q : Prop, ∀ [Decidable p] [Decidable q], (p ↔ ¬ q) → decide p = !decide q := by
    intro p q _ _ h
    by_cases hq : q
    · rw [decide_eq_true hq, decide_eq_false (fun hp => h.1 hp hq)]; rfl
    · rw [decide_eq_false hq, decide_eq_true (h.2 hq)]; rfl
  rw [d1 (x < -(2 ^ b)) (x ≥ -(2 ^ b)) (by omega), d1 (x ≥ 2 ^ b) (x < 2 ^ b) (by omega)]
  by_cases c : x ≥ -(2 ^ b)
  · rw [if_pos c, decide_eq_true c]
    cases decide (x < 2 ^ b) <;> rfl
  · rw [if_neg c, decide_eq_false c]
    rfl
theorem mant_loop (fmt : Int) (b : Nat) (hb : (fmt = 0 ∧ b = 15) ∨ (fmt ≠ 0 ∧ b = 31)) (l : List Int) (hl : l.length ≤ 1000000) : ∀ (d i k : Nat), l.length - i = d → i ≤ l.length → d + 80 < k →
    headroomref19_Mantissas.l0 k fmt l l.length i = some (!(l.drop i).any (oddB b)) := by
  intro d
  induction d with
  | zero =>
    intro i k hd hi hk
    obtain ⟨k, rfl⟩ : ∃ j, k = j + 1 := ⟨k - 1, by omega⟩
    rw [headroomref19_Mantissas.l0, if_neg (by omega), List.drop_of_length_le (by omega)]
    rfl
  | succ d ih =>
    intro i k hd hi hk
    obtain ⟨k, rfl⟩ : ∃ j, k = j + 1 := ⟨k - 1, by omega⟩
    have e2 : ((i : Int) + 1) = ((i + 1 : Nat) : Int) := by norm_cast
    rw [headroomref19_Mantissas.l0, if_pos (by omega), if_pos (by omega), if_pos (by omega), in_val _ fmt b hb k (by omega), Option.bind_some, HM.wrap64_id _ (by omega) (by omega), e2, rd_at_int l i (by omega), List.drop_eq_getElem_cons (by omega), List.any_cons]
    cases oddB b l[i]
    · rw [Bool.not_false, if_pos rfl, ih (i + 1) k (by omega) (by omega) (by omega), Bool.false_or]
    · rw [Bool.not_true, if_neg (by simp), Bool.true_or]
      rfl
theorem win_bad (kind : Int) (b e : Nat) (hk : kind < 0 ∨ 3 < kind) (hb : b = 13 ∨ b = 29) (h0 : 2 ≤ e) (h1 : e ≤ 6) : window_Table.f kind e b = some ([], 1) := by
  obtain ⟨t1, t2, t3, t4⟩ := tabsOk_spec (tabs_W b e hb h0 h1)
  unfold window_Table.f
  rw [t1, Option.bind_some, if_neg (by omega)]
theorem why_true (l : List Int) (fmt : Int) : headroomref19_Why.j0 200 l fmt true = some 1 := by
  rw [show (200 : Nat) = 199 + 1 from rfl, headroomref19_Why.j0, if_pos rfl]
theorem why_false (l : List Int) (hl : l.length ≤ 70) (fmt : Int) (b : Nat) (hb : (fmt = 0 ∧ b = 15) ∨ (fmt ≠ 0 ∧ b = 31)) : headroomref19_Why.j0 200 l fmt false = some (if l.any (oddB b) = true then 2 else 0) := by
  have h := mant_loop fmt b hb l (by omega) l.length 0 199 (by omega) (by omega) (by omega)
  rw [show (200 : Nat) = 199 + 1 from rfl, headroomref19_Why.j0, if_neg (by simp), headroomref19_Mantissas.f]
  simp only [Int.natCast_zero, List.drop_zero] at h
  rw [h, Option.bind_some]
  cases l.any (oddB b) <;> rfl
/-- Weighing where the length, the format and the mode may be. -/
theorem apply_good (l : List Int) (hl : l.length ≤ 70) (kind fmt m : Int) (hm0 : 0 ≤ m) (hm1 : m ≤ 2) (e b : Nat) (h2 : 2 ≤ e) (h6 : e ≤ 6) (hn : (l.length : Int) = 2 ^ e) (hlog : ∀ k, 20 < k → flip_Log.f k l.length = some ((e : Int), 0) ∧ headroomref08_Log.f k l.length = some (e : Int))
    (hf : (fmt = 0 ∧ b = 13) ∨ (fmt = 1 ∧ b = 29)) (hk0 : 0 ≤ kind) (hk : kind ≤ 3) :
    (window_Apply.f l kind fmt m = some ([], 2) ∧ headroomref19_Why.f 200 l kind fmt m = some 2) ∨
    (∃ (a : List Int), (b = 13 ∨ b = 29) ∧ 0 ≤ m ∧ m ≤ 2 ∧ a.length = l.length ∧ (∀ x ∈ a, 0 ≤ x ∧ x ≤ 2 ^ b) ∧ (kind = 0 → ∀ x ∈ a, x = 2 ^ b) ∧ (∀ n ∈ l, oddB ((b + 2 : Nat) : Int) n = false) ∧
      window_Apply.f l kind fmt m = some ((List.range l.length).map (fun (j : Nat) => sh (wrap64 (rd l j * rd a j)) b m), 0) ∧ headroomref19_Why.f 200 l kind fmt m = some 0 ∧
      headroomref19_Apply.f 200 l kind fmt m = some ((List.range l.length).map fun (j : Nat) => sh (wrap64 (rd l j * rd a j)) b m)) := by
  have hbb : b = 13 ∨ b = 29 := by omega
  obtain ⟨a, w1, w2, w3, w4, w5⟩ := win_table kind b e hk0 hk hbb h2 h6
  have hS : sat_Bits.f fmt = some (((b + 2 : Nat) : Int), 0) := by
    unfold sat_Bits.f
    rcases hf with ⟨rfl, rfl⟩ | ⟨rfl, rfl⟩
    · rfl
    · rfl
  have hmx : mx (wrap64 (((b + 2 : Nat) : Int) - 2)) 0 = b := by
    rw [HM.wrap64_id _ (by omega) (by omega)]
    unfold mx
    rw [if_neg (by omega)]
    omega
  have hno : round_Shift.f 0 0 m = some (0, 0) := sh_val 0 0 m (by omega) (by omega) hm0 hm1
  have hnn : l.length = 2 ^ e := by exact_mod_cast hn
  have hwb : headroomref02_Format.f fmt = some true := by
    unfold headroomref02_Format.f
    rcases hf with ⟨rfl, rfl⟩ | ⟨rfl, rfl⟩ <;> rfl
  have hwhy : headroomref19_Why.f 200 l kind fmt m = headroomref19_Why.j0 200 l fmt false := by
    unfold headroomref19_Why.f
    rw [(hlog 200 (by omega)).2, Option.bind_some, if_neg (by omega), if_neg (by omega), if_neg (by omega), hwb, Option.bind_some, if_pos rfl, if_neg (by omega), decide_eq_false (by omega)]
  rw [hwhy, why_false l hl fmt (b + 2) (by omega)]
  have hA : window_Apply.f l kind fmt m = if l.any (oddB ((b + 2 : Nat) : Int)) = true then some ([], 2) else (weighedTo ((b + 2 : Nat) : Int) m a l l.length).bind fun r => some (r, 0) := by
    unfold window_Apply.f
    rw [if_pos (by omega), (hlog 30 (by omega)).1, Option.bind_some, if_pos rfl, hS, Option.bind_some, hno, Option.bind_some]
    dsimp only
    rw [hmx, w1, Option.bind_some, if_pos ⟨rfl, rfl, rfl⟩, if_pos (by omega)]
  cases hany : l.any (oddB ((b + 2 : Nat) : Int)) with
  | true => exact .inl ⟨by rw [hA, hany, if_pos rfl], by rw [if_pos rfl]⟩
  | false =>
    refine .inr ⟨a, hbb, hm0, hm1, by rw [w3, hnn], w4, w5, fun n hn => ?_, ?_, by rw [if_neg (by simp)], ?_⟩
    · have := List.any_eq_false.1 hany n hn
      simpa using this
    · rw [hA, hany, if_neg (by simp), weighed_val _ m a l (by omega) (by omega) hm0 hm1 l.length (by omega), Option.bind_some]
      rw [show (((b + 2 : Nat) : Int) - 2) = (b : Int) by omega]
    · unfold headroomref19_Apply.f headroomref07_Bits.f headroomref02_Bits.f
      have hb7 : ((if fmt = 0 then (some 15) else (some 31) : Option Int).bind fun t1 => some (wrap64 (t1 - 2))) = some (b : Int) := by
        rcases hf with ⟨rfl, rfl⟩ | ⟨rfl, rfl⟩
        · rw [if_pos rfl, Option.bind_some, HM.wrap64_id _ (by omega) (by omega)]; rfl
        · rw [if_neg (by omega), Option.bind_some, HM.wrap64_id _ (by omega) (by omega)]; rfl
      rw [hb7, Option.bind_some, (hlog 200 (by omega)).2, Option.bind_some, w2, Option.bind_some]
      have h := ref_apply_loop ((b + 2 : Nat) : Int) m a l (by omega) (by omega) hm0 hm1 hl (by omega) l.length 0 200 [] (by omega) (by omega) (by omega) (by simp)
      rw [show (((b + 2 : Nat) : Int) - 2) = (b : Int) by omega] at h
      simp only [List.nil_append, Int.natCast_zero] at h
      rw [h, List.range_eq_range']
theorem why_mode (l : List Int) (kind fmt m : Int) (e : Int) (he : 0 ≤ e) (hlog : headroomref08_Log.f 200 l.length = some e) (hm : m < 0 ∨ m > 2) : headroomref19_Why.f 200 l kind fmt m = some 1 := by
  have hwb : ∃ b, headroomref02_Format.f fmt = some b := by
    unfold headroomref02_Format.f
    by_cases c : fmt = 0
    · exact ⟨true, by rw [if_pos c]⟩
    · exact ⟨_, by rw [if_neg c]⟩
  obtain ⟨b, hb⟩ := hwb
  unfold headroomref19_Why.f
  rw [hlog, Option.bind_some, if_neg (by omega)]
  by_cases c : kind < 0
  · rw [if_pos c, why_true]
  · rw [if_neg c]
    by_cases d : kind > 3
    · rw [if_pos d, why_true]
    · rw [if_neg d, hb, Option.bind_some]
      cases b with
      | false => rw [if_neg (by simp), why_true]
      | true =>
        rw [if_pos rfl]
        by_cases f : m < 0
        · rw [if_pos f, why_true]
        · rw [if_neg f, decide_eq_true (by omega), why_true]
/-- What weighing comes to: refused, the same by both; or weighed, the same by both. -/
theorem apply_cases (l : List Int) (hl : l.length ≤ 70) (kind fmt m : Int) :
    (∃ c : Int, c ≠ 0 ∧ window_Apply.f l kind fmt m = some ([], c) ∧ headroomref19_Why.f 200 l kind fmt m = some c) ∨
    (∃ (b : Nat) (a : List Int), (b = 13 ∨ b = 29) ∧ 0 ≤ m ∧ m ≤ 2 ∧ a.length = l.length ∧ (∀ x ∈ a, 0 ≤ x ∧ x ≤ 2 ^ b) ∧ (kind = 0 → ∀ x ∈ a, x = 2 ^ b) ∧ (∀ n ∈ l, oddB ((b + 2 : Nat) : Int) n = false) ∧
      window_Apply.f l kind fmt m = some ((List.range l.length).map (fun (j : Nat) => sh (wrap64 (rd l j * rd a j)) b m), 0) ∧ headroomref19_Why.f 200 l kind fmt m = some 0 ∧
      headroomref19_Apply.f 200 l kind fmt m = some ((List.range l.length).map fun (j : Nat) => sh (wrap64 (rd l j * rd a j)) b m)) := by
  have hB : (fmt = 0 ∧ sat_Bits.f fmt = some (15, 0)) ∨ (fmt = 1 ∧ sat_Bits.f fmt = some (31, 0)) ∨ (fmt ≠ 0 ∧ fmt ≠ 1 ∧ sat_Bits.f fmt = some (0, 1)) := by
    unfold sat_Bits.f
    by_cases c0 : fmt = 0
    · exact .inl ⟨c0, by rw [if_pos c0]⟩
    · by_cases c1 : fmt = 1
      · exact .inr (.inl ⟨c1, by rw [if_neg c0, if_pos c1]⟩)
      · exact .inr (.inr ⟨c0, c1, by rw [if_neg c0, if_neg c1]⟩)
  have hM : (0 ≤ m ∧ m ≤ 2 ∧ round_Shift.f 0 0 m = some (0, 0)) ∨ ((m < 0 ∨ m > 2) ∧ round_Shift.f 0 0 m = some (0, 1)) := by
    unfold round_Shift.f
    rw [if_neg (by omega), if_neg (by omega)]
    by_cases c0 : m < 0
    · exact .inr ⟨.inl c0, by rw [if_pos c0]⟩
    · by_cases c1 : m ≥ 3
      · exact .inr ⟨.inr (by omega), by rw [if_neg c0, if_pos c1]⟩
      · exact .inl ⟨by omega, by omega, by rw [if_neg c0, if_neg c1, if_pos rfl]⟩
  have hlen : l.length ≤ 4194304 := by omega
  rcases logs (l.length : Int) with hlog | ⟨e, h2, h6, hn, hlog⟩
  · refine .inl ⟨3, by omega, ?_, ?_⟩
    · unfold window_Apply.f
      rw [if_pos hlen, (hlog 30 (by omega)).1, Option.bind_some, if_neg (by omega)]
    · unfold headroomref19_Why.f
      rw [(hlog 200 (by omega)).2, Option.bind_some, if_pos (by omega)]
  · rcases hB with ⟨hf, hS⟩ | ⟨hf, hS⟩ | ⟨f0, f1, hS⟩
    · rcases hM with ⟨hm0, hm1, hno⟩ | ⟨hm, hno⟩
      · by_cases hk : 0 ≤ kind ∧ kind ≤ 3
        · rcases apply_good l hl kind fmt m hm0 hm1 e 13 h2 h6 hn hlog (.inl ⟨hf, rfl⟩) hk.1 hk.2 with ⟨q1, q2⟩ | ⟨a, q⟩
          · exact .inl ⟨2, by omega, q1, q2⟩
          · exact .inr ⟨13, a, q⟩
        · refine .inl ⟨1, by omega, ?_, ?_⟩
          · unfold window_Apply.f
            rw [if_pos hlen, (hlog 30 (by omega)).1, Option.bind_some, if_pos rfl, hS, Option.bind_some, hno, Option.bind_some]
            dsimp only
            rw [show mx (wrap64 (15 - 2)) 0 = ((13 : Nat) : Int) by decide +kernel, win_bad kind 13 e (by omega) (.inl rfl) h2 h6, Option.bind_some, if_neg (by omega)]
          · unfold headroomref19_Why.f
            rw [(hlog 200 (by omega)).2, Option.bind_some, if_neg (by omega)]
            by_cases c : kind < 0
            · rw [if_pos c, why_true]
            · rw [if_neg c, if_pos (by omega), why_true]
      · refine .inl ⟨1, by omega, ?_, ?_⟩
        · unfold window_Apply.f
          rw [if_pos hlen, (hlog 30 (by omega)).1, Option.bind_some, if_pos rfl, hS, Option.bind_some, hno, Option.bind_some]
          dsimp only
          rw [show mx (wrap64 (15 - 2)) 0 = ((13 : Nat) : Int) by decide +kernel]
          have ht : ∃ r, window_Table.f kind e ((13 : Nat) : Int) = some r := by
            by_cases hk : 0 ≤ kind ∧ kind ≤ 3
            · obtain ⟨a, w, _⟩ := win_table kind 13 e hk.1 hk.2 (.inl rfl) h2 h6
              exact ⟨_, w⟩
            · exact ⟨_, win_bad kind 13 e (by omega) (.inl rfl) h2 h6⟩
          obtain ⟨r, hr⟩ := ht
          rw [hr, Option.bind_some, if_neg (by omega)]
        · exact why_mode l kind fmt m e (by omega) (hlog 200 (by omega)).2 hm
    · rcases hM with ⟨hm0, hm1, hno⟩ | ⟨hm, hno⟩
      · by_cases hk : 0 ≤ kind ∧ kind ≤ 3
        · rcases apply_good l hl kind fmt m hm0 hm1 e 29 h2 h6 hn hlog (.inr ⟨hf, rfl⟩) hk.1 hk.2 with ⟨q1, q2⟩ | ⟨a, q⟩
          · exact .inl ⟨2, by omega, q1, q2⟩
          · exact .inr ⟨29, a, q⟩
        · refine .inl ⟨1, by omega, ?_, ?_⟩
          · unfold window_Apply.f
            rw [if_pos hlen, (hlog 30 (by omega)).1, Option.bind_some, if_pos rfl, hS, Option.bind_some, hno, Option.bind_some]
            dsimp only
            rw [show mx (wrap64 (31 - 2)) 0 = ((29 : Nat) : Int) by decide +kernel, win_bad kind 29 e (by omega) (.inr rfl) h2 h6, Option.bind_some, if_neg (by omega)]
          · unfold headroomref19_Why.f
            rw [(hlog 200 (by omega)).2, Option.bind_some, if_neg (by omega)]
            by_cases c : kind < 0
            · rw [if_pos c, why_true]
            · rw [if_neg c, if_pos (by omega), why_true]
      · refine .inl ⟨1, by omega, ?_, ?_⟩
        · unfold window_Apply.f
          rw [if_pos hlen, (hlog 30 (by omega)).1, Option.bind_some, if_pos rfl, hS, Option.bind_some, hno, Option.bind_some]
          dsimp only
          rw [show mx (wrap64 (31 - 2)) 0 = ((29 : Nat) : Int) by decide +kernel]
          have ht : ∃ r, window_Table.f kind e ((29 : Nat) : Int) = some r := by
            by_cases hk : 0 ≤ kind ∧ kind ≤ 3
            · obtain ⟨a, w, _⟩ := win_table kind 29 e hk.1 hk.2 (.inr rfl) h2 h6
              exact ⟨_, w⟩
            · exact ⟨_, win_bad kind 29 e (by omega) (.inr rfl) h2 h6⟩
          obtain ⟨r, hr⟩ := ht
          rw [hr, Option.bind_some, if_neg (by omega)]
        · exact why_mode l kind fmt m e (by omega) (hlog 200 (by omega)).2 hm
    · refine .inl ⟨1, by omega, ?_, ?_⟩
      · unfold window_Apply.f
        have hno' : ∃ r, round_Shift.f 0 0 m = some r := by
          rcases hM with ⟨_, _, h⟩ | ⟨_, h⟩ <;> exact ⟨_, h⟩
        obtain ⟨r, hr⟩ := hno'
        obtain ⟨r2, hr2⟩ := none_spec kind e h2 h6
        rw [if_pos hlen, (hlog 30 (by omega)).1, Option.bind_some, if_pos rfl, hS, Option.bind_some, hr, Option.bind_some]
        dsimp only
        rw [show mx (wrap64 (0 - 2)) 0 = 0 by decide +kernel, hr2, Option.bind_some, if_neg (by omega)]
      · unfold headroomref19_Why.f
        rw [(hlog 200 (by omega)).2, Option.bind_some, if_neg (by omega)]
        have hwb : headroomref02_Format.f fmt = some false := by
          unfold headroomref02_Format.f
          rw [if_neg f0, beq_eq_false_iff_ne.2 f1]
        by_cases c : kind < 0
        · rw [if_pos c, why_true]
        · rw [if_neg c]
          by_cases d : kind > 3
          · rw [if_pos d, why_true]
          · rw [if_neg d, hwb, Option.bind_some, if_neg (by simp), why_true]
end Go.Proofs.Ytpmkkidljmedaaa.Pure
namespace Go.Proofs.Ytpmkkidljmedaaa.Pure
open Go.RowKit Go.Proofs.Ytpmkkidljmedaaa.X Go.Proofs.YtpmkkidljmedaaaW.PrintWords Go.Proofs.YtpmkkidljmedaaaW.PrintLast Go.Proofs.YtpmkkidljmedaaaW.PrintMore
set_option linter.unusedVariables false
theorem WindowWeighs : headroomlaw19_WindowWeighs.Pure := by
  intro l0 a1 a2 a3 _ _ _ _ _ _
  refine ⟨200, ?_⟩
  unfold headroomlaw19_WindowWeighs.f
  have hm0 : 0 ≤ mn (l0.length : Int) 70 := by unfold mn; split <;> omega
  have hm1 : mn (l0.length : Int) 70 ≤ l0.length := by unfold mn; split <;> omega
  have hm2 : mn (l0.length : Int) 70 ≤ 70 := by unfold mn; split <;> omega
  rw [if_pos hm0, if_pos hm1]
  have hlen : (l0.take (mn (l0.length : Int) 70).toNat).length ≤ 70 := by
    rw [List.length_take]
    omega
  generalize l0.take (mn (l0.length : Int) 70).toNat = l at hlen
  rcases apply_cases l hlen a1 a2 a3 with ⟨c, hc, h1, h2⟩ | ⟨b, a, hb, h0, h2, hal, ha, hz, hn, e1, e2, e3⟩
  · rw [h1, Option.bind_some, h2, Option.bind_some, if_neg hc, alive19, Option.bind_some, if_pos rfl, if_pos rfl]
    rfl
  · rw [e1, Option.bind_some, e2, Option.bind_some, if_pos rfl, alive19, Option.bind_some, if_pos rfl, if_pos rfl, e3, Option.bind_some, same_ints _ 200 (by simp; omega) (by simp; omega), Option.bind_some]
end Go.Proofs.Ytpmkkidljmedaaa.Pure
namespace Go.Proofs.Ytpmkkidljmedaaa.windowWeighs
open Go.ChangeShapes Go.WideShapes Go.ChangeAt Go.RowKit
open Go.ChangeMaps (open_string shut_string)
set_option linter.unusedVariables false
theorem own : ownKnob Try.prog.godebug = none := by kernel_rfl
theorem laidOut : laidOutB Try.prog = true := by kernel_rfl
def IsRow (k : IntKind) (w : World) (a : Option Addr) (len cap : Nat) (zs : List Int) : Prop :=
  (a = none ∧ len = 0 ∧ cap = 0 ∧ zs = []) ∨
  ∃ x, a = some x ∧ len ≤ cap ∧ cap ≤ maxLen ∧ zs.length = cap ∧ (∀ i, i < zs.length → w.cell? (x.add i) = some (.int k (zs.getD i 0))) ∧ ∀ n ∈ zs, (Lit.int k n).wf = true
set_option maxRecDepth 100000 in
theorem lifted (os : Os) (started : os.Started) (H : Type) (enc : TypeId × Value → H) :
    ReturnsInHanded {} Try.checked os 4 .any (Rows.windowWeighsSpec.pre6 enc Try.prog Try.f4 Rows.windowWeighsRow.domain false) (Rows.windowWeighsSpec.post enc Try.prog Try.f4 false true false false) := by
  refine returnsInHanded_of_change_sized (C := Try.checked) own started (by kernel_rfl) Try.func4
    (ChangeSpec.witness6 (enc := enc) (C := Try.checked) false ⟨#[], #[.slice none 0 0, .int .i64 0, .int .i64 0, .int .i64 0], []⟩ 8 (by kernel_rfl) (by kernel_rfl) (by kernel_rfl) (by kernel_rfl)) ?_
  intro W base args ds gs before hval0 hW hcnd hsz0 _
  have hsz : (DataW.weightsEach Try.prog (Try.f4.params.toList ++ Rows.windowWeighsSpec.plain.varTypes Try.prog) (ds ++ gs)).all (· ≤ reachBytes) = true := hsz0
  have hval : ∀ (j : Nat) t v, Try.f4.params[j]? = some t → args[j]? = some v → Value.okWide Try.prog W .any base t v := hval0
  have hW' := hW
  obtain ⟨p, q, hA0, hV, rfl, hfz, hnd⟩ := hW
  have hA : DataW.TrodAll enc Try.prog W 0 (fun _ => true) true Try.f4.params.toList args.toList ds p := hA0
  rw [Try.params4] at hA hval hsz
  obtain ⟨v0, vs0, d0, ds0, p0, q0, hargs, rfl, rfl, h0, r0⟩ := trodAll_cons hA
  obtain ⟨v1, vs1, d1, ds1, p1, q1, rfl, rfl, rfl, h1, r1⟩ := trodAll_cons r0
  obtain ⟨v2, vs2, d2, ds2, p2, q2, rfl, rfl, rfl, h2, r2⟩ := trodAll_cons r1
  obtain ⟨v3, vs3, d3, ds3, p3, q3, rfl, rfl, rfl, h3, r3⟩ := trodAll_cons r2
  obtain ⟨rfl, rfl, rfl⟩ := trodAll_nil r3
  obtain rfl : args = #[v0, v1, v2, v3] := by cases args; simp_all
  obtain ⟨rfl, rfl⟩ := trodVars_none hV
  obtain ⟨a0, len0, cap0, rfl⟩ := okWide_slice Try.underlying31 (hval 0 31 v0 rfl rfl)
  have k0 := h0
  have lt0 : ∀ x ∈ p0, x.block < W.heap.size := by obtain ⟨m, hm⟩ := k0; exact DataW.trod_lt m _ _ _ hm
  obtain ⟨z0, w0⟩ : ∃ zs, IsRow .i64 W a0 len0 cap0 zs := by
    obtain ⟨fuel, hf⟩ := h0
    rcases open_ints Try.underlying31 Try.underlying3 (by kernel_rfl) hf with ⟨hcs, _⟩ | ⟨x, l, c, zs, hcs, _, hl, hm, hz, _, hcell, hwz⟩
    · simp [Value.cells] at hcs
      obtain ⟨rfl, rfl, rfl⟩ := hcs
      exact ⟨[], .inl ⟨rfl, rfl, rfl, rfl⟩⟩
    · simp [Value.cells] at hcs
      obtain ⟨rfl, rfl, rfl⟩ := hcs
      exact ⟨zs, .inr ⟨_, rfl, hl, hm, by simpa using hz, hcell, hwz⟩⟩
  have y0 : len0 * 8 ≤ 140737488351232 := Go.Proofs.YtpmkkidljmedaaaW.PrintWords.sized_ints hsz (j := 0) (t := 31) rfl rfl Try.underlying31 Try.underlying3 (by kernel_rfl) (by kernel_rfl) h0
  obtain ⟨a1, rfl, rfl, rfl, w1⟩ := open_int Try.underlying3 (hval 1 3 v1 rfl rfl) h1
  obtain ⟨a2, rfl, rfl, rfl, w2⟩ := open_int Try.underlying3 (hval 2 3 v2 rfl rfl) h2
  obtain ⟨a3, rfl, rfl, rfl, w3⟩ := open_int Try.underlying3 (hval 3 3 v3 rfl rfl) h3
  clear hA0 hval0 hsz0 hsz
  refine (X.headroomlaw19_WindowWeighs.walk Pure.WindowWeighs a0 len0 cap0 z0 a1 a2 a3 W w0 y0 w1 w2 w3).mono fun e W' ⟨he, bel⟩ => ?_
  subst he
  exact ⟨_, rfl, _, _, _, [], _, [], hW', trodAll_mk1 (shut_bool Try.underlying4 _), (trodAll_cons_mk (Below.trod laidOut (by kernel_rfl) (of_decide_eq_true (by kernel_rfl)) k0 bel lt0) (trodAll_cons_mk (shut_int Try.underlying3 w1) (trodAll_cons_mk (shut_int Try.underlying3 w2) (trodAll_cons_mk (shut_int Try.underlying3 w3) trodAll_mk0)))), rfl, bel.frame _, fun h => by cases h⟩
theorem over : Rows.windowWeighsRow.holds Try.pinned (OpenSpec.ofChange Rows.windowWeighsSpec) :=
  OpenClaim.holds_of_wide 4 Try.f4 rfl rfl rfl rfl rfl rfl rfl ⟨rfl, rfl, rfl, rfl, rfl⟩ rfl rfl rfl rfl rfl (by kernel_rfl) Try.func4 (by kernel_rfl)
    (of_decide_eq_true (by kernel_rfl)) (by unfold Func.isWrapper; first | (rw [if_pos (by decide +kernel)]; kernel_rfl) | (rw [if_neg (by decide +kernel)]; exact ⟨rfl, rfl⟩))
    (fun os started H enc _ => lifted os started H enc)
theorem proved : Rows.WindowWeighsSaid := over
#print axioms proved
end Go.Proofs.Ytpmkkidljmedaaa.windowWeighs
namespace Go.Proofs.Ytpmkkidljmedaaa
/-- The row, under a short name, for the claim. -/
theorem windowWeighs_holds : Rows.WindowWeighsSaid := windowWeighs.proved
end Go.Proofs.Ytpmkkidljmedaaa
