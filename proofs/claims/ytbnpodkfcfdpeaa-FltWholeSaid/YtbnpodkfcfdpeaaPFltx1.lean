-- laid by a program of this session (gprint.py)
import Derived.Test.YtbnpodkfcfdpeaaPFltx0
namespace Go.Proofs.Ytbnpodkfcfdpeaa.PFlt
open Go.RowKit Go.Proofs.YtbnpodkfcfdpeaaW.PrintWords Go.Proofs.YtbnpodkfcfdpeaaW.PrintLast Go.Proofs.YtbnpodkfcfdpeaaW.PrintMore
attribute [local go_sem] max2_int min2_int max_two min_two max_three min_three max_four min_four   -- for this text's walks alone
set_option linter.unusedVariables false
set_option linter.unusedSimpArgs false

/-- The bits of an int, as a float's. -/
def fbits (a : Int) : Nat := (IntKind.u64.wrap a).toNat
/-- What 'bits' tells of a float. -/
def fcan (b : Nat) : Int := if Ieee.double.order b b = some .eq then wrap64 (b : Int) else 9221120237041090561

theorem frombits_run (n : Int) (w : World) : (callFunc 43 #[.int .u64 n]).run Try.prog w = .ok (.value (.float .f64 n.toNat)) w := by
  rw [run_callFunc_extern (e := Extern.MathFloatBits.float64frombits) Try.func43 (by kernel_rfl) (by kernel_rfl) (by kernel_rfl) (by kernel_rfl)]
  rfl

set_option maxHeartbeats 400000 in
theorem flt_number.calls (a : Int) (w : World) :
    Calls Try.prog 29 #[.int .i64 a] w fun e w' => e = .returned (.float .f64 (fbits a)) ∧ Drawn0 w w' := by
  have hb := @frombits_run
  go_enter Try.func29, Try.ntmps29
  go_wp2
  go_ret
  exact ⟨rfl, Drawn0.refl _⟩


theorem bits_run (b : Nat) (w : World) : (callFunc 44 #[.float .f64 b]).run Try.prog w = .ok (.value (.int .u64 b)) w := by
  rw [run_callFunc_extern (e := Extern.MathFloatBits.float64bits) Try.func44 (by kernel_rfl) (by kernel_rfl) (by kernel_rfl) (by kernel_rfl)]
  rfl


set_option maxHeartbeats 400000 in
theorem flt_bits.calls (b : Nat) (w : World) :
    Calls Try.prog 30 #[.float .f64 b] w fun e w' => e = .returned (.int .i64 (fcan b)) ∧ Drawn0 w w' := by
  have hb := @bits_run
  by_cases h : Ieee.double.order b b = some .eq
  · have h1 : (FloatKind.f64.format.order b b != some .eq) = false := by
      rw [show FloatKind.f64.format = Ieee.double from rfl, h]; rfl
    have h2 : fcan b = wrap64 (b : Int) := by unfold fcan; rw [if_pos h]
    rw [h2]
    clear h h2
    go_enter Try.func30, Try.ntmps30
    go_wp2
    go_ret
    exact ⟨rfl, Drawn0.refl _⟩
  · have h1 : (FloatKind.f64.format.order b b != some .eq) = true := by
      rw [show FloatKind.f64.format = Ieee.double from rfl, bne_iff_ne]; exact h
    have h2 : fcan b = 9221120237041090561 := by unfold fcan; rw [if_neg h]
    rw [h2]
    clear h h2
    go_enter Try.func30, Try.ntmps30
    go_wp2
    go_ret
    exact ⟨rfl, Drawn0.refl _⟩


def nanGot (w : World) (x y : Nat) : Nat := (Question.nanBits .f64 x y).cut (w.tape w.drawn (.nanBits .f64 x y))
theorem run_float_nan {P : Program} {w : World} (op : BinOp) (t : TypeId) (x y : Nat) (ho : op = .add ∨ op = .sub ∨ op = .mul ∨ op = .quo) (h : floatBits op .f64 x y = none) :
    (binOp op t (.float .f64 x) (.float .f64 y)).run P w = .ok (.float .f64 (nanGot w x y)) (w.drewN 1) := by
  unfold floatBits at h
  rcases ho with rfl | rfl | rfl | rfl <;> simp only at h <;> simp [binOp, Op.floatArith, h, choose, Sem.run, Question.forced, nanGot, World.drewN] <;> rfl

/-- What an operation's outcome is told as. -/
def fres : Option Nat → Int
  | some r => fcan r
  | none => 9221120237041090561
theorem order_nan (s t : Nat) (hs : s < 2) (ht : t < 2 ^ 52 - 1) : Ieee.double.order (s * 2 ^ 63 + 0x7ff0000000000000 + 1 + t) (s * 2 ^ 63 + 0x7ff0000000000000 + 1 + t) = none := by
  have e : Ieee.double.read (s * 2 ^ 63 + 0x7ff0000000000000 + 1 + t) = .nan (s == 1) (1 + t) := by
    unfold Ieee.Format.read
    simp only [show Ieee.double.signWeight = 2 ^ 63 from rfl, show Ieee.double.binade = 2 ^ 52 from rfl, show Ieee.double.infRung = 2047 * 2 ^ 52 from rfl]
    have e1 : (s * 2 ^ 63 + 9218868437227405312 + 1 + t) / 2 ^ 63 % 2 = s := by omega
    have e2 : (s * 2 ^ 63 + 9218868437227405312 + 1 + t) % 2 ^ 63 = 9218868437227405312 + 1 + t := by omega
    rw [e1, e2, if_neg (by omega), if_neg (by omega), if_neg (by omega)]
    rw [show 9218868437227405312 + 1 + t - 2047 * 2 ^ 52 = 1 + t by omega]
  unfold Ieee.Format.order
  rw [e]
  rfl
theorem fcan_nan (w : World) (x y : Nat) : fcan (nanGot w x y) = 9221120237041090561 := by
  have key : Ieee.double.order (nanGot w x y) (nanGot w x y) = none := by
    unfold nanGot
    exact order_nan (w.tape w.drawn (.nanBits .f64 x y) % 2) (w.tape w.drawn (.nanBits .f64 x y) / 2 % (2 ^ 52 - 1)) (by omega) (Nat.mod_lt _ (by decide))
  unfold fcan
  exact if_neg (by rw [key]; simp)

def flt_Op.f (a0 a1 a2 : Int) : Option Int := some (
  if a0 = 0 then fres (Ieee.double.add (fbits a1) (fbits a2)) else if a0 = 1 then fres (Ieee.double.sub (fbits a1) (fbits a2))
  else if a0 = 2 then fres (Ieee.double.mul (fbits a1) (fbits a2)) else if a0 = 3 then fres (Ieee.double.div (fbits a1) (fbits a2)) else 9221120237041090561)

set_option maxHeartbeats 1000000 in
theorem flt_Op.some (op : BinOp) (r : Nat) (a0 a1 a2 : Int) (w : World) (h : floatBits op .f64 (fbits a1) (fbits a2) = some r)
    (hop : (a0 = 0 ∧ op = .add) ∨ (a0 = 1 ∧ op = .sub) ∨ (a0 = 2 ∧ op = .mul) ∨ (a0 = 3 ∧ op = .quo)) :
    Calls Try.prog 12 #[.int .i64 a0, .int .i64 a1, .int .i64 a2] w fun e w' => e = .returned (.int .i64 (fcan r)) ∧ Drawn0 w w' := by
  have hr := fun (W : World) (t : TypeId) => run_float_arith (P := Try.prog) W op t .f64 _ _ _ h
  clear h
  rcases hop with ⟨rfl, rfl⟩ | ⟨rfl, rfl⟩ | ⟨rfl, rfl⟩ | ⟨rfl, rfl⟩
  all_goals
    go_enter Try.func12, Try.ntmps12
    go_wp2_with (first | (go_at_call 29; refine (flt_number.calls _ _).mono ?_; rintro e w' ⟨rfl, ⟨nd, rfl⟩⟩) | (go_at_call 30; refine (flt_bits.calls _ _).mono ?_; rintro e w' ⟨rfl, ⟨nd, rfl⟩⟩))
    go_ret
    exact ⟨rfl, by repeat (first | exact Drawn0.refl _ | apply Drawn0.step)⟩

set_option maxHeartbeats 1000000 in
theorem flt_Op.none (op : BinOp) (a0 a1 a2 : Int) (w : World) (h : floatBits op .f64 (fbits a1) (fbits a2) = none)
    (hop : (a0 = 0 ∧ op = .add) ∨ (a0 = 1 ∧ op = .sub) ∨ (a0 = 2 ∧ op = .mul) ∨ (a0 = 3 ∧ op = .quo)) :
    Calls Try.prog 12 #[.int .i64 a0, .int .i64 a1, .int .i64 a2] w fun e w' => e = .returned (.int .i64 9221120237041090561) ∧ Drawn0 w w' := by
  have hr := fun (W : World) (t : TypeId) => run_float_nan (P := Try.prog) (w := W) op t _ _ (by rcases hop with ⟨_, e⟩ | ⟨_, e⟩ | ⟨_, e⟩ | ⟨_, e⟩ <;> simp [e]) h
  clear h
  rcases hop with ⟨rfl, rfl⟩ | ⟨rfl, rfl⟩ | ⟨rfl, rfl⟩ | ⟨rfl, rfl⟩
  all_goals
    go_enter Try.func12, Try.ntmps12
    go_wp2_with (first | (go_at_call 29; refine (flt_number.calls _ _).mono ?_; rintro e w' ⟨rfl, ⟨nd, rfl⟩⟩) | (go_at_call 30; refine (flt_bits.calls _ _).mono ?_; rintro e w' ⟨rfl, ⟨nd, rfl⟩⟩; rw [fcan_nan]))
    go_ret
    exact ⟨rfl, by repeat (first | exact Drawn0.refl _ | apply Drawn0.step)⟩

set_option maxHeartbeats 1000000 in
theorem flt_Op.calls (a0 a1 a2 r : Int) (w : World) (h : flt_Op.f a0 a1 a2 = .some r) :
    Calls Try.prog 12 #[.int .i64 a0, .int .i64 a1, .int .i64 a2] w fun e w' => e = .returned (.int .i64 r) ∧ Drawn0 w w' := by
  have h := Option.some.inj h
  have go : ∀ (op : BinOp) (o : Option Nat), floatBits op .f64 (fbits a1) (fbits a2) = o → fres o = r →
      ((a0 = 0 ∧ op = .add) ∨ (a0 = 1 ∧ op = .sub) ∨ (a0 = 2 ∧ op = .mul) ∨ (a0 = 3 ∧ op = .quo)) →
      Calls Try.prog 12 #[.int .i64 a0, .int .i64 a1, .int .i64 a2] w fun e w' => e = .returned (.int .i64 r) ∧ Drawn0 w w' := by
    intro op o ho hr hop
    cases o with
    | none => rw [← hr]; exact flt_Op.none op a0 a1 a2 w ho hop
    | some x => rw [← hr]; exact flt_Op.some op x a0 a1 a2 w ho hop
  by_cases c0 : a0 = 0
  · rw [if_pos c0] at h; exact go .add _ rfl h (by simp [c0])
  rw [if_neg c0] at h
  by_cases c1 : a0 = 1
  · rw [if_pos c1] at h; exact go .sub _ rfl h (by simp [c1])
  rw [if_neg c1] at h
  by_cases c2 : a0 = 2
  · rw [if_pos c2] at h; exact go .mul _ rfl h (by simp [c2])
  rw [if_neg c2] at h
  by_cases c3 : a0 = 3
  · rw [if_pos c3] at h; exact go .quo _ rfl h (by simp [c3])
  rw [if_neg c3] at h
  subst h
  have d0 : (a0 == 0) = false := beq_eq_false_iff_ne.2 c0
  have d1 : (a0 == 1) = false := beq_eq_false_iff_ne.2 c1
  have d2 : (a0 == 2) = false := beq_eq_false_iff_ne.2 c2
  have d3 : (a0 == 3) = false := beq_eq_false_iff_ne.2 c3
  clear go
  go_enter Try.func12, Try.ntmps12
  go_wp2_with (first | (go_at_call 29; refine (flt_number.calls _ _).mono ?_; rintro e w' ⟨rfl, ⟨nd, rfl⟩⟩))
  go_ret
  exact ⟨rfl, by repeat (first | exact Drawn0.refl _ | apply Drawn0.step)⟩


/-- Of what is no NaN: cut towards zero. -/
def fcut (b : Nat) : Nat := Ieee.double.write ((Ieee.double.read b).integral .zero)
theorem trunc_arms (b : Nat) : ∃ (h1 : (s : Bool) → (t : Nat) → Sem Value) (h2 : (d : Ieee.Datum) → Sem Value),
    Extern.MathFloor.toIntegral "math.archTrunc" .zero #[.float .f64 b] = Extern.MathFloor.toIntegral.match_1 (motive := fun _ => Sem Value) (Ieee.double.read b) h1 h2 ∧
    (∀ d, h2 d = pure (.float .f64 (Ieee.double.write (d.integral .zero)))) ∧
    ∀ s t (P : Program) (w : World), ∃ x n, (h1 s t).run P w = .ok (.float .f64 x) (w.drewN n) ∧ (x = b ∨ x = Ieee.double.write (.nan s (Ieee.double.quiet t))) := by
  refine ⟨_, _, rfl, fun d => rfl, fun s t P w => ?_⟩
  by_cases h : FloatKind.f64.format.quiet t = t
  · rw [if_pos h]
    exact ⟨b, 0, rfl, .inl rfl⟩
  · rw [if_neg h]
    refine ⟨_, 1, rfl, ?_⟩
    split
    · exact .inl rfl
    · exact .inr rfl
theorem trunc_run (b : Nat) (h : (Ieee.double.read b).isNaN = false) (w : World) : (callFunc 47 #[.float .f64 b]).run Try.prog w = .ok (.value (.float .f64 (fcut b))) w := by
  rw [run_callFunc_extern (e := Extern.MathFloor.toIntegral "math.archTrunc" .zero) Try.func47 (by kernel_rfl) (by kernel_rfl) (by kernel_rfl) (by kernel_rfl)]
  obtain ⟨h1, h2, e, g2, _⟩ := trunc_arms b
  rw [e]
  unfold fcut
  cases hd : Ieee.double.read b with
  | nan s t => rw [hd] at h; cases h
  | number s m i => show ((h2 (.number s m i)).run _ _).andThen _ = _; rw [g2]; rfl
  | infinity s => show ((h2 (.infinity s)).run _ _).andThen _ = _; rw [g2]; rfl
theorem read_nan_mk (s : Bool) (t : Nat) (h0 : 0 < t) (h1 : t < 2 ^ 52) : (Ieee.double.read (Ieee.double.write (.nan s t))).isNaN = true := by
  have e : Ieee.double.write (.nan s t) = (if s then 2 ^ 63 else 0) + (2047 * 2 ^ 52 + t) := by
    unfold Ieee.Format.write Ieee.Format.word
    simp only [show Ieee.double.signWeight = 2 ^ 63 from rfl, show Ieee.double.binade = 2 ^ 52 from rfl, show Ieee.double.infRung = 2047 * 2 ^ 52 from rfl]
    rw [Nat.mod_eq_of_lt h1]
    split <;> omega
  rw [e]
  unfold Ieee.Format.read
  simp only [show Ieee.double.signWeight = 2 ^ 63 from rfl, show Ieee.double.binade = 2 ^ 52 from rfl, show Ieee.double.infRung = 2047 * 2 ^ 52 from rfl]
  have e2 : ((if s then 2 ^ 63 else 0) + (2047 * 2 ^ 52 + t)) % 2 ^ 63 = 2047 * 2 ^ 52 + t := by split <;> omega
  rw [e2, if_neg (by omega), if_neg (by omega), if_neg (by omega)]
  rfl
theorem read_nan_lt (b : Nat) (s : Bool) (t : Nat) (h : Ieee.double.read b = .nan s t) : 0 < t ∧ t < 2 ^ 52 := by
  unfold Ieee.Format.read at h
  simp only [show Ieee.double.signWeight = 2 ^ 63 from rfl, show Ieee.double.binade = 2 ^ 52 from rfl, show Ieee.double.infRung = 2047 * 2 ^ 52 from rfl] at h
  have hm : b % 2 ^ 63 < 2 ^ 63 := Nat.mod_lt _ (by decide)
  split at h
  · cases h
  split at h
  · cases h
  split at h
  · cases h
  injection h with _ h
  omega
theorem order_of_nan (x y : Nat) (h : (Ieee.double.read x).isNaN = true) : Ieee.double.order x y = none := by
  unfold Ieee.Format.order
  cases hd : Ieee.double.read x with
  | nan s t => rfl
  | number s m i => rw [hd] at h; cases h
  | infinity s => rw [hd] at h; cases h
theorem trunc_run_nan (b : Nat) (h : (Ieee.double.read b).isNaN = true) (w : World) : ∃ x n, (callFunc 47 #[.float .f64 b]).run Try.prog w = .ok (.value (.float .f64 x)) (w.drewN n) ∧ (Ieee.double.read x).isNaN = true := by
  rw [run_callFunc_extern (e := Extern.MathFloor.toIntegral "math.archTrunc" .zero) Try.func47 (by kernel_rfl) (by kernel_rfl) (by kernel_rfl) (by kernel_rfl)]
  obtain ⟨h1, h2, e, _, g1⟩ := trunc_arms b
  rw [e]
  cases hd : Ieee.double.read b with
  | nan s t =>
    obtain ⟨x, n, hr, hx⟩ := g1 s t Try.prog w
    have hlt := read_nan_lt b s t hd
    refine ⟨x, n, by show ((h1 s t).run _ _).andThen _ = _; rw [hr]; rfl, ?_⟩
    rcases hx with rfl | rfl
    · rw [hd]; rfl
    · refine read_nan_mk s _ ?_ ?_
      · exact Nat.lt_of_lt_of_le hlt.1 Nat.left_le_or
      · exact Nat.or_lt_two_pow hlt.2 (by decide)
  | number s m i => rw [hd] at h; cases h
  | infinity s => rw [hd] at h; cases h

def fabs (b : Nat) : Nat := (Go.bits .andNot .u64 (b : Int) 9223372036854775808).toNat
set_option maxHeartbeats 1000000 in
theorem math_Abs.calls (b : Nat) (w : World) :
    Calls Try.prog 39 #[.float .f64 b] w fun e w' => e = .returned (.float .f64 (fabs b)) ∧ Drawn0 w w' := by
  have hb1 := @frombits_run
  have hb2 := @bits_run
  go_enter Try.func39, Try.ntmps39
  go_wp2
  go_ret
  exact ⟨rfl, Drawn0.refl _⟩

-- NOT PRINTED: function 50 (math_Copysign)

-- NOT PRINTED: function 48 (math_trunc)

/-- Some NaN comes. -/
def SomeNaN (e : Ending) : Prop := ∃ x, (Ieee.double.read x).isNaN = true ∧ e = .returned (.float .f64 x)
set_option maxHeartbeats 1000000 in
theorem math_Trunc.nan (b : Nat) (w : World) (h : (Ieee.double.read b).isNaN = true) :
    Calls Try.prog 37 #[.float .f64 b] w fun e w' => SomeNaN e ∧ Drawn0 w w' := by
  obtain ⟨x, n, hr, hx⟩ := trunc_run_nan b h w
  have hx' := Aside0.mk hx
  clear hx h
  go_enter Try.func37, Try.ntmps37
  go_wp2
  go_ret
  exact ⟨⟨x, hx'.out, rfl⟩, (Drawn0.refl _).step _⟩
set_option maxHeartbeats 1000000 in
theorem math_Trunc.calls (b : Nat) (w : World) (h : (Ieee.double.read b).isNaN = false) :
    Calls Try.prog 37 #[.float .f64 b] w fun e w' => e = .returned (.float .f64 (fcut b)) ∧ Drawn0 w w' := by
  have hr := trunc_run b h
  clear h
  go_enter Try.func37, Try.ntmps37
  go_wp2
  go_ret
  exact ⟨rfl, Drawn0.refl _⟩


def flt_Trunc.f (a0 : Int) : Option (Int × Bool) :=
  if (Ieee.double.read (fbits a0)).isNaN = true then .some (0, false)
  else if Ieee.double.order (fcut (fbits a0)) 13965662444475908096 = .some .gt ∨ Ieee.double.order (fcut (fbits a0)) 13965662444475908096 = .some .eq then
    if Ieee.double.order (fcut (fbits a0)) 4742290407621132288 = .some .lt then (floatToIntVal .f64 (fcut (fbits a0)) .i64).map (·, true)
    else .some (0, false)
  else .some (0, false)
set_option maxHeartbeats 2000000 in
theorem flt_Trunc.calls (a0 r1 : Int) (r2 : Bool) (w : World) (h : flt_Trunc.f a0 = .some (r1, r2)) :
    Calls Try.prog 14 #[.int .i64 a0] w fun e w' => e = .returned (.tuple #[.int .i64 r1, .bool r2]) ∧ Drawn0 w w' := by
  unfold flt_Trunc.f at h
  by_cases c0 : (Ieee.double.read (fbits a0)).isNaN = true
  · rw [if_pos c0] at h
    obtain ⟨rfl, rfl⟩ := Prod.mk.inj (Option.some.inj h)
    clear h
    go_enter Try.func14, Try.ntmps14
    go_wp2_with (first | (go_at_call 29; refine (flt_number.calls _ _).mono ?_; rintro e w' ⟨rfl, ⟨nd, rfl⟩⟩) | (go_at_call 37; refine (math_Trunc.nan _ _ c0).mono ?_; rintro e w' ⟨⟨x, hx, rfl⟩, ⟨nd, rfl⟩⟩; have hx1 : FloatKind.f64.format.order x 13965662444475908096 = none := order_of_nan x _ hx; clear hx))
    go_ret2
    exact ⟨rfl, by repeat (first | exact Drawn0.refl _ | apply Drawn0.step)⟩
  rw [if_neg c0] at h
  have c0' : (Ieee.double.read (fbits a0)).isNaN = false := Bool.eq_false_iff.2 c0
  clear c0
  rw [show Ieee.double = FloatKind.f64.format from rfl] at h
  have done : ∀ g1 g2 : Bool, (FloatKind.f64.format.order (fcut (fbits a0)) 13965662444475908096 == .some .gt || FloatKind.f64.format.order (fcut (fbits a0)) 13965662444475908096 == .some .eq) = g1 →
      (FloatKind.f64.format.order (fcut (fbits a0)) 4742290407621132288 == .some .lt) = g2 → (g1 && g2) = false → r1 = 0 → r2 = false →
      Calls Try.prog 14 #[.int .i64 a0] w fun e w' => e = .returned (.tuple #[.int .i64 r1, .bool r2]) ∧ Drawn0 w w' := by
    rintro g1 g2 d1 d2 hg rfl rfl
    clear h
    have e1 : ∀ x y : Bool, (x || y) = false → x = false ∧ y = false := by decide
    cases g1 with
    | false =>
      clear hg d2
      obtain ⟨d3, d4⟩ := e1 _ _ d1
      clear d1
      go_enter Try.func14, Try.ntmps14
      go_wp2_with (first | (go_at_call 29; refine (flt_number.calls _ _).mono ?_; rintro e w' ⟨rfl, ⟨nd, rfl⟩⟩) | (go_at_call 37; refine (math_Trunc.calls _ _ c0').mono ?_; rintro e w' ⟨rfl, ⟨nd, rfl⟩⟩))
      go_ret2
      exact ⟨rfl, by repeat (first | exact Drawn0.refl _ | apply Drawn0.step)⟩
    | true =>
      cases g2 with
      | true => cases hg
      | false =>
        clear hg
        go_enter Try.func14, Try.ntmps14
        go_wp2_with (first | (go_at_call 29; refine (flt_number.calls _ _).mono ?_; rintro e w' ⟨rfl, ⟨nd, rfl⟩⟩) | (go_at_call 37; refine (math_Trunc.calls _ _ c0').mono ?_; rintro e w' ⟨rfl, ⟨nd, rfl⟩⟩))
        go_ret2
        exact ⟨rfl, by repeat (first | exact Drawn0.refl _ | apply Drawn0.step)⟩
  by_cases c1 : FloatKind.f64.format.order (fcut (fbits a0)) 13965662444475908096 = .some .gt ∨ FloatKind.f64.format.order (fcut (fbits a0)) 13965662444475908096 = .some .eq
  · rw [if_pos c1] at h
    have d1 : (FloatKind.f64.format.order (fcut (fbits a0)) 13965662444475908096 == .some .gt || FloatKind.f64.format.order (fcut (fbits a0)) 13965662444475908096 == .some .eq) = true := by
      rw [Bool.or_eq_true, beq_iff_eq, beq_iff_eq]; exact c1
    clear c1
    by_cases c2 : FloatKind.f64.format.order (fcut (fbits a0)) 4742290407621132288 = .some .lt
    · rw [if_pos c2] at h
      have d2 : (FloatKind.f64.format.order (fcut (fbits a0)) 4742290407621132288 == .some .lt) = true := by rw [c2]; rfl
      clear c2 done
      cases hn : floatToIntVal .f64 (fcut (fbits a0)) .i64 with
      | none => rw [hn] at h; cases h
      | some n =>
        rw [hn] at h
        obtain ⟨rfl, rfl⟩ := Prod.mk.inj (Option.some.inj h)
        have hc := fun W => run_convert_float_int (P := Try.prog) W 32 3 .f64 .i64 (fcut (fbits a0)) n (by rw [Try.underlying32]; rfl) Try.underlying3 hn
        clear h hn
        go_enter Try.func14, Try.ntmps14
        go_wp2_with (first | (go_at_call 29; refine (flt_number.calls _ _).mono ?_; rintro e w' ⟨rfl, ⟨nd, rfl⟩⟩) | (go_at_call 37; refine (math_Trunc.calls _ _ c0').mono ?_; rintro e w' ⟨rfl, ⟨nd, rfl⟩⟩))
        go_ret2
        exact ⟨rfl, by repeat (first | exact Drawn0.refl _ | apply Drawn0.step)⟩
    · rw [if_neg c2] at h
      obtain ⟨rfl, rfl⟩ := Prod.mk.inj (Option.some.inj h)
      exact done true false d1 (beq_eq_false_iff_ne.2 c2) rfl rfl rfl
  · rw [if_neg c1] at h
    obtain ⟨rfl, rfl⟩ := Prod.mk.inj (Option.some.inj h)
    refine done false _ ?_ rfl (by simp) rfl rfl
    rw [Bool.or_eq_false_iff, beq_eq_false_iff_ne, beq_eq_false_iff_ne]
    exact ⟨fun e => c1 (.inl e), fun e => c1 (.inr e)⟩

set_option maxHeartbeats 1000000 in
theorem math_IsInf.calls (b : Nat) (w : World) :
    Calls Try.prog 40 #[.float .f64 b, .int .i64 0] w fun e w' => e = .returned (.bool (Ieee.double.order (fabs b) 9218868437227405311 == .some .gt)) ∧ Drawn0 w w' := by
  go_enter Try.func40, Try.ntmps40
  go_wp2_with (first | (go_at_call 39; refine (math_Abs.calls _ _).mono ?_; rintro e w' ⟨rfl, ⟨nd, rfl⟩⟩))
  go_ret
  exact ⟨rfl, by repeat (first | exact Drawn0.refl _ | apply Drawn0.step)⟩


def flt_Kind.f (a0 : Int) : Option Int := .some (
  if Ieee.double.order (fabs (fbits a0)) (fabs (fbits a0)) = .some .eq then
    if Ieee.double.order (fabs (fabs (fbits a0))) 9218868437227405311 = .some .gt then 1
    else if Ieee.double.order (fabs (fbits a0)) 0 = .some .eq then 2
    else if Ieee.double.order (fabs (fbits a0)) 4503599627370496 = .some .lt then 3 else 4
  else 0)
set_option maxHeartbeats 2000000 in
theorem flt_Kind.calls (a0 r : Int) (w : World) (h : flt_Kind.f a0 = .some r) :
    Calls Try.prog 16 #[.int .i64 a0] w fun e w' => e = .returned (.int .i64 r) ∧ Drawn0 w w' := by
  have h := Option.some.inj h
  rw [show Ieee.double = FloatKind.f64.format from rfl] at h
  by_cases c0 : FloatKind.f64.format.order (fabs (fbits a0)) (fabs (fbits a0)) = .some .eq
  · rw [if_pos c0] at h
    have d0 : (FloatKind.f64.format.order (fabs (fbits a0)) (fabs (fbits a0)) != .some .eq) = false := by rw [c0]; rfl
    clear c0
    by_cases c1 : FloatKind.f64.format.order (fabs (fabs (fbits a0))) 9218868437227405311 = .some .gt
    · rw [if_pos c1] at h
      have d1 : (FloatKind.f64.format.order (fabs (fabs (fbits a0))) 9218868437227405311 == .some .gt) = true := by rw [c1]; rfl
      clear c1
      subst h
      go_enter Try.func16, Try.ntmps16
      go_wp2_with (first | (go_at_call 29; refine (flt_number.calls _ _).mono ?_; rintro e w' ⟨rfl, ⟨nd, rfl⟩⟩) | (go_at_call 39; refine (math_Abs.calls _ _).mono ?_; rintro e w' ⟨rfl, ⟨nd, rfl⟩⟩) | (go_at_call 40; refine (math_IsInf.calls _ _).mono ?_; rintro e w' ⟨rfl, ⟨nd, rfl⟩⟩; rw [show Ieee.double = FloatKind.f64.format from rfl, d1]))
      go_ret
      exact ⟨rfl, by repeat (first | exact Drawn0.refl _ | apply Drawn0.step)⟩
    · rw [if_neg c1] at h
      have d1 : (FloatKind.f64.format.order (fabs (fabs (fbits a0))) 9218868437227405311 == .some .gt) = false := beq_eq_false_iff_ne.2 c1
      clear c1
      by_cases c2 : FloatKind.f64.format.order (fabs (fbits a0)) 0 = .some .eq
      · rw [if_pos c2] at h
        have d2 : (FloatKind.f64.format.order (fabs (fbits a0)) 0 == .some .eq) = true := by rw [c2]; rfl
        clear c2
        subst h
        go_enter Try.func16, Try.ntmps16
        go_wp2_with (first | (go_at_call 29; refine (flt_number.calls _ _).mono ?_; rintro e w' ⟨rfl, ⟨nd, rfl⟩⟩) | (go_at_call 39; refine (math_Abs.calls _ _).mono ?_; rintro e w' ⟨rfl, ⟨nd, rfl⟩⟩) | (go_at_call 40; refine (math_IsInf.calls _ _).mono ?_; rintro e w' ⟨rfl, ⟨nd, rfl⟩⟩; rw [show Ieee.double = FloatKind.f64.format from rfl, d1]))
        go_ret
        exact ⟨rfl, by repeat (first | exact Drawn0.refl _ | apply Drawn0.step)⟩
      · rw [if_neg c2] at h
        have d2 : (FloatKind.f64.format.order (fabs (fbits a0)) 0 == .some .eq) = false := beq_eq_false_iff_ne.2 c2
        clear c2
        by_cases c3 : FloatKind.f64.format.order (fabs (fbits a0)) 4503599627370496 = .some .lt
        · rw [if_pos c3] at h
          have d3 : (FloatKind.f64.format.order (fabs (fbits a0)) 4503599627370496 == .some .lt) = true := by rw [c3]; rfl
          clear c3
          subst h
          go_enter Try.func16, Try.ntmps16
          go_wp2_with (first | (go_at_call 29; refine (flt_number.calls _ _).mono ?_; rintro e w' ⟨rfl, ⟨nd, rfl⟩⟩) | (go_at_call 39; refine (math_Abs.calls _ _).mono ?_; rintro e w' ⟨rfl, ⟨nd, rfl⟩⟩) | (go_at_call 40; refine (math_IsInf.calls _ _).mono ?_; rintro e w' ⟨rfl, ⟨nd, rfl⟩⟩; rw [show Ieee.double = FloatKind.f64.format from rfl, d1]))
          go_ret
          exact ⟨rfl, by repeat (first | exact Drawn0.refl _ | apply Drawn0.step)⟩
        · rw [if_neg c3] at h
          have d3 : (FloatKind.f64.format.order (fabs (fbits a0)) 4503599627370496 == .some .lt) = false := beq_eq_false_iff_ne.2 c3
          clear c3
          subst h
          go_enter Try.func16, Try.ntmps16
          go_wp2_with (first | (go_at_call 29; refine (flt_number.calls _ _).mono ?_; rintro e w' ⟨rfl, ⟨nd, rfl⟩⟩) | (go_at_call 39; refine (math_Abs.calls _ _).mono ?_; rintro e w' ⟨rfl, ⟨nd, rfl⟩⟩) | (go_at_call 40; refine (math_IsInf.calls _ _).mono ?_; rintro e w' ⟨rfl, ⟨nd, rfl⟩⟩; rw [show Ieee.double = FloatKind.f64.format from rfl, d1]))
          go_ret
          exact ⟨rfl, by repeat (first | exact Drawn0.refl _ | apply Drawn0.step)⟩
  · rw [if_neg c0] at h
    have d0 : (FloatKind.f64.format.order (fabs (fbits a0)) (fabs (fbits a0)) != .some .eq) = true := bne_iff_ne.2 c0
    clear c0
    subst h
    go_enter Try.func16, Try.ntmps16
    go_wp2_with (first | (go_at_call 29; refine (flt_number.calls _ _).mono ?_; rintro e w' ⟨rfl, ⟨nd, rfl⟩⟩) | (go_at_call 39; refine (math_Abs.calls _ _).mono ?_; rintro e w' ⟨rfl, ⟨nd, rfl⟩⟩))
    go_ret
    exact ⟨rfl, by repeat (first | exact Drawn0.refl _ | apply Drawn0.step)⟩


def flt_Canon.f (a0 : Int) : Option Int := .some (fcan (fbits a0))
set_option maxHeartbeats 1000000 in
theorem flt_Canon.calls (a0 r : Int) (w : World) (h : flt_Canon.f a0 = .some r) :
    Calls Try.prog 18 #[.int .i64 a0] w fun e w' => e = .returned (.int .i64 r) ∧ Drawn0 w w' := by
  obtain rfl := Option.some.inj h
  clear h
  go_enter Try.func18, Try.ntmps18
  go_wp2_with (first | (go_at_call 29; refine (flt_number.calls _ _).mono ?_; rintro e w' ⟨rfl, ⟨nd, rfl⟩⟩) | (go_at_call 30; refine (flt_bits.calls _ _).mono ?_; rintro e w' ⟨rfl, ⟨nd, rfl⟩⟩))
  go_ret
  exact ⟨rfl, by repeat (first | exact Drawn0.refl _ | apply Drawn0.step)⟩


theorem infoU8 : (Try.prog.info? 5).map (fun i => (i.zero, i.size, i.bytes)) = some (some (.int .u8 0), 1, 1) := by kernel_rfl
def flt_Text.l0 : Nat → Int → List Int → Int → Int → Option (ByteArray)
  | 0, _, _, _, _ => none
  | k + 1, x0, x3, x7, x8 => if x8 < x7 then (if 0 ≤ (wrap64 (4 * x8)) then (if 0 ≤ (Go.bits .and .u64 (shr .u64 (IntKind.u64.wrap (x0)) (wrap64 (4 * x8))) 15) then (if (Go.bits .and .u64 (shr .u64 (IntKind.u64.wrap (x0)) (wrap64 (4 * x8))) 15) < 16 then (if 0 ≤ (wrap64 (15 - x8)) then (if (wrap64 (15 - x8)) < (x3.length : Int) then (flt_Text.l0 k x0 (x3.set ((wrap64 (15 - x8)) : Int).toNat (bt (⟨#[48, 49, 50, 51, 52, 53, 54, 55, 56, 57, 97, 98, 99, 100, 101, 102]⟩ : ByteArray) (Go.bits .and .u64 (shr .u64 (IntKind.u64.wrap (x0)) (wrap64 (4 * x8))) 15))) x7 (wrap64 (x8 + 1))) else (none)) else (none)) else (none)) else (none)) else (none)) else (some (strOfNums x3))
def flt_Text.f (k : Nat) (a0 : Int) : Option (ByteArray) := if 16 ≤ 281474976710656 then ((some (List.replicate 16 0 : List Int)).bind fun y101 => (flt_Text.l0 k a0 y101 (y101.length : Int) 0)) else (none)
theorem flt_Text.mono_l : ∀ k, (∀ y0 y1 y2 y3, LeO (flt_Text.l0 k y0 y1 y2 y3) (flt_Text.l0 (k + 1) y0 y1 y2 y3))
  | 0 => fun _ _ _ _ r h => by simp [flt_Text.l0] at h
  | k + 1 => by
    have ih0 := flt_Text.mono_l k
    · intro y0 y1 y2 y3
      unfold flt_Text.l0
      repeat' first
      | (with_reducible exact ih0 _ _ _ _)
      | (with_reducible exact LeO.refl _)
      | (with_reducible exact LeO.none _)
      | (with_reducible refine LeO.ite ?_ ?_)
      | (with_reducible refine LeO.bind ?_ (fun _ => ?_))
      | exact ih0 _ _ _ _
      | exact LeO.none _
      | refine LeO.ite ?_ ?_
      | refine LeO.bind ?_ (fun _ => ?_)
theorem flt_Text.mono : ∀ a0 k, LeO (flt_Text.f k a0) (flt_Text.f (k + 1) a0) := by
  intro a0 k
  have ih0 := flt_Text.mono_l k
  unfold flt_Text.f
  repeat' first
      | (with_reducible exact ih0 _ _ _ _)
      | (with_reducible exact LeO.refl _)
      | (with_reducible exact LeO.none _)
      | (with_reducible refine LeO.ite ?_ ?_)
      | (with_reducible refine LeO.bind ?_ (fun _ => ?_))
      | exact ih0 _ _ _ _
      | exact LeO.none _
      | refine LeO.ite ?_ ?_
      | refine LeO.bind ?_ (fun _ => ?_)
set_option maxHeartbeats 8000000 in
set_option maxRecDepth 100000 in
theorem flt_Text.calls (k : Nat) (a0 : Int) (r : ByteArray) (w : World) (h : flt_Text.f k a0 = some r) :
    Calls Try.prog 20 #[.int .i64 a0] w fun e w' => e = .returned (.string r) ∧ Below w.heap.size w w' := by
  have HB := Aside0.mk (Below.refl w.heap.size w)
  have H : (if 16 ≤ 281474976710656 then ((some (List.replicate 16 0 : List Int)).bind fun y101 => (flt_Text.l0 k a0 y101 (y101.length : Int) 0)) else (none)) = some r := h
  clear h
  by_cases c2 : 16 ≤ 281474976710656
  · rw [if_pos c2] at H
    have c2b0 := eq_true c2
    have c2b1 : decide (16 ≤ 281474976710656) = true := decide_eq_true c2
    clear c2
    obtain ⟨y101, hy101⟩ : ∃ y_ : List Int, y_ = (List.replicate 16 0) := ⟨_, rfl⟩
    replace H : (flt_Text.l0 k a0 y101 (y101.length : Int) 0) = some r := by first | (rw [hy101]; with_reducible exact H) | (have H2_ := (Option.bind_some _ _).symm.trans H; rw [hy101]; with_reducible exact H2_) | (have H2_ := (Option.bind_some _ _).symm.trans H; with_reducible exact H2_) | with_reducible exact H | (rw [hy101]; exact H) | exact H
    have Ny101 := Aside0.mk hy101
    clear hy101
    have H' := Aside0.mk H
    clear H
    go_enter Try.func20, Try.ntmps20
    go_wp2_with (first | ((with_reducible refine gate_dst (N := 5) rfl ?_); refine Kd.R_make (Kd.int .u8) _ 5 rfl (N := 5) rfl 42 _ _ rfl 16 rfl rfl Try.underlying42 (.int .u8 0) 1 infoU8 rfl (by decide) (by omega) 0 (ok := fun _ => True) (okp := fun _ => True) rfl (fun _ hk => hk) trivial (by omega) (by omega) (Below.refl _ _) (Nat.le_refl _) ?_; intro v102 w3 ho4 hb hg_ hnew_; clear hg_ hnew_; (first | rw [← Ny101.out] at ho4 | (simp only [Int.reduceToNat] at ho4; rw [← Ny101.out] at ho4)); have n0_ := Aside0.mk (Kd.R_lower ho4 (below_size (by repeat (first | (with_reducible first | exact HB.out | apply below_alloc | apply pw_below_drewN | apply below_drew1) | exact HB.out)))); have n1_ := Aside0.mk (below_step (by repeat (first | (with_reducible first | exact HB.out | apply below_alloc | apply pw_below_drewN | apply below_drew1) | exact HB.out)) hb); clear HB; have HO103 := n0_; have HB := n1_; clear n0_ n1_; clear hb ho4; obtain ⟨Ao5, co5, eo5⟩ := Kd.R_slice HO103.out; subst eo5))
    go_loopg [8] k (fun kq v8 w' => ∃ (x3_1 : List Int) (x8_1 : Int), v8 = .int .i64 x8_1 ∧ Aside0 (flt_Text.l0 kq a0 x3_1 (y101.length : Int) x8_1 = some r) ∧ Aside0 (kq ≤ k) ∧ Aside0 (Kd.R (Kd.int .u8) 5 w' w.heap.size (fun _ => True) (.slice Ao5 y101.length co5) x3_1) ∧ Aside0 (Below w.heap.size w w'))
    case atStart => exact ⟨(y101), (0), (by first | rfl | (simp; done) | (simp [*]; done)), H', ⟨Nat.le_refl _⟩, ⟨by (with_reducible repeat (first | apply Kd.R_alloc | apply Kd.R_drewN | apply Kd.R_drew)); exact HO103.out⟩, ⟨by repeat (first | (with_reducible first | exact HB.out | apply below_alloc | apply pw_below_drewN | apply below_drew1) | exact HB.out)⟩⟩
    case round =>
      clear H'
      try clear c2
      try clear c2b0
      try clear c2b1
      try clear p2
      obtain ⟨x3_1, x8_1, rfl, HA, HK1, HO_3, HB⟩ := hrel
      have hl3_1 := (Kd.R_reads' HO_3.out).1
      rw [hl3_1] at HO_3
      (try simp only [hl3_1])
      cases gk with
      | zero => exact absurd HA.out (by simp [flt_Text.l0])
      | succ k1 =>
        have H := HA.out
        clear HA
        simp only [flt_Text.l0] at H
        by_cases c6 : x8_1 < (y101.length : Int)
        · rw [if_pos c6] at H
          have c6b0 : decide (x8_1 < (y101.length : Int)) = true := decide_eq_true c6
          have c6b1 : decide (x8_1 < (x3_1.length : Int)) = true := by rw [← hl3_1]; exact c6b0
          clear c6
          obtain ⟨ji7, hji7⟩ : ∃ j_ : Int, (wrap64 (4 * x8_1)) = j_ := ⟨_, rfl⟩
          replace H : (if 0 ≤ (ji7) then (if 0 ≤ (Go.bits .and .u64 (shr .u64 (IntKind.u64.wrap (a0)) (ji7)) 15) then (if (Go.bits .and .u64 (shr .u64 (IntKind.u64.wrap (a0)) (ji7)) 15) < 16 then (if 0 ≤ (wrap64 (15 - x8_1)) then (if (wrap64 (15 - x8_1)) < (x3_1.length : Int) then (flt_Text.l0 k1 a0 (x3_1.set ((wrap64 (15 - x8_1)) : Int).toNat (bt (⟨#[48, 49, 50, 51, 52, 53, 54, 55, 56, 57, 97, 98, 99, 100, 101, 102]⟩ : ByteArray) (Go.bits .and .u64 (shr .u64 (IntKind.u64.wrap (a0)) (ji7)) 15))) (y101.length : Int) (wrap64 (x8_1 + 1))) else (none)) else (none)) else (none)) else (none)) else (none)) = some r := by first | (rw [hji7] at H; exact H) | (simp only [hji7] at H ⊢; exact H)
          have hji7w : (IntKind.i64.wrap (4 * x8_1)) = ji7 := (i64_w _).trans hji7
          by_cases c8 : 0 ≤ (ji7)
          · rw [if_pos c8] at H
            have c8b0 := eq_true c8
            have c8b1 : decide (0 ≤ (ji7)) = true := decide_eq_true c8
            clear c8
            obtain ⟨ji9, hji9⟩ : ∃ j_ : Int, (shr .u64 (IntKind.u64.wrap (a0)) (ji7)) = j_ := ⟨_, rfl⟩
            replace H : (if 0 ≤ (Go.bits .and .u64 (ji9) 15) then (if (Go.bits .and .u64 (ji9) 15) < 16 then (if 0 ≤ (wrap64 (15 - x8_1)) then (if (wrap64 (15 - x8_1)) < (x3_1.length : Int) then (flt_Text.l0 k1 a0 (x3_1.set ((wrap64 (15 - x8_1)) : Int).toNat (bt (⟨#[48, 49, 50, 51, 52, 53, 54, 55, 56, 57, 97, 98, 99, 100, 101, 102]⟩ : ByteArray) (Go.bits .and .u64 (ji9) 15))) (y101.length : Int) (wrap64 (x8_1 + 1))) else (none)) else (none)) else (none)) else (none)) = some r := by first | (rw [hji9] at H; exact H) | (simp only [hji9] at H ⊢; exact H)
            have hji9_ : ((IntKind.u64.wrap (a0)) / 2 ^ min (ji7).toNat 64) = ji9 := hji9
            have hji9z : (ji7) ≤ 64 → ((IntKind.u64.wrap (a0)) / 2 ^ (ji7).toNat) = ji9 := shr_small hji9
            by_cases c10 : 0 ≤ (Go.bits .and .u64 (ji9) 15)
            · rw [if_pos c10] at H
              have c10b0 : decide (0 ≤ (Go.bits .and .u64 (ji9) 15)) = true := decide_eq_true c10
              clear c10
              by_cases c11 : (Go.bits .and .u64 (ji9) 15) < 16
              · rw [if_pos c11] at H
                have c11b0 : decide ((Go.bits .and .u64 (ji9) 15) < 16) = true := decide_eq_true c11
                clear c11
                obtain ⟨ji13, hji13⟩ : ∃ j_ : Int, (wrap64 (15 - x8_1)) = j_ := ⟨_, rfl⟩
                replace H : (if 0 ≤ (ji13) then (if (ji13) < (x3_1.length : Int) then (flt_Text.l0 k1 a0 (x3_1.set ((ji13) : Int).toNat (bt (⟨#[48, 49, 50, 51, 52, 53, 54, 55, 56, 57, 97, 98, 99, 100, 101, 102]⟩ : ByteArray) (Go.bits .and .u64 (ji9) 15))) (y101.length : Int) (wrap64 (x8_1 + 1))) else (none)) else (none)) = some r := by first | (rw [hji13] at H; exact H) | (simp only [hji13] at H ⊢; exact H)
                have hji13w : (IntKind.i64.wrap (15 - x8_1)) = ji13 := (i64_w _).trans hji13
                by_cases c14 : 0 ≤ (ji13)
                · rw [if_pos c14] at H
                  have c14b0 : decide (0 ≤ (ji13)) = true := decide_eq_true c14
                  clear c14
                  by_cases c15 : (ji13) < (x3_1.length : Int)
                  · rw [if_pos c15] at H
                    have c15b0 : decide ((ji13) < (x3_1.length : Int)) = true := decide_eq_true c15
                    clear c15
                    obtain ⟨y104, hy104⟩ : ∃ y_ : List Int, y_ = (x3_1.set ((ji13) : Int).toNat (bt (⟨#[48, 49, 50, 51, 52, 53, 54, 55, 56, 57, 97, 98, 99, 100, 101, 102]⟩ : ByteArray) (Go.bits .and .u64 (ji9) 15))) := ⟨_, rfl⟩
                    replace H : (flt_Text.l0 k1 a0 y104 (y101.length : Int) (wrap64 (x8_1 + 1))) = some r := by first | (rw [hy104]; with_reducible exact H) | (have H2_ := (Option.bind_some _ _).symm.trans H; rw [hy104]; with_reducible exact H2_) | (have H2_ := (Option.bind_some _ _).symm.trans H; with_reducible exact H2_) | with_reducible exact H | (rw [hy104]; exact H) | exact H
                    have Ny104 := Aside0.mk hy104
                    clear hy104
                    have H' := Aside0.mk H
                    clear H
                    have p12 : 0 ≤ ((Go.bits .and .u64 (ji9) 15) : Int) := of_decide_eq_true (by first | (with_reducible assumption) | assumption)
                    have q12 : (Go.bits .and .u64 (ji9) 15) < (16 : Int) := of_decide_eq_true (by first | (with_reducible assumption) | assumption)
                    have hx12 := bt_at (⟨#[48, 49, 50, 51, 52, 53, 54, 55, 56, 57, 97, 98, 99, 100, 101, 102]⟩ : ByteArray) (Go.bits .and .u64 (ji9) 15)
                    replace p12 := eq_true p12
                    replace q12 := eq_true q12
                    have p16 : 0 ≤ ((ji13) : Int) := of_decide_eq_true (by first | (with_reducible assumption) | assumption)
                    have q16 : ((ji13) : Int) < ((x3_1.length : Int) : Int) := of_decide_eq_true (by first | (with_reducible assumption) | assumption)
                    obtain ⟨go16, co16, eo16, gb16, gl16, cl16, HG16⟩ := Kd.R_form HO_3.out (by omega)
                    (first | cases eo16 | (injection eo16 with ea_ en_ ec_; (first | subst ea_ | (injection ea_ with ea_; subst ea_)); subst ec_; clear en_))
                    have GB16 := Aside0.mk gb16
                    have GG16 := Aside0.mk HG16
                    clear gb16 gl16 HG16
                    obtain ⟨hx16_0, hf16_0⟩ := Kd.R_celln 0 HO_3.out ((ji13) : Int) p16 q16
                    replace p16 := eq_true p16
                    replace q16 := eq_true q16
                    have HP17 := Kd.R_putg HO_3.out ((ji13) : Int) (bt (⟨#[48, 49, 50, 51, 52, 53, 54, 55, 56, 57, 97, 98, 99, 100, 101, 102]⟩ : ByteArray) (Go.bits .and .u64 (ji9) 15))
                    go_wp2_with (first | ((with_reducible refine gate_store (t := 5) (p := 21) rfl ?_); refine store_event (t := 5) (p := 21) (v := ?vo_w18) (w1 := (wr.setCell ⟨go16, ((ji13) : Int).toNat, none⟩ (.int .u8 (bt (⟨#[48, 49, 50, 51, 52, 53, 54, 55, 56, 57, 97, 98, 99, 100, 101, 102]⟩ : ByteArray) (Go.bits .and .u64 (ji9) 15))))) ?hg ?ho ?hn ?hr ?_; (case ho => rfl); (case hg => rfl); (case hn => rfl); (case hr => first | (go_simp; done) | (go_simp; rfl)); intro w18 hw; have hg : wr.grownBy w18 (some go16) := (by rw [hw]; exact HP17.2); have hp_ : Kd.R (Kd.int .u8) 5 w18 w.heap.size (fun _ => True) (.slice (some ⟨go16, 0, none⟩) x3_1.length co5) y104 := (by rw [hw, Ny104.out]; exact HP17.1); clear HP17; have n0_ := Aside0.mk (hp_); have n1_ := Aside0.mk ((by rw [hw]; exact below_set (HB.out) GB16.out : Below w.heap.size w w18)); clear HO_3; clear HB; have HO_3 := n0_; have HB := n1_; clear n0_ n1_; clear hg hw hp_))
                    (try simp only [← hl3_1])
                    go_roundg k1
                    case measure => have := HK1.out; omega
                    case rel => exact ⟨(y104), (wrap64 (x8_1 + 1)), (by first | rfl | (simp; done) | (simp [*]; done)), H', ⟨by have := HK1.out; omega⟩, ⟨by (try simp only [hl3_1]); (with_reducible repeat (first | apply Kd.R_alloc | apply Kd.R_drewN | apply Kd.R_drew)); exact HO_3.out⟩, ⟨by repeat (first | (with_reducible first | exact HB.out | apply below_alloc | apply pw_below_drewN | apply below_drew1) | exact HB.out)⟩⟩
                  · rw [if_neg c15] at H
                    exact absurd H (by simp)
                · rw [if_neg c14] at H
                  exact absurd H (by simp)
              · rw [if_neg c11] at H
                exact absurd H (by simp)
            · rw [if_neg c10] at H
              exact absurd H (by simp)
          · rw [if_neg c8] at H
            exact absurd H (by simp)
        · rw [if_neg c6] at H
          have c6b0 : decide (x8_1 < (y101.length : Int)) = false := decide_eq_false c6
          have c6b1 : decide (x8_1 < (x3_1.length : Int)) = false := by rw [← hl3_1]; exact c6b0
          clear c6
          obtain rfl := Option.some.inj H
          have hcv19 := own_string (P := Try.prog) Try.underlying42 Try.underlying5 Try.underlying9 (Kd.own_of_R HO_3.out)
          go_wp2
          go_ret
          exact ⟨by first | rfl | (simp [errW_none, errW_some] <;> rfl) | (simp [*, errW_none, errW_some] <;> rfl), by repeat (first | (with_reducible first | exact HB.out | apply below_alloc | apply pw_below_drewN | apply below_drew1) | exact HB.out)⟩
  · rw [if_neg c2] at H
    exact absurd H (by simp)


def flt_Of.f (a0 : Int) : Option Int := .some (if a0 < -9007199254740992 then 9221120237041090561 else if 9007199254740992 < a0 then 9221120237041090561 else fcan (floatOfInt .f64 a0))
set_option maxHeartbeats 1000000 in
theorem flt_Of.calls (a0 r : Int) (w : World) (h : flt_Of.f a0 = .some r) :
    Calls Try.prog 22 #[.int .i64 a0] w fun e w' => e = .returned (.int .i64 r) ∧ Drawn0 w w' := by
  have h := Option.some.inj h
  by_cases c0 : a0 < -9007199254740992
  · rw [if_pos c0] at h
    subst h
    have d0 : decide (a0 < -9007199254740992) = true := decide_eq_true c0
    go_enter Try.func22, Try.ntmps22
    go_wp2_with fail
    go_ret
    exact ⟨rfl, Drawn0.refl _⟩
  rw [if_neg c0] at h
  have d0 : decide (a0 < -9007199254740992) = false := decide_eq_false c0
  by_cases c1 : 9007199254740992 < a0
  · rw [if_pos c1] at h
    subst h
    have d1 : decide (9007199254740992 < a0) = true := decide_eq_true c1
    go_enter Try.func22, Try.ntmps22
    go_wp2_with fail
    go_ret
    exact ⟨rfl, Drawn0.refl _⟩
  rw [if_neg c1] at h
  subst h
  have d1 : decide (9007199254740992 < a0) = false := decide_eq_false c1
  have u3 := Try.underlying3
  have u32 := Try.underlying32
  go_enter Try.func22, Try.ntmps22
  go_wp2_with (first | (go_at_call 30; refine (flt_bits.calls _ _).mono ?_; rintro e w' ⟨rfl, ⟨nd, rfl⟩⟩))
  go_ret
  exact ⟨rfl, by repeat (first | exact Drawn0.refl _ | apply Drawn0.step)⟩


def flt_Less.f (a0 a1 : Int) : Option Bool := .some (Ieee.double.order (fbits a0) (fbits a1) == .some .lt)
set_option maxHeartbeats 1000000 in
theorem flt_Less.calls (a0 a1 : Int) (r : Bool) (w : World) (h : flt_Less.f a0 a1 = .some r) :
    Calls Try.prog 24 #[.int .i64 a0, .int .i64 a1] w fun e w' => e = .returned (.bool r) ∧ Drawn0 w w' := by
  obtain rfl := Option.some.inj h
  clear h
  go_enter Try.func24, Try.ntmps24
  go_wp2_with (first | (go_at_call 29; refine (flt_number.calls _ _).mono ?_; rintro e w' ⟨rfl, ⟨nd, rfl⟩⟩))
  go_ret
  exact ⟨rfl, by repeat (first | exact Drawn0.refl _ | apply Drawn0.step)⟩


def flt_Equal.f (a0 a1 : Int) : Option Bool := .some (Ieee.double.order (fbits a0) (fbits a1) == .some .eq)
set_option maxHeartbeats 1000000 in
theorem flt_Equal.calls (a0 a1 : Int) (r : Bool) (w : World) (h : flt_Equal.f a0 a1 = .some r) :
    Calls Try.prog 26 #[.int .i64 a0, .int .i64 a1] w fun e w' => e = .returned (.bool r) ∧ Drawn0 w w' := by
  obtain rfl := Option.some.inj h
  clear h
  go_enter Try.func26, Try.ntmps26
  go_wp2_with (first | (go_at_call 29; refine (flt_number.calls _ _).mono ?_; rintro e w' ⟨rfl, ⟨nd, rfl⟩⟩))
  go_ret
  exact ⟨rfl, by repeat (first | exact Drawn0.refl _ | apply Drawn0.step)⟩


/-! ### anamnesisref02_NaN: function 28 -/
def anamnesisref02_NaN.f  : Option (Int) := some 9221120237041090561
set_option maxHeartbeats 8000000 in
set_option maxRecDepth 100000 in
theorem anamnesisref02_NaN.calls  (r : Int) (w : World) (h : anamnesisref02_NaN.f  = some r) :
    Calls Try.prog 28 #[] w fun e w' => e = .returned (.int .i64 r) ∧ Drawn0 w w' := by
  have H : (some 9221120237041090561) = some r := h
  clear h
  obtain rfl := Option.some.inj H
  go_enter Try.func28, Try.ntmps28
  go_wp2
  go_ret
  exact ⟨by first | rfl | (simp; done) | (simp [*]; done), by repeat (first | exact Drawn0.refl _ | apply Drawn0.step)⟩

end Go.Proofs.Ytbnpodkfcfdpeaa.PFlt
