/- What the statements' walks need. -/
import Derived.Test.YtnjihhheiiapnaaGreatMTa4
import Derived.Test.YtnjihhheiiapnaaGreatMTx1
import Derived.Test.YtnjihhheiiapnaaGreatMTa2
set_option linter.unusedVariables false
set_option linter.unusedSimpArgs false
set_option maxRecDepth 100000
namespace Go.Proofs.YtnjihhheiiapnaaGreat
open Go Go.Proofs AW
theorem rmost_ok : Gives Tryz.prog 106 [] (iv 9223372036854775807) := by
  refine gives_of Tryz.func106 rfl (Nat.le_of_ble_eq_true rfl) ?_
  (repeat' (first | refine asg ?_ | refine aops_nil ?_ | refine aw_seq ?_ | refine aw_region ?_ | refine aw_ret ?_ | fail))
  exact fin (.same _ (.v _))
theorem rNaN_ok : Gives Tryz.prog 39 [] (iv 9221120237041090561) := by
  refine gives_of Tryz.func39 rfl (Nat.le_of_ble_eq_true rfl) ?_
  (repeat' (first | refine asg ?_ | refine aops_nil ?_ | refine aw_seq ?_ | refine aw_region ?_ | refine aw_ret ?_ | fail))
  exact fin (.same _ (.v _))
theorem rplain_ok (a : Int) : Gives Tryz.prog 42 [iv a] (iv (a % 9223372036854775808)) := by
  refine gives_of Tryz.func42 rfl (Nat.le_of_ble_eq_true rfl) ?_
  (repeat' (first | refine mv ?_ | refine asg ?_ | refine aops_nil ?_ | refine aw_seq ?_ | refine aw_region ?_ | fail))
  refine cl rmost_ok ?_
  (repeat' (first | refine asg ?_ | refine ms 63 ?_ | refine aops_nil ?_ | refine aw_ret ?_ | fail))
  refine fin (sh_iv ?_)
  simp
def kindI (a : Int) : Int :=
  let x := a % 9223372036854775808 / 4503599627370496
  let f := a % 9223372036854775808 % 4503599627370496
  if x = 2047 then (if f = 0 then 1 else 0) else if 0 < x then 4 else if 0 < f then 3 else 2
theorem rKind_ok (a : Int) : Gives Tryz.prog 38 [iv a] (iv (kindI a)) := by
  have e : (a % 9223372036854775808).tmod 4503599627370496 = a % 9223372036854775808 % 4503599627370496 := Int.tmod_eq_emod_of_nonneg (Int.emod_nonneg _ (by decide))
  refine gives_of Tryz.func38 rfl (Nat.le_of_ble_eq_true rfl) ?_
  (repeat' (first | refine mv ?_ | refine asg ?_ | refine sr ?_ | refine rm ?_ | refine bi ?_ | refine aops_nil ?_ | refine aw_seq ?_ | refine aw_region ?_ | refine aw_skip ?_ | refine aw_ret ?_ | refine cl (rplain_ok _) ?_ | refine aw_cond rfl (fun h => ?_) (fun h => ?_) | fail))
  all_goals refine fin (sh_iv ?_)
  all_goals simp [e, IntKind.bits] at *
  all_goals simp [kindI]
  all_goals grind
theorem kind0 (a : Int) : kindI a = 0 ↔ ¬ a % 9223372036854775808 ≤ 9218868437227405312 := by
  unfold kindI
  simp only
  constructor
  · intro h
    split at h
    · split at h <;> omega
    · split at h
      · omega
      · split at h <;> omega
  · intro h
    rw [if_pos (by omega), if_neg (by omega)]
theorem rcanon_ok (a : Int) : Gives Tryz.prog 104 [iv a] (iv (canI a)) := by
  have k := kind0 a
  refine gives_of Tryz.func104 rfl (Nat.le_of_ble_eq_true rfl) ?_
  (repeat' (first | refine mv ?_ | refine asg ?_ | refine bi ?_ | refine aops_nil ?_ | refine aw_seq ?_ | refine aw_region ?_ | refine aw_skip ?_ | refine aw_ret ?_ | refine cl (rKind_ok _) ?_ | refine cl rNaN_ok ?_ | refine aw_cond rfl (fun h => ?_) (fun h => ?_) | fail))
  all_goals refine fin (sh_iv ?_)
  all_goals simp [k] at *
  all_goals simp [canI]
  all_goals omega
end Go.Proofs.YtnjihhheiiapnaaGreat
namespace Go.Proofs.YtnjihhheiiapnaaGreat
open Go Go.Proofs AW
theorem cok_ints (T : Nat → Ob) (xs : List Int) : ∀ c ∈ encInts xs, ∀ y ∈ c, cok1 T y = true := by
  intro c hc y hy
  simp only [encInts, List.mem_map] at hc
  obtain ⟨x, _, rfl⟩ := hc
  simp at hy; subst hy; rfl
theorem cok_objs (T : Nat → Ob) (xs : List HObj) : ∀ c ∈ encObjs xs, ∀ y ∈ c, cok1 T y = true := by
  intro c hc y hy
  simp only [encObjs, List.mem_map] at hc
  obtain ⟨o, _, rfl⟩ := hc
  simp only [encObj, List.mem_cons, List.not_mem_nil, or_false] at hy
  rcases hy with rfl | rfl | rfl | rfl | rfl | rfl <;> rfl
theorem clone_int (m : Nat) (xs : List Int) (hl : xs.length < 1099511627776) : Ok Tryz.prog 157 [.sl 1 (encInts xs)] (fun x T => x = .own m ∧ T = upd noT m (.live 3 1 (encInts xs))) := by
  refine Ok.row ?_ (fun c hc y hy => by simp only [encInts, List.mem_map] at hc; obtain ⟨x, _, rfl⟩ := hc; simp at hy; subst hy; exact .v _) m
  refine ok_of Tryz.func157 rfl (Nat.le_of_ble_eq_true rfl) ?_
  (repeat' (first | refine mv ?_ | refine asg ?_ | refine aops_nil ?_ | refine aw_seq ?_ | refine aw_region ?_ | fail))
  refine isn (fun b hb => ?_)
  (repeat' (first | refine aops_nil ?_ | fail))
  refine aw_cond rfl (fun h => ?_) (fun h => ?_)
  · have hx := hb h
    refine aw_seq ?_
    refine aw_region ?_
    (repeat' (first | refine asg ?_ | refine aops_nil ?_ | fail))
    refine AWp.ent (ent_nil (t := 2) 0 3 1 rfl rfl) ?_
    refine aw_ret ?_
    refine ⟨.inl rfl, _, rfl, 0, rfl, ?_⟩
    rw [hx]; rfl
  · (repeat' (first | refine aw_seq ?_ | refine aw_region ?_ | refine aw_skip ?_ | fail))
    refine lit0 1 ?_ rfl
    (repeat' (first | refine mv ?_ | fail))
    refine ap (by_ := 8) 0 rfl (cok_ints _ xs) ?_ ?_ ?_
    · simp; omega
    · simp; omega
    (repeat' (first | refine asg ?_ | refine aops_nil ?_ | refine aw_ret ?_ | fail))
    refine ⟨.inl rfl, _, rfl, 0, rfl, rfl⟩
theorem clone_obj (m : Nat) (xs : List HObj) (hl : xs.length < 1099511627776) : Ok Tryz.prog 156 [.sl 6 (encObjs xs)] (fun x T => x = .own m ∧ T = upd noT m (.live 41 6 (encObjs xs))) := by
  refine Ok.row ?_ (fun c hc y hy => by simp only [encObjs, List.mem_map] at hc; obtain ⟨o, _, rfl⟩ := hc; exact noOwn_obj o y hy) m
  refine ok_of Tryz.func156 rfl (Nat.le_of_ble_eq_true rfl) ?_
  (repeat' (first | refine mv ?_ | refine asg ?_ | refine aops_nil ?_ | refine aw_seq ?_ | refine aw_region ?_ | fail))
  refine isn (fun b hb => ?_)
  (repeat' (first | refine aops_nil ?_ | fail))
  refine aw_cond rfl (fun h => ?_) (fun h => ?_)
  · have hx := hb h
    refine aw_seq ?_
    refine aw_region ?_
    (repeat' (first | refine asg ?_ | refine aops_nil ?_ | fail))
    refine AWp.ent (ent_nil (t := 2) 0 41 6 rfl rfl) ?_
    refine aw_ret ?_
    refine ⟨.inl rfl, _, rfl, 0, rfl, ?_⟩
    rw [hx]; rfl
  · (repeat' (first | refine aw_seq ?_ | refine aw_region ?_ | refine aw_skip ?_ | fail))
    refine lit0 1 ?_ rfl
    (repeat' (first | refine mv ?_ | fail))
    refine ap (by_ := 72) 0 rfl (cok_objs _ xs) ?_ ?_ ?_
    · simp; omega
    · simp; omega
    (repeat' (first | refine asg ?_ | refine aops_nil ?_ | refine aw_ret ?_ | fail))
    refine ⟨.inl rfl, _, rfl, 0, rfl, rfl⟩
end Go.Proofs.YtnjihhheiiapnaaGreat
