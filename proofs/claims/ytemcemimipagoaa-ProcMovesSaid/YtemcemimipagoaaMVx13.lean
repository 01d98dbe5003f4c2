/- What the statements' walks need. -/
import Derived.Test.YtemcemimipagoaaMVa4
import Derived.Test.YtemcemimipagoaaMVx2
import Derived.Test.YtemcemimipagoaaMVa2
set_option linter.unusedVariables false
set_option linter.unusedSimpArgs false
set_option maxRecDepth 100000
namespace Go.Proofs.Ytemcemimipagoaa
open Go Go.Proofs AW
theorem cok_ints (T : Nat → Ob) (xs : List Int) : ∀ c ∈ encInts xs, ∀ y ∈ c, cok1 T y = true := by
  intro c hc y hy
  simp only [encInts, List.mem_map] at hc
  obtain ⟨x, _, rfl⟩ := hc
  simp at hy; subst hy; rfl
theorem cok_objs (T : Nat → Ob) (xs : List HObj) : ∀ c ∈ encObjs xs, ∀ y ∈ c, cok1 T y = true := by
  intro c hc y hy
  simp only [encObjs, List.mem_map] at hc
  obtain ⟨o, _, rfl⟩ := hc
  simp only [encObj, List.mem_cons, List.not_mem_nil, or_false] at hy
  rcases hy with rfl | rfl | rfl | rfl | rfl | rfl <;> rfl
theorem clone_int (m : Nat) (xs : List Int) (hl : xs.length < 1099511627776) : Ok Try.prog 48 [.sl 1 (encInts xs)] (fun x T => x = .own m ∧ T = upd noT m (.live 3 1 (encInts xs))) := by
  refine Ok.row ?_ (fun c hc y hy => by simp only [encInts, List.mem_map] at hc; obtain ⟨x, _, rfl⟩ := hc; simp at hy; subst hy; exact .v _) m
  refine ok_of Try.func48 rfl (Nat.le_of_ble_eq_true rfl) ?_
  (repeat' (first | refine mv ?_ | refine asg ?_ | refine aops_nil ?_ | refine aw_seq ?_ | refine aw_region ?_ | fail))
  refine isn (fun b hb => ?_)
  (repeat' (first | refine aops_nil ?_ | fail))
  refine aw_cond rfl (fun h => ?_) (fun h => ?_)
  · have hx := hb h
    refine aw_seq ?_
    refine aw_region ?_
    (repeat' (first | refine asg ?_ | refine aops_nil ?_ | fail))
    refine AWp.ent (ent_nil (t := 2) 0 3 1 rfl rfl) ?_
    refine aw_ret ?_
    refine ⟨.inl rfl, _, rfl, 0, rfl, ?_⟩
    rw [hx]; rfl
  · (repeat' (first | refine aw_seq ?_ | refine aw_region ?_ | refine aw_skip ?_ | fail))
    refine lit0 1 ?_ rfl
    (repeat' (first | refine mv ?_ | fail))
    refine ap (by_ := 8) 0 rfl (cok_ints _ xs) ?_ ?_ ?_
    · simp; omega
    · simp; omega
    (repeat' (first | refine asg ?_ | refine aops_nil ?_ | refine aw_ret ?_ | fail))
    refine ⟨.inl rfl, _, rfl, 0, rfl, rfl⟩
theorem clone_obj (m : Nat) (xs : List HObj) (hl : xs.length < 1099511627776) : Ok Try.prog 77 [.sl 6 (encObjs xs)] (fun x T => x = .own m ∧ T = upd noT m (.live 43 6 (encObjs xs))) := by
  refine Ok.row ?_ (fun c hc y hy => by simp only [encObjs, List.mem_map] at hc; obtain ⟨o, _, rfl⟩ := hc; exact noOwn_obj o y hy) m
  refine ok_of Try.func77 rfl (Nat.le_of_ble_eq_true rfl) ?_
  (repeat' (first | refine mv ?_ | refine asg ?_ | refine aops_nil ?_ | refine aw_seq ?_ | refine aw_region ?_ | fail))
  refine isn (fun b hb => ?_)
  (repeat' (first | refine aops_nil ?_ | fail))
  refine aw_cond rfl (fun h => ?_) (fun h => ?_)
  · have hx := hb h
    refine aw_seq ?_
    refine aw_region ?_
    (repeat' (first | refine asg ?_ | refine aops_nil ?_ | fail))
    refine AWp.ent (ent_nil (t := 2) 0 43 6 rfl rfl) ?_
    refine aw_ret ?_
    refine ⟨.inl rfl, _, rfl, 0, rfl, ?_⟩
    rw [hx]; rfl
  · (repeat' (first | refine aw_seq ?_ | refine aw_region ?_ | refine aw_skip ?_ | fail))
    refine lit0 1 ?_ rfl
    (repeat' (first | refine mv ?_ | fail))
    refine ap (by_ := 72) 0 rfl (cok_objs _ xs) ?_ ?_ ?_
    · simp; omega
    · simp; omega
    (repeat' (first | refine asg ?_ | refine aops_nil ?_ | refine aw_ret ?_ | fail))
    refine ⟨.inl rfl, _, rfl, 0, rfl, rfl⟩
end Go.Proofs.Ytemcemimipagoaa
