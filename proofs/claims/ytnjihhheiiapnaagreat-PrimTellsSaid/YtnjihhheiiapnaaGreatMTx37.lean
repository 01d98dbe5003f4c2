/- What the statements' walks need. -/
import Derived.Test.YtnjihhheiiapnaaGreatMTa4
import Derived.Test.YtnjihhheiiapnaaGreatMTx25
import Derived.Test.YtnjihhheiiapnaaGreatMTx24
import Derived.Test.YtnjihhheiiapnaaGreatMTx20
import Derived.Test.YtnjihhheiiapnaaGreatMTx28
import Derived.Test.YtnjihhheiiapnaaGreatMTx10
import Derived.Test.YtnjihhheiiapnaaGreatMTa3
set_option linter.unusedVariables false
set_option linter.unusedSimpArgs false
set_option maxRecDepth 100000
namespace Go.Proofs.YtnjihhheiiapnaaGreat
open Go Go.Proofs AW
theorem hi_ref {H : HHeap} {v : Int} (hb : hasB H.objs.length v = true) : hiB v = decide (12 ≤ H.ref v) := by
  unfold hiB HHeap.ref atI
  cases ha : isAt v with
  | false => simp [refI, ha]
  | true =>
    have hn : isN v = false := by simp [isAt] at ha; simp [isN]; omega
    rw [hasB, hn, Bool.false_or, decide_eq_true_eq] at hb
    unfold refI at hb ⊢
    by_cases h2 : v / 2 < (H.objs.length : Int)
    · simp [ha, h2]
    · simp [ha, h2] at hb
theorem qSame_id (A : HHeap) (hA : A.In) : Gives Tryz.prog 15 [.agg (encHeap A), .agg (encHeap A)] (bv true) := (rSame_ok A A hA hA).to' (by simp)
end Go.Proofs.YtnjihhheiiapnaaGreat
namespace Go.Proofs.YtnjihhheiiapnaaGreat
open Go Go.Proofs AW
abbrev doA (H : HHeap) (num s : Int) (a : List Int) : List AV := [.agg (encHeap H), iv num, iv s, .sl 1 (encInts a)]
theorem canI_idem (b : Int) : canI (canI b) = canI b := by
  unfold canI
  by_cases h : b % 9223372036854775808 ≤ 9218868437227405312
  · rw [if_pos h, if_pos h]
  · rw [if_neg h]; decide
theorem canI_rng {b : Int} (h : In64 b) : In64 (canI b) := by
  unfold canI
  split
  · exact h
  · constructor <;> decide
end Go.Proofs.YtnjihhheiiapnaaGreat
namespace Go.Proofs.YtnjihhheiiapnaaGreat
open Go Go.Proofs AW
abbrev slArgs (H : HHeap) (s p y : Int) : List AV := [.agg (encHeap H), iv s, .agg [iv p, iv y]]
end Go.Proofs.YtnjihhheiiapnaaGreat
namespace Go.Proofs.YtnjihhheiiapnaaGreat
open Go Go.Proofs AW
def slK (kind : Int) (k : Nat) : List Int := if kind = 0 then List.replicate k 0 else []
def txK (kind : Int) (k : Nat) : ByteArray := if kind = 0 then ⟨#[]⟩ else zerosB k
def alE (kind size : Int) (k : Nat) : List (Nat × AV) := [(13, iv (k : Int)), (4, .ptr 0 0 0), (8, .ptr 1 0 0), (11, .ptr 2 0 0), (12, .ptr 3 0 0), (2, iv kind), (3, iv size)]
def alT (H : HHeap) (cls kind : Int) (k : Nat) : List (Nat × Ob) :=
  [(0, .live 24 3 [encHeap H]), (1, .live 24 3 [[.v (.slice none 0 0), iv 0, iv 0]]), (2, .live 24 3 [[.own 10, iv H.cap, iv (nextI H.last)]]),
   (3, .live 41 6 [[iv cls, iv kind, .own 4, sv (txK kind k), iv 0, iv (nextI H.last)]]), (10, .live 41 6 (encObjs H.objs)), (4, .live 3 1 (encInts (slK kind k)))]
theorem txK_size (kind : Int) (k : Nat) : (txK kind k).size ≤ k := by
  simp only [txK]; split
  · exact Nat.zero_le _
  · rw [zerosB_size]; exact Nat.le_refl _
theorem zerosB_succ (k : Nat) : zerosB k ++ ⟨#[0]⟩ = zerosB (k + 1) := by
  apply ByteArray.ext
  simp [zerosB, strOfNums, ByteArray.data_append, List.replicate_succ']
  apply Array.ext'
  simp
theorem hcell (H : HHeap) : ∀ x ∈ encHeap H, NoOwn x := by
  have := noOwn_heap H
  rwa [noOwn_agg] at this
theorem hobjs (l : List HObj) : ∀ c ∈ encObjs l, ∀ x ∈ c, NoOwn x := by
  intro c hc x hx
  simp only [encObjs, List.mem_map] at hc
  obtain ⟨o, _, rfl⟩ := hc
  exact noOwn_obj o x hx
theorem sh_heap3 {T : Nat → Ob} {x : AV} {H2 H' : HHeap} {v v' e e' : Int} (hH : H' = H2) (hv : v' = v) (he : e' = e) (h : Sh T x (.sl 6 (encObjs H2.objs))) : Sh T (.tup [.agg [x, iv H2.cap, iv H2.last], iv v, iv e]) (.tup [.agg (encHeap H'), iv v', iv e']) := by
  subst hH; subst hv; subst he
  exact sh_tup ⟨sh_agg ⟨h, .same _ (.v _), .same _ (.v _), trivial⟩, .same _ (.v _), .same _ (.v _), trivial⟩
set_option maxRecDepth 100000 in
set_option maxHeartbeats 4000000 in
theorem rAlloc_ok (H : HHeap) (hi : H.In) (cls kind size : Int) : Gives Tryz.prog 140 [.agg (encHeap H), iv cls, iv kind, iv size] (.tup [.agg (encHeap (allocH H cls kind size)), iv (allocV H cls kind size), iv (allocE H cls kind size)]) := by
  have i4 : H.objs.length < 1099511627776 := hi.2.2.2
  refine gives_of Tryz.func140 rfl (Nat.le_of_ble_eq_true rfl) ?_
  (repeat' (first | refine asg ?_ | refine la ?_ | refine aops_nil ?_ | refine aw_seq ?_ | refine aw_region ?_ | refine bx 0 ?_ | refine al 1 ?_ | fail))
  refine cl (rMay_ok H hi) ?_ (hno := ⟨noOwn_heap H, trivial⟩)
  (repeat' (first | refine un ?_ | refine aops_nil ?_ | fail))
  refine aw_cond rfl (fun h1 => ?_) (fun h1 => ?_) <;> simp at h1 <;> (repeat' (first | refine mv ?_ | refine asg ?_ | refine la ?_ | refine so ?_ | refine bd ?_ | refine aops_nil ?_ | refine aw_seq ?_ | refine aw_region ?_ | refine aw_skip ?_ | refine aw_ret ?_ | fail))
  · have e1 : allocE H cls kind size = 1 := by simp [allocE, h1]
    exact fin (sh_empty3 (v := 0) (by simp [allocH, e1, keptH]) (by simp [allocV, e1]) e1.symm)
  refine cl (rRef_ok H cls i4) ?_ (hno := ⟨noOwn_heap H, noOwn_iv _, trivial⟩)
  (repeat' (first | refine bi ?_ | refine aops_nil ?_ | fail))
  refine aw_cond rfl (fun h2 => ?_) (fun h2 => ?_) <;> simp at h2
  · (repeat' (first | refine asg ?_ | refine la ?_ | refine so ?_ | refine aops_nil ?_ | refine aw_seq ?_ | refine aw_region ?_ | refine aw_ret ?_ | fail))
    have e1 : allocE H cls kind size = 31 := by simp [allocE, h1, h2]
    exact fin (sh_keep3 (v := 0) (H := H) (by simp [allocH, e1, keptH]) (by simp [allocV, e1]) e1.symm)
  refine aw_skip ?_
  refine aw_cutE (ι := PLift (0 ≤ kind ∧ kind ≤ 2)) (fun b => [(1, iv cls), (2, iv kind), (3, iv size), (4, .ptr 0 0 0), (8, .ptr 1 0 0)]) ?_ ?_
  · (repeat' (first | refine sk ?_ | refine mv ?_ | refine asg ?_ | refine bi ?_ | refine pt ?_ | refine pf ?_ | refine la ?_ | refine so ?_ | refine aops_nil ?_ | refine aw_seq ?_ | refine aw_region ?_ | refine aw_cond_t rfl ?_ | refine aw_skip ?_ | refine aw_ret ?_ | refine gs (fun h => ?_) (fun h => ?_) | refine aw_cond rfl (fun h => ?_) (fun h => ?_) | fail))
    all_goals first
      | (refine ⟨⟨?_⟩, rfl, rfl, rfl, rfl, rfl, rfl, trivial⟩; clear hi; simp at *; omega)
      | (have e1 : allocE H cls kind size = 33 := (by simp only [allocE, h1, if_true, if_neg (Int.not_lt.2 h2)]; clear hi; simp at *; omega)
         exact fin (sh_keep3 (v := 0) (H := H) (by simp [allocH, e1, keptH]) (by simp [allocV, e1]) e1.symm))
  rintro ⟨h3⟩
  refine aw_cutE (ι := PLift (¬ (¬ (0 ≤ size ∧ size ≤ 64) ∨ (kind = 2 ∧ 0 < size)))) (fun b => [(1, iv cls), (2, iv kind), (3, iv size), (4, .ptr 0 0 0), (8, .ptr 1 0 0)]) ?_ ?_
  · (repeat' (first | refine sk ?_ | refine mv ?_ | refine asg ?_ | refine bi ?_ | refine pt ?_ | refine pf ?_ | refine la ?_ | refine so ?_ | refine aops_nil ?_ | refine aw_seq ?_ | refine aw_region ?_ | refine aw_cond_t rfl ?_ | refine aw_cond_f rfl ?_ | refine aw_skip ?_ | refine aw_ret ?_ | refine gs (fun h => ?_) (fun h => ?_) | refine aw_cond rfl (fun h => ?_) (fun h => ?_) | fail))
    all_goals first
      | (refine ⟨⟨?_⟩, rfl, rfl, rfl, rfl, rfl, rfl, trivial⟩; clear hi; simp at *; omega)
      | (have e1 : allocE H cls kind size = 32 := (by simp only [allocE, h1, if_true, if_neg (Int.not_lt.2 h2)]; clear hi; simp at *; rw [if_neg (by omega), if_pos (by omega)])
         exact fin (sh_keep3 (v := 0) (H := H) (by simp [allocH, e1, keptH]) (by simp [allocV, e1]) e1.symm))
  rintro ⟨h4⟩
  (repeat' (first | refine ld ?_ | refine fp ?_ | refine bi ?_ | refine ln ?_ | refine aops_nil ?_ | refine aw_seq ?_ | refine aw_region ?_ | fail))
  refine aw_cond rfl (fun h5 => ?_) (fun h5 => ?_) <;> simp at h5 <;> (repeat' (first | refine asg ?_ | refine la ?_ | refine so ?_ | refine aops_nil ?_ | refine aw_seq ?_ | refine aw_region ?_ | refine aw_skip ?_ | refine aw_ret ?_ | fail))
  · have e1 : allocE H cls kind size = 30 := by simp only [allocE, h1, if_true, if_neg (Int.not_lt.2 h2)]; rw [if_neg (by omega), if_neg h4, if_pos h5]
    exact fin (sh_keep3 (v := 0) (H := H) (by simp [allocH, e1, keptH]) (by simp [allocV, e1]) e1.symm)
  have e1 : allocE H cls kind size = 0 := by simp only [allocE, h1, if_true, if_neg (Int.not_lt.2 h2)]; rw [if_neg (by omega), if_neg h4, if_neg h5]
  refine cm1 (rcopy1 H hi) ?_ (hno := ⟨noOwn_heap H, trivial⟩)
  (repeat' (first | refine ld ?_ | refine fp ?_ | refine so ?_ | refine aops_nil ?_ | refine aw_seq ?_ | refine aw_region ?_ | refine al 2 ?_ | fail))
  refine cl (rnext_ok _) ?_
  (repeat' (first | refine mv ?_ | refine asg ?_ | refine ld ?_ | refine fp ?_ | refine so ?_ | refine bd ?_ | refine aops_nil ?_ | refine aw_seq ?_ | refine aw_region ?_ | refine aw_block ?_ | refine al 3 ?_ | fail))
  have tx0 : txK kind 0 = ⟨#[]⟩ := by simp only [txK]; split <;> rfl
  have sl0 : slK kind 0 = [] := by simp only [slK]; split <;> rfl
  refine AWp.ent (ent_nilT 4 3 1 (i := 3) (r := 2) rfl rfl rfl) ?_
  refine aw_for size.toNat (fun k => k ≤ size.toNat) (fun k => ⟨alE kind size k, tb (alT H cls kind k)⟩) 0 (Nat.zero_le _) ?_ ?_
  · refine ent_tb id (alT H cls kind 0) ⟨.one _ _ _ _ rfl rfl (fzL_all ?_), .one _ _ _ _ rfl rfl ⟨fz_v _, fz_v _, fz_v _, trivial⟩, .one _ _ _ _ rfl rfl ⟨fz_own rfl (by simp [tb, alT, upd]), fz_v _, fz_v _, trivial⟩,
      .one _ _ _ _ rfl rfl ⟨fz_v _, fz_v _, fz_own rfl (by simp [tb, alT, upd]), ?_, fz_v _, fz_v _, trivial⟩, .same _ _ _ rfl rfl ?_, .same _ _ [] rfl ?_ (by simp), trivial⟩
      ⟨⟨_, rfl, fz_v _⟩, ⟨_, rfl, .ptr 0 0 0 0 rfl (by simp [tb, alT, upd])⟩, ⟨_, rfl, .ptr 1 1 0 0 rfl (by simp [tb, alT, upd])⟩, ⟨_, rfl, .ptr 2 2 0 0 rfl (by simp [tb, alT, upd])⟩, ⟨_, rfl, .ptr 3 3 0 0 rfl (by simp [tb, alT, upd])⟩, ⟨_, rfl, fz_v _⟩, ⟨_, rfl, fz_v _⟩, trivial⟩
    · exact hcell H
    · rw [tx0]; exact fz_v _
    · exact hobjs H.objs
    · show Ob.live _ 1 (encInts (slK kind 0)) = _
      rw [sl0]; rfl
  intro k hk
  (repeat' (first | refine mv ?_ | refine bi ?_ | refine aops_nil ?_ | refine aw_seq ?_ | refine aw_region ?_ | fail))
  refine aw_cond rfl (fun h6 => ?_) (fun h6 => ?_) <;> simp at h6
  · (repeat' (first | refine mv ?_ | refine bi ?_ | refine aops_nil ?_ | refine aw_seq ?_ | refine aw_region ?_ | refine aw_block ?_ | refine aw_skip ?_ | fail))
    refine aw_cond rfl (fun h7 => ?_) (fun h7 => ?_) <;> simp at h7 <;> (repeat' (first | refine ld ?_ | refine fp ?_ | refine aw_region ?_ | fail))
    · refine li 5 ?_
      refine ap1 6 ?_ (hl := ?_)
      rotate_left
      · simp only [len_ints, slK, h7, if_true, List.length_replicate]; omega
      (repeat' (first | refine mv ?_ | refine asg ?_ | refine fp ?_ | refine bw ?_ | refine so ?_ | refine aops_nil ?_ | refine aw_region ?_ | fail))
      refine ⟨by omega, by omega, ent_tb (nm [(4, 6)]) (alT H cls kind (k + 1)) ⟨.one _ _ _ _ rfl rfl (fzL_all (hcell H)), .one _ _ _ _ rfl rfl ⟨fz_v _, fz_v _, fz_v _, trivial⟩, .one _ _ _ _ rfl rfl ⟨fz_own rfl (by simp [tb, alT, upd]), fz_v _, fz_v _, trivial⟩,
        .one _ _ _ _ rfl rfl ⟨fz_v _, fz_v _, fz_own rfl (by simp [tb, alT, upd]), ?_, fz_v _, fz_v _, trivial⟩, .same _ _ _ rfl rfl (hobjs H.objs), .same _ _ (encInts (slK kind k) ++ [[iv 0]]) rfl ?_ ?_, trivial⟩
        ⟨⟨_, rfl, fz_v _⟩, ⟨_, rfl, .ptr 0 0 0 0 rfl (by simp [tb, alT, upd])⟩, ⟨_, rfl, .ptr 1 1 0 0 rfl (by simp [tb, alT, upd])⟩, ⟨_, rfl, .ptr 2 2 0 0 rfl (by simp [tb, alT, upd])⟩, ⟨_, rfl, .ptr 3 3 0 0 rfl (by simp [tb, alT, upd])⟩, ⟨_, rfl, fz_v _⟩, ⟨_, rfl, fz_v _⟩, trivial⟩⟩
      · have : txK kind (k + 1) = txK kind k := by simp only [txK, h7, if_true]
        rw [this]; exact fz_v _
      · have : encInts (slK kind (k + 1)) = encInts (slK kind k) ++ [[iv 0]] := by simp [slK, h7, encInts, List.replicate_succ']
        show Ob.live _ 1 (encInts (slK kind (k + 1))) = _
        rw [this]
      · intro c hc x hx
        rcases List.mem_append.1 hc with hc | hc
        · exact noOwn_intsc hc x hx
        · simp only [List.mem_singleton] at hc; subst hc; simp only [List.mem_singleton] at hx; subst hx; exact .v _
    · refine sa ?_ (h := ?_)
      rotate_left
      · have := txK_size kind k
        show (txK kind k).size + 1 ≤ _
        omega
      (repeat' (first | refine mv ?_ | refine asg ?_ | refine fp ?_ | refine bw ?_ | refine so ?_ | refine aops_nil ?_ | refine aw_region ?_ | fail))
      refine ⟨by omega, by omega, ent_tb id (alT H cls kind (k + 1)) ⟨.one _ _ _ _ rfl rfl (fzL_all (hcell H)), .one _ _ _ _ rfl rfl ⟨fz_v _, fz_v _, fz_v _, trivial⟩, .one _ _ _ _ rfl rfl ⟨fz_own rfl (by simp [tb, alT, upd]), fz_v _, fz_v _, trivial⟩,
        .one _ _ _ _ rfl rfl ⟨fz_v _, fz_v _, fz_own rfl (by simp [tb, alT, upd]), ?_, fz_v _, fz_v _, trivial⟩, .same _ _ _ rfl rfl (hobjs H.objs), .same _ _ (encInts (slK kind k)) rfl ?_ (fun c hc => noOwn_intsc hc), trivial⟩
        ⟨⟨_, rfl, fz_v _⟩, ⟨_, rfl, .ptr 0 0 0 0 rfl (by simp [tb, alT, upd])⟩, ⟨_, rfl, .ptr 1 1 0 0 rfl (by simp [tb, alT, upd])⟩, ⟨_, rfl, .ptr 2 2 0 0 rfl (by simp [tb, alT, upd])⟩, ⟨_, rfl, .ptr 3 3 0 0 rfl (by simp [tb, alT, upd])⟩, ⟨_, rfl, fz_v _⟩, ⟨_, rfl, fz_v _⟩, trivial⟩⟩
      · have : txK kind (k + 1) = txK kind k ++ ⟨#[0]⟩ := by simp only [txK, if_neg h7, zerosB_succ]
        rw [this]; exact fz_v _
      · have : slK kind (k + 1) = slK kind k := by simp only [slK, if_neg h7]
        show Ob.live _ 1 (encInts (slK kind (k + 1))) = _
        rw [this]
  · have hks : k = size.toNat := by omega
    subst hks
    (repeat' (first | refine ld ?_ | refine fp ?_ | refine la ?_ | refine aw_seq ?_ | refine aw_region ?_ | refine aw_exit ?_ | fail))
    refine li 7 ?_
    refine ap1 8 ?_ (hl := by simpa using i4)
    (repeat' (first | refine fp ?_ | refine so ?_ | refine aops_nil ?_ | refine aw_seq ?_ | fail))
    refine aw_drawU 6 5 1 (.live 24 3 [[.own 8, iv H.cap, iv (nextI H.last)]]) ?_
    (repeat' (first | refine dn ?_ | refine d2 y_load y_load ?_ | refine d2 (y_faddr_ptr (hs := Nat.le_of_ble_eq_true rfl)) (y_faddr_ptr (hs := Nat.le_of_ble_eq_true rfl)) ?_ | refine d2 y_bin y_bin ?_ | refine d2 y_len y_len ?_ | refine db y_loadsN ?_ | refine deS y_storeV ?_ | fail))
    (repeat' (first | refine asg ?_ | refine aops_nil ?_ | refine aw_ret ?_ | fail))
    refine fin (sh_heap3 (H' := allocH H cls kind size) (H2 := ⟨H.objs ++ [newObj H cls kind size], H.cap, nextI H.last⟩) (by simp [allocH, e1]) (v := IntKind.i64.wrap (2 * ((encObjs H.objs).length : Int))) (v' := allocV H cls kind size) (by rw [len_objs, wrap_id (by omega)]; simp [allocV, e1]) e1 ?_)
    refine sh_app rfl ⟨.same _ (.v _), .same _ (.v _), ?_, ?_, .same _ (.v _), .same _ (.v _), trivial⟩
    · exact sh_ints rfl
    · have : txK kind size.toNat = (newObj H cls kind size).text := by
        simp only [txK, newObj]
        by_cases hk0 : kind = 0
        · simp [hk0]
        · by_cases hk1 : kind = 1
          · simp [hk1]
          · have h0 : size.toNat = 0 := by omega
            rw [if_neg hk0, if_neg hk1, h0]; rfl
      rw [this]; exact .same _ (.v _)
end Go.Proofs.YtnjihhheiiapnaaGreat
namespace Go.Proofs.YtnjihhheiiapnaaGreat
open Go Go.Proofs AW
set_option maxHeartbeats 4000000 in
theorem over13 (a b : Int) (ha : In30 a) (hb : In30 b) (h0 : b ≠ 0) : Gives Tryz.prog 86 [iv a, iv b] (iv (overI a b)) := by
  have hr := tdiv_rng (b := b) ha
  have q1 : IntKind.i64.wrap (a.tdiv b) = a.tdiv b := wrap_id (by omega)
  have e := Int.mul_tdiv_add_tmod a b
  have hA : (a.tmod b).natAbs = a.natAbs % b.natAbs := Int.natAbs_tmod a b
  have hc : a.natAbs % b.natAbs < b.natAbs := Nat.mod_lt _ (by omega)
  have hs1 : 0 ≤ a → 0 ≤ a.tmod b := fun h => Int.tmod_nonneg b h
  have hs2 : a ≤ 0 → a.tmod b ≤ 0 := fun h => by
    have := Int.tmod_nonneg (a := -a) b (by omega)
    rw [Int.neg_tmod] at this; omega
  obtain ⟨a1, a2⟩ := ha
  obtain ⟨b1, b2⟩ := hb
  refine gives_of Tryz.func86 rfl (Nat.le_of_ble_eq_true rfl) ?_
  unfold overI
  have hcm : a.tdiv b * b = b * a.tdiv b := Int.mul_comm _ _
  generalize hs : a.tmod b = s at *
  by_cases hgo : s ≠ 0 ∧ ¬ (a < 0 ↔ b < 0)
  · rw [if_pos hgo]
    (repeat' (first | refine mv ?_ | refine asg ?_ | refine qu ?_ | refine aops_nil ?_ | refine aw_seq ?_ | refine aw_region ?_ | refine aw_block ?_ | fail))
    refine aw_loop (ι := Bool) (fun i => ⟨[(0, iv a), (1, iv b), (5, iv (if i = true then IntKind.i64.wrap (a.tdiv b) else a.tdiv b - 1))], noT⟩) (fun i => if i = true then 1 else 0) true (ent_env ⟨rfl, rfl, rfl, trivial⟩) ?_
    intro i
    have hm : (a.tdiv b - 1) * b = a.tdiv b * b - b := by rw [Int.sub_mul, Int.one_mul]
    cases i with
    | true =>
      show AWp _ _ _ _ ⟨[(0, iv a), (1, iv b), (5, iv (IntKind.i64.wrap (a.tdiv b)))], noT⟩
      rw [q1]
      generalize a.tdiv b = t at *
      have hx : t * b ≠ a := by omega
      by_cases hb0 : b > 0
      · have hx2 : t * b > a := by omega
        (repeat' (first | refine mv ?_ | refine asg ?_ | refine bt ?_ | refine bw ?_ | refine pt ?_ | refine aops_nil ?_ | refine aw_seq ?_ | refine aw_region ?_ | refine aw_cond_t rfl ?_ | refine aw_block ?_ | refine aw_skip ?_ | fail))
        refine ⟨false, by decide, ent_env ⟨rfl, rfl, rfl, trivial⟩⟩
      · have hx2 : ¬ t * b > a := by omega
        (repeat' (first | refine mv ?_ | refine asg ?_ | refine bt ?_ | refine bf ?_ | refine bw ?_ | refine pt ?_ | refine aops_nil ?_ | refine aw_seq ?_ | refine aw_region ?_ | refine aw_cond_t rfl ?_ | refine aw_block ?_ | refine aw_skip ?_ | fail))
        refine ⟨false, by decide, ent_env ⟨rfl, rfl, rfl, trivial⟩⟩
    | false =>
      show AWp _ _ _ _ ⟨[(0, iv a), (1, iv b), (5, iv (a.tdiv b - 1))], noT⟩
      generalize a.tdiv b = t at *
      have hx : (t - 1) * b ≠ a := by omega
      by_cases hb0 : b > 0
      · have hx2 : ¬ (t - 1) * b > a := by omega
        (repeat' (first | refine mv ?_ | refine asg ?_ | refine bt ?_ | refine bf ?_ | refine bw ?_ | refine pt ?_ | refine aops_nil ?_ | refine aw_seq ?_ | refine aw_region ?_ | refine aw_cond_f rfl ?_ | refine aw_exit ?_ | refine aw_ret ?_ | fail))
        exact fin (sh_iv rfl)
      · have hx2 : (t - 1) * b > a := by omega
        (repeat' (first | refine mv ?_ | refine asg ?_ | refine bt ?_ | refine bf ?_ | refine bw ?_ | refine pt ?_ | refine aops_nil ?_ | refine aw_seq ?_ | refine aw_region ?_ | refine aw_cond_f rfl ?_ | refine aw_exit ?_ | refine aw_ret ?_ | fail))
        exact fin (sh_iv rfl)
  · rw [if_neg hgo]
    (repeat' (first | refine mv ?_ | refine asg ?_ | refine qu ?_ | refine aops_nil ?_ | refine aw_seq ?_ | refine aw_region ?_ | refine aw_block ?_ | fail))
    refine aw_loop (ι := Unit) (fun i => ⟨[(0, iv a), (1, iv b), (5, iv (IntKind.i64.wrap (a.tdiv b)))], noT⟩) (fun i => 0) () (ent_env ⟨rfl, rfl, rfl, trivial⟩) ?_
    intro i
    show AWp _ _ _ _ ⟨[(0, iv a), (1, iv b), (5, iv (IntKind.i64.wrap (a.tdiv b)))], noT⟩
    rw [q1]
    generalize a.tdiv b = t at *
    by_cases h00 : s = 0
    · have hx : t * b = a := by omega
      (repeat' (first | refine sk ?_ | refine mv ?_ | refine asg ?_ | refine bf ?_ | refine bw ?_ | refine pf ?_ | refine aops_nil ?_ | refine aw_seq ?_ | refine aw_region ?_ | refine aw_cond_f rfl ?_ | refine aw_exit ?_ | refine aw_ret ?_ | fail))
      exact fin (sh_iv rfl)
    · have hx : t * b ≠ a := by omega
      by_cases hb0 : b > 0
      · have hx2 : ¬ t * b > a := by omega
        (repeat' (first | refine mv ?_ | refine asg ?_ | refine bt ?_ | refine bf ?_ | refine bw ?_ | refine pt ?_ | refine aops_nil ?_ | refine aw_seq ?_ | refine aw_region ?_ | refine aw_cond_f rfl ?_ | refine aw_exit ?_ | refine aw_ret ?_ | fail))
        exact fin (sh_iv rfl)
      · have hx2 : t * b > a := by omega
        (repeat' (first | refine mv ?_ | refine asg ?_ | refine bt ?_ | refine bf ?_ | refine bw ?_ | refine pt ?_ | refine aops_nil ?_ | refine aw_seq ?_ | refine aw_region ?_ | refine aw_cond_f rfl ?_ | refine aw_exit ?_ | refine aw_ret ?_ | fail))
        exact fin (sh_iv rfl)
end Go.Proofs.YtnjihhheiiapnaaGreat
namespace Go.Proofs.YtnjihhheiiapnaaGreat
open Go Go.Proofs AW
theorem ty_call {n : Nat} {p : List AV} (h : Ty Tryz.prog (n + 3) 27 p) : ∃ (num s : Int) (args : List Int), p = [iv num, iv s, .sl 1 (encInts args)] ∧ In64 num ∧ args.length < 17592186044416 := by
  unfold Ty at h
  rw [Tryz.underlying27] at h
  obtain ⟨parts, hl, rfl, hf⟩ := h
  match parts, hl with
  | [p0, p1, p2], _ =>
    obtain ⟨x0, rfl, i0⟩ := ty_int (hf 0 _ p0 rfl rfl)
    obtain ⟨x1, rfl, i1⟩ := ty_int (hf 1 _ p1 rfl rfl)
    obtain ⟨x2, rfl, i2, j2⟩ := ty_ints (hf 2 _ p2 rfl rfl)
    exact ⟨x0, x1, x2, rfl, i0, j2⟩
end Go.Proofs.YtnjihhheiiapnaaGreat
