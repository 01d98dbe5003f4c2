/- What the statements' walks need. -/
import Derived.Test.YtbmldjcddpblnaaMQa4
import Derived.Test.YtbmldjcddpblnaaMQx19
import Derived.Test.YtbmldjcddpblnaaMQx18
import Derived.Test.YtbmldjcddpblnaaMQa3
set_option linter.unusedVariables false
set_option linter.unusedSimpArgs false
set_option maxRecDepth 100000
namespace Go.Proofs.Ytbmldjcddpblnaa
open Go Go.Proofs AW
def methB (H : HHeap) (m : Int) : Bool := mayH H && mthB H m
def methE (H : HHeap) (m : Int) : Int := if methB H m = true then 0 else 120
def methM (H : HHeap) (m : Int) : HMethod := if methB H m = true then mthX H m else noMth
theorem Method_ok (H : HHeap) (hi : H.In) (m : Int) : Gives Try.prog 13 [.agg (encHeap H), iv m] (.tup [.agg (encMethod (methM H m)), iv (methE H m)]) := by
  by_cases h0 : mayH H = true
  rotate_left
  · have c0 := (May_ok H hi).to' (congrArg bv (eq_false_of_ne_true h0))
    have hb : methB H m = false := by simp [methB, h0]
    refine gives_of Try.func13 rfl (Nat.le_of_ble_eq_true rfl) ?_
    (repeat' (first | refine asg ?_ | refine la ?_ | refine so ?_ | refine bd ?_ | refine aops_nil ?_ | refine aw_seq ?_ | refine aw_region ?_ | refine aw_cond_f rfl ?_ | refine aw_skip ?_ | refine aw_ret ?_ | refine bx 0 ?_ | refine al 1 ?_ | refine cl c0 ?_ (hno := ⟨noOwn_heap _, trivial⟩) | fail))
    exact fin (sh_tup (l := [.agg [iv 0, iv 0, iv 0, .v (.slice none 0 0), .v (.slice none 0 0)], iv 120]) ⟨by rw [methM, hb]; exact zero_sh _, sh_iv (by rw [methE, hb]; rfl), trivial⟩)
  have c0 := (May_ok H hi).to' (congrArg bv h0)
  by_cases h1 : mthB H m = true
  rotate_left
  · have h1 := eq_false_of_ne_true h1
    have hb : methB H m = false := by simp [methB, h1]
    have c1 := (method_ok H hi m).to' (congrArg (fun b => AV.tup [.agg (encMethod (mthM H m)), bv b]) h1)
    refine gives_of Try.func13 rfl (Nat.le_of_ble_eq_true rfl) ?_
    (repeat' (first | refine mv ?_ | refine asg ?_ | refine ex ?_ | refine la ?_ | refine so ?_ | refine bd ?_ | refine aops_nil ?_ | refine aw_seq ?_ | refine aw_region ?_ | refine aw_cond_t rfl ?_ | refine aw_cond_f rfl ?_ | refine aw_skip ?_ | refine aw_ret ?_ | refine bx 0 ?_ | refine al 1 ?_ | refine al 2 ?_ | refine cl c0 ?_ (hno := ⟨noOwn_heap _, trivial⟩) | refine cl c1 ?_ (hno := ⟨noOwn_heap _, noOwn_iv _, trivial⟩) | fail))
    exact fin (sh_tup (l := [.agg [iv 0, iv 0, iv 0, .v (.slice none 0 0), .v (.slice none 0 0)], iv 120]) ⟨by rw [methM, hb]; exact zero_sh _, sh_iv (by rw [methE, hb]; rfl), trivial⟩)
  have hb : methB H m = true := by simp [methB, h0, h1]
  have c1 := (method_ok H hi m).to' (congrArg (fun b => AV.tup [.agg (encMethod (mthM H m)), bv b]) h1)
  refine gives_of Try.func13 rfl (Nat.le_of_ble_eq_true rfl) ?_
  (repeat' (first | refine mv ?_ | refine asg ?_ | refine ex ?_ | refine la ?_ | refine so ?_ | refine aops_nil ?_ | refine aw_seq ?_ | refine aw_region ?_ | refine aw_cond_t rfl ?_ | refine aw_ret ?_ | refine bx 0 ?_ | refine al 1 ?_ | refine al 2 ?_ | refine cl c0 ?_ (hno := ⟨noOwn_heap _, trivial⟩) | refine cl c1 ?_ (hno := ⟨noOwn_heap _, noOwn_iv _, trivial⟩) | fail))
  exact fin (sh_tup (l := [.agg (encMethod (mthM H m)), iv 0]) ⟨by rw [methM, if_pos hb, mthM, if_pos h1]; exact .same _ (noOwn_amth _), sh_iv (by rw [methE, hb]; rfl), trivial⟩)
structure HCtx where
  mth : HMethod
  slots : List Int
  ip : Int
  sp : Int
  deriving DecidableEq
def encCtx (x : HCtx) : List AV := encMethod x.mth ++ [.sl 1 (encInts x.slots), iv x.ip, iv x.sp]
def noCtx : HCtx := ⟨noMth, [], 0, 0⟩
theorem noOwn_ctx (x : HCtx) : ∀ y ∈ encCtx x, NoOwn y := by
  intro y hy
  rcases List.mem_append.1 hy with h | h
  · exact noOwn_mth _ y h
  · simp only [List.mem_cons, List.not_mem_nil, or_false] at h
    rcases h with rfl | rfl | rfl
    · exact noOwn_ints _ _
    · exact .v _
    · exact .v _
theorem noOwn_actx (x : HCtx) : NoOwn (.agg (encCtx x)) := by rw [noOwn_agg]; exact noOwn_ctx x
theorem zero_ctx (T : Nat → Ob) : Sh T (.agg [iv 0, iv 0, iv 0, .v (.slice none 0 0), .v (.slice none 0 0), .v (.slice none 0 0), iv 0, iv 0]) (.agg (encCtx noCtx)) :=
  sh_agg ⟨.same _ (.v _), .same _ (.v _), .same _ (.v _), .nil 2, .nil 1, .nil 1, .same _ (.v _), .same _ (.v _), trivial⟩
def ctxX (H : HHeap) (c : Int) : HCtx :=
  let o := H.at' c
  ⟨mthX H (o.sl 3), o.slots, smI (o.sl 1) ((mthX H (o.sl 3)).code.length - 1), smI (o.sl 2) 16⟩
def ctxB1 (H : HHeap) (c : Int) : Bool :=
  (mayH H && decide (H.is c 0 ∧ (H.at' c).cls = 12 ∧ (H.at' c).slots.length = 22)) && (mthB H ((H.at' c).sl 3) && decide (0 ≤ H.ref ((H.at' c).sl 0) ∧ 0 ≤ H.ref ((H.at' c).sl 5)))
def ctxB2 (H : HHeap) (c : Int) : Bool := decide (0 ≤ (ctxX H c).ip ∧ (ctxX H c).mth.temps ≤ (ctxX H c).sp)
def ctxB (H : HHeap) (c : Int) : Bool := ctxB1 H c && ctxB2 H c
def ctxV (H : HHeap) (c : Int) : HCtx := if ctxB1 H c = true then ctxX H c else noCtx
theorem ctx_zero {H : HHeap} {c : Int} {T : Nat → Ob} (h : ctxB1 H c = false) : Sh T (.tup [.agg [iv 0, iv 0, iv 0, .v (.slice none 0 0), .v (.slice none 0 0), .v (.slice none 0 0), iv 0, iv 0], bv false]) (.tup [.agg (encCtx (ctxV H c)), bv (ctxB H c)]) :=
  sh_tup (l := [.agg [iv 0, iv 0, iv 0, .v (.slice none 0 0), .v (.slice none 0 0), .v (.slice none 0 0), iv 0, iv 0], bv false]) ⟨by rw [ctxV, h]; exact zero_ctx _, sh_bv (by simp [ctxB, h]), trivial⟩
theorem ref6_ok : Gives Try.prog 62 [iv 6] (.tup [iv 12, bv true]) := (Ref_ok 6).to' rfl
set_option maxHeartbeats 8000000 in
theorem read_no (H : HHeap) (hi : H.In) (c : Int) (hn : ¬ (mayH H = true ∧ H.is c 0 ∧ (H.at' c).cls = 12 ∧ (H.at' c).slots.length = 22)) : Gives Try.prog 55 [.agg (encHeap H), iv c] (.tup [.agg (encCtx (ctxV H c)), bv (ctxB H c)]) := by
  have cr := ref6_ok
  by_cases h0 : mayH H = true
  rotate_left
  · have c0 := (May_ok H hi).to' (congrArg bv (eq_false_of_ne_true h0))
    refine gives_of Try.func55 rfl (Nat.le_of_ble_eq_true rfl) ?_
    (repeat' (first | refine mv ?_ | refine asg ?_ | refine un ?_ | refine ex ?_ | refine la ?_ | refine so ?_ | refine bd ?_ | refine aops_nil ?_ | refine aw_seq ?_ | refine aw_region ?_ | refine aw_cond_t rfl ?_ | refine aw_ret ?_ | refine bx 0 ?_ | refine al 1 ?_ | refine cl cr ?_ | refine cl c0 ?_ (hno := ⟨noOwn_heap _, trivial⟩) | fail))
    exact fin (ctx_zero (by simp [ctxB1, h0]))
  have c0 := (May_ok H hi).to' (congrArg bv h0)
  by_cases h1 : H.is c 0
  rotate_left
  · have c1 := object_none H c 0 h1
    refine gives_of Try.func55 rfl (Nat.le_of_ble_eq_true rfl) ?_
    (repeat' (first | refine sk ?_ | refine mv ?_ | refine asg ?_ | refine bt ?_ | refine un ?_ | refine pt ?_ | refine ex ?_ | refine la ?_ | refine so ?_ | refine bd ?_ | refine aops_nil ?_ | refine aw_seq ?_ | refine aw_region ?_ | refine aw_cond_t rfl ?_ | refine aw_cond_f rfl ?_ | refine aw_skip ?_ | refine aw_ret ?_ | refine bx 0 ?_ | refine al 1 ?_ | refine cl cr ?_ | refine cl c0 ?_ (hno := ⟨noOwn_heap _, trivial⟩) | refine cl c1 ?_ (hno := ⟨noOwn_heap _, noOwn_iv _, noOwn_iv _, trivial⟩) | fail))
    exact fin (ctx_zero (by simp [ctxB1, h1]))
  have c1 := object_some H c 0 h1
  have hle : (encInts (H.at' c).slots).length = (H.at' c).slots.length := len_ints _
  by_cases h2 : (H.at' c).cls = 12
  rotate_left
  · refine gives_of Try.func55 rfl (Nat.le_of_ble_eq_true rfl) ?_
    (repeat' (first | refine sk ?_ | refine mv ?_ | refine asg ?_ | refine ld ?_ | refine fi ?_ | refine bt ?_ | refine un ?_ | refine pt ?_ | refine pf ?_ | refine ex ?_ | refine la ?_ | refine so ?_ | refine bd ?_ | refine nk ?_ | refine pn ?_ | refine aops_nil ?_ | refine aw_seq ?_ | refine aw_region ?_ | refine aw_cond_t rfl ?_ | refine aw_cond_f rfl ?_ | refine aw_skip ?_ | refine aw_ret ?_ | refine bx 0 ?_ | refine al 1 ?_ | refine cl cr ?_ | refine cl c0 ?_ (hno := ⟨noOwn_heap _, trivial⟩) | refine cl c1 ?_ (hno := ⟨noOwn_heap _, noOwn_iv _, noOwn_iv _, trivial⟩) | fail))
    exact fin (ctx_zero (by simp [ctxB1, h2]))
  by_cases h3 : (H.at' c).slots.length = 22
  rotate_left
  · refine gives_of Try.func55 rfl (Nat.le_of_ble_eq_true rfl) ?_
    (repeat' (first | refine mv ?_ | refine asg ?_ | refine ld ?_ | refine fi ?_ | refine bt ?_ | refine bf ?_ | refine un ?_ | refine pf ?_ | refine ex ?_ | refine ln ?_ | refine la ?_ | refine so ?_ | refine bd ?_ | refine nk ?_ | refine pn ?_ | refine aops_nil ?_ | refine aw_seq ?_ | refine aw_region ?_ | refine aw_cond_t rfl ?_ | refine aw_cond_f rfl ?_ | refine aw_skip ?_ | refine aw_ret ?_ | refine bx 0 ?_ | refine al 1 ?_ | refine cl cr ?_ | refine cl c0 ?_ (hno := ⟨noOwn_heap _, trivial⟩) | refine cl c1 ?_ (hno := ⟨noOwn_heap _, noOwn_iv _, noOwn_iv _, trivial⟩) | fail))
    exact fin (ctx_zero (by simp [ctxB1, h3]))
  exact absurd ⟨h0, h1, h2, h3⟩ hn
end Go.Proofs.Ytbmldjcddpblnaa
