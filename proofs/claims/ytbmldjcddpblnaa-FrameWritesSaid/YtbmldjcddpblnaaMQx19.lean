/- What the statements' walks need. -/
import Derived.Test.YtbmldjcddpblnaaMQa4
import Derived.Test.YtbmldjcddpblnaaMQx16
import Derived.Test.YtbmldjcddpblnaaMQx11
set_option linter.unusedVariables false
set_option linter.unusedSimpArgs false
set_option maxRecDepth 100000
namespace Go.Proofs.Ytbmldjcddpblnaa
open Go Go.Proofs AW
structure HMethod where
  prim : Int
  args : Int
  temps : Int
  code : List HInstr
  lits : List Int
  deriving DecidableEq
def encMethod (x : HMethod) : List AV := [iv x.prim, iv x.args, iv x.temps, .sl 2 (encCode x.code), .sl 1 (encInts x.lits)]
def noMth : HMethod := ⟨0, 0, 0, [], []⟩
theorem noOwn_mth (x : HMethod) : ∀ y ∈ encMethod x, NoOwn y := by
  intro y hy
  simp only [encMethod, List.mem_cons, List.not_mem_nil, or_false] at hy
  rcases hy with rfl | rfl | rfl | rfl | rfl
  · exact .v _
  · exact .v _
  · exact .v _
  · exact noOwn_code _ _
  · exact noOwn_ints _ _
theorem noOwn_amth (x : HMethod) : NoOwn (.agg (encMethod x)) := by rw [noOwn_agg]; exact noOwn_mth x
theorem zero_sh (T : Nat → Ob) : Sh T (.agg [iv 0, iv 0, iv 0, .v (.slice none 0 0), .v (.slice none 0 0)]) (.agg (encMethod noMth)) :=
  sh_agg ⟨.same _ (.v _), .same _ (.v _), .same _ (.v _), .nil 2, .nil 1, trivial⟩
def HObj.sl (o : HObj) (k : Nat) : Int := (o.slots[k]?).getD 0
theorem sl_get {o : HObj} {k : Nat} (h : k < o.slots.length) : o.slots[k]? = some (o.sl k) := by simp [HObj.sl, h]
def HHeap.is (H : HHeap) (v kind : Int) : Prop := 0 ≤ H.ref v ∧ (H.at' v).kind = kind
instance (H : HHeap) (v kind : Int) : Decidable (H.is v kind) := inferInstanceAs (Decidable (_ ∧ _))
def mthX (H : HHeap) (m : Int) : HMethod :=
  let o := H.at' m
  ⟨smI (o.sl 0) 63, smI (o.sl 1) 4, smI (o.sl 2) 8, unpackL (H.at' (o.sl 3)).text, (H.at' (o.sl 4)).slots⟩
def mthB (H : HHeap) (m : Int) : Bool :=
  decide (H.is m 0 ∧ (H.at' m).slots.length = 5) && (decide (H.is ((H.at' m).sl 3) 1 ∧ H.is ((H.at' m).sl 4) 0) && (unpackB (H.at' ((H.at' m).sl 3)).text &&
    (decide (0 ≤ (mthX H m).prim ∧ 0 ≤ (mthX H m).args ∧ (mthX H m).args ≤ (mthX H m).temps) && checkB (mthX H m).code (mthX H m).lits.length (mthX H m).temps)))
def mthM (H : HHeap) (m : Int) : HMethod := if mthB H m = true then mthX H m else noMth
theorem mth_no {H : HHeap} {m : Int} (h : mthB H m = false) : mthM H m = noMth := by simp [mthM, h]
theorem clone_g (xs : List Int) (hl : xs.length < 1099511627776) : Gives Try.prog 96 [.sl 1 (encInts xs)] (.sl 1 (encInts xs)) :=
  (clone_int 0 xs hl).sh fun x T ⟨hx, hT⟩ => by subst hx; subst hT; exact sh_ints rfl
set_option maxHeartbeats 8000000 in
theorem method_ok (H : HHeap) (hi : H.In) (m : Int) : Gives Try.prog 49 [.agg (encHeap H), iv m] (.tup [.agg (encMethod (mthM H m)), bv (mthB H m)]) := by
  by_cases h1 : H.is m 0
  rotate_left
  · have hb : mthB H m = false := by simp [mthB, h1]
    have c1 := object_none H m 0 h1
    refine gives_of Try.func49 rfl (Nat.le_of_ble_eq_true rfl) ?_
    (repeat' (first | refine sk ?_ | refine mv ?_ | refine asg ?_ | refine bt ?_ | refine pt ?_ | refine la ?_ | refine so ?_ | refine bd ?_ | refine aops_nil ?_ | refine aw_seq ?_ | refine aw_region ?_ | refine aw_cond_t rfl ?_ | refine aw_ret ?_ | refine bx 0 ?_ | refine al 1 ?_ | refine cl c1 ?_ (hno := ⟨noOwn_heap _, noOwn_iv _, noOwn_iv _, trivial⟩) | fail))
    exact fin (sh_tup (l := [.agg [iv 0, iv 0, iv 0, .v (.slice none 0 0), .v (.slice none 0 0)], bv false]) ⟨by rw [mth_no hb]; exact zero_sh _, sh_bv hb.symm, trivial⟩)
  have c1 := object_some H m 0 h1
  by_cases h2 : (H.at' m).slots.length = 5
  rotate_left
  · have hb : mthB H m = false := by simp [mthB, h2]
    have hle : (encInts (H.at' m).slots).length = (H.at' m).slots.length := len_ints _
    refine gives_of Try.func49 rfl (Nat.le_of_ble_eq_true rfl) ?_
    (repeat' (first | refine mv ?_ | refine asg ?_ | refine ld ?_ | refine fi ?_ | refine bt ?_ | refine pf ?_ | refine ln ?_ | refine la ?_ | refine so ?_ | refine bd ?_ | refine nk ?_ | refine pn ?_ | refine aops_nil ?_ | refine aw_seq ?_ | refine aw_region ?_ | refine aw_cond_t rfl ?_ | refine aw_ret ?_ | refine bx 0 ?_ | refine al 1 ?_ | refine cl c1 ?_ (hno := ⟨noOwn_heap _, noOwn_iv _, noOwn_iv _, trivial⟩) | fail))
    exact fin (sh_tup (l := [.agg [iv 0, iv 0, iv 0, .v (.slice none 0 0), .v (.slice none 0 0)], bv false]) ⟨by rw [mth_no hb]; exact zero_sh _, sh_bv hb.symm, trivial⟩)
  have hle : (encInts (H.at' m).slots).length = 5 := by rw [len_ints, h2]
  have g0 := ints_get (sl_get (o := H.at' m) (k := 0) (by omega))
  have g1 := ints_get (sl_get (o := H.at' m) (k := 1) (by omega))
  have g2 := ints_get (sl_get (o := H.at' m) (k := 2) (by omega))
  have g3 := ints_get (sl_get (o := H.at' m) (k := 3) (by omega))
  have g4 := ints_get (sl_get (o := H.at' m) (k := 4) (by omega))
  by_cases h3 : H.is ((H.at' m).sl 3) 1
  rotate_left
  · have hb : mthB H m = false := by simp [mthB, h3]
    have c3 := object_none H ((H.at' m).sl 3) 1 h3
    by_cases h4 : H.is ((H.at' m).sl 4) 0
    · have c4 := object_some H ((H.at' m).sl 4) 0 h4
      refine gives_of Try.func49 rfl (Nat.le_of_ble_eq_true rfl) ?_
      (repeat' (first | refine mv ?_ | refine asg ?_ | refine ld ?_ | refine fi ?_ | refine bf ?_ | refine pf ?_ | refine ln ?_ | refine la ?_ | refine nk ?_ | refine pn ?_ | refine aops_nil ?_ | refine aw_seq ?_ | refine aw_region ?_ | refine aw_cond_f rfl ?_ | refine aw_skip ?_ | refine bx 0 ?_ | refine al 1 ?_ | refine cl c1 ?_ (hno := ⟨noOwn_heap _, noOwn_iv _, noOwn_iv _, trivial⟩) | fail))
      refine aw_draw 16 none ?_
      (repeat' (first | refine dn ?_ | refine ds y_move ?_ | refine ds y_load ?_ | refine ds y_faddr_ip ?_ | refine ds y_nilc ?_ | refine ds y_loadsN ?_ | refine ds (y_call c3 (hno := ⟨noOwn_heap _, noOwn_iv _, noOwn_iv _, trivial⟩)) ?_ | refine ds (y_call c4 (hno := ⟨noOwn_heap _, noOwn_iv _, noOwn_iv _, trivial⟩)) ?_ | refine ds (y_iaddrN 3 g3) ?_ | refine ds (y_iaddrN 4 g4) ?_ | fail))
      (repeat' (first | refine sk ?_ | refine mv ?_ | refine asg ?_ | refine bt ?_ | refine pt ?_ | refine so ?_ | refine bd ?_ | refine aops_nil ?_ | refine aw_seq ?_ | refine aw_region ?_ | refine aw_cond_t rfl ?_ | refine aw_ret ?_ | fail))
      exact fin (sh_tup (l := [.agg [iv 0, iv 0, iv 0, .v (.slice none 0 0), .v (.slice none 0 0)], bv false]) ⟨by rw [mth_no hb]; exact zero_sh _, sh_bv hb.symm, trivial⟩)
    · have c4 := object_none H ((H.at' m).sl 4) 0 h4
      refine gives_of Try.func49 rfl (Nat.le_of_ble_eq_true rfl) ?_
      (repeat' (first | refine mv ?_ | refine asg ?_ | refine ld ?_ | refine fi ?_ | refine bf ?_ | refine pf ?_ | refine ln ?_ | refine la ?_ | refine nk ?_ | refine pn ?_ | refine aops_nil ?_ | refine aw_seq ?_ | refine aw_region ?_ | refine aw_cond_f rfl ?_ | refine aw_skip ?_ | refine bx 0 ?_ | refine al 1 ?_ | refine cl c1 ?_ (hno := ⟨noOwn_heap _, noOwn_iv _, noOwn_iv _, trivial⟩) | fail))
      refine aw_draw 16 none ?_
      (repeat' (first | refine dn ?_ | refine ds y_move ?_ | refine ds y_load ?_ | refine ds y_faddr_ip ?_ | refine ds y_nilc ?_ | refine ds y_loadsN ?_ | refine ds (y_call c3 (hno := ⟨noOwn_heap _, noOwn_iv _, noOwn_iv _, trivial⟩)) ?_ | refine ds (y_call c4 (hno := ⟨noOwn_heap _, noOwn_iv _, noOwn_iv _, trivial⟩)) ?_ | refine ds (y_iaddrN 3 g3) ?_ | refine ds (y_iaddrN 4 g4) ?_ | fail))
      (repeat' (first | refine sk ?_ | refine mv ?_ | refine asg ?_ | refine bt ?_ | refine pt ?_ | refine so ?_ | refine bd ?_ | refine aops_nil ?_ | refine aw_seq ?_ | refine aw_region ?_ | refine aw_cond_t rfl ?_ | refine aw_ret ?_ | fail))
      exact fin (sh_tup (l := [.agg [iv 0, iv 0, iv 0, .v (.slice none 0 0), .v (.slice none 0 0)], bv false]) ⟨by rw [mth_no hb]; exact zero_sh _, sh_bv hb.symm, trivial⟩)
  have c3 := object_some H ((H.at' m).sl 3) 1 h3
  by_cases h4 : H.is ((H.at' m).sl 4) 0
  rotate_left
  · have hb : mthB H m = false := by simp [mthB, h4]
    have c4 := object_none H ((H.at' m).sl 4) 0 h4
    refine gives_of Try.func49 rfl (Nat.le_of_ble_eq_true rfl) ?_
    (repeat' (first | refine mv ?_ | refine asg ?_ | refine ld ?_ | refine fi ?_ | refine bf ?_ | refine pf ?_ | refine ln ?_ | refine la ?_ | refine nk ?_ | refine pn ?_ | refine aops_nil ?_ | refine aw_seq ?_ | refine aw_region ?_ | refine aw_cond_f rfl ?_ | refine aw_skip ?_ | refine bx 0 ?_ | refine al 1 ?_ | refine cl c1 ?_ (hno := ⟨noOwn_heap _, noOwn_iv _, noOwn_iv _, trivial⟩) | fail))
    refine aw_draw 16 none ?_
    (repeat' (first | refine dn ?_ | refine ds y_move ?_ | refine ds y_load ?_ | refine ds y_faddr_ip ?_ | refine ds y_nilc ?_ | refine ds y_loadsN ?_ | refine ds (y_call c3 (hno := ⟨noOwn_heap _, noOwn_iv _, noOwn_iv _, trivial⟩)) ?_ | refine ds (y_call c4 (hno := ⟨noOwn_heap _, noOwn_iv _, noOwn_iv _, trivial⟩)) ?_ | refine ds (y_iaddrN 3 g3) ?_ | refine ds (y_iaddrN 4 g4) ?_ | fail))
    (repeat' (first | refine mv ?_ | refine asg ?_ | refine bt ?_ | refine pf ?_ | refine so ?_ | refine bd ?_ | refine pn ?_ | refine aops_nil ?_ | refine aw_seq ?_ | refine aw_region ?_ | refine aw_cond_t rfl ?_ | refine aw_ret ?_ | fail))
    exact fin (sh_tup (l := [.agg [iv 0, iv 0, iv 0, .v (.slice none 0 0), .v (.slice none 0 0)], bv false]) ⟨by rw [mth_no hb]; exact zero_sh _, sh_bv hb.symm, trivial⟩)
  have c4 := object_some H ((H.at' m).sl 4) 0 h4
  have s3 : (H.at' ((H.at' m).sl 3)).text.size < 1099511627776 := (at_in hi h3.1).2.2.2.2.2.2
  have s4 : (H.at' ((H.at' m).sl 4)).slots.length < 1099511627776 := (at_in hi h4.1).2.2.2.2.2.1
  have c5 := unpack_ok (H.at' ((H.at' m).sl 3)).text s3
  have c7 := clone_g (H.at' ((H.at' m).sl 4)).slots s4
  have hup : (unpackL (H.at' ((H.at' m).sl 3)).text).length < 1099511627776 := by
    simp only [unpackL]; split
    · simp only [pairsI, len_pairs]; omega
    · simp
  have c6 := check_ok (unpackL (H.at' ((H.at' m).sl 3)).text) hup (H.at' ((H.at' m).sl 4)).slots.length (smI ((H.at' m).sl 2) 8)
  rw [← len_ints (H.at' ((H.at' m).sl 4)).slots] at c6
  have n1 : ∀ x ∈ [iv (smI ((H.at' m).sl 0) 63), iv (smI ((H.at' m).sl 1) 4), iv (smI ((H.at' m).sl 2) 8), .sl 2 (encCode (unpackL (H.at' ((H.at' m).sl 3)).text)), .sl 1 (encInts (H.at' ((H.at' m).sl 4)).slots)], NoOwn x := noOwn_mth (mthX H m)
  refine gives_of Try.func49 rfl (Nat.le_of_ble_eq_true rfl) ?_
  (repeat' (first | refine mv ?_ | refine asg ?_ | refine ld ?_ | refine fi ?_ | refine bf ?_ | refine pf ?_ | refine ln ?_ | refine la ?_ | refine nk ?_ | refine pn ?_ | refine aops_nil ?_ | refine aw_seq ?_ | refine aw_region ?_ | refine aw_cond_f rfl ?_ | refine aw_skip ?_ | refine bx 0 ?_ | refine al 1 ?_ | refine cl c1 ?_ (hno := ⟨noOwn_heap _, noOwn_iv _, noOwn_iv _, trivial⟩) | fail))
  refine aw_draw 16 none ?_
  (repeat' (first | refine dn ?_ | refine ds y_move ?_ | refine ds y_load ?_ | refine ds y_faddr_ip ?_ | refine ds y_nilc ?_ | refine ds y_loadsN ?_ | refine ds (y_call c3 (hno := ⟨noOwn_heap _, noOwn_iv _, noOwn_iv _, trivial⟩)) ?_ | refine ds (y_call c4 (hno := ⟨noOwn_heap _, noOwn_iv _, noOwn_iv _, trivial⟩)) ?_ | refine ds (y_iaddrN 3 g3) ?_ | refine ds (y_iaddrN 4 g4) ?_ | fail))
  (repeat' (first | refine mv ?_ | refine asg ?_ | refine ld ?_ | refine fi ?_ | refine pf ?_ | refine ex ?_ | refine nk ?_ | refine pn ?_ | refine aops_nil ?_ | refine aw_seq ?_ | refine aw_region ?_ | refine aw_cond_f rfl ?_ | refine aw_skip ?_ | refine cl c5 ?_ (hno := ⟨.v _, trivial⟩) | fail))
  refine aw_drawU 29 28 2 (.live 32 5 [[iv 0, iv 0, iv 0, .v (.slice none 0 0), .v (.slice none 0 0)]]) ?_
  (repeat' (first | refine dn ?_ | refine d2 y_move y_move ?_ | refine d2 y_load y_load ?_ | refine d2 y_faddr_ip y_faddr_ip ?_ | refine d2 y_nilc y_nilc ?_ | refine d2 (y_call (small_ok' _ _)) (y_call (small_ok' _ _)) ?_ | refine d2 (y_call c7 (hno := ⟨noOwn_ints _ _, trivial⟩)) (y_call c7 (hno := ⟨noOwn_ints _ _, trivial⟩)) ?_ | refine d2 (y_iaddrN 0 g0) (y_iaddrN 0 g0) ?_ | refine d2 (y_iaddrN 1 g1) (y_iaddrN 1 g1) ?_ | refine d2 (y_iaddrN 2 g2) (y_iaddrN 2 g2) ?_ | refine d2 (y_build) (y_build) ?_ | refine de (y_allocU 2) ?_ | fail))
  (repeat' (first | refine so ?_ | refine aops_nil ?_ | fail))
  by_cases hu : unpackB (H.at' ((H.at' m).sl 3)).text = true
  rotate_left
  · have hE : unpackE (H.at' ((H.at' m).sl 3)).text = 110 := by simp [unpackE, hu]
    have hb : mthB H m = false := by simp [mthB, hu]
    (repeat' (first | refine sk ?_ | refine mv ?_ | refine asg ?_ | refine bt ?_ | refine pt ?_ | refine so ?_ | refine bd ?_ | refine aops_nil ?_ | refine aw_seq ?_ | refine aw_region ?_ | refine aw_cond_t rfl ?_ | refine aw_ret ?_ | fail))
    exact fin (sh_tup (l := [.agg [iv 0, iv 0, iv 0, .v (.slice none 0 0), .v (.slice none 0 0)], bv false]) ⟨by rw [mth_no hb]; exact zero_sh _, sh_bv hb.symm, trivial⟩)
  have hE : unpackE (H.at' ((H.at' m).sl 3)).text = 0 := by simp [unpackE, hu]
  by_cases q0 : 0 ≤ smI ((H.at' m).sl 0) 63
  rotate_left
  · have hb : mthB H m = false := by simp [mthB, mthX, q0]
    (repeat' (first | refine sk ?_ | refine mv ?_ | refine asg ?_ | refine ld ?_ | refine fp ?_ | refine bt ?_ | refine bf ?_ | refine pt ?_ | refine pf ?_ | refine so ?_ | refine bd ?_ | refine aops_nil ?_ | refine aw_seq ?_ | refine aw_region ?_ | refine aw_cond_t rfl ?_ | refine aw_ret ?_ | fail))
    exact fin (sh_tup (l := [.agg [iv 0, iv 0, iv 0, .v (.slice none 0 0), .v (.slice none 0 0)], bv false]) ⟨by rw [mth_no hb]; exact zero_sh _, sh_bv hb.symm, trivial⟩)
  by_cases q1 : 0 ≤ smI ((H.at' m).sl 1) 4
  rotate_left
  · have hb : mthB H m = false := by simp [mthB, mthX, q1]
    (repeat' (first | refine sk ?_ | refine mv ?_ | refine asg ?_ | refine ld ?_ | refine fp ?_ | refine bt ?_ | refine bf ?_ | refine pt ?_ | refine pf ?_ | refine so ?_ | refine bd ?_ | refine aops_nil ?_ | refine aw_seq ?_ | refine aw_region ?_ | refine aw_cond_t rfl ?_ | refine aw_ret ?_ | fail))
    exact fin (sh_tup (l := [.agg [iv 0, iv 0, iv 0, .v (.slice none 0 0), .v (.slice none 0 0)], bv false]) ⟨by rw [mth_no hb]; exact zero_sh _, sh_bv hb.symm, trivial⟩)
  by_cases q2 : smI ((H.at' m).sl 1) 4 ≤ smI ((H.at' m).sl 2) 8
  rotate_left
  · have hb : mthB H m = false := by simp [mthB, mthX, q2]
    (repeat' (first | refine sk ?_ | refine mv ?_ | refine asg ?_ | refine ld ?_ | refine fp ?_ | refine bt ?_ | refine bf ?_ | refine pt ?_ | refine pf ?_ | refine so ?_ | refine bd ?_ | refine aops_nil ?_ | refine aw_seq ?_ | refine aw_region ?_ | refine aw_cond_t rfl ?_ | refine aw_ret ?_ | fail))
    exact fin (sh_tup (l := [.agg [iv 0, iv 0, iv 0, .v (.slice none 0 0), .v (.slice none 0 0)], bv false]) ⟨by rw [mth_no hb]; exact zero_sh _, sh_bv hb.symm, trivial⟩)
  cases q3 : checkB (unpackL (H.at' ((H.at' m).sl 3)).text) ((encInts (H.at' ((H.at' m).sl 4)).slots).length : Int) (smI ((H.at' m).sl 2) 8) with
  | false =>
    rw [show checkE (unpackL (H.at' ((H.at' m).sl 3)).text) ((encInts (H.at' ((H.at' m).sl 4)).slots).length : Int) (smI ((H.at' m).sl 2) 8) = 110 by simp only [checkE, q3]; rfl] at c6
    rw [len_ints] at q3
    have hb : mthB H m = false := by simp [mthB, mthX, q3]
    (repeat' (first | refine mv ?_ | refine asg ?_ | refine ld ?_ | refine fp ?_ | refine bt ?_ | refine bf ?_ | refine pf ?_ | refine ln ?_ | refine so ?_ | refine bd ?_ | refine aops_nil ?_ | refine aw_seq ?_ | refine aw_region ?_ | refine aw_cond_t rfl ?_ | refine aw_ret ?_ | refine cl c6 ?_ (hno := ⟨noOwn_code _ _, noOwn_iv _, noOwn_iv _, trivial⟩) | fail))
    exact fin (sh_tup (l := [.agg [iv 0, iv 0, iv 0, .v (.slice none 0 0), .v (.slice none 0 0)], bv false]) ⟨by rw [mth_no hb]; exact zero_sh _, sh_bv hb.symm, trivial⟩)
  | true =>
    rw [show checkE (unpackL (H.at' ((H.at' m).sl 3)).text) ((encInts (H.at' ((H.at' m).sl 4)).slots).length : Int) (smI ((H.at' m).sl 2) 8) = 0 by simp only [checkE, q3]; rfl] at c6
    rw [len_ints] at q3
    have hb : mthB H m = true := by simp [mthB, mthX, h1, h2, h3, h4, hu, q0, q1, q2, q3]
    (repeat' (first | refine mv ?_ | refine asg ?_ | refine ld ?_ | refine fp ?_ | refine bf ?_ | refine pf ?_ | refine ln ?_ | refine la ?_ | refine so ?_ | refine aops_nil ?_ | refine aw_seq ?_ | refine aw_region ?_ | refine aw_cond_f rfl ?_ | refine aw_skip ?_ | refine aw_ret ?_ | refine cl c6 ?_ (hno := ⟨noOwn_code _ _, noOwn_iv _, noOwn_iv _, trivial⟩) | fail))
    exact fin (sh_tup (l := [.agg (encMethod (mthX H m)), bv true]) ⟨by rw [mthM, if_pos hb]; exact .same _ (noOwn_amth _), sh_bv hb.symm, trivial⟩)
end Go.Proofs.Ytbmldjcddpblnaa
