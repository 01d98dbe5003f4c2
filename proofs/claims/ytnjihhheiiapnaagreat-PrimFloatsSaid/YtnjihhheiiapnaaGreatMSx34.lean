/- What the statements' walks need. -/
import Derived.Test.YtnjihhheiiapnaaGreatMSa4
import Derived.Test.YtnjihhheiiapnaaGreatMSx33
import Derived.Test.YtnjihhheiiapnaaGreatMSx31
import Derived.Test.YtnjihhheiiapnaaGreatMSx25
set_option linter.unusedVariables false
set_option linter.unusedSimpArgs false
set_option maxRecDepth 100000
namespace Go.Proofs.YtnjihhheiiapnaaGreat
open Go Go.Proofs AW
theorem falloc_cases {H : HHeap} (hm : mayH H = true) (hl : 12 ≤ H.objs.length) : allocE H 8 2 0 = 0 ∨ allocE H 8 2 0 = 30 := by
  have hs' : ¬ refI H.objs.length 8 < 0 := by unfold refI; rw [if_pos ⟨by decide, by omega⟩]; omega
  unfold allocE
  rw [if_pos hm, if_neg hs', if_neg (by omega), if_neg (by omega)]
  split
  · exact .inr rfl
  · exact .inl rfl
theorem hasV_of {H : HHeap} {s : Int} (h : hasB H.objs.length s = true) : hasV H s := (has_cases h).elim (fun h => .inl h.1) (fun h => .inr h.2)
def newF (H : HHeap) (b : Int) : AV := if allocE H 8 2 0 = 0 then doV (floH H b) (2 * H.objs.length) 0 else doV H 0 30
def fopV (H : HHeap) (o s x : Int) : AV := if floB H s = true ∧ floB H x = true then newF H (opI o (flV H s) (flV H x)) else doV H 0 130
theorem one_has {H : HHeap} {s x : Int} (hok : okV H s [x] = true) : hasV H s ∧ hasV H x ∧ (allocE H 8 2 0 = 0 ∨ allocE H 8 2 0 = 30) := by
  obtain ⟨o1, o2, o3, o4⟩ := okV_facts hok
  exact ⟨hasV_of o3, hasV_of (by simpa using o4), falloc_cases o1 o2⟩
theorem fop_do {k : Nat} {o : Int} (ho : o = 0 ∨ o = 1 ∨ o = 2 ∨ o = 3) (hk : primRows[k]? = some [iv ((1 : Nat) : Int), .clo 129 [.ip [iv o]]]) (H : HHeap) (hi : H.In) (s x : Int) (hok : okV H s [x] = true) :
    Gives Tryz.prog 11 [.agg (encHeap H), iv ((k : Int) + 1), iv s, .sl 1 (encInts [x])] (fopV H o s x) := by
  obtain ⟨vs, vx, hc⟩ := one_has hok
  have hn : NoOwnL [AV.ip [iv o]] := by simp [NoOwnL]
  by_cases h : floB H s = true ∧ floB H x = true
  · rw [fopV, if_pos h]
    rcases hc with he | he
    · rw [newF, if_pos he]
      exact Do_yes H _ hi s _ [x] hk rfl hn hok rfl (by omega) (twof_y o ho H hi s x vs vx h.1 h.2 he)
    · rw [newF, if_neg (by rw [he]; decide)]
      exact Do_fail H hi s _ [x] hk rfl hn hok rfl (by omega) (twof_full o ho H hi s x vs vx h.1 h.2 he)
  · rw [fopV, if_neg h]
    exact Do_fail H hi s _ [x] hk rfl hn hok rfl (by omega) (twof_f o H s x vs vx h)
theorem Do_17 (H : HHeap) (hi : H.In) (s x : Int) (hok : okV H s [x] = true) : Gives Tryz.prog 11 [.agg (encHeap H), iv 17, iv s, .sl 1 (encInts [x])] (fopV H 0 s x) := fop_do (k := 16) (.inl rfl) rfl H hi s x hok
theorem Do_18 (H : HHeap) (hi : H.In) (s x : Int) (hok : okV H s [x] = true) : Gives Tryz.prog 11 [.agg (encHeap H), iv 18, iv s, .sl 1 (encInts [x])] (fopV H 1 s x) := fop_do (k := 17) (.inr (.inl rfl)) rfl H hi s x hok
theorem Do_19 (H : HHeap) (hi : H.In) (s x : Int) (hok : okV H s [x] = true) : Gives Tryz.prog 11 [.agg (encHeap H), iv 19, iv s, .sl 1 (encInts [x])] (fopV H 2 s x) := fop_do (k := 18) (.inr (.inr (.inl rfl))) rfl H hi s x hok
theorem Do_20 (H : HHeap) (hi : H.In) (s x : Int) (hok : okV H s [x] = true) : Gives Tryz.prog 11 [.agg (encHeap H), iv 20, iv s, .sl 1 (encInts [x])] (fopV H 3 s x) := fop_do (k := 19) (.inr (.inr (.inr rfl))) rfl H hi s x hok
def ftruncV (H : HHeap) (s n : Int) (b : Bool) : AV := if floB H s = true ∧ b = true then doV H (n * 2 + 1) 0 else doV H 0 130
theorem Do_23 (H : HHeap) (hi : H.In) (s n : Int) (b : Bool) (hf : flt_Trunc.f (flV H s) = some (n, b)) (hb : b = true → smallB n = true) (hok : okV H s [] = true) : Gives Tryz.prog 11 [.agg (encHeap H), iv 23, iv s, .sl 1 (encInts [])] (ftruncV H s n b) := by
  obtain ⟨o1, o2, o3, o4⟩ := okV_facts hok
  have vs := hasV_of o3
  cases h : floB H s with
  | false =>
    rw [ftruncV, if_neg (by rw [h]; simp)]
    exact Do_fail H hi s _ [] (k := 22) (n := 0) rfl rfl trivial hok rfl (by omega) (trunc_f1 H s vs h)
  | true =>
    cases b with
    | false =>
      rw [ftruncV, if_neg (by simp)]
      exact Do_fail H hi s _ [] (k := 22) (n := 0) rfl rfl trivial hok rfl (by omega) (trunc_f2 H s vs h n hf)
    | true =>
      rw [ftruncV, if_pos ⟨h, rfl⟩]
      exact Do_yes H H hi s _ [] (k := 22) (n := 0) rfl rfl trivial hok rfl (by omega) (trunc_y H s vs h n hf (hb rfl))
def floatV (H : HHeap) (s : Int) : AV := if floB H s = true then newF H (flV H s) else doV H 0 130
theorem Do_24 (H : HHeap) (hi : H.In) (s : Int) (hok : okV H s [] = true) : Gives Tryz.prog 11 [.agg (encHeap H), iv 24, iv s, .sl 1 (encInts [])] (floatV H s) := by
  obtain ⟨o1, o2, o3, o4⟩ := okV_facts hok
  have vs := hasV_of o3
  cases h : floB H s with
  | false =>
    rw [floatV, if_neg (by rw [h]; simp)]
    exact Do_fail H hi s _ [] (k := 23) (n := 0) rfl rfl trivial hok rfl (by omega) (pr11_f H s vs h)
  | true =>
    rw [floatV, if_pos h]
    rcases falloc_cases o1 o2 with he | he
    · rw [newF, if_pos he]
      exact Do_yes H _ hi s _ [] (k := 23) (n := 0) rfl rfl trivial hok rfl (by omega) (pr11_y H hi s vs h (flV_rng H hi s) he)
    · rw [newF, if_neg (by rw [he]; decide)]
      exact Do_fail H hi s _ [] (k := 23) (n := 0) rfl rfl trivial hok rfl (by omega) (pr11_full H hi s vs h he)
end Go.Proofs.YtnjihhheiiapnaaGreat
namespace Go.Proofs.YtnjihhheiiapnaaGreat
open Go Go.Proofs AW
theorem qcok_of {T : Nat → Ob} {es : List (List AV)} (h : (es.all fun c => c.all (cok1 T)) = true) : ∀ c ∈ es, ∀ y ∈ c, cok1 T y = true := fun c hc y hy => List.all_eq_true.1 (List.all_eq_true.1 h c hc) y hy
def qObj : HObj := ⟨0, 0, [], ⟨#[]⟩, 0, 0⟩
def plnH : HHeap := ⟨List.replicate 12 qObj ++ [⟨0, 0, [0, 0, 5], ⟨#[]⟩, 0, 0⟩, ⟨0, 1, [], ⟨#[97, 98]⟩, 0, 0⟩], 16, 0⟩
def qC : List AV := [iv 0, iv 0, .v (.slice none 0 0), sv ⟨#[]⟩, iv 0, iv 0]
def plnT (k : Nat) : List (Nat × Ob) := [(0, .live 24 3 [[.v (.slice none 0 0), iv 0, iv 0]]), (1, .live 24 3 [[.own 4, iv 16, iv 0]]), (4, .live 41 6 (List.replicate k qC))]
theorem noOwn_qC (k : Nat) : ∀ c ∈ List.replicate k qC, ∀ x ∈ c, NoOwn x := by
  intro c hc x hx
  rw [List.eq_of_mem_replicate hc] at hx
  simp only [qC, List.mem_cons, List.not_mem_nil, or_false] at hx
  rcases hx with rfl | rfl | rfl | rfl | rfl | rfl <;> exact .v _
set_option maxHeartbeats 4000000 in
theorem plain_ok : Gives Tryz.prog 23 [] (.agg (encHeap plnH)) := by
  refine gives_of Tryz.func23 rfl (Nat.le_of_ble_eq_true rfl) ?_
  (repeat' (first | refine asg ?_ | refine so ?_ | refine bd ?_ | refine aops_nil ?_ | refine aw_seq ?_ | refine aw_region ?_ | refine aw_block ?_ | refine al 0 ?_ | refine al 1 ?_ | fail))
  refine AWp.ent (ent_nilT 4 41 6 (i := 1) (r := 0) rfl rfl rfl) ?_
  refine aw_for 12 (fun k => k ≤ 12) (fun k => ⟨[(2, iv (k : Int)), (0, .ptr 0 0 0), (1, .ptr 1 0 0)], tb (plnT k)⟩) 0 (by omega) ?_ ?_
  · refine ent_tb id (plnT 0) ?_ ?_ <;> (repeat' (first | exact trivial | exact fz_v _ | exact fz_own rfl (ne_live rfl) | exact .ptr _ _ _ _ rfl (ne_live rfl) | refine .same _ _ [] rfl rfl (by simp) | refine ⟨_, rfl, ?_⟩ | refine ⟨?_, ?_⟩ | refine .one _ _ _ _ rfl rfl ?_ | fail))
  intro k hk
  (repeat' (first | refine mv ?_ | refine bi ?_ | refine aops_nil ?_ | refine aw_seq ?_ | refine aw_region ?_ | fail))
  refine aw_cond rfl (fun h => ?_) (fun h => ?_) <;> simp at h
  · have hl : (List.replicate k qC).length < 1099511627776 := by simp; omega
    (repeat' (first | refine mv ?_ | refine asg ?_ | refine ld ?_ | refine fp ?_ | refine bw ?_ | refine so ?_ | refine bd ?_ | refine aops_nil ?_ | refine aw_seq ?_ | refine aw_region ?_ | refine aw_block ?_ | refine aw_skip ?_ | refine li 5 ?_ | refine ap1 6 ?_ (hl := hl) | fail))
    refine ⟨by omega, by omega, ?_⟩
    refine ent_tb (nm [(4, 6)]) (plnT (k + 1)) ⟨.one _ _ _ _ rfl rfl ⟨fz_v _, fz_v _, fz_v _, trivial⟩, .one _ _ _ _ rfl rfl ⟨fz_own rfl (ne_live rfl), fz_v _, fz_v _, trivial⟩, .same _ _ (List.replicate k qC ++ [qC]) rfl ?_ ?_, trivial⟩
      ⟨⟨_, rfl, fz_v _⟩, ⟨_, rfl, .ptr 0 0 0 0 rfl (ne_live rfl)⟩, ⟨_, rfl, .ptr 1 1 0 0 rfl (ne_live rfl)⟩, trivial⟩
    · show Ob.live _ 6 (List.replicate (k + 1) qC) = _
      rw [List.replicate_succ']
    · rw [← List.replicate_succ']; exact noOwn_qC _
  · have hk7 : k = 12 := by omega
    subst hk7
    (repeat' (first | refine ld ?_ | refine fp ?_ | refine bd ?_ | refine aw_seq ?_ | refine aw_region ?_ | refine aw_exit ?_ | refine li 5 ?_ | refine li 7 ?_ | fail))
    refine ap (by_ := 72) (es := List.replicate 12 qC) (es2 := [[iv 0, iv 0, .own 5, sv ⟨#[]⟩, iv 0, iv 0], [iv 0, iv 1, .v (.slice none 0 0), sv ⟨#[97, 98]⟩, iv 0, iv 0]]) 8 rfl (qcok_of rfl) (by decide) (by decide) ?_
    (repeat' (first | refine fp ?_ | refine la ?_ | refine so ?_ | refine aops_nil ?_ | refine aw_seq ?_ | refine aw_region ?_ | refine aw_ret ?_ | fail))
    refine fin (sh_agg (l := [.own 8, iv 16, iv 0]) ⟨?_, .same _ (.v _), .same _ (.v _), trivial⟩)
    refine sh_rows (e := 41) (es := List.replicate 12 qC ++ [[iv 0, iv 0, .own 5, sv ⟨#[]⟩, iv 0, iv 0], [iv 0, iv 1, .v (.slice none 0 0), sv ⟨#[97, 98]⟩, iv 0, iv 0]]) rfl rfl (fun c hc => len_obj hc) fun q c c' hq hq' => ?_
    have hz : ∀ T, ShL T qC (encObj qObj) := fun T => ⟨.same _ (.v _), .same _ (.v _), .nil 1, .same _ (.v _), .same _ (.v _), .same _ (.v _), trivial⟩
    match q, hq, hq' with
    | 0, hq, hq' | 1, hq, hq' | 2, hq, hq' | 3, hq, hq' | 4, hq, hq' | 5, hq, hq' | 6, hq, hq' | 7, hq, hq' | 8, hq, hq' | 9, hq, hq' | 10, hq, hq' | 11, hq, hq' => cases hq; cases hq'; exact hz _
    | 12, hq, hq' => cases hq; cases hq'; exact ⟨.same _ (.v _), .same _ (.v _), sh_ints (l := [0, 0, 5]) rfl, .same _ (.v _), .same _ (.v _), .same _ (.v _), trivial⟩
    | 13, hq, hq' => cases hq; cases hq'; exact ⟨.same _ (.v _), .same _ (.v _), .nil 1, .same _ (.v _), .same _ (.v _), .same _ (.v _), trivial⟩
    | q + 14, hq, hq' => cases hq
end Go.Proofs.YtnjihhheiiapnaaGreat
