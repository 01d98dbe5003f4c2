/- What the statements' walks need. -/
import Derived.Test.YtemcemimipagoaaMVa4
import Derived.Test.YtemcemimipagoaaMVx41
import Derived.Test.YtemcemimipagoaaMVx37
import Derived.Test.YtemcemimipagoaaMVx42
import Derived.Test.YtemcemimipagoaaMVx34
import Derived.Test.YtemcemimipagoaaMVx44
import Derived.Test.YtemcemimipagoaaMVx35
import Derived.Test.YtemcemimipagoaaMVx21
import Derived.Test.YtemcemimipagoaaMVa3
import Derived.Test.YtemcemimipagoaaMVx20
set_option linter.unusedVariables false
set_option linter.unusedSimpArgs false
set_option maxRecDepth 100000
namespace Go.Proofs.Ytemcemimipagoaa
open Go Go.Proofs AW
def u0H : HHeap := ⟨List.replicate 9 qObj ++ [⟨14, 0, [0, 0, 3, 0], ⟨#[]⟩, 0, 0⟩, ⟨14, 0, [0, 0, 7, 0], ⟨#[]⟩, 0, 0⟩, ⟨14, 0, [0, 0, 3, 0], ⟨#[]⟩, 0, 0⟩, ⟨16, 0, [1, 0], ⟨#[]⟩, 0, 0⟩], 13, 0⟩
def u1H : HHeap := ⟨List.replicate 9 qObj ++ [⟨14, 0, [0, 0, 3, 0], ⟨#[]⟩, 0, 0⟩, ⟨14, 0, [18, 0, 7, 0], ⟨#[]⟩, 0, 0⟩, ⟨14, 0, [0, 0, 3, 0], ⟨#[]⟩, 0, 0⟩, ⟨16, 0, [1, 0], ⟨#[]⟩, 0, 0⟩], 13, 0⟩
def u2H : HHeap := ⟨List.replicate 9 qObj ++ [⟨14, 0, [22, 0, 3, 0], ⟨#[]⟩, 0, 0⟩, ⟨14, 0, [18, 0, 7, 0], ⟨#[]⟩, 0, 0⟩, ⟨14, 0, [0, 0, 3, 0], ⟨#[]⟩, 0, 0⟩, ⟨16, 0, [1, 0], ⟨#[]⟩, 0, 0⟩], 13, 0⟩
def u3H : HHeap := ⟨List.replicate 9 qObj ++ [⟨14, 0, [22, 0, 3, 0], ⟨#[]⟩, 0, 0⟩, ⟨14, 0, [0, 0, 7, 0], ⟨#[]⟩, 0, 0⟩, ⟨14, 0, [0, 0, 3, 0], ⟨#[]⟩, 0, 0⟩, ⟨16, 0, [1, 0], ⟨#[]⟩, 0, 0⟩], 13, 0⟩
def pC (c : Int) (n : Nat) : List AV := [iv c, iv 0, .own n, sv ⟨#[]⟩, iv 0, iv 0]
def pl4T (k : Nat) : List (Nat × Ob) := [(0, .live 24 3 [[.v (.slice none 0 0), iv 0, iv 0]]), (1, .live 24 3 [[.own 4, iv 13, iv 0]]), (4, .live 43 6 (List.replicate k qC))]
set_option maxHeartbeats 4000000 in
theorem three_ok : Gives Try.prog 19 [] (.agg (encHeap u0H)) := by
  refine gives_of Try.func19 rfl (Nat.le_of_ble_eq_true rfl) ?_
  (repeat' (first | refine asg ?_ | refine so ?_ | refine bd ?_ | refine aops_nil ?_ | refine aw_seq ?_ | refine aw_region ?_ | refine aw_block ?_ | refine al 0 ?_ | refine al 1 ?_ | fail))
  refine AWp.ent (ent_nilT 4 43 6 (i := 1) (r := 0) rfl rfl rfl) ?_
  refine aw_for 9 (fun k => k ≤ 9) (fun k => ⟨[(2, iv (k : Int)), (0, .ptr 0 0 0), (1, .ptr 1 0 0)], tb (pl4T k)⟩) 0 (by omega) ?_ ?_
  · refine ent_tb id (pl4T 0) ?_ ?_ <;> (repeat' (first | exact trivial | exact fz_v _ | exact fz_own rfl (ne_live rfl) | exact .ptr _ _ _ _ rfl (ne_live rfl) | refine .same _ _ [] rfl rfl (by simp) | refine ⟨_, rfl, ?_⟩ | refine ⟨?_, ?_⟩ | refine .one _ _ _ _ rfl rfl ?_ | fail))
  intro k hk
  (repeat' (first | refine mv ?_ | refine bi ?_ | refine aops_nil ?_ | refine aw_seq ?_ | refine aw_region ?_ | fail))
  refine aw_cond rfl (fun h => ?_) (fun h => ?_) <;> simp at h
  · have hl : (List.replicate k qC).length < 1099511627776 := by simp; omega
    (repeat' (first | refine mv ?_ | refine asg ?_ | refine ld ?_ | refine fp ?_ | refine bw ?_ | refine so ?_ | refine bd ?_ | refine aops_nil ?_ | refine aw_seq ?_ | refine aw_region ?_ | refine aw_block ?_ | refine aw_skip ?_ | refine li 5 ?_ | refine ap1 6 ?_ (hl := hl) | fail))
    refine ⟨by omega, by omega, ?_⟩
    refine ent_tb (nm [(4, 6)]) (pl4T (k + 1)) ⟨.one _ _ _ _ rfl rfl ⟨fz_v _, fz_v _, fz_v _, trivial⟩, .one _ _ _ _ rfl rfl ⟨fz_own rfl (ne_live rfl), fz_v _, fz_v _, trivial⟩, .same _ _ (List.replicate k qC ++ [qC]) rfl ?_ ?_, trivial⟩
      ⟨⟨_, rfl, fz_v _⟩, ⟨_, rfl, .ptr 0 0 0 0 rfl (ne_live rfl)⟩, ⟨_, rfl, .ptr 1 1 0 0 rfl (ne_live rfl)⟩, trivial⟩
    · show Ob.live _ 6 (List.replicate (k + 1) qC) = _
      rw [List.replicate_succ']
    · rw [← List.replicate_succ']; exact noOwn_qC _
  · have hk7 : k = 9 := by omega
    subst hk7
    (repeat' (first | refine ld ?_ | refine fp ?_ | refine bd ?_ | refine aw_seq ?_ | refine aw_region ?_ | refine aw_exit ?_ | refine li 5 ?_ | refine li 7 ?_ | refine li 8 ?_ | refine li 9 ?_ | refine li 10 ?_ | fail))
    refine ap (by_ := 72) (es := List.replicate 9 qC) (es2 := [pC 14 5, pC 14 7, pC 14 8, pC 16 9]) 11 rfl (qcok_of rfl) (by decide) (by decide) ?_
    (repeat' (first | refine fp ?_ | refine la ?_ | refine so ?_ | refine aops_nil ?_ | refine aw_seq ?_ | refine aw_region ?_ | refine aw_ret ?_ | fail))
    refine fin (sh_agg (l := [.own 11, iv 13, iv 0]) ⟨?_, .same _ (.v _), .same _ (.v _), trivial⟩)
    refine sh_rows (e := 43) (es := List.replicate 9 qC ++ [pC 14 5, pC 14 7, pC 14 8, pC 16 9]) rfl rfl (fun c hc => len_obj hc) fun q c c' hq hq' => ?_
    have hz : ∀ T, ShL T qC (encObj qObj) := fun T => ⟨.same _ (.v _), .same _ (.v _), .nil 1, .same _ (.v _), .same _ (.v _), .same _ (.v _), trivial⟩
    match q, hq, hq' with
    | 0, hq, hq' | 1, hq, hq' | 2, hq, hq' | 3, hq, hq' | 4, hq, hq' | 5, hq, hq' | 6, hq, hq' | 7, hq, hq' | 8, hq, hq' => cases hq; cases hq'; exact hz _
    | 9, hq, hq' => cases hq; cases hq'; exact ⟨.same _ (.v _), .same _ (.v _), sh_ints (l := [0, 0, 3, 0]) rfl, .same _ (.v _), .same _ (.v _), .same _ (.v _), trivial⟩
    | 10, hq, hq' => cases hq; cases hq'; exact ⟨.same _ (.v _), .same _ (.v _), sh_ints (l := [0, 0, 7, 0]) rfl, .same _ (.v _), .same _ (.v _), .same _ (.v _), trivial⟩
    | 11, hq, hq' => cases hq; cases hq'; exact ⟨.same _ (.v _), .same _ (.v _), sh_ints (l := [0, 0, 3, 0]) rfl, .same _ (.v _), .same _ (.v _), .same _ (.v _), trivial⟩
    | 12, hq, hq' => cases hq; cases hq'; exact ⟨.same _ (.v _), .same _ (.v _), sh_ints (l := [1, 0]) rfl, .same _ (.v _), .same _ (.v _), .same _ (.v _), trivial⟩
    | q + 13, hq, hq' => cases hq
theorem in_u0 : u0H.In := heap_in (by decide +kernel)
theorem in_u1 : u1H.In := heap_in (by decide +kernel)
theorem in_u2 : u2H.In := heap_in (by decide +kernel)
theorem in_u3 : u3H.In := heap_in (by decide +kernel)
theorem ins_is {H G : HHeap} {first p v e : Int} (hi : H.In) (h1 : pinHp H first p (insL H first p) = G) (h2 : pinV H first p (insL H first p) = v) (h3 : pinE H first p = e) : Gives Try.prog 11 [.agg (encHeap H), iv first, iv p] (.tup [.agg (encHeap G), iv v, iv e]) :=
  (Insert_ok H hi first p).to' (by rw [pinR, h1, h2, h3])
theorem take_is {H G : HHeap} {first p v e : Int} (hi : H.In) (h1 : takeHp H first = G) (h2 : takeP H first = p) (h3 : takeV H first = v) (h4 : takeE H first = e) : Gives Try.prog 10 [.agg (encHeap H), iv first] (.tup [.agg (encHeap G), iv p, iv v, iv e]) :=
  (Take_ok H hi first).to' (by rw [takeR, h1, h2, h3, h4])
theorem drop_is {H G : HHeap} {first p v e : Int} (hi : H.In) (h1 : dropHp H first p = G) (h2 : dropV H first p = v) (h3 : dropE H first p = e) : Gives Try.prog 18 [.agg (encHeap H), iv first, iv p] (.tup [.agg (encHeap G), iv v, iv e]) :=
  (Drop_ok H hi first p).to' (by rw [dropR, h1, h2, h3])
theorem fu1 : Gives Try.prog 11 [.agg (encHeap u0H), iv 0, iv 18] (.tup [.agg (encHeap u0H), iv 18, iv 0]) := ins_is in_u0 (by decide +kernel) (by decide +kernel) (by decide +kernel)
theorem fu2 : Gives Try.prog 11 [.agg (encHeap u0H), iv 18, iv 20] (.tup [.agg (encHeap u1H), iv 20, iv 0]) := ins_is in_u0 (by decide +kernel) (by decide +kernel) (by decide +kernel)
theorem fu3 : Gives Try.prog 11 [.agg (encHeap u1H), iv 20, iv 22] (.tup [.agg (encHeap u2H), iv 20, iv 0]) := ins_is in_u1 (by decide +kernel) (by decide +kernel) (by decide +kernel)
theorem fu4 : Gives Try.prog 12 [.agg (encHeap u2H), iv 20] (.tup [.sl 1 (encInts [20, 18, 22]), iv 0]) := (plist_ok u2H in_u2 (by decide +kernel) 20).to' (by rw [show lstI u2H 20 = ([20, 18, 22], 0) by decide +kernel])
theorem fu5 : Gives Try.prog 10 [.agg (encHeap u2H), iv 20] (.tup [.agg (encHeap u3H), iv 20, iv 18, iv 0]) := take_is in_u2 (by decide +kernel) (by decide +kernel) (by decide +kernel) (by decide +kernel)
theorem fu6 : Gives Try.prog 18 [.agg (encHeap u3H), iv 18, iv 22] (.tup [.agg (encHeap u0H), iv 18, iv 0]) := drop_is in_u3 (by decide +kernel) (by decide +kernel) (by decide +kernel)
theorem fu7 : Gives Try.prog 11 [.agg (encHeap u0H), iv 18, iv 18] (.tup [.agg (encHeap u0H), iv 0, iv 140]) := ins_is in_u0 (by decide +kernel) (by decide +kernel) (by decide +kernel)
theorem fu8 : Gives Try.prog 10 [.agg (encHeap u0H), iv 0] (.tup [.agg (encHeap u0H), iv 0, iv 0, iv 141]) := take_is in_u0 (by decide +kernel) (by decide +kernel) (by decide +kernel) (by decide +kernel)
theorem fu9 : Gives Try.prog 18 [.agg (encHeap u0H), iv 18, iv 20] (.tup [.agg (encHeap u0H), iv 0, iv 140]) := drop_is in_u0 (by decide +kernel) (by decide +kernel) (by decide +kernel)
theorem fuA : Gives Try.prog 12 [.agg (encHeap u0H), iv 24] (.tup [nilV, iv 141]) := plist_err u0H in_u0 (by decide +kernel) 24 (by decide +kernel)
theorem fuB : Gives Try.prog 20 [.agg (encHeap u0H), iv 18] (bv true) := (pMay_ok u0H in_u0 18).to' (congrArg bv (by decide +kernel))
theorem fuC : Gives Try.prog 20 [.agg (encHeap u0H), iv 24] (bv false) := (pMay_ok u0H in_u0 24).to' (congrArg bv (by decide +kernel))
theorem fuD : Gives Try.prog 21 [.agg (encHeap u0H), iv 24] (bv true) := (Sem_ok u0H in_u0 24).to' (congrArg bv (by decide +kernel))
theorem fuE : Gives Try.prog 21 [.agg (encHeap u0H), iv 18] (bv false) := (Sem_ok u0H in_u0 18).to' (congrArg bv (by decide +kernel))
theorem fuF : Gives Try.prog 13 [.sl 1 (encInts [20, 18, 22]), .sl 1 (encInts [20, 18, 22])] (bv true) := (rInts_ok _ _ (by decide) (by decide)).to' (congrArg bv (by decide))
set_option maxHeartbeats 16000000 in
theorem fixed14_ok : Gives Try.prog 5 [] (bv true) := by
  refine gives_of Try.func5 rfl (Nat.le_of_ble_eq_true rfl) ?_
  (repeat' (first | refine mv ?_ | refine asg ?_ | refine bt ?_ | refine bf ?_ | refine un ?_ | refine pt ?_ | refine pf ?_ | refine ex ?_ | refine la ?_ | refine so ?_ | refine aops_nil ?_ | refine aw_seq ?_ | refine aw_region ?_ | refine aw_cond_f rfl ?_ | refine aw_skip ?_ | refine aw_ret ?_ | refine al 0 ?_ | refine al 1 ?_ | refine al 2 ?_ | refine al 3 ?_ | refine cl (three_ok) ?_ | refine cl (fu1) ?_ | refine cl (fu2) ?_ | refine cl (fu3) ?_ | refine cl (fu4) ?_ | refine cl (fu5) ?_ | refine cl (fu6) ?_ | refine cl (fu7) ?_ | refine cl (fu8) ?_ | refine cl (fu9) ?_ | refine cl (fuA) ?_ | refine cl (fuB) ?_ | refine cl (fuC) ?_ | refine cl (fuD) ?_ | refine cl (fuE) ?_ | refine li 70 ?_ | refine cs fuF ?_ (hsh := by exact ⟨.same _ (by simp), sh_ints (l := [20, 18, 22]) rfl, trivial⟩) | fail))
  exact fin (sh_bv rfl)
end Go.Proofs.Ytemcemimipagoaa
namespace Go.Proofs.Ytemcemimipagoaa
open Go Go.Proofs AW
section
variable {H : HHeap} {first p : Int}
theorem has_one (hp : prcB H p = true) : 1 ≤ H.objs.length := by
  have := (ref_val (H := H) (v := p) (prc_facts hp).1.1).2; omega
theorem lstE_0 (hm : mayH H = true) (h0 : (lstI H first).2 = 0) : lstE H first = 0 := by rw [lstE, if_pos hm, h0]
theorem lstL_l (hm : mayH H = true) : lstL H first = (lstI H first).1 := by rw [lstL, if_pos hm]
theorem pin_all {at' : Nat} {l : List Int} (hl : ∀ x ∈ l, prcB H x = true) (hp : prcB H p = true) : ∀ x ∈ pinAt H l at' p, prcB H x = true := by
  intro x hx
  rcases List.mem_append.1 hx with h | h
  · exact hl x (List.mem_of_mem_take h)
  · rcases List.mem_cons.1 h with rfl | h
    · exact hp
    · exact hl x (List.mem_of_mem_drop h)
end
end Go.Proofs.Ytemcemimipagoaa
