/- The program's allocation: shared, and with what it made its caller's own. -/
import Derived.Test.YtafbiccgbgcooaaHT
set_option linter.unusedSimpArgs false
namespace Go.Proofs.Ytafbiccgbgcooaa
open Go Go.Proofs AW
theorem app_get {l : List HObj} {c d : List AV} {q : Nat} (h : (encObjs l ++ [c])[q]? = some d) : (∃ o, l[q]? = some o ∧ d = encObj o) ∨ (q = l.length ∧ d = c) := by
  rcases Nat.lt_or_ge q l.length with hq | hq
  · rw [List.getElem?_append_left (by simpa using hq)] at h
    exact .inl (objs_inv h)
  · rw [List.getElem?_append_right (by simpa using hq)] at h
    have : q - (encObjs l).length = 0 := by
      rcases Nat.eq_zero_or_pos (q - (encObjs l).length) with h0 | h0
      · exact h0
      · rw [List.getElem?_eq_none (by simp at h0 ⊢; omega)] at h; cases h
    rw [this] at h
    simp at this h
    exact .inr ⟨by omega, h.symm⟩
theorem sh_app {T : Nat → Ob} {e i : Nat} {l : List HObj} {c : List AV} {o : HObj} (hT : T i = .live e 6 (encObjs l ++ [c])) (h : ShL T c (encObj o)) : Sh T (.own i) (.sl 6 (encObjs (l ++ [o]))) := by
  refine sh_rows hT (by simp) (fun c hc => len_obj hc) fun q d d' hq hq' => ?_
  obtain ⟨o', ho, rfl⟩ := objs_inv hq'
  rcases app_get hq with ⟨o2, h2, rfl⟩ | ⟨rfl, rfl⟩
  · rw [List.getElem?_append_left (List.getElem?_eq_some_iff.1 h2).1, h2] at ho
    cases ho
    exact shL_same ⟨noOwn_iv _, noOwn_iv _, noOwn_ints 1 _, .v _, noOwn_iv _, noOwn_iv _, trivial⟩
  · simp at ho; subst ho; exact h
theorem Alloc_ok (H : HHeap) (hi : H.In) (cls kind size : Int) : Gives Try.prog 11 [.agg (encHeap H), iv cls, iv kind, iv size] (.tup [.agg (encHeap (allocH H cls kind size)), iv (allocV H cls kind size), iv (allocE H cls kind size)]) :=
  (Alloc_own H hi cls kind size).sh fun x T h => by
    rcases h with ⟨h1, h2⟩ | ⟨h1, rfl, h3⟩
    · simpa [allocV, h1] using h2
    · refine sh_tup ⟨sh_agg ?_, sh_iv (by simp [allocV, h1]), sh_iv h1.symm, trivial⟩
      simp only [allocH, h1, if_true]
      refine ⟨?_, .same _ (.v _), .same _ (.v _), trivial⟩
      rcases h3 with ⟨h4, h5, h6⟩ | ⟨h4, h5⟩
      · refine sh_app h5 ⟨.same _ (.v _), .same _ (.v _), ?_, .same _ (.v _), .same _ (.v _), .same _ (.v _), trivial⟩
        simp only [newObj, h4, if_true]
        exact sh_ints h6
      · refine sh_app h5 ⟨.same _ (.v _), .same _ (.v _), ?_, .same _ (.v _), .same _ (.v _), .same _ (.v _), trivial⟩
        simp only [newObj, if_neg h4]
        exact .nil 1
/-- An object of pointers, made: the list of objects and its slots are the caller's own. -/
theorem AllocP_own (H : HHeap) (hi : H.In) (cls size : Int) (h0 : allocE H cls 0 size = 0) : Ok Try.prog 11 [.agg (encHeap H), iv cls, iv 0, iv size] (fun x T =>
    x = .tup [.agg [.own 20, iv H.cap, iv (nextI H.last)], iv (2 * H.objs.length), iv 0] ∧
    T = upd (upd noT 21 (.live 3 1 (encInts (List.replicate size.toNat 0)))) 20 (.live 46 6 (encObjs H.objs ++ [encOwn (newObj H cls 0 size) 21]))) :=
  (Alloc_own H hi cls 0 size).fz fun x T h => by
    rcases h with ⟨h1, _⟩ | ⟨h1, rfl, ⟨_, h5, h6⟩ | ⟨h4, _⟩⟩
    · exact absurd h0 h1
    · refine ⟨fun j => if j = 20 then 5 else 3, _, .tup [.agg [.own 20, iv H.cap, iv (nextI H.last)], iv (2 * H.objs.length), iv 0], ⟨rfl, rfl⟩, ⟨fun j e s es' hj => ?_, fun j hj => ?_, fun i j hi hj hij => ?_⟩, ?_⟩
      · simp only [upd, noT] at hj
        by_cases h20 : j = 20
        · subst h20
          simp only [if_true] at hj
          cases hj
          refine ⟨_, h5, by simp, fun q c c' hc hc' => ?_⟩
          rcases app_get hc with ⟨o, h2, rfl⟩ | ⟨rfl, rfl⟩
          · rw [List.getElem?_append_left (by simpa using (List.getElem?_eq_some_iff.1 h2).1), objs_get h2] at hc'
            cases hc'
            exact fzL_all (noOwn_obj o)
          · rw [List.getElem?_append_right (by simp)] at hc'
            simp at hc'
            subst hc'
            exact ⟨fz_v _, fz_v _, fz_own rfl (by simp [upd]), fz_v _, fz_v _, fz_v _, trivial⟩
        · rw [if_neg h20] at hj
          by_cases h21 : j = 21
          · subst h21
            simp only [if_true] at hj
            cases hj
            refine ⟨_, h6, rfl, fun q c c' hc hc' => ?_⟩
            rw [hc] at hc'; cases hc'
            exact fzL_all (noOwn_intsc (List.mem_of_getElem? hc))
          · rw [if_neg h21] at hj; cases hj
      · simp only [upd, noT] at hj
        by_cases h20 : j = 20
        · subst h20; simp [h5]
        · rw [if_neg h20] at hj ⊢
          by_cases h21 : j = 21
          · simp [h6]
          · rw [if_neg h21] at hj; exact absurd rfl hj
      · have key : ∀ k, upd (upd noT 21 (.live 3 1 (encInts (List.replicate size.toNat 0)))) 20 (.live 46 6 (encObjs H.objs ++ [encOwn (newObj H cls 0 size) 21])) k ≠ .no → k = 20 ∨ k = 21 := by
          intro k hk
          by_cases h1 : k = 20
          · exact .inl h1
          · by_cases h2 : k = 21
            · exact .inr h2
            · simp [upd, noT, h1, h2] at hk
        rcases key i hi with rfl | rfl <;> rcases key j hj with rfl | rfl <;> simp at hij ⊢
      · exact fz_tup ⟨fz_agg ⟨fz_own rfl (by simp [upd]), fz_v _, fz_v _, trivial⟩, fz_v _, fz_v _, trivial⟩
    · exact absurd rfl h4
/-- An object of another kind, made: the list of objects is the caller's own. -/
theorem AllocO_own (H : HHeap) (hi : H.In) (cls kind size : Int) (hk : kind ≠ 0) (h0 : allocE H cls kind size = 0) : Ok Try.prog 11 [.agg (encHeap H), iv cls, iv kind, iv size] (fun x T =>
    x = .tup [.agg [.own 20, iv H.cap, iv (nextI H.last)], iv (2 * H.objs.length), iv 0] ∧
    T = upd noT 20 (.live 46 6 (encObjs (H.objs ++ [newObj H cls kind size])))) :=
  (Alloc_own H hi cls kind size).fz fun x T h => by
    rcases h with ⟨h1, _⟩ | ⟨h1, rfl, ⟨h4, _⟩ | ⟨h4, h5⟩⟩
    · exact absurd h0 h1
    · exact absurd h4 hk
    · have key : ∀ k, upd noT 20 (.live 46 6 (encObjs (H.objs ++ [newObj H cls kind size]))) k ≠ .no → k = 20 := by
        intro k hk
        by_cases h1 : k = 20
        · exact h1
        · simp [upd, noT, h1] at hk
      refine ⟨fun j => 5, _, .tup [.agg [.own 20, iv H.cap, iv (nextI H.last)], iv (2 * H.objs.length), iv 0], ⟨rfl, rfl⟩, ⟨fun j e s es' hj => ?_, fun j hj => by simp [h5], fun i j hi hj _ => by rw [key i hi, key j hj]⟩, ?_⟩
      · have := key j (by rw [hj]; simp)
        subst this
        simp only [upd, if_true] at hj
        cases hj
        refine ⟨_, h5, by simp, fun q c c' hc hc' => ?_⟩
        obtain ⟨o', ho, rfl⟩ := objs_inv hc'
        rcases app_get hc with ⟨o, h2, rfl⟩ | ⟨rfl, rfl⟩
        · rw [List.getElem?_append_left (List.getElem?_eq_some_iff.1 h2).1, h2] at ho
          cases ho
          exact fzL_all (noOwn_obj _)
        · simp at ho
          subst ho
          refine ⟨fz_v _, fz_v _, ?_, fz_v _, fz_v _, fz_v _, trivial⟩
          simp only [newObj, if_neg hk]
          exact .nil 1
      · exact fz_tup ⟨fz_agg ⟨fz_own rfl (by simp [upd]), fz_v _, fz_v _, trivial⟩, fz_v _, fz_v _, trivial⟩
end Go.Proofs.Ytafbiccgbgcooaa
