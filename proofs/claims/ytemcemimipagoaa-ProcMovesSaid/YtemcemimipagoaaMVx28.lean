/- What the statements' walks need. -/
import Derived.Test.YtemcemimipagoaaMVa4
import Derived.Test.YtemcemimipagoaaMVx27
set_option linter.unusedVariables false
set_option linter.unusedSimpArgs false
set_option maxRecDepth 100000
namespace Go.Proofs.Ytemcemimipagoaa
open Go Go.Proofs AW
def backXs (l : List Int) : List (List AV) := (List.range l.length).map fun k => [iv ((l.length - 1 - k : Nat) : Int), iv (l.getD (l.length - 1 - k) 0)]
theorem back_get {l : List Int} {k : Nat} (h : k < l.length) : (backXs l)[k]? = some [iv ((l.length - 1 - k : Nat) : Int), iv (l.getD (l.length - 1 - k) 0)] := by simp [backXs, h]
theorem back_ok (l : List Int) : Gives Try.prog 62 [.sl 1 (encInts l)] (.clo 76 [.ip [.sl 1 (encInts l)]]) := by
  refine gives_of Try.func62 rfl (Nat.le_of_ble_eq_true rfl) ?_
  (repeat' (first | refine asg ?_ | refine mf ?_ | refine aops_nil ?_ | refine aw_seq ?_ | refine aw_region ?_ | refine aw_ret ?_ | refine bx 0 ?_ | fail))
  exact fin (x := .clo 76 [.ptr 0 0 0]) (sh_clo ⟨sh_box rfl ⟨.same _ (by simp), trivial⟩, trivial⟩)
theorem in_z {z : List Nat} : ∀ {env : List (Nat × AV)}, (∀ p ∈ env, InZ z p.2) → ∀ t x, AW.get env t = some x → InZ z x
  | [], _, t, x, hx => by cases hx
  | (k, v) :: r, h, t, x, hx => by
    simp only [AW.get] at hx
    split at hx
    · cases hx; exact h _ (.head _)
    · exact in_z (fun q hq => h q (.tail _ hq)) t x hx
theorem iter_of {P : Program} {gf : Nat} {caps : List AV} {L0 : List (Nat × Ob)} {xs : List (List AV)} {fn : Func} {c : Code} (hf : P.funcs[gf]? = some fn) (hb : fn.body = some c) (hr : fn.results = #[]) (hn : caps.length + 1 ≤ fn.ntmps) (hg : goFn P gf = true)
    (h : ∀ yv G, IterI P fn.ntmps xs (L0.map (·.1)) yv G → IW P G c (fun e ph Lc env => (e = .ret ∨ e = .normal) ∧ match ph with | .go k => k = xs.length | .stop _ _ => True) (.go 0) L0 (argEnv 0 (.v yv :: caps))) : IterOk P gf caps L0 xs := by
  refine ⟨fn, c, hf, hb, hr, hn, hg, fun yv G hI a0 W hG => ?_⟩
  refine wpIn_mono (h yv G hI a0 W hG) ?_
  rintro e a2 W2 ⟨ph, Lc, env, ⟨h1, h2⟩, h3⟩
  exact ⟨h1, ph, Lc, env, h3, h2⟩
theorem pieceEnd {n' : Nat} {ph : Ph} {Q : Exit → Ph → List (Nat × Ob) → List (Nat × AV) → Prop} {e : Exit} {s : ASt} {env' : List (Nat × AV)} (hE : Ent (lentN n' [] none) s ⟨env', tb []⟩) (hq : Q e ph [] env') : PieceQ n' [] [] ph Q e s := ⟨env', [], hE, trivial, rfl, rfl, hq⟩
set_option maxHeartbeats 8000000 in
theorem back_iter (l : List Int) (hl : l.length < 1099511627776) : IterOk Try.prog 76 [.ip [.sl 1 (encInts l)]] [] (backXs l) := by
  have hle : (encInts l).length = l.length := len_ints l
  refine iter_of Try.func76 rfl rfl (Nat.le_of_ble_eq_true rfl) rfl fun yv G hI => ?_
  have hz : ∀ {a b c : AV} {i j k : Nat}, NoOwn a → NoOwn b → NoOwn c → ∀ p ∈ ([(i, a), (j, b), (k, c)] : List (Nat × AV)), InZ [] p.2 := by
    intro a b c i j k h1 h2 h3 p hp
    simp only [List.mem_cons, List.not_mem_nil, or_false] at hp
    rcases hp with rfl | rfl | rfl
    · exact .no _ h1
    · exact .no _ h2
    · exact .no _ h3
  have hip : NoOwn (AV.ip [.sl 1 (encInts l)]) := by simp
  refine iw_seq (iw_piece hI trivial (in_z ?_) ?_)
  · intro p hp
    simp only [argEnv, List.mem_cons, List.not_mem_nil, or_false] at hp
    rcases hp with rfl | rfl
    · exact .no _ (.v _)
    · exact .no _ hip
  (repeat' (first | refine asg ?_ | refine ld ?_ | refine bw ?_ | refine ln ?_ | refine aops_nil ?_ | refine aw_region ?_ | fail))
  refine pieceEnd (env' := [(3, iv ((l.length : Int) - 1)), (0, .v yv), (1, .ip [.sl 1 (encInts l)])]) (ent_env ⟨?_, rfl, rfl, trivial⟩) ?_
  · exact congrArg (fun n : Nat => some (iv ((n : Int) - 1))) hle
  refine iw_block (iw_loop l.length (fun k => (.go k, [], [(3, iv ((l.length : Int) - 1 - k)), (0, .v yv), (1, .ip [.sl 1 (encInts l)])])) hI ?_ ⟨rfl, rfl, ?_, rfl, rfl, trivial⟩)
  rotate_left
  · simp [AW.get]
  intro k hk
  refine iw_seq (iw_seq (iw_piece hI trivial (in_z (hz (.v _) (.v _) hip)) ?_))
  by_cases h : k < l.length
  · (repeat' (first | refine mv ?_ | refine bt ?_ | refine aops_nil ?_ | refine aw_region ?_ | fail))
    refine pieceEnd (env' := [(8, bv true), (3, iv ((l.length : Int) - 1 - k)), (0, .v yv), (1, .ip [.sl 1 (encInts l)])]) (ent_env ⟨rfl, rfl, rfl, rfl, trivial⟩) ?_
    refine iw_cond hI (b := true) rfl (iw_skip ?_)
    refine iw_seq (iw_block (iw_seq (iw_region ?_)))
    have g1 : (encInts l)[l.length - 1 - k]? = some [iv (l.getD (l.length - 1 - k) 0)] := ints_get (by rw [List.getD_eq_getElem?_getD, List.getElem?_eq_getElem (by omega)]; rfl)
    show IOps _ G _ _ ([0, 1, 2, 3, 4, 5] ++ [6, 7]) _ _ _
    refine io_plain hI trivial (in_z ?_) rfl ?_
    · intro p hp
      rcases List.mem_cons.1 hp with rfl | hp
      · exact .no _ (.v _)
      · exact hz (.v _) (.v _) hip p hp
    (repeat' (first | refine mv ?_ | refine ld ?_ | refine aops_nil ?_ | refine ia (l.length - 1 - k) g1 ?_ (hn := by omega) | fail))
    refine pieceEnd (env' := [(16, iv (l.getD (l.length - 1 - k) 0)), (12, iv ((l.length - 1 - k : Nat) : Int)), (11, .v yv), (3, iv ((l.length : Int) - 1 - k)), (0, .v yv), (1, .ip [.sl 1 (encInts l)])]) (ent_env ⟨rfl, ?_, rfl, rfl, rfl, rfl, trivial⟩) ?_
    · exact congrArg (fun n : Int => some (iv n)) (by omega)
    have hz6 : ∀ (b : Bool), ∀ p ∈ ([(17, bv b), (16, iv (l.getD (l.length - 1 - k) 0)), (12, iv ((l.length - 1 - k : Nat) : Int)), (11, .v yv), (3, iv ((l.length : Int) - 1 - k)), (0, .v yv), (1, .ip [.sl 1 (encInts l)])] : List (Nat × AV)), InZ [] p.2 := by
      intro b p hp
      simp only [List.mem_cons, List.not_mem_nil, or_false] at hp
      rcases hp with rfl | rfl | rfl | rfl | rfl | rfl | rfl
      all_goals first | exact .no _ (.v _) | exact .no _ hip
    refine io_yield hI rfl (back_get h) ?_ (fun c L => ?_)
    · show IOps _ G _ _ ([7] ++ []) _ _ _
      refine io_plain hI trivial (in_z (hz6 true)) rfl ?_
      (repeat' (first | refine un ?_ | refine aops_nil ?_ | fail))
      refine pieceEnd (env' := [(18, bv false), (3, iv ((l.length : Int) - 1 - k)), (0, .v yv), (1, .ip [.sl 1 (encInts l)])]) (ent_env ⟨rfl, rfl, rfl, rfl, trivial⟩) (io_nil ?_)
      refine iw_cond hI (b := false) rfl (iw_skip ?_)
      refine iw_piece hI trivial (in_z ?_) ?_
      · intro p hp
        rcases List.mem_cons.1 hp with rfl | hp
        · exact .no _ (.v _)
        · exact hz (.v _) (.v _) hip p hp
      (repeat' (first | refine mv ?_ | refine asg ?_ | refine bw ?_ | refine aops_nil ?_ | refine aw_region ?_ | fail))
      refine pieceEnd (env' := [(3, iv ((l.length : Int) - 1 - ((k + 1 : Nat) : Int))), (0, .v yv), (1, .ip [.sl 1 (encInts l)])]) (ent_env ⟨?_, rfl, rfl, trivial⟩) ⟨h, rfl, rfl, rfl, rfl, rfl, trivial⟩
      exact congrArg (fun n : Int => some (iv n)) (by omega)
    · show IOps _ G _ _ ([7] ++ []) _ _ _
      refine io_plain hI trivial (in_z (hz6 false)) rfl ?_
      (repeat' (first | refine un ?_ | refine aops_nil ?_ | fail))
      refine pieceEnd (env' := [(18, bv true)]) (ent_env ⟨rfl, trivial⟩) (io_nil ?_)
      refine iw_cond hI (b := true) rfl (iw_ret ?_)
      exact ⟨.inl rfl, trivial⟩
  · (repeat' (first | refine mv ?_ | refine bf ?_ | refine aops_nil ?_ | refine aw_region ?_ | fail))
    refine pieceEnd (env' := [(8, bv false), (3, iv ((l.length : Int) - 1 - k)), (0, .v yv), (1, .ip [.sl 1 (encInts l)])]) (ent_env ⟨rfl, rfl, rfl, rfl, trivial⟩) ?_
    refine iw_cond hI (b := false) rfl (iw_exit ?_)
    have hkl : k = l.length := by omega
    exact ⟨.inr rfl, by simp [backXs, hkl]⟩
end Go.Proofs.Ytemcemimipagoaa
