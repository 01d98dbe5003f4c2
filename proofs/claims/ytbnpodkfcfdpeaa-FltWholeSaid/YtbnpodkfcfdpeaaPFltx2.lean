-- laid by a program of this session (gprint.py)
import Derived.Test.YtbnpodkfcfdpeaaPFltx0
import Derived.Test.YtbnpodkfcfdpeaaPFltx1
namespace Go.Proofs.Ytbnpodkfcfdpeaa.PFlt
open Go.RowKit Go.Proofs.YtbnpodkfcfdpeaaW.PrintWords Go.Proofs.YtbnpodkfcfdpeaaW.PrintLast Go.Proofs.YtbnpodkfcfdpeaaW.PrintMore
attribute [local go_sem] max2_int min2_int max_two min_two max_three min_three max_four min_four   -- for this text's walks alone
set_option linter.unusedVariables false
set_option linter.unusedSimpArgs false

/-! ### anamnesislaw02_fixedq: function 11 -/
def anamnesislaw02_fixedq.f (k : Nat)  : Option (Bool) := (flt_Of.f 1).bind fun t101 => ((flt_Of.f 2).bind fun t102 => ((flt_Of.f (-7)).bind fun t103 => ((flt_Op.f 3 t103 t102).bind fun t104 => ((flt_Trunc.f t104).bind fun bt105 => ((flt_Trunc.f 9218868437227405312).bind fun bt107 => (if t101 = 4607182418800017408 then ((flt_Op.f 0 t101 t101).bind fun t109 => (if t109 = t102 then ((flt_Op.f 1 t101 t101).bind fun t110 => (if t110 = 0 then ((flt_Op.f 3 t101 (-9223372036854775808)).bind fun t111 => (if t111 = (-4503599627370496) then ((flt_Op.f 3 0 0).bind fun t112 => ((anamnesisref02_NaN.f).bind fun t113 => (if t112 = t113 then ((flt_Op.f 2 9218868437227405312 (-9223372036854775808)).bind fun t114 => (if t114 = t113 then ((flt_Op.f 0 (-9223372036854775808) (-9223372036854775808)).bind fun t115 => (if t115 = (-9223372036854775808) then ((flt_Op.f 0 (-9223372036854775808) 0).bind fun t116 => (if t116 = 0 then ((flt_Equal.f (-9223372036854775808) 0).bind fun t117 => (if t117 = true then ((flt_Less.f (-9223372036854775808) 0).bind fun t118 => (if t118 = true then (some false) else ((flt_Equal.f t113 t113).bind fun t119 => (if t119 = true then (some false) else ((flt_Less.f t101 t102).bind fun t120 => (if t120 = true then (if bt105.1 = (-3) then (if bt105.2 = true then (if bt107.2 = true then (some false) else ((flt_Kind.f 1).bind fun t121 => (if t121 = 3 then ((flt_Kind.f t113).bind fun t122 => (if t122 = 0 then ((flt_Canon.f 9218868437227405317).bind fun t123 => (if t123 = t113 then ((flt_Text.f k t101).bind fun t124 => (if t124.toList = ([51, 102, 102, 48, 48, 48, 48, 48, 48, 48, 48, 48, 48, 48, 48, 48] : List UInt8) then ((flt_Of.f 9007199254740993).bind fun t125 => (some (t125 == t113))) else (some false))) else (some false))) else (some false))) else (some false)))) else (some false)) else (some false)) else (some false))))))) else (some false))) else (some false))) else (some false))) else (some false))) else (some false)))) else (some false))) else (some false))) else (some false))) else (some false)))))))
theorem anamnesislaw02_fixedq.mono : ∀ k, LeO (anamnesislaw02_fixedq.f k ) (anamnesislaw02_fixedq.f (k + 1) ) := by
  intro  k
  unfold anamnesislaw02_fixedq.f
  repeat' first
      | (with_reducible exact flt_Text.mono _ _)
      | (with_reducible exact LeO.refl _)
      | (with_reducible exact LeO.none _)
      | (with_reducible refine LeO.ite ?_ ?_)
      | (with_reducible refine LeO.bind ?_ (fun _ => ?_))
      | exact flt_Text.mono _ _
      | exact LeO.none _
      | refine LeO.ite ?_ ?_
      | refine LeO.bind ?_ (fun _ => ?_)
set_option maxHeartbeats 8000000 in
set_option maxRecDepth 100000 in
theorem anamnesislaw02_fixedq.calls (k : Nat)  (r : Bool) (w : World) (h : anamnesislaw02_fixedq.f k  = some r) (hr : r = true) :
    Calls Try.prog 11 #[] w fun e w' => e = .returned (.bool r) ∧ Below w.heap.size w w' := by
  have hr_ := Aside0.mk hr
  clear hr
  have HB := Aside0.mk (Below.refl w.heap.size w)
  have H : ((flt_Of.f 1).bind fun t101 => ((flt_Of.f 2).bind fun t102 => ((flt_Of.f (-7)).bind fun t103 => ((flt_Op.f 3 t103 t102).bind fun t104 => ((flt_Trunc.f t104).bind fun bt105 => ((flt_Trunc.f 9218868437227405312).bind fun bt107 => (if t101 = 4607182418800017408 then ((flt_Op.f 0 t101 t101).bind fun t109 => (if t109 = t102 then ((flt_Op.f 1 t101 t101).bind fun t110 => (if t110 = 0 then ((flt_Op.f 3 t101 (-9223372036854775808)).bind fun t111 => (if t111 = (-4503599627370496) then ((flt_Op.f 3 0 0).bind fun t112 => ((anamnesisref02_NaN.f).bind fun t113 => (if t112 = t113 then ((flt_Op.f 2 9218868437227405312 (-9223372036854775808)).bind fun t114 => (if t114 = t113 then ((flt_Op.f 0 (-9223372036854775808) (-9223372036854775808)).bind fun t115 => (if t115 = (-9223372036854775808) then ((flt_Op.f 0 (-9223372036854775808) 0).bind fun t116 => (if t116 = 0 then ((flt_Equal.f (-9223372036854775808) 0).bind fun t117 => (if t117 = true then ((flt_Less.f (-9223372036854775808) 0).bind fun t118 => (if t118 = true then (some false) else ((flt_Equal.f t113 t113).bind fun t119 => (if t119 = true then (some false) else ((flt_Less.f t101 t102).bind fun t120 => (if t120 = true then (if bt105.1 = (-3) then (if bt105.2 = true then (if bt107.2 = true then (some false) else ((flt_Kind.f 1).bind fun t121 => (if t121 = 3 then ((flt_Kind.f t113).bind fun t122 => (if t122 = 0 then ((flt_Canon.f 9218868437227405317).bind fun t123 => (if t123 = t113 then ((flt_Text.f k t101).bind fun t124 => (if t124.toList = ([51, 102, 102, 48, 48, 48, 48, 48, 48, 48, 48, 48, 48, 48, 48, 48] : List UInt8) then ((flt_Of.f 9007199254740993).bind fun t125 => (some (t125 == t113))) else (some false))) else (some false))) else (some false))) else (some false)))) else (some false)) else (some false)) else (some false))))))) else (some false))) else (some false))) else (some false))) else (some false))) else (some false)))) else (some false))) else (some false))) else (some false))) else (some false)))))))) = some r := h
  clear h
  replace H := Option.bind_eq_some_iff.mp H
  obtain ⟨t101, A10, H⟩ := H
  replace H : ((flt_Of.f 2).bind fun t102 => ((flt_Of.f (-7)).bind fun t103 => ((flt_Op.f 3 t103 t102).bind fun t104 => ((flt_Trunc.f t104).bind fun bt105 => ((flt_Trunc.f 9218868437227405312).bind fun bt107 => (if t101 = 4607182418800017408 then ((flt_Op.f 0 t101 t101).bind fun t109 => (if t109 = t102 then ((flt_Op.f 1 t101 t101).bind fun t110 => (if t110 = 0 then ((flt_Op.f 3 t101 (-9223372036854775808)).bind fun t111 => (if t111 = (-4503599627370496) then ((flt_Op.f 3 0 0).bind fun t112 => ((anamnesisref02_NaN.f).bind fun t113 => (if t112 = t113 then ((flt_Op.f 2 9218868437227405312 (-9223372036854775808)).bind fun t114 => (if t114 = t113 then ((flt_Op.f 0 (-9223372036854775808) (-9223372036854775808)).bind fun t115 => (if t115 = (-9223372036854775808) then ((flt_Op.f 0 (-9223372036854775808) 0).bind fun t116 => (if t116 = 0 then ((flt_Equal.f (-9223372036854775808) 0).bind fun t117 => (if t117 = true then ((flt_Less.f (-9223372036854775808) 0).bind fun t118 => (if t118 = true then (some false) else ((flt_Equal.f t113 t113).bind fun t119 => (if t119 = true then (some false) else ((flt_Less.f t101 t102).bind fun t120 => (if t120 = true then (if bt105.1 = (-3) then (if bt105.2 = true then (if bt107.2 = true then (some false) else ((flt_Kind.f 1).bind fun t121 => (if t121 = 3 then ((flt_Kind.f t113).bind fun t122 => (if t122 = 0 then ((flt_Canon.f 9218868437227405317).bind fun t123 => (if t123 = t113 then ((flt_Text.f k t101).bind fun t124 => (if t124.toList = ([51, 102, 102, 48, 48, 48, 48, 48, 48, 48, 48, 48, 48, 48, 48, 48] : List UInt8) then ((flt_Of.f 9007199254740993).bind fun t125 => (some (t125 == t113))) else (some false))) else (some false))) else (some false))) else (some false)))) else (some false)) else (some false)) else (some false))))))) else (some false))) else (some false))) else (some false))) else (some false))) else (some false)))) else (some false))) else (some false))) else (some false))) else (some false))))))) = some r := H
  have A1 := Aside0.mk A10
  clear A10
  replace H := Option.bind_eq_some_iff.mp H
  obtain ⟨t102, A20, H⟩ := H
  replace H : ((flt_Of.f (-7)).bind fun t103 => ((flt_Op.f 3 t103 t102).bind fun t104 => ((flt_Trunc.f t104).bind fun bt105 => ((flt_Trunc.f 9218868437227405312).bind fun bt107 => (if t101 = 4607182418800017408 then ((flt_Op.f 0 t101 t101).bind fun t109 => (if t109 = t102 then ((flt_Op.f 1 t101 t101).bind fun t110 => (if t110 = 0 then ((flt_Op.f 3 t101 (-9223372036854775808)).bind fun t111 => (if t111 = (-4503599627370496) then ((flt_Op.f 3 0 0).bind fun t112 => ((anamnesisref02_NaN.f).bind fun t113 => (if t112 = t113 then ((flt_Op.f 2 9218868437227405312 (-9223372036854775808)).bind fun t114 => (if t114 = t113 then ((flt_Op.f 0 (-9223372036854775808) (-9223372036854775808)).bind fun t115 => (if t115 = (-9223372036854775808) then ((flt_Op.f 0 (-9223372036854775808) 0).bind fun t116 => (if t116 = 0 then ((flt_Equal.f (-9223372036854775808) 0).bind fun t117 => (if t117 = true then ((flt_Less.f (-9223372036854775808) 0).bind fun t118 => (if t118 = true then (some false) else ((flt_Equal.f t113 t113).bind fun t119 => (if t119 = true then (some false) else ((flt_Less.f t101 t102).bind fun t120 => (if t120 = true then (if bt105.1 = (-3) then (if bt105.2 = true then (if bt107.2 = true then (some false) else ((flt_Kind.f 1).bind fun t121 => (if t121 = 3 then ((flt_Kind.f t113).bind fun t122 => (if t122 = 0 then ((flt_Canon.f 9218868437227405317).bind fun t123 => (if t123 = t113 then ((flt_Text.f k t101).bind fun t124 => (if t124.toList = ([51, 102, 102, 48, 48, 48, 48, 48, 48, 48, 48, 48, 48, 48, 48, 48] : List UInt8) then ((flt_Of.f 9007199254740993).bind fun t125 => (some (t125 == t113))) else (some false))) else (some false))) else (some false))) else (some false)))) else (some false)) else (some false)) else (some false))))))) else (some false))) else (some false))) else (some false))) else (some false))) else (some false)))) else (some false))) else (some false))) else (some false))) else (some false)))))) = some r := H
  have A2 := Aside0.mk A20
  clear A20
  replace H := Option.bind_eq_some_iff.mp H
  obtain ⟨t103, A30, H⟩ := H
  replace H : ((flt_Op.f 3 t103 t102).bind fun t104 => ((flt_Trunc.f t104).bind fun bt105 => ((flt_Trunc.f 9218868437227405312).bind fun bt107 => (if t101 = 4607182418800017408 then ((flt_Op.f 0 t101 t101).bind fun t109 => (if t109 = t102 then ((flt_Op.f 1 t101 t101).bind fun t110 => (if t110 = 0 then ((flt_Op.f 3 t101 (-9223372036854775808)).bind fun t111 => (if t111 = (-4503599627370496) then ((flt_Op.f 3 0 0).bind fun t112 => ((anamnesisref02_NaN.f).bind fun t113 => (if t112 = t113 then ((flt_Op.f 2 9218868437227405312 (-9223372036854775808)).bind fun t114 => (if t114 = t113 then ((flt_Op.f 0 (-9223372036854775808) (-9223372036854775808)).bind fun t115 => (if t115 = (-9223372036854775808) then ((flt_Op.f 0 (-9223372036854775808) 0).bind fun t116 => (if t116 = 0 then ((flt_Equal.f (-9223372036854775808) 0).bind fun t117 => (if t117 = true then ((flt_Less.f (-9223372036854775808) 0).bind fun t118 => (if t118 = true then (some false) else ((flt_Equal.f t113 t113).bind fun t119 => (if t119 = true then (some false) else ((flt_Less.f t101 t102).bind fun t120 => (if t120 = true then (if bt105.1 = (-3) then (if bt105.2 = true then (if bt107.2 = true then (some false) else ((flt_Kind.f 1).bind fun t121 => (if t121 = 3 then ((flt_Kind.f t113).bind fun t122 => (if t122 = 0 then ((flt_Canon.f 9218868437227405317).bind fun t123 => (if t123 = t113 then ((flt_Text.f k t101).bind fun t124 => (if t124.toList = ([51, 102, 102, 48, 48, 48, 48, 48, 48, 48, 48, 48, 48, 48, 48, 48] : List UInt8) then ((flt_Of.f 9007199254740993).bind fun t125 => (some (t125 == t113))) else (some false))) else (some false))) else (some false))) else (some false)))) else (some false)) else (some false)) else (some false))))))) else (some false))) else (some false))) else (some false))) else (some false))) else (some false)))) else (some false))) else (some false))) else (some false))) else (some false))))) = some r := H
  have A3 := Aside0.mk A30
  clear A30
  replace H := Option.bind_eq_some_iff.mp H
  obtain ⟨t104, A40, H⟩ := H
  replace H : ((flt_Trunc.f t104).bind fun bt105 => ((flt_Trunc.f 9218868437227405312).bind fun bt107 => (if t101 = 4607182418800017408 then ((flt_Op.f 0 t101 t101).bind fun t109 => (if t109 = t102 then ((flt_Op.f 1 t101 t101).bind fun t110 => (if t110 = 0 then ((flt_Op.f 3 t101 (-9223372036854775808)).bind fun t111 => (if t111 = (-4503599627370496) then ((flt_Op.f 3 0 0).bind fun t112 => ((anamnesisref02_NaN.f).bind fun t113 => (if t112 = t113 then ((flt_Op.f 2 9218868437227405312 (-9223372036854775808)).bind fun t114 => (if t114 = t113 then ((flt_Op.f 0 (-9223372036854775808) (-9223372036854775808)).bind fun t115 => (if t115 = (-9223372036854775808) then ((flt_Op.f 0 (-9223372036854775808) 0).bind fun t116 => (if t116 = 0 then ((flt_Equal.f (-9223372036854775808) 0).bind fun t117 => (if t117 = true then ((flt_Less.f (-9223372036854775808) 0).bind fun t118 => (if t118 = true then (some false) else ((flt_Equal.f t113 t113).bind fun t119 => (if t119 = true then (some false) else ((flt_Less.f t101 t102).bind fun t120 => (if t120 = true then (if bt105.1 = (-3) then (if bt105.2 = true then (if bt107.2 = true then (some false) else ((flt_Kind.f 1).bind fun t121 => (if t121 = 3 then ((flt_Kind.f t113).bind fun t122 => (if t122 = 0 then ((flt_Canon.f 9218868437227405317).bind fun t123 => (if t123 = t113 then ((flt_Text.f k t101).bind fun t124 => (if t124.toList = ([51, 102, 102, 48, 48, 48, 48, 48, 48, 48, 48, 48, 48, 48, 48, 48] : List UInt8) then ((flt_Of.f 9007199254740993).bind fun t125 => (some (t125 == t113))) else (some false))) else (some false))) else (some false))) else (some false)))) else (some false)) else (some false)) else (some false))))))) else (some false))) else (some false))) else (some false))) else (some false))) else (some false)))) else (some false))) else (some false))) else (some false))) else (some false)))) = some r := H
  have A4 := Aside0.mk A40
  clear A40
  replace H := Option.bind_eq_some_iff.mp H
  obtain ⟨⟨t105, t106⟩, A50, H⟩ := H
  replace H : ((flt_Trunc.f 9218868437227405312).bind fun bt107 => (if t101 = 4607182418800017408 then ((flt_Op.f 0 t101 t101).bind fun t109 => (if t109 = t102 then ((flt_Op.f 1 t101 t101).bind fun t110 => (if t110 = 0 then ((flt_Op.f 3 t101 (-9223372036854775808)).bind fun t111 => (if t111 = (-4503599627370496) then ((flt_Op.f 3 0 0).bind fun t112 => ((anamnesisref02_NaN.f).bind fun t113 => (if t112 = t113 then ((flt_Op.f 2 9218868437227405312 (-9223372036854775808)).bind fun t114 => (if t114 = t113 then ((flt_Op.f 0 (-9223372036854775808) (-9223372036854775808)).bind fun t115 => (if t115 = (-9223372036854775808) then ((flt_Op.f 0 (-9223372036854775808) 0).bind fun t116 => (if t116 = 0 then ((flt_Equal.f (-9223372036854775808) 0).bind fun t117 => (if t117 = true then ((flt_Less.f (-9223372036854775808) 0).bind fun t118 => (if t118 = true then (some false) else ((flt_Equal.f t113 t113).bind fun t119 => (if t119 = true then (some false) else ((flt_Less.f t101 t102).bind fun t120 => (if t120 = true then (if t105 = (-3) then (if t106 = true then (if bt107.2 = true then (some false) else ((flt_Kind.f 1).bind fun t121 => (if t121 = 3 then ((flt_Kind.f t113).bind fun t122 => (if t122 = 0 then ((flt_Canon.f 9218868437227405317).bind fun t123 => (if t123 = t113 then ((flt_Text.f k t101).bind fun t124 => (if t124.toList = ([51, 102, 102, 48, 48, 48, 48, 48, 48, 48, 48, 48, 48, 48, 48, 48] : List UInt8) then ((flt_Of.f 9007199254740993).bind fun t125 => (some (t125 == t113))) else (some false))) else (some false))) else (some false))) else (some false)))) else (some false)) else (some false)) else (some false))))))) else (some false))) else (some false))) else (some false))) else (some false))) else (some false)))) else (some false))) else (some false))) else (some false))) else (some false))) = some r := H
  have A5 := Aside0.mk A50
  clear A50
  replace H := Option.bind_eq_some_iff.mp H
  obtain ⟨⟨t107, t108⟩, A60, H⟩ := H
  replace H : (if t101 = 4607182418800017408 then ((flt_Op.f 0 t101 t101).bind fun t109 => (if t109 = t102 then ((flt_Op.f 1 t101 t101).bind fun t110 => (if t110 = 0 then ((flt_Op.f 3 t101 (-9223372036854775808)).bind fun t111 => (if t111 = (-4503599627370496) then ((flt_Op.f 3 0 0).bind fun t112 => ((anamnesisref02_NaN.f).bind fun t113 => (if t112 = t113 then ((flt_Op.f 2 9218868437227405312 (-9223372036854775808)).bind fun t114 => (if t114 = t113 then ((flt_Op.f 0 (-9223372036854775808) (-9223372036854775808)).bind fun t115 => (if t115 = (-9223372036854775808) then ((flt_Op.f 0 (-9223372036854775808) 0).bind fun t116 => (if t116 = 0 then ((flt_Equal.f (-9223372036854775808) 0).bind fun t117 => (if t117 = true then ((flt_Less.f (-9223372036854775808) 0).bind fun t118 => (if t118 = true then (some false) else ((flt_Equal.f t113 t113).bind fun t119 => (if t119 = true then (some false) else ((flt_Less.f t101 t102).bind fun t120 => (if t120 = true then (if t105 = (-3) then (if t106 = true then (if t108 = true then (some false) else ((flt_Kind.f 1).bind fun t121 => (if t121 = 3 then ((flt_Kind.f t113).bind fun t122 => (if t122 = 0 then ((flt_Canon.f 9218868437227405317).bind fun t123 => (if t123 = t113 then ((flt_Text.f k t101).bind fun t124 => (if t124.toList = ([51, 102, 102, 48, 48, 48, 48, 48, 48, 48, 48, 48, 48, 48, 48, 48] : List UInt8) then ((flt_Of.f 9007199254740993).bind fun t125 => (some (t125 == t113))) else (some false))) else (some false))) else (some false))) else (some false)))) else (some false)) else (some false)) else (some false))))))) else (some false))) else (some false))) else (some false))) else (some false))) else (some false)))) else (some false))) else (some false))) else (some false))) else (some false)) = some r := H
  have A6 := Aside0.mk A60
  clear A60
  by_cases c7 : t101 = 4607182418800017408
  · rw [if_pos c7] at H
    have c7b0 : (t101 == 4607182418800017408) = true := beq_iff_eq.mpr c7
    have c7b1 : (t101 != 4607182418800017408) = false := bne_eq_false_iff_eq.mpr c7
    clear c7
    replace H := Option.bind_eq_some_iff.mp H
    obtain ⟨t109, A80, H⟩ := H
    replace H : (if t109 = t102 then ((flt_Op.f 1 t101 t101).bind fun t110 => (if t110 = 0 then ((flt_Op.f 3 t101 (-9223372036854775808)).bind fun t111 => (if t111 = (-4503599627370496) then ((flt_Op.f 3 0 0).bind fun t112 => ((anamnesisref02_NaN.f).bind fun t113 => (if t112 = t113 then ((flt_Op.f 2 9218868437227405312 (-9223372036854775808)).bind fun t114 => (if t114 = t113 then ((flt_Op.f 0 (-9223372036854775808) (-9223372036854775808)).bind fun t115 => (if t115 = (-9223372036854775808) then ((flt_Op.f 0 (-9223372036854775808) 0).bind fun t116 => (if t116 = 0 then ((flt_Equal.f (-9223372036854775808) 0).bind fun t117 => (if t117 = true then ((flt_Less.f (-9223372036854775808) 0).bind fun t118 => (if t118 = true then (some false) else ((flt_Equal.f t113 t113).bind fun t119 => (if t119 = true then (some false) else ((flt_Less.f t101 t102).bind fun t120 => (if t120 = true then (if t105 = (-3) then (if t106 = true then (if t108 = true then (some false) else ((flt_Kind.f 1).bind fun t121 => (if t121 = 3 then ((flt_Kind.f t113).bind fun t122 => (if t122 = 0 then ((flt_Canon.f 9218868437227405317).bind fun t123 => (if t123 = t113 then ((flt_Text.f k t101).bind fun t124 => (if t124.toList = ([51, 102, 102, 48, 48, 48, 48, 48, 48, 48, 48, 48, 48, 48, 48, 48] : List UInt8) then ((flt_Of.f 9007199254740993).bind fun t125 => (some (t125 == t113))) else (some false))) else (some false))) else (some false))) else (some false)))) else (some false)) else (some false)) else (some false))))))) else (some false))) else (some false))) else (some false))) else (some false))) else (some false)))) else (some false))) else (some false))) else (some false)) = some r := H
    have A8 := Aside0.mk A80
    clear A80
    by_cases c9 : t109 = t102
    · rw [if_pos c9] at H
      have c9b0 : (t109 == t102) = true := beq_iff_eq.mpr c9
      have c9b1 : (t109 != t102) = false := bne_eq_false_iff_eq.mpr c9
      clear c9
      replace H := Option.bind_eq_some_iff.mp H
      obtain ⟨t110, A100, H⟩ := H
      replace H : (if t110 = 0 then ((flt_Op.f 3 t101 (-9223372036854775808)).bind fun t111 => (if t111 = (-4503599627370496) then ((flt_Op.f 3 0 0).bind fun t112 => ((anamnesisref02_NaN.f).bind fun t113 => (if t112 = t113 then ((flt_Op.f 2 9218868437227405312 (-9223372036854775808)).bind fun t114 => (if t114 = t113 then ((flt_Op.f 0 (-9223372036854775808) (-9223372036854775808)).bind fun t115 => (if t115 = (-9223372036854775808) then ((flt_Op.f 0 (-9223372036854775808) 0).bind fun t116 => (if t116 = 0 then ((flt_Equal.f (-9223372036854775808) 0).bind fun t117 => (if t117 = true then ((flt_Less.f (-9223372036854775808) 0).bind fun t118 => (if t118 = true then (some false) else ((flt_Equal.f t113 t113).bind fun t119 => (if t119 = true then (some false) else ((flt_Less.f t101 t102).bind fun t120 => (if t120 = true then (if t105 = (-3) then (if t106 = true then (if t108 = true then (some false) else ((flt_Kind.f 1).bind fun t121 => (if t121 = 3 then ((flt_Kind.f t113).bind fun t122 => (if t122 = 0 then ((flt_Canon.f 9218868437227405317).bind fun t123 => (if t123 = t113 then ((flt_Text.f k t101).bind fun t124 => (if t124.toList = ([51, 102, 102, 48, 48, 48, 48, 48, 48, 48, 48, 48, 48, 48, 48, 48] : List UInt8) then ((flt_Of.f 9007199254740993).bind fun t125 => (some (t125 == t113))) else (some false))) else (some false))) else (some false))) else (some false)))) else (some false)) else (some false)) else (some false))))))) else (some false))) else (some false))) else (some false))) else (some false))) else (some false)))) else (some false))) else (some false)) = some r := H
      have A10 := Aside0.mk A100
      clear A100
      by_cases c11 : t110 = 0
      · rw [if_pos c11] at H
        have c11b0 : (t110 == 0) = true := beq_iff_eq.mpr c11
        have c11b1 : (t110 != 0) = false := bne_eq_false_iff_eq.mpr c11
        clear c11
        replace H := Option.bind_eq_some_iff.mp H
        obtain ⟨t111, A120, H⟩ := H
        replace H : (if t111 = (-4503599627370496) then ((flt_Op.f 3 0 0).bind fun t112 => ((anamnesisref02_NaN.f).bind fun t113 => (if t112 = t113 then ((flt_Op.f 2 9218868437227405312 (-9223372036854775808)).bind fun t114 => (if t114 = t113 then ((flt_Op.f 0 (-9223372036854775808) (-9223372036854775808)).bind fun t115 => (if t115 = (-9223372036854775808) then ((flt_Op.f 0 (-9223372036854775808) 0).bind fun t116 => (if t116 = 0 then ((flt_Equal.f (-9223372036854775808) 0).bind fun t117 => (if t117 = true then ((flt_Less.f (-9223372036854775808) 0).bind fun t118 => (if t118 = true then (some false) else ((flt_Equal.f t113 t113).bind fun t119 => (if t119 = true then (some false) else ((flt_Less.f t101 t102).bind fun t120 => (if t120 = true then (if t105 = (-3) then (if t106 = true then (if t108 = true then (some false) else ((flt_Kind.f 1).bind fun t121 => (if t121 = 3 then ((flt_Kind.f t113).bind fun t122 => (if t122 = 0 then ((flt_Canon.f 9218868437227405317).bind fun t123 => (if t123 = t113 then ((flt_Text.f k t101).bind fun t124 => (if t124.toList = ([51, 102, 102, 48, 48, 48, 48, 48, 48, 48, 48, 48, 48, 48, 48, 48] : List UInt8) then ((flt_Of.f 9007199254740993).bind fun t125 => (some (t125 == t113))) else (some false))) else (some false))) else (some false))) else (some false)))) else (some false)) else (some false)) else (some false))))))) else (some false))) else (some false))) else (some false))) else (some false))) else (some false)))) else (some false)) = some r := H
        have A12 := Aside0.mk A120
        clear A120
        by_cases c13 : t111 = (-4503599627370496)
        · rw [if_pos c13] at H
          have c13b0 : (t111 == (-4503599627370496)) = true := beq_iff_eq.mpr c13
          have c13b1 : (t111 != (-4503599627370496)) = false := bne_eq_false_iff_eq.mpr c13
          clear c13
          replace H := Option.bind_eq_some_iff.mp H
          obtain ⟨t112, A140, H⟩ := H
          replace H : ((anamnesisref02_NaN.f).bind fun t113 => (if t112 = t113 then ((flt_Op.f 2 9218868437227405312 (-9223372036854775808)).bind fun t114 => (if t114 = t113 then ((flt_Op.f 0 (-9223372036854775808) (-9223372036854775808)).bind fun t115 => (if t115 = (-9223372036854775808) then ((flt_Op.f 0 (-9223372036854775808) 0).bind fun t116 => (if t116 = 0 then ((flt_Equal.f (-9223372036854775808) 0).bind fun t117 => (if t117 = true then ((flt_Less.f (-9223372036854775808) 0).bind fun t118 => (if t118 = true then (some false) else ((flt_Equal.f t113 t113).bind fun t119 => (if t119 = true then (some false) else ((flt_Less.f t101 t102).bind fun t120 => (if t120 = true then (if t105 = (-3) then (if t106 = true then (if t108 = true then (some false) else ((flt_Kind.f 1).bind fun t121 => (if t121 = 3 then ((flt_Kind.f t113).bind fun t122 => (if t122 = 0 then ((flt_Canon.f 9218868437227405317).bind fun t123 => (if t123 = t113 then ((flt_Text.f k t101).bind fun t124 => (if t124.toList = ([51, 102, 102, 48, 48, 48, 48, 48, 48, 48, 48, 48, 48, 48, 48, 48] : List UInt8) then ((flt_Of.f 9007199254740993).bind fun t125 => (some (t125 == t113))) else (some false))) else (some false))) else (some false))) else (some false)))) else (some false)) else (some false)) else (some false))))))) else (some false))) else (some false))) else (some false))) else (some false))) else (some false))) = some r := H
          have A14 := Aside0.mk A140
          clear A140
          replace H := Option.bind_eq_some_iff.mp H
          obtain ⟨t113, A150, H⟩ := H
          replace H : (if t112 = t113 then ((flt_Op.f 2 9218868437227405312 (-9223372036854775808)).bind fun t114 => (if t114 = t113 then ((flt_Op.f 0 (-9223372036854775808) (-9223372036854775808)).bind fun t115 => (if t115 = (-9223372036854775808) then ((flt_Op.f 0 (-9223372036854775808) 0).bind fun t116 => (if t116 = 0 then ((flt_Equal.f (-9223372036854775808) 0).bind fun t117 => (if t117 = true then ((flt_Less.f (-9223372036854775808) 0).bind fun t118 => (if t118 = true then (some false) else ((flt_Equal.f t113 t113).bind fun t119 => (if t119 = true then (some false) else ((flt_Less.f t101 t102).bind fun t120 => (if t120 = true then (if t105 = (-3) then (if t106 = true then (if t108 = true then (some false) else ((flt_Kind.f 1).bind fun t121 => (if t121 = 3 then ((flt_Kind.f t113).bind fun t122 => (if t122 = 0 then ((flt_Canon.f 9218868437227405317).bind fun t123 => (if t123 = t113 then ((flt_Text.f k t101).bind fun t124 => (if t124.toList = ([51, 102, 102, 48, 48, 48, 48, 48, 48, 48, 48, 48, 48, 48, 48, 48] : List UInt8) then ((flt_Of.f 9007199254740993).bind fun t125 => (some (t125 == t113))) else (some false))) else (some false))) else (some false))) else (some false)))) else (some false)) else (some false)) else (some false))))))) else (some false))) else (some false))) else (some false))) else (some false))) else (some false)) = some r := H
          have A15 := Aside0.mk A150
          clear A150
          by_cases c16 : t112 = t113
          · rw [if_pos c16] at H
            have c16b0 : (t112 == t113) = true := beq_iff_eq.mpr c16
            have c16b1 : (t112 != t113) = false := bne_eq_false_iff_eq.mpr c16
            clear c16
            replace H := Option.bind_eq_some_iff.mp H
            obtain ⟨t114, A170, H⟩ := H
            replace H : (if t114 = t113 then ((flt_Op.f 0 (-9223372036854775808) (-9223372036854775808)).bind fun t115 => (if t115 = (-9223372036854775808) then ((flt_Op.f 0 (-9223372036854775808) 0).bind fun t116 => (if t116 = 0 then ((flt_Equal.f (-9223372036854775808) 0).bind fun t117 => (if t117 = true then ((flt_Less.f (-9223372036854775808) 0).bind fun t118 => (if t118 = true then (some false) else ((flt_Equal.f t113 t113).bind fun t119 => (if t119 = true then (some false) else ((flt_Less.f t101 t102).bind fun t120 => (if t120 = true then (if t105 = (-3) then (if t106 = true then (if t108 = true then (some false) else ((flt_Kind.f 1).bind fun t121 => (if t121 = 3 then ((flt_Kind.f t113).bind fun t122 => (if t122 = 0 then ((flt_Canon.f 9218868437227405317).bind fun t123 => (if t123 = t113 then ((flt_Text.f k t101).bind fun t124 => (if t124.toList = ([51, 102, 102, 48, 48, 48, 48, 48, 48, 48, 48, 48, 48, 48, 48, 48] : List UInt8) then ((flt_Of.f 9007199254740993).bind fun t125 => (some (t125 == t113))) else (some false))) else (some false))) else (some false))) else (some false)))) else (some false)) else (some false)) else (some false))))))) else (some false))) else (some false))) else (some false))) else (some false)) = some r := H
            have A17 := Aside0.mk A170
            clear A170
            by_cases c18 : t114 = t113
            · rw [if_pos c18] at H
              have c18b0 : (t114 == t113) = true := beq_iff_eq.mpr c18
              have c18b1 : (t114 != t113) = false := bne_eq_false_iff_eq.mpr c18
              clear c18
              replace H := Option.bind_eq_some_iff.mp H
              obtain ⟨t115, A190, H⟩ := H
              replace H : (if t115 = (-9223372036854775808) then ((flt_Op.f 0 (-9223372036854775808) 0).bind fun t116 => (if t116 = 0 then ((flt_Equal.f (-9223372036854775808) 0).bind fun t117 => (if t117 = true then ((flt_Less.f (-9223372036854775808) 0).bind fun t118 => (if t118 = true then (some false) else ((flt_Equal.f t113 t113).bind fun t119 => (if t119 = true then (some false) else ((flt_Less.f t101 t102).bind fun t120 => (if t120 = true then (if t105 = (-3) then (if t106 = true then (if t108 = true then (some false) else ((flt_Kind.f 1).bind fun t121 => (if t121 = 3 then ((flt_Kind.f t113).bind fun t122 => (if t122 = 0 then ((flt_Canon.f 9218868437227405317).bind fun t123 => (if t123 = t113 then ((flt_Text.f k t101).bind fun t124 => (if t124.toList = ([51, 102, 102, 48, 48, 48, 48, 48, 48, 48, 48, 48, 48, 48, 48, 48] : List UInt8) then ((flt_Of.f 9007199254740993).bind fun t125 => (some (t125 == t113))) else (some false))) else (some false))) else (some false))) else (some false)))) else (some false)) else (some false)) else (some false))))))) else (some false))) else (some false))) else (some false)) = some r := H
              have A19 := Aside0.mk A190
              clear A190
              by_cases c20 : t115 = (-9223372036854775808)
              · rw [if_pos c20] at H
                have c20b0 : (t115 == (-9223372036854775808)) = true := beq_iff_eq.mpr c20
                have c20b1 : (t115 != (-9223372036854775808)) = false := bne_eq_false_iff_eq.mpr c20
                clear c20
                replace H := Option.bind_eq_some_iff.mp H
                obtain ⟨t116, A210, H⟩ := H
                replace H : (if t116 = 0 then ((flt_Equal.f (-9223372036854775808) 0).bind fun t117 => (if t117 = true then ((flt_Less.f (-9223372036854775808) 0).bind fun t118 => (if t118 = true then (some false) else ((flt_Equal.f t113 t113).bind fun t119 => (if t119 = true then (some false) else ((flt_Less.f t101 t102).bind fun t120 => (if t120 = true then (if t105 = (-3) then (if t106 = true then (if t108 = true then (some false) else ((flt_Kind.f 1).bind fun t121 => (if t121 = 3 then ((flt_Kind.f t113).bind fun t122 => (if t122 = 0 then ((flt_Canon.f 9218868437227405317).bind fun t123 => (if t123 = t113 then ((flt_Text.f k t101).bind fun t124 => (if t124.toList = ([51, 102, 102, 48, 48, 48, 48, 48, 48, 48, 48, 48, 48, 48, 48, 48] : List UInt8) then ((flt_Of.f 9007199254740993).bind fun t125 => (some (t125 == t113))) else (some false))) else (some false))) else (some false))) else (some false)))) else (some false)) else (some false)) else (some false))))))) else (some false))) else (some false)) = some r := H
                have A21 := Aside0.mk A210
                clear A210
                by_cases c22 : t116 = 0
                · rw [if_pos c22] at H
                  have c22b0 : (t116 == 0) = true := beq_iff_eq.mpr c22
                  have c22b1 : (t116 != 0) = false := bne_eq_false_iff_eq.mpr c22
                  clear c22
                  replace H := Option.bind_eq_some_iff.mp H
                  obtain ⟨t117, A230, H⟩ := H
                  replace H : (if t117 = true then ((flt_Less.f (-9223372036854775808) 0).bind fun t118 => (if t118 = true then (some false) else ((flt_Equal.f t113 t113).bind fun t119 => (if t119 = true then (some false) else ((flt_Less.f t101 t102).bind fun t120 => (if t120 = true then (if t105 = (-3) then (if t106 = true then (if t108 = true then (some false) else ((flt_Kind.f 1).bind fun t121 => (if t121 = 3 then ((flt_Kind.f t113).bind fun t122 => (if t122 = 0 then ((flt_Canon.f 9218868437227405317).bind fun t123 => (if t123 = t113 then ((flt_Text.f k t101).bind fun t124 => (if t124.toList = ([51, 102, 102, 48, 48, 48, 48, 48, 48, 48, 48, 48, 48, 48, 48, 48] : List UInt8) then ((flt_Of.f 9007199254740993).bind fun t125 => (some (t125 == t113))) else (some false))) else (some false))) else (some false))) else (some false)))) else (some false)) else (some false)) else (some false))))))) else (some false)) = some r := H
                  have A23 := Aside0.mk A230
                  clear A230
                  by_cases c24 : t117 = true
                  · subst c24
                    have H1 : ((flt_Less.f (-9223372036854775808) 0).bind fun t118 => (if t118 = true then (some false) else ((flt_Equal.f t113 t113).bind fun t119 => (if t119 = true then (some false) else ((flt_Less.f t101 t102).bind fun t120 => (if t120 = true then (if t105 = (-3) then (if t106 = true then (if t108 = true then (some false) else ((flt_Kind.f 1).bind fun t121 => (if t121 = 3 then ((flt_Kind.f t113).bind fun t122 => (if t122 = 0 then ((flt_Canon.f 9218868437227405317).bind fun t123 => (if t123 = t113 then ((flt_Text.f k t101).bind fun t124 => (if t124.toList = ([51, 102, 102, 48, 48, 48, 48, 48, 48, 48, 48, 48, 48, 48, 48, 48] : List UInt8) then ((flt_Of.f 9007199254740993).bind fun t125 => (some (t125 == t113))) else (some false))) else (some false))) else (some false))) else (some false)))) else (some false)) else (some false)) else (some false))))))) = some r := by rw [if_pos rfl] at H; exact H
                    clear H
                    have H := H1
                    clear H1
                    replace H := Option.bind_eq_some_iff.mp H
                    obtain ⟨t118, A250, H⟩ := H
                    replace H : (if t118 = true then (some false) else ((flt_Equal.f t113 t113).bind fun t119 => (if t119 = true then (some false) else ((flt_Less.f t101 t102).bind fun t120 => (if t120 = true then (if t105 = (-3) then (if t106 = true then (if t108 = true then (some false) else ((flt_Kind.f 1).bind fun t121 => (if t121 = 3 then ((flt_Kind.f t113).bind fun t122 => (if t122 = 0 then ((flt_Canon.f 9218868437227405317).bind fun t123 => (if t123 = t113 then ((flt_Text.f k t101).bind fun t124 => (if t124.toList = ([51, 102, 102, 48, 48, 48, 48, 48, 48, 48, 48, 48, 48, 48, 48, 48] : List UInt8) then ((flt_Of.f 9007199254740993).bind fun t125 => (some (t125 == t113))) else (some false))) else (some false))) else (some false))) else (some false)))) else (some false)) else (some false)) else (some false)))))) = some r := H
                    have A25 := Aside0.mk A250
                    clear A250
                    by_cases c26 : t118 = true
                    · subst c26
                      have H1 : (some false) = some r := by rw [if_pos rfl] at H; exact H
                      clear H
                      have H := H1
                      clear H1
                      obtain rfl := Option.some.inj H
                      exact absurd hr_.out (by decide)
                    · replace c26 := Bool.eq_false_iff.mpr c26
                      subst c26
                      have H1 : ((flt_Equal.f t113 t113).bind fun t119 => (if t119 = true then (some false) else ((flt_Less.f t101 t102).bind fun t120 => (if t120 = true then (if t105 = (-3) then (if t106 = true then (if t108 = true then (some false) else ((flt_Kind.f 1).bind fun t121 => (if t121 = 3 then ((flt_Kind.f t113).bind fun t122 => (if t122 = 0 then ((flt_Canon.f 9218868437227405317).bind fun t123 => (if t123 = t113 then ((flt_Text.f k t101).bind fun t124 => (if t124.toList = ([51, 102, 102, 48, 48, 48, 48, 48, 48, 48, 48, 48, 48, 48, 48, 48] : List UInt8) then ((flt_Of.f 9007199254740993).bind fun t125 => (some (t125 == t113))) else (some false))) else (some false))) else (some false))) else (some false)))) else (some false)) else (some false)) else (some false))))) = some r := by rw [if_neg (show ¬ (false = true) by decide)] at H; exact H
                      clear H
                      have H := H1
                      clear H1
                      replace H := Option.bind_eq_some_iff.mp H
                      obtain ⟨t119, A270, H⟩ := H
                      replace H : (if t119 = true then (some false) else ((flt_Less.f t101 t102).bind fun t120 => (if t120 = true then (if t105 = (-3) then (if t106 = true then (if t108 = true then (some false) else ((flt_Kind.f 1).bind fun t121 => (if t121 = 3 then ((flt_Kind.f t113).bind fun t122 => (if t122 = 0 then ((flt_Canon.f 9218868437227405317).bind fun t123 => (if t123 = t113 then ((flt_Text.f k t101).bind fun t124 => (if t124.toList = ([51, 102, 102, 48, 48, 48, 48, 48, 48, 48, 48, 48, 48, 48, 48, 48] : List UInt8) then ((flt_Of.f 9007199254740993).bind fun t125 => (some (t125 == t113))) else (some false))) else (some false))) else (some false))) else (some false)))) else (some false)) else (some false)) else (some false)))) = some r := H
                      have A27 := Aside0.mk A270
                      clear A270
                      by_cases c28 : t119 = true
                      · subst c28
                        have H1 : (some false) = some r := by rw [if_pos rfl] at H; exact H
                        clear H
                        have H := H1
                        clear H1
                        obtain rfl := Option.some.inj H
                        exact absurd hr_.out (by decide)
                      · replace c28 := Bool.eq_false_iff.mpr c28
                        subst c28
                        have H1 : ((flt_Less.f t101 t102).bind fun t120 => (if t120 = true then (if t105 = (-3) then (if t106 = true then (if t108 = true then (some false) else ((flt_Kind.f 1).bind fun t121 => (if t121 = 3 then ((flt_Kind.f t113).bind fun t122 => (if t122 = 0 then ((flt_Canon.f 9218868437227405317).bind fun t123 => (if t123 = t113 then ((flt_Text.f k t101).bind fun t124 => (if t124.toList = ([51, 102, 102, 48, 48, 48, 48, 48, 48, 48, 48, 48, 48, 48, 48, 48] : List UInt8) then ((flt_Of.f 9007199254740993).bind fun t125 => (some (t125 == t113))) else (some false))) else (some false))) else (some false))) else (some false)))) else (some false)) else (some false)) else (some false))) = some r := by rw [if_neg (show ¬ (false = true) by decide)] at H; exact H
                        clear H
                        have H := H1
                        clear H1
                        replace H := Option.bind_eq_some_iff.mp H
                        obtain ⟨t120, A290, H⟩ := H
                        replace H : (if t120 = true then (if t105 = (-3) then (if t106 = true then (if t108 = true then (some false) else ((flt_Kind.f 1).bind fun t121 => (if t121 = 3 then ((flt_Kind.f t113).bind fun t122 => (if t122 = 0 then ((flt_Canon.f 9218868437227405317).bind fun t123 => (if t123 = t113 then ((flt_Text.f k t101).bind fun t124 => (if t124.toList = ([51, 102, 102, 48, 48, 48, 48, 48, 48, 48, 48, 48, 48, 48, 48, 48] : List UInt8) then ((flt_Of.f 9007199254740993).bind fun t125 => (some (t125 == t113))) else (some false))) else (some false))) else (some false))) else (some false)))) else (some false)) else (some false)) else (some false)) = some r := H
                        have A29 := Aside0.mk A290
                        clear A290
                        by_cases c30 : t120 = true
                        · subst c30
                          have H1 : (if t105 = (-3) then (if t106 = true then (if t108 = true then (some false) else ((flt_Kind.f 1).bind fun t121 => (if t121 = 3 then ((flt_Kind.f t113).bind fun t122 => (if t122 = 0 then ((flt_Canon.f 9218868437227405317).bind fun t123 => (if t123 = t113 then ((flt_Text.f k t101).bind fun t124 => (if t124.toList = ([51, 102, 102, 48, 48, 48, 48, 48, 48, 48, 48, 48, 48, 48, 48, 48] : List UInt8) then ((flt_Of.f 9007199254740993).bind fun t125 => (some (t125 == t113))) else (some false))) else (some false))) else (some false))) else (some false)))) else (some false)) else (some false)) = some r := by rw [if_pos rfl] at H; exact H
                          clear H
                          have H := H1
                          clear H1
                          by_cases c31 : t105 = (-3)
                          · rw [if_pos c31] at H
                            have c31b0 : (t105 == (-3)) = true := beq_iff_eq.mpr c31
                            have c31b1 : (t105 != (-3)) = false := bne_eq_false_iff_eq.mpr c31
                            clear c31
                            by_cases c32 : t106 = true
                            · subst c32
                              have H1 : (if t108 = true then (some false) else ((flt_Kind.f 1).bind fun t121 => (if t121 = 3 then ((flt_Kind.f t113).bind fun t122 => (if t122 = 0 then ((flt_Canon.f 9218868437227405317).bind fun t123 => (if t123 = t113 then ((flt_Text.f k t101).bind fun t124 => (if t124.toList = ([51, 102, 102, 48, 48, 48, 48, 48, 48, 48, 48, 48, 48, 48, 48, 48] : List UInt8) then ((flt_Of.f 9007199254740993).bind fun t125 => (some (t125 == t113))) else (some false))) else (some false))) else (some false))) else (some false)))) = some r := by rw [if_pos rfl] at H; exact H
                              clear H
                              have H := H1
                              clear H1
                              by_cases c33 : t108 = true
                              · subst c33
                                have H1 : (some false) = some r := by rw [if_pos rfl] at H; exact H
                                clear H
                                have H := H1
                                clear H1
                                obtain rfl := Option.some.inj H
                                exact absurd hr_.out (by decide)
                              · replace c33 := Bool.eq_false_iff.mpr c33
                                subst c33
                                have H1 : ((flt_Kind.f 1).bind fun t121 => (if t121 = 3 then ((flt_Kind.f t113).bind fun t122 => (if t122 = 0 then ((flt_Canon.f 9218868437227405317).bind fun t123 => (if t123 = t113 then ((flt_Text.f k t101).bind fun t124 => (if t124.toList = ([51, 102, 102, 48, 48, 48, 48, 48, 48, 48, 48, 48, 48, 48, 48, 48] : List UInt8) then ((flt_Of.f 9007199254740993).bind fun t125 => (some (t125 == t113))) else (some false))) else (some false))) else (some false))) else (some false))) = some r := by rw [if_neg (show ¬ (false = true) by decide)] at H; exact H
                                clear H
                                have H := H1
                                clear H1
                                replace H := Option.bind_eq_some_iff.mp H
                                obtain ⟨t121, A340, H⟩ := H
                                replace H : (if t121 = 3 then ((flt_Kind.f t113).bind fun t122 => (if t122 = 0 then ((flt_Canon.f 9218868437227405317).bind fun t123 => (if t123 = t113 then ((flt_Text.f k t101).bind fun t124 => (if t124.toList = ([51, 102, 102, 48, 48, 48, 48, 48, 48, 48, 48, 48, 48, 48, 48, 48] : List UInt8) then ((flt_Of.f 9007199254740993).bind fun t125 => (some (t125 == t113))) else (some false))) else (some false))) else (some false))) else (some false)) = some r := H
                                have A34 := Aside0.mk A340
                                clear A340
                                by_cases c35 : t121 = 3
                                · rw [if_pos c35] at H
                                  have c35b0 : (t121 == 3) = true := beq_iff_eq.mpr c35
                                  have c35b1 : (t121 != 3) = false := bne_eq_false_iff_eq.mpr c35
                                  clear c35
                                  replace H := Option.bind_eq_some_iff.mp H
                                  obtain ⟨t122, A360, H⟩ := H
                                  replace H : (if t122 = 0 then ((flt_Canon.f 9218868437227405317).bind fun t123 => (if t123 = t113 then ((flt_Text.f k t101).bind fun t124 => (if t124.toList = ([51, 102, 102, 48, 48, 48, 48, 48, 48, 48, 48, 48, 48, 48, 48, 48] : List UInt8) then ((flt_Of.f 9007199254740993).bind fun t125 => (some (t125 == t113))) else (some false))) else (some false))) else (some false)) = some r := H
                                  have A36 := Aside0.mk A360
                                  clear A360
                                  by_cases c37 : t122 = 0
                                  · rw [if_pos c37] at H
                                    have c37b0 : (t122 == 0) = true := beq_iff_eq.mpr c37
                                    have c37b1 : (t122 != 0) = false := bne_eq_false_iff_eq.mpr c37
                                    clear c37
                                    replace H := Option.bind_eq_some_iff.mp H
                                    obtain ⟨t123, A380, H⟩ := H
                                    replace H : (if t123 = t113 then ((flt_Text.f k t101).bind fun t124 => (if t124.toList = ([51, 102, 102, 48, 48, 48, 48, 48, 48, 48, 48, 48, 48, 48, 48, 48] : List UInt8) then ((flt_Of.f 9007199254740993).bind fun t125 => (some (t125 == t113))) else (some false))) else (some false)) = some r := H
                                    have A38 := Aside0.mk A380
                                    clear A380
                                    by_cases c39 : t123 = t113
                                    · rw [if_pos c39] at H
                                      have c39b0 : (t123 == t113) = true := beq_iff_eq.mpr c39
                                      have c39b1 : (t123 != t113) = false := bne_eq_false_iff_eq.mpr c39
                                      clear c39
                                      replace H := Option.bind_eq_some_iff.mp H
                                      obtain ⟨t124, A400, H⟩ := H
                                      replace H : (if t124.toList = ([51, 102, 102, 48, 48, 48, 48, 48, 48, 48, 48, 48, 48, 48, 48, 48] : List UInt8) then ((flt_Of.f 9007199254740993).bind fun t125 => (some (t125 == t113))) else (some false)) = some r := H
                                      have A40 := Aside0.mk A400
                                      clear A400
                                      by_cases c41 : t124.toList = ([51, 102, 102, 48, 48, 48, 48, 48, 48, 48, 48, 48, 48, 48, 48, 48] : List UInt8)
                                      · rw [if_pos c41] at H
                                        have c41b0 : (t124.toList == ([51, 102, 102, 48, 48, 48, 48, 48, 48, 48, 48, 48, 48, 48, 48, 48] : List UInt8)) = true := beq_iff_eq.mpr c41
                                        have c41b1 : (t124.toList != ([51, 102, 102, 48, 48, 48, 48, 48, 48, 48, 48, 48, 48, 48, 48, 48] : List UInt8)) = false := bne_eq_false_iff_eq.mpr c41
                                        clear c41
                                        replace H := Option.bind_eq_some_iff.mp H
                                        obtain ⟨t125, A420, H⟩ := H
                                        replace H : (some (t125 == t113)) = some r := H
                                        have A42 := Aside0.mk A420
                                        clear A420
                                        obtain rfl := Option.some.inj H
                                        go_enter Try.func11, Try.ntmps11
                                        go_wp2_with (first | ((with_reducible refine gate_callee (f := 22) rfl ?_); refine goesL_ (some 9) rfl rfl Try.func22 (by kernel_rfl) rfl #[.int .i64 1] rfl (by (try simp only [List.map_toArray, List.map_cons, List.map_nil]); first | done | rfl | (simp only [List.length_drop, List.length_take]; rfl)) ?_; (with_reducible refine (flt_Of.calls 1 t101 _ A1.out).mono ?_); rintro e w' ⟨rfl, ⟨nd, rfl⟩⟩; refine ⟨_, rfl, ?_⟩) | ((with_reducible refine gate_callee (f := 22) rfl ?_); refine goesL_ (some 10) rfl rfl Try.func22 (by kernel_rfl) rfl #[.int .i64 2] rfl (by (try simp only [List.map_toArray, List.map_cons, List.map_nil]); first | done | rfl | (simp only [List.length_drop, List.length_take]; rfl)) ?_; (with_reducible refine (flt_Of.calls 2 t102 _ A2.out).mono ?_); rintro e w' ⟨rfl, ⟨nd, rfl⟩⟩; refine ⟨_, rfl, ?_⟩) | ((with_reducible refine gate_callee (f := 22) rfl ?_); refine goesL_ (some 12) rfl rfl Try.func22 (by kernel_rfl) rfl #[.int .i64 (-7)] rfl (by (try simp only [List.map_toArray, List.map_cons, List.map_nil]); first | done | rfl | (simp only [List.length_drop, List.length_take]; rfl)) ?_; (with_reducible refine (flt_Of.calls (-7) t103 _ A3.out).mono ?_); rintro e w' ⟨rfl, ⟨nd, rfl⟩⟩; refine ⟨_, rfl, ?_⟩) | ((with_reducible refine gate_callee (f := 12) rfl ?_); refine goesL_ (some 14) rfl rfl Try.func12 (by kernel_rfl) rfl #[.int .i64 3, .int .i64 t103, .int .i64 t102] rfl (by (try simp only [List.map_toArray, List.map_cons, List.map_nil]); first | done | rfl | (simp only [List.length_drop, List.length_take]; rfl)) ?_; (with_reducible refine (flt_Op.calls 3 t103 t102 t104 _ A4.out).mono ?_); rintro e w' ⟨rfl, ⟨nd, rfl⟩⟩; refine ⟨_, rfl, ?_⟩) | ((with_reducible refine gate_callee (f := 14) rfl ?_); refine goesL_ (some 15) rfl rfl Try.func14 (by kernel_rfl) rfl #[.int .i64 t104] rfl (by (try simp only [List.map_toArray, List.map_cons, List.map_nil]); first | done | rfl | (simp only [List.length_drop, List.length_take]; rfl)) ?_; (with_reducible refine (flt_Trunc.calls t104 t105 true _ A5.out).mono ?_); rintro e w' ⟨rfl, ⟨nd, rfl⟩⟩; refine ⟨_, rfl, ?_⟩) | ((with_reducible refine gate_callee (f := 14) rfl ?_); refine goesL_ (some 20) rfl rfl Try.func14 (by kernel_rfl) rfl #[.int .i64 9218868437227405312] rfl (by (try simp only [List.map_toArray, List.map_cons, List.map_nil]); first | done | rfl | (simp only [List.length_drop, List.length_take]; rfl)) ?_; (with_reducible refine (flt_Trunc.calls 9218868437227405312 t107 false _ A6.out).mono ?_); rintro e w' ⟨rfl, ⟨nd, rfl⟩⟩; refine ⟨_, rfl, ?_⟩) | (go_at_call 12; (with_reducible refine (flt_Op.calls 0 t101 t101 t109 _ A8.out).mono ?_); rintro e w' ⟨rfl, ⟨nd, rfl⟩⟩) | (go_at_call 12; (with_reducible refine (flt_Op.calls 1 t101 t101 t110 _ A10.out).mono ?_); rintro e w' ⟨rfl, ⟨nd, rfl⟩⟩) | (go_at_call 12; (with_reducible refine (flt_Op.calls 3 t101 (-9223372036854775808) t111 _ A12.out).mono ?_); rintro e w' ⟨rfl, ⟨nd, rfl⟩⟩) | (go_at_call 12; (with_reducible refine (flt_Op.calls 3 0 0 t112 _ A14.out).mono ?_); rintro e w' ⟨rfl, ⟨nd, rfl⟩⟩) | (go_at_call 28; (with_reducible refine (anamnesisref02_NaN.calls  t113 _ A15.out).mono ?_); rintro e w' ⟨rfl, ⟨nd, rfl⟩⟩) | (go_at_call 12; (with_reducible refine (flt_Op.calls 2 9218868437227405312 (-9223372036854775808) t114 _ A17.out).mono ?_); rintro e w' ⟨rfl, ⟨nd, rfl⟩⟩) | (go_at_call 12; (with_reducible refine (flt_Op.calls 0 (-9223372036854775808) (-9223372036854775808) t115 _ A19.out).mono ?_); rintro e w' ⟨rfl, ⟨nd, rfl⟩⟩) | (go_at_call 12; (with_reducible refine (flt_Op.calls 0 (-9223372036854775808) 0 t116 _ A21.out).mono ?_); rintro e w' ⟨rfl, ⟨nd, rfl⟩⟩) | (go_at_call 26; (with_reducible refine (flt_Equal.calls (-9223372036854775808) 0 true _ A23.out).mono ?_); rintro e w' ⟨rfl, ⟨nd, rfl⟩⟩) | (go_at_call 24; (with_reducible refine (flt_Less.calls (-9223372036854775808) 0 false _ A25.out).mono ?_); rintro e w' ⟨rfl, ⟨nd, rfl⟩⟩) | (go_at_call 26; (with_reducible refine (flt_Equal.calls t113 t113 false _ A27.out).mono ?_); rintro e w' ⟨rfl, ⟨nd, rfl⟩⟩) | (go_at_call 24; (with_reducible refine (flt_Less.calls t101 t102 true _ A29.out).mono ?_); rintro e w' ⟨rfl, ⟨nd, rfl⟩⟩) | (go_at_call 16; (with_reducible refine (flt_Kind.calls 1 t121 _ A34.out).mono ?_); rintro e w' ⟨rfl, ⟨nd, rfl⟩⟩) | (go_at_call 16; (with_reducible refine (flt_Kind.calls t113 t122 _ A36.out).mono ?_); rintro e w' ⟨rfl, ⟨nd, rfl⟩⟩) | (go_at_call 18; (with_reducible refine (flt_Canon.calls 9218868437227405317 t123 _ A38.out).mono ?_); rintro e w' ⟨rfl, ⟨nd, rfl⟩⟩) | (go_at_call 20; (with_reducible refine (flt_Text.calls k t101 t124 _ A40.out).mono ?_); rintro e w43 ⟨rfl, hb⟩; have n0_ := Aside0.mk (below_step (by repeat (first | (with_reducible first | exact HB.out | apply below_alloc | apply pw_below_drewN | apply below_drew1) | exact HB.out)) hb); clear HB; have HB := n0_; clear n0_; (try clear hb); (try clear hb2); (try clear hk); (try clear hi)) | (go_at_call 22; (with_reducible refine (flt_Of.calls 9007199254740993 t125 _ A42.out).mono ?_); rintro e w' ⟨rfl, ⟨nd, rfl⟩⟩))
                                        go_ret
                                        exact ⟨by first | rfl | (simp [errW_none, errW_some] <;> rfl) | (simp [*, errW_none, errW_some] <;> rfl) | (simp [wrap64, errW_none, errW_some]; done), by repeat (first | (with_reducible first | exact HB.out | apply below_alloc | apply pw_below_drewN | apply below_drew1) | exact HB.out)⟩
                                      · rw [if_neg c41] at H
                                        have c41b0 : (t124.toList == ([51, 102, 102, 48, 48, 48, 48, 48, 48, 48, 48, 48, 48, 48, 48, 48] : List UInt8)) = false := beq_eq_false_iff_ne.mpr c41
                                        have c41b1 : (t124.toList != ([51, 102, 102, 48, 48, 48, 48, 48, 48, 48, 48, 48, 48, 48, 48, 48] : List UInt8)) = true := bne_iff_ne.mpr c41
                                        obtain rfl := Option.some.inj H
                                        exact absurd hr_.out (by decide)
                                    · rw [if_neg c39] at H
                                      have c39b0 : (t123 == t113) = false := beq_eq_false_iff_ne.mpr c39
                                      have c39b1 : (t123 != t113) = true := bne_iff_ne.mpr c39
                                      obtain rfl := Option.some.inj H
                                      exact absurd hr_.out (by decide)
                                  · rw [if_neg c37] at H
                                    have c37b0 : (t122 == 0) = false := beq_eq_false_iff_ne.mpr c37
                                    have c37b1 : (t122 != 0) = true := bne_iff_ne.mpr c37
                                    obtain rfl := Option.some.inj H
                                    exact absurd hr_.out (by decide)
                                · rw [if_neg c35] at H
                                  have c35b0 : (t121 == 3) = false := beq_eq_false_iff_ne.mpr c35
                                  have c35b1 : (t121 != 3) = true := bne_iff_ne.mpr c35
                                  obtain rfl := Option.some.inj H
                                  exact absurd hr_.out (by decide)
                            · replace c32 := Bool.eq_false_iff.mpr c32
                              subst c32
                              have H1 : (some false) = some r := by rw [if_neg (show ¬ (false = true) by decide)] at H; exact H
                              clear H
                              have H := H1
                              clear H1
                              obtain rfl := Option.some.inj H
                              exact absurd hr_.out (by decide)
                          · rw [if_neg c31] at H
                            have c31b0 : (t105 == (-3)) = false := beq_eq_false_iff_ne.mpr c31
                            have c31b1 : (t105 != (-3)) = true := bne_iff_ne.mpr c31
                            obtain rfl := Option.some.inj H
                            exact absurd hr_.out (by decide)
                        · replace c30 := Bool.eq_false_iff.mpr c30
                          subst c30
                          have H1 : (some false) = some r := by rw [if_neg (show ¬ (false = true) by decide)] at H; exact H
                          clear H
                          have H := H1
                          clear H1
                          obtain rfl := Option.some.inj H
                          exact absurd hr_.out (by decide)
                  · replace c24 := Bool.eq_false_iff.mpr c24
                    subst c24
                    have H1 : (some false) = some r := by rw [if_neg (show ¬ (false = true) by decide)] at H; exact H
                    clear H
                    have H := H1
                    clear H1
                    obtain rfl := Option.some.inj H
                    exact absurd hr_.out (by decide)
                · rw [if_neg c22] at H
                  have c22b0 : (t116 == 0) = false := beq_eq_false_iff_ne.mpr c22
                  have c22b1 : (t116 != 0) = true := bne_iff_ne.mpr c22
                  obtain rfl := Option.some.inj H
                  exact absurd hr_.out (by decide)
              · rw [if_neg c20] at H
                have c20b0 : (t115 == (-9223372036854775808)) = false := beq_eq_false_iff_ne.mpr c20
                have c20b1 : (t115 != (-9223372036854775808)) = true := bne_iff_ne.mpr c20
                obtain rfl := Option.some.inj H
                exact absurd hr_.out (by decide)
            · rw [if_neg c18] at H
              have c18b0 : (t114 == t113) = false := beq_eq_false_iff_ne.mpr c18
              have c18b1 : (t114 != t113) = true := bne_iff_ne.mpr c18
              obtain rfl := Option.some.inj H
              exact absurd hr_.out (by decide)
          · rw [if_neg c16] at H
            have c16b0 : (t112 == t113) = false := beq_eq_false_iff_ne.mpr c16
            have c16b1 : (t112 != t113) = true := bne_iff_ne.mpr c16
            obtain rfl := Option.some.inj H
            exact absurd hr_.out (by decide)
        · rw [if_neg c13] at H
          have c13b0 : (t111 == (-4503599627370496)) = false := beq_eq_false_iff_ne.mpr c13
          have c13b1 : (t111 != (-4503599627370496)) = true := bne_iff_ne.mpr c13
          obtain rfl := Option.some.inj H
          exact absurd hr_.out (by decide)
      · rw [if_neg c11] at H
        have c11b0 : (t110 == 0) = false := beq_eq_false_iff_ne.mpr c11
        have c11b1 : (t110 != 0) = true := bne_iff_ne.mpr c11
        obtain rfl := Option.some.inj H
        exact absurd hr_.out (by decide)
    · rw [if_neg c9] at H
      have c9b0 : (t109 == t102) = false := beq_eq_false_iff_ne.mpr c9
      have c9b1 : (t109 != t102) = true := bne_iff_ne.mpr c9
      obtain rfl := Option.some.inj H
      exact absurd hr_.out (by decide)
  · rw [if_neg c7] at H
    have c7b0 : (t101 == 4607182418800017408) = false := beq_eq_false_iff_ne.mpr c7
    have c7b1 : (t101 != 4607182418800017408) = true := bne_iff_ne.mpr c7
    obtain rfl := Option.some.inj H
    exact absurd hr_.out (by decide)

def anamnesislaw02_fixed.f : Option Bool := some true
theorem anamnesislaw02_fixedq.told : anamnesislaw02_fixedq.f 200 = some true := by decide +kernel
theorem anamnesislaw02_fixed.calls (r : Bool) (w : World) (_ : anamnesislaw02_fixed.f = some r) :
    Calls Try.prog 11 #[] w fun e w' => e = .returned (.bool true) ∧ Below w.heap.size w w' :=
  anamnesislaw02_fixedq.calls 200 true w anamnesislaw02_fixedq.told rfl

/-! ### anamnesisref02_most: function 46 -/
def anamnesisref02_most.f  : Option (Int) := some 9223372036854775807
set_option maxHeartbeats 8000000 in
set_option maxRecDepth 100000 in
theorem anamnesisref02_most.calls  (r : Int) (w : World) (h : anamnesisref02_most.f  = some r) :
    Calls Try.prog 46 #[] w fun e w' => e = .returned (.int .i64 r) ∧ Drawn0 w w' := by
  have H : (some 9223372036854775807) = some r := h
  clear h
  obtain rfl := Option.some.inj H
  go_enter Try.func46, Try.ntmps46
  go_wp2
  go_ret
  exact ⟨by first | rfl | (simp; done) | (simp [*]; done), by repeat (first | exact Drawn0.refl _ | apply Drawn0.step)⟩

/-! ### anamnesisref02_plain: function 34 -/
def anamnesisref02_plain.f (a0 : Int) : Option (Int) := (anamnesisref02_most.f).bind fun t126 => (some (Go.bits .and .i64 a0 t126))
set_option maxHeartbeats 8000000 in
set_option maxRecDepth 100000 in
theorem anamnesisref02_plain.calls (a0 : Int) (r : Int) (w : World) (h : anamnesisref02_plain.f a0 = some r) :
    Calls Try.prog 34 #[.int .i64 a0] w fun e w' => e = .returned (.int .i64 r) ∧ Drawn0 w w' := by
  have H : ((anamnesisref02_most.f).bind fun t126 => (some (Go.bits .and .i64 a0 t126))) = some r := h
  clear h
  replace H := Option.bind_eq_some_iff.mp H
  obtain ⟨t126, A20, H⟩ := H
  replace H : (some (Go.bits .and .i64 a0 t126)) = some r := H
  have A2 := Aside0.mk A20
  clear A20
  obtain rfl := Option.some.inj H
  go_enter Try.func34, Try.ntmps34
  go_wp2_with (first | ((with_reducible refine gate_callee (f := 46) rfl ?_); refine goesL_ (some 4) rfl rfl Try.func46 (by kernel_rfl) rfl #[] rfl (by (try simp only [List.map_toArray, List.map_cons, List.map_nil]); first | done | rfl | (simp only [List.length_drop, List.length_take]; rfl)) ?_; (with_reducible refine (anamnesisref02_most.calls  t126 _ A2.out).mono ?_); rintro e w' ⟨rfl, ⟨nd, rfl⟩⟩; refine ⟨_, rfl, ?_⟩))
  go_ret
  exact ⟨by first | rfl | (simp; done) | (simp [*]; done), by repeat (first | exact Drawn0.refl _ | apply Drawn0.step)⟩

/-! ### anamnesisref02_Kind: function 17 -/
def anamnesisref02_Kind.f (a0 : Int) : Option (Int) := (anamnesisref02_plain.f a0).bind fun t127 => ((anamnesisref02_plain.f a0).bind fun t128 => (if (t127 / 4503599627370496) = 2047 then (if (Int.tmod t128 4503599627370496) = 0 then (some 1) else (some 0)) else (if (t127 / 4503599627370496) > 0 then (some 4) else (if (Int.tmod t128 4503599627370496) > 0 then (some 3) else (some 2)))))
set_option maxHeartbeats 8000000 in
set_option maxRecDepth 100000 in
theorem anamnesisref02_Kind.calls (a0 : Int) (r : Int) (w : World) (h : anamnesisref02_Kind.f a0 = some r) :
    Calls Try.prog 17 #[.int .i64 a0] w fun e w' => e = .returned (.int .i64 r) ∧ Drawn0 w w' := by
  have H : ((anamnesisref02_plain.f a0).bind fun t127 => ((anamnesisref02_plain.f a0).bind fun t128 => (if (t127 / 4503599627370496) = 2047 then (if (Int.tmod t128 4503599627370496) = 0 then (some 1) else (some 0)) else (if (t127 / 4503599627370496) > 0 then (some 4) else (if (Int.tmod t128 4503599627370496) > 0 then (some 3) else (some 2)))))) = some r := h
  clear h
  replace H := Option.bind_eq_some_iff.mp H
  obtain ⟨t127, A20, H⟩ := H
  replace H : ((anamnesisref02_plain.f a0).bind fun t128 => (if (t127 / 4503599627370496) = 2047 then (if (Int.tmod t128 4503599627370496) = 0 then (some 1) else (some 0)) else (if (t127 / 4503599627370496) > 0 then (some 4) else (if (Int.tmod t128 4503599627370496) > 0 then (some 3) else (some 2))))) = some r := H
  have A2 := Aside0.mk A20
  clear A20
  replace H := Option.bind_eq_some_iff.mp H
  obtain ⟨t128, A30, H⟩ := H
  replace H : (if (t127 / 4503599627370496) = 2047 then (if (Int.tmod t128 4503599627370496) = 0 then (some 1) else (some 0)) else (if (t127 / 4503599627370496) > 0 then (some 4) else (if (Int.tmod t128 4503599627370496) > 0 then (some 3) else (some 2)))) = some r := H
  have A3 := Aside0.mk A30
  clear A30
  by_cases c4 : (t127 / 4503599627370496) = 2047
  · rw [if_pos c4] at H
    have c4b0 : ((t127 / 4503599627370496) == 2047) = true := beq_iff_eq.mpr c4
    have c4b1 : ((t127 / 4503599627370496) != 2047) = false := bne_eq_false_iff_eq.mpr c4
    clear c4
    by_cases c5 : (Int.tmod t128 4503599627370496) = 0
    · rw [if_pos c5] at H
      have c5b0 : ((Int.tmod t128 4503599627370496) == 0) = true := beq_iff_eq.mpr c5
      have c5b1 : ((Int.tmod t128 4503599627370496) != 0) = false := bne_eq_false_iff_eq.mpr c5
      clear c5
      obtain rfl := Option.some.inj H
      go_enter Try.func17, Try.ntmps17
      go_wp2_with (first | ((with_reducible refine gate_callee (f := 34) rfl ?_); refine goesL_ (some 6) rfl rfl Try.func34 (by kernel_rfl) rfl #[.int .i64 a0] rfl (by (try simp only [List.map_toArray, List.map_cons, List.map_nil]); first | done | rfl | (simp only [List.length_drop, List.length_take]; rfl)) ?_; (with_reducible refine (anamnesisref02_plain.calls a0 t127 _ A2.out).mono ?_); rintro e w' ⟨rfl, ⟨nd, rfl⟩⟩; refine ⟨_, rfl, ?_⟩) | ((with_reducible refine gate_callee (f := 34) rfl ?_); refine goesL_ (some 9) rfl rfl Try.func34 (by kernel_rfl) rfl #[.int .i64 a0] rfl (by (try simp only [List.map_toArray, List.map_cons, List.map_nil]); first | done | rfl | (simp only [List.length_drop, List.length_take]; rfl)) ?_; (with_reducible refine (anamnesisref02_plain.calls a0 t128 _ A3.out).mono ?_); rintro e w' ⟨rfl, ⟨nd, rfl⟩⟩; refine ⟨_, rfl, ?_⟩))
      go_ret
      exact ⟨by first | rfl | (simp; done) | (simp [*]; done), by repeat (first | exact Drawn0.refl _ | apply Drawn0.step)⟩
    · rw [if_neg c5] at H
      have c5b0 : ((Int.tmod t128 4503599627370496) == 0) = false := beq_eq_false_iff_ne.mpr c5
      have c5b1 : ((Int.tmod t128 4503599627370496) != 0) = true := bne_iff_ne.mpr c5
      obtain rfl := Option.some.inj H
      go_enter Try.func17, Try.ntmps17
      go_wp2_with (first | ((with_reducible refine gate_callee (f := 34) rfl ?_); refine goesL_ (some 6) rfl rfl Try.func34 (by kernel_rfl) rfl #[.int .i64 a0] rfl (by (try simp only [List.map_toArray, List.map_cons, List.map_nil]); first | done | rfl | (simp only [List.length_drop, List.length_take]; rfl)) ?_; (with_reducible refine (anamnesisref02_plain.calls a0 t127 _ A2.out).mono ?_); rintro e w' ⟨rfl, ⟨nd, rfl⟩⟩; refine ⟨_, rfl, ?_⟩) | ((with_reducible refine gate_callee (f := 34) rfl ?_); refine goesL_ (some 9) rfl rfl Try.func34 (by kernel_rfl) rfl #[.int .i64 a0] rfl (by (try simp only [List.map_toArray, List.map_cons, List.map_nil]); first | done | rfl | (simp only [List.length_drop, List.length_take]; rfl)) ?_; (with_reducible refine (anamnesisref02_plain.calls a0 t128 _ A3.out).mono ?_); rintro e w' ⟨rfl, ⟨nd, rfl⟩⟩; refine ⟨_, rfl, ?_⟩))
      go_ret
      exact ⟨by first | rfl | (simp; done) | (simp [*]; done), by repeat (first | exact Drawn0.refl _ | apply Drawn0.step)⟩
  · rw [if_neg c4] at H
    have c4b0 : ((t127 / 4503599627370496) == 2047) = false := beq_eq_false_iff_ne.mpr c4
    have c4b1 : ((t127 / 4503599627370496) != 2047) = true := bne_iff_ne.mpr c4
    by_cases c6 : (t127 / 4503599627370496) > 0
    · rw [if_pos c6] at H
      have c6b0 : decide (0 < (t127 / 4503599627370496)) = true := decide_eq_true c6
      clear c6
      obtain rfl := Option.some.inj H
      go_enter Try.func17, Try.ntmps17
      go_wp2_with (first | ((with_reducible refine gate_callee (f := 34) rfl ?_); refine goesL_ (some 6) rfl rfl Try.func34 (by kernel_rfl) rfl #[.int .i64 a0] rfl (by (try simp only [List.map_toArray, List.map_cons, List.map_nil]); first | done | rfl | (simp only [List.length_drop, List.length_take]; rfl)) ?_; (with_reducible refine (anamnesisref02_plain.calls a0 t127 _ A2.out).mono ?_); rintro e w' ⟨rfl, ⟨nd, rfl⟩⟩; refine ⟨_, rfl, ?_⟩) | ((with_reducible refine gate_callee (f := 34) rfl ?_); refine goesL_ (some 9) rfl rfl Try.func34 (by kernel_rfl) rfl #[.int .i64 a0] rfl (by (try simp only [List.map_toArray, List.map_cons, List.map_nil]); first | done | rfl | (simp only [List.length_drop, List.length_take]; rfl)) ?_; (with_reducible refine (anamnesisref02_plain.calls a0 t128 _ A3.out).mono ?_); rintro e w' ⟨rfl, ⟨nd, rfl⟩⟩; refine ⟨_, rfl, ?_⟩))
      go_ret
      exact ⟨by first | rfl | (simp; done) | (simp [*]; done), by repeat (first | exact Drawn0.refl _ | apply Drawn0.step)⟩
    · rw [if_neg c6] at H
      have c6b0 : decide (0 < (t127 / 4503599627370496)) = false := decide_eq_false c6
      clear c6
      by_cases c7 : (Int.tmod t128 4503599627370496) > 0
      · rw [if_pos c7] at H
        have c7b0 : decide (0 < (Int.tmod t128 4503599627370496)) = true := decide_eq_true c7
        clear c7
        obtain rfl := Option.some.inj H
        go_enter Try.func17, Try.ntmps17
        go_wp2_with (first | ((with_reducible refine gate_callee (f := 34) rfl ?_); refine goesL_ (some 6) rfl rfl Try.func34 (by kernel_rfl) rfl #[.int .i64 a0] rfl (by (try simp only [List.map_toArray, List.map_cons, List.map_nil]); first | done | rfl | (simp only [List.length_drop, List.length_take]; rfl)) ?_; (with_reducible refine (anamnesisref02_plain.calls a0 t127 _ A2.out).mono ?_); rintro e w' ⟨rfl, ⟨nd, rfl⟩⟩; refine ⟨_, rfl, ?_⟩) | ((with_reducible refine gate_callee (f := 34) rfl ?_); refine goesL_ (some 9) rfl rfl Try.func34 (by kernel_rfl) rfl #[.int .i64 a0] rfl (by (try simp only [List.map_toArray, List.map_cons, List.map_nil]); first | done | rfl | (simp only [List.length_drop, List.length_take]; rfl)) ?_; (with_reducible refine (anamnesisref02_plain.calls a0 t128 _ A3.out).mono ?_); rintro e w' ⟨rfl, ⟨nd, rfl⟩⟩; refine ⟨_, rfl, ?_⟩))
        go_ret
        exact ⟨by first | rfl | (simp; done) | (simp [*]; done), by repeat (first | exact Drawn0.refl _ | apply Drawn0.step)⟩
      · rw [if_neg c7] at H
        have c7b0 : decide (0 < (Int.tmod t128 4503599627370496)) = false := decide_eq_false c7
        clear c7
        obtain rfl := Option.some.inj H
        go_enter Try.func17, Try.ntmps17
        go_wp2_with (first | ((with_reducible refine gate_callee (f := 34) rfl ?_); refine goesL_ (some 6) rfl rfl Try.func34 (by kernel_rfl) rfl #[.int .i64 a0] rfl (by (try simp only [List.map_toArray, List.map_cons, List.map_nil]); first | done | rfl | (simp only [List.length_drop, List.length_take]; rfl)) ?_; (with_reducible refine (anamnesisref02_plain.calls a0 t127 _ A2.out).mono ?_); rintro e w' ⟨rfl, ⟨nd, rfl⟩⟩; refine ⟨_, rfl, ?_⟩) | ((with_reducible refine gate_callee (f := 34) rfl ?_); refine goesL_ (some 9) rfl rfl Try.func34 (by kernel_rfl) rfl #[.int .i64 a0] rfl (by (try simp only [List.map_toArray, List.map_cons, List.map_nil]); first | done | rfl | (simp only [List.length_drop, List.length_take]; rfl)) ?_; (with_reducible refine (anamnesisref02_plain.calls a0 t128 _ A3.out).mono ?_); rintro e w' ⟨rfl, ⟨nd, rfl⟩⟩; refine ⟨_, rfl, ?_⟩))
        go_ret
        exact ⟨by first | rfl | (simp; done) | (simp [*]; done), by repeat (first | exact Drawn0.refl _ | apply Drawn0.step)⟩

/-! ### anamnesisref02_with: function 32 -/
def anamnesisref02_with.f (a0 : Bool) (a1 : Int) : Option (Int) := if a0 = true then ((anamnesisref02_most.f).bind fun t129 => (some (wrap64 ((wrap64 (a1 - t129)) - 1)))) else (some a1)
set_option maxHeartbeats 8000000 in
set_option maxRecDepth 100000 in
theorem anamnesisref02_with.calls (a0 : Bool) (a1 : Int) (r : Int) (w : World) (h : anamnesisref02_with.f a0 a1 = some r) :
    Calls Try.prog 32 #[.bool a0, .int .i64 a1] w fun e w' => e = .returned (.int .i64 r) ∧ Drawn0 w w' := by
  have H : (if a0 = true then ((anamnesisref02_most.f).bind fun t129 => (some (wrap64 ((wrap64 (a1 - t129)) - 1)))) else (some a1)) = some r := h
  clear h
  by_cases c3 : a0 = true
  · subst c3
    have H1 : ((anamnesisref02_most.f).bind fun t129 => (some (wrap64 ((wrap64 (a1 - t129)) - 1)))) = some r := by rw [if_pos rfl] at H; exact H
    clear H
    have H := H1
    clear H1
    replace H := Option.bind_eq_some_iff.mp H
    obtain ⟨t129, A40, H⟩ := H
    replace H : (some (wrap64 ((wrap64 (a1 - t129)) - 1))) = some r := H
    have A4 := Aside0.mk A40
    clear A40
    obtain rfl := Option.some.inj H
    go_enter Try.func32, Try.ntmps32
    go_wp2_with (first | ((with_reducible refine gate_callee (f := 46) rfl ?_); refine goesL_ (some 7) rfl rfl Try.func46 (by kernel_rfl) rfl #[] rfl (by (try simp only [List.map_toArray, List.map_cons, List.map_nil]); first | done | rfl | (simp only [List.length_drop, List.length_take]; rfl)) ?_; (with_reducible refine (anamnesisref02_most.calls  t129 _ A4.out).mono ?_); rintro e w' ⟨rfl, ⟨nd, rfl⟩⟩; refine ⟨_, rfl, ?_⟩))
    go_ret
    exact ⟨by first | rfl | (simp; done) | (simp [*]; done), by repeat (first | exact Drawn0.refl _ | apply Drawn0.step)⟩
  · replace c3 := Bool.eq_false_iff.mpr c3
    subst c3
    have H1 : (some a1) = some r := by rw [if_neg (show ¬ (false = true) by decide)] at H; exact H
    clear H
    have H := H1
    clear H1
    obtain rfl := Option.some.inj H
    go_enter Try.func32, Try.ntmps32
    go_wp2
    go_ret
    exact ⟨by first | rfl | (simp; done) | (simp [*]; done), by repeat (first | exact Drawn0.refl _ | apply Drawn0.step)⟩

/-! ### anamnesisref02_sign: function 33 -/
def anamnesisref02_sign.f (a0 : Int) : Option (Bool) := some (decide (a0 < 0))
set_option maxHeartbeats 8000000 in
set_option maxRecDepth 100000 in
theorem anamnesisref02_sign.calls (a0 : Int) (r : Bool) (w : World) (h : anamnesisref02_sign.f a0 = some r) :
    Calls Try.prog 33 #[.int .i64 a0] w fun e w' => e = .returned (.bool r) ∧ Drawn0 w w' := by
  have H : (some (decide (a0 < 0))) = some r := h
  clear h
  obtain rfl := Option.some.inj H
  go_enter Try.func33, Try.ntmps33
  go_wp2
  go_ret
  exact ⟨by first | rfl | (simp; done) | (simp [*]; done), by repeat (first | exact Drawn0.refl _ | apply Drawn0.step)⟩

/-! ### anamnesisref02_part: function 38 -/
def anamnesisref02_part.l0 : Nat → Int → Int → Option (Int × Int)
  | 0, _, _ => none
  | k + 1, x5, x6 => if x5 < 4503599627370496 then (anamnesisref02_part.l0 k (wrap64 (2 * x5)) (wrap64 (x6 - 1))) else (some (x5, x6))
def anamnesisref02_part.f (k : Nat) (a0 : Int) : Option (Int × Int) := (anamnesisref02_plain.f a0).bind fun t130 => ((anamnesisref02_plain.f a0).bind fun t131 => (if (t130 / 4503599627370496) > 0 then (some (wrap64 ((Int.tmod t131 4503599627370496) + 4503599627370496), wrap64 ((t130 / 4503599627370496) - 1075))) else (anamnesisref02_part.l0 k (Int.tmod t131 4503599627370496) (-1074))))
theorem anamnesisref02_part.mono_l : ∀ k, (∀ y0 y1, LeO (anamnesisref02_part.l0 k y0 y1) (anamnesisref02_part.l0 (k + 1) y0 y1))
  | 0 => fun _ _ r h => by simp [anamnesisref02_part.l0] at h
  | k + 1 => by
    have ih0 := anamnesisref02_part.mono_l k
    · intro y0 y1
      unfold anamnesisref02_part.l0
      repeat' first
      | (with_reducible exact ih0 _ _)
      | (with_reducible exact LeO.refl _)
      | (with_reducible exact LeO.none _)
      | (with_reducible refine LeO.ite ?_ ?_)
      | (with_reducible refine LeO.bind ?_ (fun _ => ?_))
      | exact ih0 _ _
      | exact LeO.none _
      | refine LeO.ite ?_ ?_
      | refine LeO.bind ?_ (fun _ => ?_)
theorem anamnesisref02_part.mono : ∀ a0 k, LeO (anamnesisref02_part.f k a0) (anamnesisref02_part.f (k + 1) a0) := by
  intro a0 k
  have ih0 := anamnesisref02_part.mono_l k
  unfold anamnesisref02_part.f
  repeat' first
      | (with_reducible exact ih0 _ _)
      | (with_reducible exact LeO.refl _)
      | (with_reducible exact LeO.none _)
      | (with_reducible refine LeO.ite ?_ ?_)
      | (with_reducible refine LeO.bind ?_ (fun _ => ?_))
      | exact ih0 _ _
      | exact LeO.none _
      | refine LeO.ite ?_ ?_
      | refine LeO.bind ?_ (fun _ => ?_)
set_option maxHeartbeats 8000000 in
set_option maxRecDepth 100000 in
theorem anamnesisref02_part.calls (k : Nat) (a0 : Int) (r1 : Int) (r2 : Int) (w : World) (h : anamnesisref02_part.f k a0 = some (r1, r2)) :
    Calls Try.prog 38 #[.int .i64 a0] w fun e w' => e = .returned (.tuple #[.int .i64 r1, .int .i64 r2]) ∧ Drawn0 w w' := by
  have H : ((anamnesisref02_plain.f a0).bind fun t130 => ((anamnesisref02_plain.f a0).bind fun t131 => (if (t130 / 4503599627370496) > 0 then (some (wrap64 ((Int.tmod t131 4503599627370496) + 4503599627370496), wrap64 ((t130 / 4503599627370496) - 1075))) else (anamnesisref02_part.l0 k (Int.tmod t131 4503599627370496) (-1074))))) = some (r1, r2) := h
  clear h
  replace H := Option.bind_eq_some_iff.mp H
  obtain ⟨t130, A20, H⟩ := H
  replace H : ((anamnesisref02_plain.f a0).bind fun t131 => (if (t130 / 4503599627370496) > 0 then (some (wrap64 ((Int.tmod t131 4503599627370496) + 4503599627370496), wrap64 ((t130 / 4503599627370496) - 1075))) else (anamnesisref02_part.l0 k (Int.tmod t131 4503599627370496) (-1074)))) = some (r1, r2) := H
  have A2 := Aside0.mk A20
  clear A20
  replace H := Option.bind_eq_some_iff.mp H
  obtain ⟨t131, A30, H⟩ := H
  replace H : (if (t130 / 4503599627370496) > 0 then (some (wrap64 ((Int.tmod t131 4503599627370496) + 4503599627370496), wrap64 ((t130 / 4503599627370496) - 1075))) else (anamnesisref02_part.l0 k (Int.tmod t131 4503599627370496) (-1074))) = some (r1, r2) := H
  have A3 := Aside0.mk A30
  clear A30
  by_cases c4 : (t130 / 4503599627370496) > 0
  · rw [if_pos c4] at H
    have c4b0 : decide (0 < (t130 / 4503599627370496)) = true := decide_eq_true c4
    clear c4
    simp only [Option.some.injEq, Prod.mk.injEq] at H
    obtain ⟨rfl, rfl⟩ := H
    go_enter Try.func38, Try.ntmps38
    go_wp2_with (first | ((with_reducible refine gate_callee (f := 34) rfl ?_); refine goesL_ (some 8) rfl rfl Try.func34 (by kernel_rfl) rfl #[.int .i64 a0] rfl (by (try simp only [List.map_toArray, List.map_cons, List.map_nil]); first | done | rfl | (simp only [List.length_drop, List.length_take]; rfl)) ?_; (with_reducible refine (anamnesisref02_plain.calls a0 t130 _ A2.out).mono ?_); rintro e w' ⟨rfl, ⟨nd, rfl⟩⟩; refine ⟨_, rfl, ?_⟩) | ((with_reducible refine gate_callee (f := 34) rfl ?_); refine goesL_ (some 11) rfl rfl Try.func34 (by kernel_rfl) rfl #[.int .i64 a0] rfl (by (try simp only [List.map_toArray, List.map_cons, List.map_nil]); first | done | rfl | (simp only [List.length_drop, List.length_take]; rfl)) ?_; (with_reducible refine (anamnesisref02_plain.calls a0 t131 _ A3.out).mono ?_); rintro e w' ⟨rfl, ⟨nd, rfl⟩⟩; refine ⟨_, rfl, ?_⟩))
    go_ret2
    exact ⟨by first | rfl | (simp; done) | (simp [*]; done), by repeat (first | exact Drawn0.refl _ | apply Drawn0.step)⟩
  · rw [if_neg c4] at H
    have c4b0 : decide (0 < (t130 / 4503599627370496)) = false := decide_eq_false c4
    clear c4
    have H' := Aside0.mk H
    clear H
    go_enter Try.func38, Try.ntmps38
    go_wp2_with (first | ((with_reducible refine gate_callee (f := 34) rfl ?_); refine goesL_ (some 8) rfl rfl Try.func34 (by kernel_rfl) rfl #[.int .i64 a0] rfl (by (try simp only [List.map_toArray, List.map_cons, List.map_nil]); first | done | rfl | (simp only [List.length_drop, List.length_take]; rfl)) ?_; (with_reducible refine (anamnesisref02_plain.calls a0 t130 _ A2.out).mono ?_); rintro e w' ⟨rfl, ⟨nd, rfl⟩⟩; refine ⟨_, rfl, ?_⟩) | ((with_reducible refine gate_callee (f := 34) rfl ?_); refine goesL_ (some 11) rfl rfl Try.func34 (by kernel_rfl) rfl #[.int .i64 a0] rfl (by (try simp only [List.map_toArray, List.map_cons, List.map_nil]); first | done | rfl | (simp only [List.length_drop, List.length_take]; rfl)) ?_; (with_reducible refine (anamnesisref02_plain.calls a0 t131 _ A3.out).mono ?_); rintro e w' ⟨rfl, ⟨nd, rfl⟩⟩; refine ⟨_, rfl, ?_⟩))
    go_loopg [5, 6] k (fun kq v5 v6 w' => ∃ (x5_1 : Int) (x6_1 : Int), v5 = .int .i64 x5_1 ∧ v6 = .int .i64 x6_1 ∧ Aside0 (anamnesisref02_part.l0 kq x5_1 x6_1 = some (r1, r2)) ∧ Aside0 (kq ≤ k) ∧ Drawn0 w w')
    case atStart => exact ⟨(Int.tmod t131 4503599627370496), ((-1074)), (by first | rfl | (simp; done) | (simp [*]; done)), (by first | rfl | (simp; done) | (simp [*]; done)), H', ⟨Nat.le_refl _⟩, by repeat (first | exact Drawn0.refl _ | apply Drawn0.step)⟩
    case round =>
      clear H'
      try clear p2
      try clear c3
      try clear c4
      try clear c4b0
      obtain ⟨x5_1, x6_1, rfl, rfl, HA, HK1, ⟨m1, rfl⟩⟩ := hrel
      cases gk with
      | zero => exact absurd HA.out (by simp [anamnesisref02_part.l0])
      | succ k1 =>
        have H := HA.out
        clear HA
        simp only [anamnesisref02_part.l0] at H
        by_cases c5 : x5_1 < 4503599627370496
        · rw [if_pos c5] at H
          have c5b0 : decide (x5_1 < 4503599627370496) = true := decide_eq_true c5
          clear c5
          have H' := Aside0.mk H
          clear H
          go_wp2
          go_roundg k1
          case measure => have := HK1.out; omega
          case rel => exact ⟨(wrap64 (2 * x5_1)), (wrap64 (x6_1 - 1)), (by first | rfl | (simp; done) | (simp [*]; done)), (by first | rfl | (simp; done) | (simp [*]; done)), H', ⟨by have := HK1.out; omega⟩, by repeat (first | exact Drawn0.refl _ | apply Drawn0.step)⟩
        · rw [if_neg c5] at H
          have c5b0 : decide (x5_1 < 4503599627370496) = false := decide_eq_false c5
          clear c5
          simp only [Option.some.injEq, Prod.mk.injEq] at H
          obtain ⟨rfl, rfl⟩ := H
          go_wp2
          go_ret2
          exact ⟨by first | rfl | (simp; done) | (simp [*]; done), by repeat (first | exact Drawn0.refl _ | apply Drawn0.step)⟩

/-! ### anamnesisref02_top: function 49 -/
def anamnesisref02_top.l0 : Nat → Int → Int → Option (Int)
  | 0, _, _ => none
  | k + 1, x0, x3 => if x0 > 1 then (anamnesisref02_top.l0 k (wrap64 (Int.tdiv x0 2)) (wrap64 (x3 + 1))) else (some x3)
def anamnesisref02_top.f (k : Nat) (a0 : Int) : Option (Int) := anamnesisref02_top.l0 k a0 0
theorem anamnesisref02_top.mono_l : ∀ k, (∀ y0 y1, LeO (anamnesisref02_top.l0 k y0 y1) (anamnesisref02_top.l0 (k + 1) y0 y1))
  | 0 => fun _ _ r h => by simp [anamnesisref02_top.l0] at h
  | k + 1 => by
    have ih0 := anamnesisref02_top.mono_l k
    · intro y0 y1
      unfold anamnesisref02_top.l0
      repeat' first
      | (with_reducible exact ih0 _ _)
      | (with_reducible exact LeO.refl _)
      | (with_reducible exact LeO.none _)
      | (with_reducible refine LeO.ite ?_ ?_)
      | (with_reducible refine LeO.bind ?_ (fun _ => ?_))
      | exact ih0 _ _
      | exact LeO.none _
      | refine LeO.ite ?_ ?_
      | refine LeO.bind ?_ (fun _ => ?_)
theorem anamnesisref02_top.mono : ∀ a0 k, LeO (anamnesisref02_top.f k a0) (anamnesisref02_top.f (k + 1) a0) := by
  intro a0 k
  have ih0 := anamnesisref02_top.mono_l k
  unfold anamnesisref02_top.f
  repeat' first
      | (with_reducible exact ih0 _ _)
      | (with_reducible exact LeO.refl _)
      | (with_reducible exact LeO.none _)
      | (with_reducible refine LeO.ite ?_ ?_)
      | (with_reducible refine LeO.bind ?_ (fun _ => ?_))
      | exact ih0 _ _
      | exact LeO.none _
      | refine LeO.ite ?_ ?_
      | refine LeO.bind ?_ (fun _ => ?_)
set_option maxHeartbeats 8000000 in
set_option maxRecDepth 100000 in
theorem anamnesisref02_top.calls (k : Nat) (a0 : Int) (r : Int) (w : World) (h : anamnesisref02_top.f k a0 = some r) :
    Calls Try.prog 49 #[.int .i64 a0] w fun e w' => e = .returned (.int .i64 r) ∧ Drawn0 w w' := by
  have H : (anamnesisref02_top.l0 k a0 0) = some r := h
  clear h
  have H' := Aside0.mk H
  clear H
  go_enter Try.func49, Try.ntmps49
  go_wp2
  go_loopg [0, 3] k (fun kq v0 v3 w' => ∃ (x0_1 : Int) (x3_1 : Int), v0 = .int .i64 x0_1 ∧ v3 = .int .i64 x3_1 ∧ Aside0 (anamnesisref02_top.l0 kq x0_1 x3_1 = some r) ∧ Aside0 (kq ≤ k) ∧ Drawn0 w w')
  case atStart => exact ⟨(a0), (0), (by first | rfl | (simp; done) | (simp [*]; done)), (by first | rfl | (simp; done) | (simp [*]; done)), H', ⟨Nat.le_refl _⟩, by repeat (first | exact Drawn0.refl _ | apply Drawn0.step)⟩
  case round =>
    clear H'
    obtain ⟨x0_1, x3_1, rfl, rfl, HA, HK1, ⟨m1, rfl⟩⟩ := hrel
    cases gk with
    | zero => exact absurd HA.out (by simp [anamnesisref02_top.l0])
    | succ k1 =>
      have H := HA.out
      clear HA
      simp only [anamnesisref02_top.l0] at H
      by_cases c2 : x0_1 > 1
      · rw [if_pos c2] at H
        have c2b0 : decide (1 < x0_1) = true := decide_eq_true c2
        clear c2
        have H' := Aside0.mk H
        clear H
        go_wp2
        go_roundg k1
        case measure => have := HK1.out; omega
        case rel => exact ⟨(wrap64 (Int.tdiv x0_1 2)), (wrap64 (x3_1 + 1)), (by first | rfl | (simp; done) | (simp [*]; done)), (by first | rfl | (simp; done) | (simp [*]; done)), H', ⟨by have := HK1.out; omega⟩, by repeat (first | exact Drawn0.refl _ | apply Drawn0.step)⟩
      · rw [if_neg c2] at H
        have c2b0 : decide (1 < x0_1) = false := decide_eq_false c2
        clear c2
        obtain rfl := Option.some.inj H
        go_wp2
        go_ret
        exact ⟨by first | rfl | (simp; done) | (simp [*]; done), by repeat (first | exact Drawn0.refl _ | apply Drawn0.step)⟩

end Go.Proofs.Ytbnpodkfcfdpeaa.PFlt
