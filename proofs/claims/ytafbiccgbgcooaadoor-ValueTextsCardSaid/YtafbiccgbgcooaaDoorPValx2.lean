-- laid by a program of this session (gprint.py)
import Derived.Test.YtafbiccgbgcooaaDoorPValx0
import Derived.Test.YtafbiccgbgcooaaDoorPValx1
namespace Go.Proofs.YtafbiccgbgcooaaDoor.PVal
open Go.RowKit Go.Proofs.YtafbiccgbgcooaaDoorW.PrintWords Go.Proofs.YtafbiccgbgcooaaDoorW.PrintLast Go.Proofs.YtafbiccgbgcooaaDoorW.PrintMore
attribute [local go_sem] max2_int min2_int max_two min_two max_three min_three max_four min_four   -- for this text's walks alone
set_option linter.unusedVariables false
set_option linter.unusedSimpArgs false

/-! ### anamnesislaw01_fixedq: function 20 -/
def anamnesislaw01_fixedq.f  : Option (Bool) := (value_Int.f (-1)).bind fun bt132 => ((value_Int.f 3).bind fun bt134 => ((value_Ref.f 3).bind fun bt136 => ((value_N.f (-1)).bind fun bt138 => ((value_At.f 6).bind fun bt140 => ((value_Int.f 1073741824).bind fun bt142 => ((value_Ref.f (-1)).bind fun bt144 => (if bt132.1 = (-1) then (if bt132.2 = true then (if bt134.1 = 7 then (if bt134.2 = true then (if bt136.1 = 6 then (if bt136.2 = true then (if bt138.1 = (-1) then (if bt138.2 = true then (if bt140.1 = 3 then (if bt140.2 = true then (if bt142.2 = true then (some false) else (if bt144.2 = true then (some false) else ((value_Text.f 7).bind fun t146 => (if t146.toList = ([51] : List UInt8) then ((value_Text.f (-1)).bind fun t147 => (if t147.toList = ([45, 49] : List UInt8) then ((value_Text.f 6).bind fun t148 => (if t148.toList = ([64, 51] : List UInt8) then ((value_Text.f (-2)).bind fun t149 => (if t149.toList = ([] : List UInt8) then ((value_May.f 6).bind fun t150 => (if t150 = true then ((value_May.f (-2)).bind fun t151 => (some (!t151))) else (some false))) else (some false))) else (some false))) else (some false))) else (some false))))) else (some false)) else (some false)) else (some false)) else (some false)) else (some false)) else (some false)) else (some false)) else (some false)) else (some false)) else (some false))))))))
set_option maxHeartbeats 8000000 in
set_option maxRecDepth 100000 in
theorem anamnesislaw01_fixedq.calls  (r : Bool) (w : World) (h : anamnesislaw01_fixedq.f  = some r) (hr : r = true) (htab : pow10Is w) :
    Calls Tryd.prog 20 #[] w fun e w' => e = .returned (.bool r) ∧ Below w.heap.size w w' := by
  have hr_ := Aside0.mk hr
  clear hr
  have htab_ := Aside0.mk htab
  clear htab
  have HB := Aside0.mk (Below.refl w.heap.size w)
  have H : ((value_Int.f (-1)).bind fun bt132 => ((value_Int.f 3).bind fun bt134 => ((value_Ref.f 3).bind fun bt136 => ((value_N.f (-1)).bind fun bt138 => ((value_At.f 6).bind fun bt140 => ((value_Int.f 1073741824).bind fun bt142 => ((value_Ref.f (-1)).bind fun bt144 => (if bt132.1 = (-1) then (if bt132.2 = true then (if bt134.1 = 7 then (if bt134.2 = true then (if bt136.1 = 6 then (if bt136.2 = true then (if bt138.1 = (-1) then (if bt138.2 = true then (if bt140.1 = 3 then (if bt140.2 = true then (if bt142.2 = true then (some false) else (if bt144.2 = true then (some false) else ((value_Text.f 7).bind fun t146 => (if t146.toList = ([51] : List UInt8) then ((value_Text.f (-1)).bind fun t147 => (if t147.toList = ([45, 49] : List UInt8) then ((value_Text.f 6).bind fun t148 => (if t148.toList = ([64, 51] : List UInt8) then ((value_Text.f (-2)).bind fun t149 => (if t149.toList = ([] : List UInt8) then ((value_May.f 6).bind fun t150 => (if t150 = true then ((value_May.f (-2)).bind fun t151 => (some (!t151))) else (some false))) else (some false))) else (some false))) else (some false))) else (some false))))) else (some false)) else (some false)) else (some false)) else (some false)) else (some false)) else (some false)) else (some false)) else (some false)) else (some false)) else (some false))))))))) = some r := h
  clear h
  replace H := Option.bind_eq_some_iff.mp H
  obtain ⟨⟨t132, t133⟩, A10, H⟩ := H
  replace H : ((value_Int.f 3).bind fun bt134 => ((value_Ref.f 3).bind fun bt136 => ((value_N.f (-1)).bind fun bt138 => ((value_At.f 6).bind fun bt140 => ((value_Int.f 1073741824).bind fun bt142 => ((value_Ref.f (-1)).bind fun bt144 => (if t132 = (-1) then (if t133 = true then (if bt134.1 = 7 then (if bt134.2 = true then (if bt136.1 = 6 then (if bt136.2 = true then (if bt138.1 = (-1) then (if bt138.2 = true then (if bt140.1 = 3 then (if bt140.2 = true then (if bt142.2 = true then (some false) else (if bt144.2 = true then (some false) else ((value_Text.f 7).bind fun t146 => (if t146.toList = ([51] : List UInt8) then ((value_Text.f (-1)).bind fun t147 => (if t147.toList = ([45, 49] : List UInt8) then ((value_Text.f 6).bind fun t148 => (if t148.toList = ([64, 51] : List UInt8) then ((value_Text.f (-2)).bind fun t149 => (if t149.toList = ([] : List UInt8) then ((value_May.f 6).bind fun t150 => (if t150 = true then ((value_May.f (-2)).bind fun t151 => (some (!t151))) else (some false))) else (some false))) else (some false))) else (some false))) else (some false))))) else (some false)) else (some false)) else (some false)) else (some false)) else (some false)) else (some false)) else (some false)) else (some false)) else (some false)) else (some false)))))))) = some r := H
  have A1 := Aside0.mk A10
  clear A10
  replace H := Option.bind_eq_some_iff.mp H
  obtain ⟨⟨t134, t135⟩, A20, H⟩ := H
  replace H : ((value_Ref.f 3).bind fun bt136 => ((value_N.f (-1)).bind fun bt138 => ((value_At.f 6).bind fun bt140 => ((value_Int.f 1073741824).bind fun bt142 => ((value_Ref.f (-1)).bind fun bt144 => (if t132 = (-1) then (if t133 = true then (if t134 = 7 then (if t135 = true then (if bt136.1 = 6 then (if bt136.2 = true then (if bt138.1 = (-1) then (if bt138.2 = true then (if bt140.1 = 3 then (if bt140.2 = true then (if bt142.2 = true then (some false) else (if bt144.2 = true then (some false) else ((value_Text.f 7).bind fun t146 => (if t146.toList = ([51] : List UInt8) then ((value_Text.f (-1)).bind fun t147 => (if t147.toList = ([45, 49] : List UInt8) then ((value_Text.f 6).bind fun t148 => (if t148.toList = ([64, 51] : List UInt8) then ((value_Text.f (-2)).bind fun t149 => (if t149.toList = ([] : List UInt8) then ((value_May.f 6).bind fun t150 => (if t150 = true then ((value_May.f (-2)).bind fun t151 => (some (!t151))) else (some false))) else (some false))) else (some false))) else (some false))) else (some false))))) else (some false)) else (some false)) else (some false)) else (some false)) else (some false)) else (some false)) else (some false)) else (some false)) else (some false)) else (some false))))))) = some r := H
  have A2 := Aside0.mk A20
  clear A20
  replace H := Option.bind_eq_some_iff.mp H
  obtain ⟨⟨t136, t137⟩, A30, H⟩ := H
  replace H : ((value_N.f (-1)).bind fun bt138 => ((value_At.f 6).bind fun bt140 => ((value_Int.f 1073741824).bind fun bt142 => ((value_Ref.f (-1)).bind fun bt144 => (if t132 = (-1) then (if t133 = true then (if t134 = 7 then (if t135 = true then (if t136 = 6 then (if t137 = true then (if bt138.1 = (-1) then (if bt138.2 = true then (if bt140.1 = 3 then (if bt140.2 = true then (if bt142.2 = true then (some false) else (if bt144.2 = true then (some false) else ((value_Text.f 7).bind fun t146 => (if t146.toList = ([51] : List UInt8) then ((value_Text.f (-1)).bind fun t147 => (if t147.toList = ([45, 49] : List UInt8) then ((value_Text.f 6).bind fun t148 => (if t148.toList = ([64, 51] : List UInt8) then ((value_Text.f (-2)).bind fun t149 => (if t149.toList = ([] : List UInt8) then ((value_May.f 6).bind fun t150 => (if t150 = true then ((value_May.f (-2)).bind fun t151 => (some (!t151))) else (some false))) else (some false))) else (some false))) else (some false))) else (some false))))) else (some false)) else (some false)) else (some false)) else (some false)) else (some false)) else (some false)) else (some false)) else (some false)) else (some false)) else (some false)))))) = some r := H
  have A3 := Aside0.mk A30
  clear A30
  replace H := Option.bind_eq_some_iff.mp H
  obtain ⟨⟨t138, t139⟩, A40, H⟩ := H
  replace H : ((value_At.f 6).bind fun bt140 => ((value_Int.f 1073741824).bind fun bt142 => ((value_Ref.f (-1)).bind fun bt144 => (if t132 = (-1) then (if t133 = true then (if t134 = 7 then (if t135 = true then (if t136 = 6 then (if t137 = true then (if t138 = (-1) then (if t139 = true then (if bt140.1 = 3 then (if bt140.2 = true then (if bt142.2 = true then (some false) else (if bt144.2 = true then (some false) else ((value_Text.f 7).bind fun t146 => (if t146.toList = ([51] : List UInt8) then ((value_Text.f (-1)).bind fun t147 => (if t147.toList = ([45, 49] : List UInt8) then ((value_Text.f 6).bind fun t148 => (if t148.toList = ([64, 51] : List UInt8) then ((value_Text.f (-2)).bind fun t149 => (if t149.toList = ([] : List UInt8) then ((value_May.f 6).bind fun t150 => (if t150 = true then ((value_May.f (-2)).bind fun t151 => (some (!t151))) else (some false))) else (some false))) else (some false))) else (some false))) else (some false))))) else (some false)) else (some false)) else (some false)) else (some false)) else (some false)) else (some false)) else (some false)) else (some false)) else (some false)) else (some false))))) = some r := H
  have A4 := Aside0.mk A40
  clear A40
  replace H := Option.bind_eq_some_iff.mp H
  obtain ⟨⟨t140, t141⟩, A50, H⟩ := H
  replace H : ((value_Int.f 1073741824).bind fun bt142 => ((value_Ref.f (-1)).bind fun bt144 => (if t132 = (-1) then (if t133 = true then (if t134 = 7 then (if t135 = true then (if t136 = 6 then (if t137 = true then (if t138 = (-1) then (if t139 = true then (if t140 = 3 then (if t141 = true then (if bt142.2 = true then (some false) else (if bt144.2 = true then (some false) else ((value_Text.f 7).bind fun t146 => (if t146.toList = ([51] : List UInt8) then ((value_Text.f (-1)).bind fun t147 => (if t147.toList = ([45, 49] : List UInt8) then ((value_Text.f 6).bind fun t148 => (if t148.toList = ([64, 51] : List UInt8) then ((value_Text.f (-2)).bind fun t149 => (if t149.toList = ([] : List UInt8) then ((value_May.f 6).bind fun t150 => (if t150 = true then ((value_May.f (-2)).bind fun t151 => (some (!t151))) else (some false))) else (some false))) else (some false))) else (some false))) else (some false))))) else (some false)) else (some false)) else (some false)) else (some false)) else (some false)) else (some false)) else (some false)) else (some false)) else (some false)) else (some false)))) = some r := H
  have A5 := Aside0.mk A50
  clear A50
  replace H := Option.bind_eq_some_iff.mp H
  obtain ⟨⟨t142, t143⟩, A60, H⟩ := H
  replace H : ((value_Ref.f (-1)).bind fun bt144 => (if t132 = (-1) then (if t133 = true then (if t134 = 7 then (if t135 = true then (if t136 = 6 then (if t137 = true then (if t138 = (-1) then (if t139 = true then (if t140 = 3 then (if t141 = true then (if t143 = true then (some false) else (if bt144.2 = true then (some false) else ((value_Text.f 7).bind fun t146 => (if t146.toList = ([51] : List UInt8) then ((value_Text.f (-1)).bind fun t147 => (if t147.toList = ([45, 49] : List UInt8) then ((value_Text.f 6).bind fun t148 => (if t148.toList = ([64, 51] : List UInt8) then ((value_Text.f (-2)).bind fun t149 => (if t149.toList = ([] : List UInt8) then ((value_May.f 6).bind fun t150 => (if t150 = true then ((value_May.f (-2)).bind fun t151 => (some (!t151))) else (some false))) else (some false))) else (some false))) else (some false))) else (some false))))) else (some false)) else (some false)) else (some false)) else (some false)) else (some false)) else (some false)) else (some false)) else (some false)) else (some false)) else (some false))) = some r := H
  have A6 := Aside0.mk A60
  clear A60
  replace H := Option.bind_eq_some_iff.mp H
  obtain ⟨⟨t144, t145⟩, A70, H⟩ := H
  replace H : (if t132 = (-1) then (if t133 = true then (if t134 = 7 then (if t135 = true then (if t136 = 6 then (if t137 = true then (if t138 = (-1) then (if t139 = true then (if t140 = 3 then (if t141 = true then (if t143 = true then (some false) else (if t145 = true then (some false) else ((value_Text.f 7).bind fun t146 => (if t146.toList = ([51] : List UInt8) then ((value_Text.f (-1)).bind fun t147 => (if t147.toList = ([45, 49] : List UInt8) then ((value_Text.f 6).bind fun t148 => (if t148.toList = ([64, 51] : List UInt8) then ((value_Text.f (-2)).bind fun t149 => (if t149.toList = ([] : List UInt8) then ((value_May.f 6).bind fun t150 => (if t150 = true then ((value_May.f (-2)).bind fun t151 => (some (!t151))) else (some false))) else (some false))) else (some false))) else (some false))) else (some false))))) else (some false)) else (some false)) else (some false)) else (some false)) else (some false)) else (some false)) else (some false)) else (some false)) else (some false)) else (some false)) = some r := H
  have A7 := Aside0.mk A70
  clear A70
  by_cases c8 : t132 = (-1)
  · rw [if_pos c8] at H
    have c8b0 : (t132 == (-1)) = true := beq_iff_eq.mpr c8
    have c8b1 : (t132 != (-1)) = false := bne_eq_false_iff_eq.mpr c8
    clear c8
    by_cases c9 : t133 = true
    · subst c9
      have H1 : (if t134 = 7 then (if t135 = true then (if t136 = 6 then (if t137 = true then (if t138 = (-1) then (if t139 = true then (if t140 = 3 then (if t141 = true then (if t143 = true then (some false) else (if t145 = true then (some false) else ((value_Text.f 7).bind fun t146 => (if t146.toList = ([51] : List UInt8) then ((value_Text.f (-1)).bind fun t147 => (if t147.toList = ([45, 49] : List UInt8) then ((value_Text.f 6).bind fun t148 => (if t148.toList = ([64, 51] : List UInt8) then ((value_Text.f (-2)).bind fun t149 => (if t149.toList = ([] : List UInt8) then ((value_May.f 6).bind fun t150 => (if t150 = true then ((value_May.f (-2)).bind fun t151 => (some (!t151))) else (some false))) else (some false))) else (some false))) else (some false))) else (some false))))) else (some false)) else (some false)) else (some false)) else (some false)) else (some false)) else (some false)) else (some false)) else (some false)) = some r := by rw [if_pos rfl] at H; exact H
      clear H
      have H := H1
      clear H1
      by_cases c10 : t134 = 7
      · rw [if_pos c10] at H
        have c10b0 : (t134 == 7) = true := beq_iff_eq.mpr c10
        have c10b1 : (t134 != 7) = false := bne_eq_false_iff_eq.mpr c10
        clear c10
        by_cases c11 : t135 = true
        · subst c11
          have H1 : (if t136 = 6 then (if t137 = true then (if t138 = (-1) then (if t139 = true then (if t140 = 3 then (if t141 = true then (if t143 = true then (some false) else (if t145 = true then (some false) else ((value_Text.f 7).bind fun t146 => (if t146.toList = ([51] : List UInt8) then ((value_Text.f (-1)).bind fun t147 => (if t147.toList = ([45, 49] : List UInt8) then ((value_Text.f 6).bind fun t148 => (if t148.toList = ([64, 51] : List UInt8) then ((value_Text.f (-2)).bind fun t149 => (if t149.toList = ([] : List UInt8) then ((value_May.f 6).bind fun t150 => (if t150 = true then ((value_May.f (-2)).bind fun t151 => (some (!t151))) else (some false))) else (some false))) else (some false))) else (some false))) else (some false))))) else (some false)) else (some false)) else (some false)) else (some false)) else (some false)) else (some false)) = some r := by rw [if_pos rfl] at H; exact H
          clear H
          have H := H1
          clear H1
          by_cases c12 : t136 = 6
          · rw [if_pos c12] at H
            have c12b0 : (t136 == 6) = true := beq_iff_eq.mpr c12
            have c12b1 : (t136 != 6) = false := bne_eq_false_iff_eq.mpr c12
            clear c12
            by_cases c13 : t137 = true
            · subst c13
              have H1 : (if t138 = (-1) then (if t139 = true then (if t140 = 3 then (if t141 = true then (if t143 = true then (some false) else (if t145 = true then (some false) else ((value_Text.f 7).bind fun t146 => (if t146.toList = ([51] : List UInt8) then ((value_Text.f (-1)).bind fun t147 => (if t147.toList = ([45, 49] : List UInt8) then ((value_Text.f 6).bind fun t148 => (if t148.toList = ([64, 51] : List UInt8) then ((value_Text.f (-2)).bind fun t149 => (if t149.toList = ([] : List UInt8) then ((value_May.f 6).bind fun t150 => (if t150 = true then ((value_May.f (-2)).bind fun t151 => (some (!t151))) else (some false))) else (some false))) else (some false))) else (some false))) else (some false))))) else (some false)) else (some false)) else (some false)) else (some false)) = some r := by rw [if_pos rfl] at H; exact H
              clear H
              have H := H1
              clear H1
              by_cases c14 : t138 = (-1)
              · rw [if_pos c14] at H
                have c14b0 : (t138 == (-1)) = true := beq_iff_eq.mpr c14
                have c14b1 : (t138 != (-1)) = false := bne_eq_false_iff_eq.mpr c14
                clear c14
                by_cases c15 : t139 = true
                · subst c15
                  have H1 : (if t140 = 3 then (if t141 = true then (if t143 = true then (some false) else (if t145 = true then (some false) else ((value_Text.f 7).bind fun t146 => (if t146.toList = ([51] : List UInt8) then ((value_Text.f (-1)).bind fun t147 => (if t147.toList = ([45, 49] : List UInt8) then ((value_Text.f 6).bind fun t148 => (if t148.toList = ([64, 51] : List UInt8) then ((value_Text.f (-2)).bind fun t149 => (if t149.toList = ([] : List UInt8) then ((value_May.f 6).bind fun t150 => (if t150 = true then ((value_May.f (-2)).bind fun t151 => (some (!t151))) else (some false))) else (some false))) else (some false))) else (some false))) else (some false))))) else (some false)) else (some false)) = some r := by rw [if_pos rfl] at H; exact H
                  clear H
                  have H := H1
                  clear H1
                  by_cases c16 : t140 = 3
                  · rw [if_pos c16] at H
                    have c16b0 : (t140 == 3) = true := beq_iff_eq.mpr c16
                    have c16b1 : (t140 != 3) = false := bne_eq_false_iff_eq.mpr c16
                    clear c16
                    by_cases c17 : t141 = true
                    · subst c17
                      have H1 : (if t143 = true then (some false) else (if t145 = true then (some false) else ((value_Text.f 7).bind fun t146 => (if t146.toList = ([51] : List UInt8) then ((value_Text.f (-1)).bind fun t147 => (if t147.toList = ([45, 49] : List UInt8) then ((value_Text.f 6).bind fun t148 => (if t148.toList = ([64, 51] : List UInt8) then ((value_Text.f (-2)).bind fun t149 => (if t149.toList = ([] : List UInt8) then ((value_May.f 6).bind fun t150 => (if t150 = true then ((value_May.f (-2)).bind fun t151 => (some (!t151))) else (some false))) else (some false))) else (some false))) else (some false))) else (some false))))) = some r := by rw [if_pos rfl] at H; exact H
                      clear H
                      have H := H1
                      clear H1
                      by_cases c18 : t143 = true
                      · subst c18
                        have H1 : (some false) = some r := by rw [if_pos rfl] at H; exact H
                        clear H
                        have H := H1
                        clear H1
                        obtain rfl := Option.some.inj H
                        exact absurd hr_.out (by decide)
                      · replace c18 := Bool.eq_false_iff.mpr c18
                        subst c18
                        have H1 : (if t145 = true then (some false) else ((value_Text.f 7).bind fun t146 => (if t146.toList = ([51] : List UInt8) then ((value_Text.f (-1)).bind fun t147 => (if t147.toList = ([45, 49] : List UInt8) then ((value_Text.f 6).bind fun t148 => (if t148.toList = ([64, 51] : List UInt8) then ((value_Text.f (-2)).bind fun t149 => (if t149.toList = ([] : List UInt8) then ((value_May.f 6).bind fun t150 => (if t150 = true then ((value_May.f (-2)).bind fun t151 => (some (!t151))) else (some false))) else (some false))) else (some false))) else (some false))) else (some false)))) = some r := by rw [if_neg (show ¬ (false = true) by decide)] at H; exact H
                        clear H
                        have H := H1
                        clear H1
                        by_cases c19 : t145 = true
                        · subst c19
                          have H1 : (some false) = some r := by rw [if_pos rfl] at H; exact H
                          clear H
                          have H := H1
                          clear H1
                          obtain rfl := Option.some.inj H
                          exact absurd hr_.out (by decide)
                        · replace c19 := Bool.eq_false_iff.mpr c19
                          subst c19
                          have H1 : ((value_Text.f 7).bind fun t146 => (if t146.toList = ([51] : List UInt8) then ((value_Text.f (-1)).bind fun t147 => (if t147.toList = ([45, 49] : List UInt8) then ((value_Text.f 6).bind fun t148 => (if t148.toList = ([64, 51] : List UInt8) then ((value_Text.f (-2)).bind fun t149 => (if t149.toList = ([] : List UInt8) then ((value_May.f 6).bind fun t150 => (if t150 = true then ((value_May.f (-2)).bind fun t151 => (some (!t151))) else (some false))) else (some false))) else (some false))) else (some false))) else (some false))) = some r := by rw [if_neg (show ¬ (false = true) by decide)] at H; exact H
                          clear H
                          have H := H1
                          clear H1
                          replace H := Option.bind_eq_some_iff.mp H
                          obtain ⟨t146, A200, H⟩ := H
                          replace H : (if t146.toList = ([51] : List UInt8) then ((value_Text.f (-1)).bind fun t147 => (if t147.toList = ([45, 49] : List UInt8) then ((value_Text.f 6).bind fun t148 => (if t148.toList = ([64, 51] : List UInt8) then ((value_Text.f (-2)).bind fun t149 => (if t149.toList = ([] : List UInt8) then ((value_May.f 6).bind fun t150 => (if t150 = true then ((value_May.f (-2)).bind fun t151 => (some (!t151))) else (some false))) else (some false))) else (some false))) else (some false))) else (some false)) = some r := H
                          have A20 := Aside0.mk A200
                          clear A200
                          by_cases c21 : t146.toList = ([51] : List UInt8)
                          · rw [if_pos c21] at H
                            have c21b0 : (t146.toList == ([51] : List UInt8)) = true := beq_iff_eq.mpr c21
                            have c21b1 : (t146.toList != ([51] : List UInt8)) = false := bne_eq_false_iff_eq.mpr c21
                            clear c21
                            replace H := Option.bind_eq_some_iff.mp H
                            obtain ⟨t147, A220, H⟩ := H
                            replace H : (if t147.toList = ([45, 49] : List UInt8) then ((value_Text.f 6).bind fun t148 => (if t148.toList = ([64, 51] : List UInt8) then ((value_Text.f (-2)).bind fun t149 => (if t149.toList = ([] : List UInt8) then ((value_May.f 6).bind fun t150 => (if t150 = true then ((value_May.f (-2)).bind fun t151 => (some (!t151))) else (some false))) else (some false))) else (some false))) else (some false)) = some r := H
                            have A22 := Aside0.mk A220
                            clear A220
                            by_cases c23 : t147.toList = ([45, 49] : List UInt8)
                            · rw [if_pos c23] at H
                              have c23b0 : (t147.toList == ([45, 49] : List UInt8)) = true := beq_iff_eq.mpr c23
                              have c23b1 : (t147.toList != ([45, 49] : List UInt8)) = false := bne_eq_false_iff_eq.mpr c23
                              clear c23
                              replace H := Option.bind_eq_some_iff.mp H
                              obtain ⟨t148, A240, H⟩ := H
                              replace H : (if t148.toList = ([64, 51] : List UInt8) then ((value_Text.f (-2)).bind fun t149 => (if t149.toList = ([] : List UInt8) then ((value_May.f 6).bind fun t150 => (if t150 = true then ((value_May.f (-2)).bind fun t151 => (some (!t151))) else (some false))) else (some false))) else (some false)) = some r := H
                              have A24 := Aside0.mk A240
                              clear A240
                              by_cases c25 : t148.toList = ([64, 51] : List UInt8)
                              · rw [if_pos c25] at H
                                have c25b0 : (t148.toList == ([64, 51] : List UInt8)) = true := beq_iff_eq.mpr c25
                                have c25b1 : (t148.toList != ([64, 51] : List UInt8)) = false := bne_eq_false_iff_eq.mpr c25
                                clear c25
                                replace H := Option.bind_eq_some_iff.mp H
                                obtain ⟨t149, A260, H⟩ := H
                                replace H : (if t149.toList = ([] : List UInt8) then ((value_May.f 6).bind fun t150 => (if t150 = true then ((value_May.f (-2)).bind fun t151 => (some (!t151))) else (some false))) else (some false)) = some r := H
                                have A26 := Aside0.mk A260
                                clear A260
                                by_cases c27 : t149.toList = ([] : List UInt8)
                                · rw [if_pos c27] at H
                                  have c27b0 : (t149.toList == ([] : List UInt8)) = true := beq_iff_eq.mpr c27
                                  have c27b1 : (t149.toList != ([] : List UInt8)) = false := bne_eq_false_iff_eq.mpr c27
                                  clear c27
                                  replace H := Option.bind_eq_some_iff.mp H
                                  obtain ⟨t150, A280, H⟩ := H
                                  replace H : (if t150 = true then ((value_May.f (-2)).bind fun t151 => (some (!t151))) else (some false)) = some r := H
                                  have A28 := Aside0.mk A280
                                  clear A280
                                  by_cases c29 : t150 = true
                                  · subst c29
                                    have H1 : ((value_May.f (-2)).bind fun t151 => (some (!t151))) = some r := by rw [if_pos rfl] at H; exact H
                                    clear H
                                    have H := H1
                                    clear H1
                                    replace H := Option.bind_eq_some_iff.mp H
                                    obtain ⟨t151, A300, H⟩ := H
                                    replace H : (some (!t151)) = some r := H
                                    have A30 := Aside0.mk A300
                                    clear A300
                                    obtain rfl := Option.some.inj H
                                    go_enter Tryd.func20, Tryd.ntmps20
                                    go_wp2_with (first | ((with_reducible refine gate_callee (f := 8) rfl ?_); refine goesL_ (some 16) rfl rfl Tryd.func8 (by kernel_rfl) rfl #[.int .i64 (-1)] rfl (by (try simp only [List.map_toArray, List.map_cons, List.map_nil]); first | done | rfl | (simp only [List.length_drop, List.length_take]; rfl)) ?_; (with_reducible refine (value_Int.calls (-1) t132 true _ A1.out).mono ?_); rintro e w' ⟨rfl, ⟨nd, rfl⟩⟩; refine ⟨_, rfl, ?_⟩) | ((with_reducible refine gate_callee (f := 8) rfl ?_); refine goesL_ (some 20) rfl rfl Tryd.func8 (by kernel_rfl) rfl #[.int .i64 3] rfl (by (try simp only [List.map_toArray, List.map_cons, List.map_nil]); first | done | rfl | (simp only [List.length_drop, List.length_take]; rfl)) ?_; (with_reducible refine (value_Int.calls 3 t134 true _ A2.out).mono ?_); rintro e w' ⟨rfl, ⟨nd, rfl⟩⟩; refine ⟨_, rfl, ?_⟩) | ((with_reducible refine gate_callee (f := 10) rfl ?_); refine goesL_ (some 24) rfl rfl Tryd.func10 (by kernel_rfl) rfl #[.int .i64 3] rfl (by (try simp only [List.map_toArray, List.map_cons, List.map_nil]); first | done | rfl | (simp only [List.length_drop, List.length_take]; rfl)) ?_; (with_reducible refine (value_Ref.calls 3 t136 true _ A3.out).mono ?_); rintro e w' ⟨rfl, ⟨nd, rfl⟩⟩; refine ⟨_, rfl, ?_⟩) | ((with_reducible refine gate_callee (f := 16) rfl ?_); refine goesL_ (some 28) rfl rfl Tryd.func16 (by kernel_rfl) rfl #[.int .i64 (-1)] rfl (by (try simp only [List.map_toArray, List.map_cons, List.map_nil]); first | done | rfl | (simp only [List.length_drop, List.length_take]; rfl)) ?_; (with_reducible refine (value_N.calls (-1) t138 true _ A4.out).mono ?_); rintro e w' ⟨rfl, ⟨nd, rfl⟩⟩; refine ⟨_, rfl, ?_⟩) | ((with_reducible refine gate_callee (f := 18) rfl ?_); refine goesL_ (some 32) rfl rfl Tryd.func18 (by kernel_rfl) rfl #[.int .i64 6] rfl (by (try simp only [List.map_toArray, List.map_cons, List.map_nil]); first | done | rfl | (simp only [List.length_drop, List.length_take]; rfl)) ?_; (with_reducible refine (value_At.calls 6 t140 true _ A5.out).mono ?_); rintro e w' ⟨rfl, ⟨nd, rfl⟩⟩; refine ⟨_, rfl, ?_⟩) | ((with_reducible refine gate_callee (f := 8) rfl ?_); refine goesL_ (some 36) rfl rfl Tryd.func8 (by kernel_rfl) rfl #[.int .i64 1073741824] rfl (by (try simp only [List.map_toArray, List.map_cons, List.map_nil]); first | done | rfl | (simp only [List.length_drop, List.length_take]; rfl)) ?_; (with_reducible refine (value_Int.calls 1073741824 t142 false _ A6.out).mono ?_); rintro e w' ⟨rfl, ⟨nd, rfl⟩⟩; refine ⟨_, rfl, ?_⟩) | ((with_reducible refine gate_callee (f := 10) rfl ?_); refine goesL_ (some 40) rfl rfl Tryd.func10 (by kernel_rfl) rfl #[.int .i64 (-1)] rfl (by (try simp only [List.map_toArray, List.map_cons, List.map_nil]); first | done | rfl | (simp only [List.length_drop, List.length_take]; rfl)) ?_; (with_reducible refine (value_Ref.calls (-1) t144 false _ A7.out).mono ?_); rintro e w' ⟨rfl, ⟨nd, rfl⟩⟩; refine ⟨_, rfl, ?_⟩) | (go_at_call 14; (with_reducible refine (value_Text.calls 7 t146 _ A20.out (tab_on htab_.out (by repeat (first | (with_reducible first | exact HB.out | apply below_alloc | apply pw_below_drewN | apply below_drew1) | exact HB.out)))).mono ?_); rintro e w31 ⟨rfl, hb⟩; have n0_ := Aside0.mk (below_step (by repeat (first | (with_reducible first | exact HB.out | apply below_alloc | apply pw_below_drewN | apply below_drew1) | exact HB.out)) hb); clear HB; have HB := n0_; clear n0_; (try clear hb); (try clear hb2); (try clear hk); (try clear hi)) | (go_at_call 14; (with_reducible refine (value_Text.calls (-1) t147 _ A22.out (tab_on htab_.out (by repeat (first | (with_reducible first | exact HB.out | apply below_alloc | apply pw_below_drewN | apply below_drew1) | exact HB.out)))).mono ?_); rintro e w32 ⟨rfl, hb⟩; have n0_ := Aside0.mk (below_step (by repeat (first | (with_reducible first | exact HB.out | apply below_alloc | apply pw_below_drewN | apply below_drew1) | exact HB.out)) hb); clear HB; have HB := n0_; clear n0_; (try clear hb); (try clear hb2); (try clear hk); (try clear hi)) | (go_at_call 14; (with_reducible refine (value_Text.calls 6 t148 _ A24.out (tab_on htab_.out (by repeat (first | (with_reducible first | exact HB.out | apply below_alloc | apply pw_below_drewN | apply below_drew1) | exact HB.out)))).mono ?_); rintro e w33 ⟨rfl, hb⟩; have n0_ := Aside0.mk (below_step (by repeat (first | (with_reducible first | exact HB.out | apply below_alloc | apply pw_below_drewN | apply below_drew1) | exact HB.out)) hb); clear HB; have HB := n0_; clear n0_; (try clear hb); (try clear hb2); (try clear hk); (try clear hi)) | (go_at_call 14; (with_reducible refine (value_Text.calls (-2) t149 _ A26.out (tab_on htab_.out (by repeat (first | (with_reducible first | exact HB.out | apply below_alloc | apply pw_below_drewN | apply below_drew1) | exact HB.out)))).mono ?_); rintro e w34 ⟨rfl, hb⟩; have n0_ := Aside0.mk (below_step (by repeat (first | (with_reducible first | exact HB.out | apply below_alloc | apply pw_below_drewN | apply below_drew1) | exact HB.out)) hb); clear HB; have HB := n0_; clear n0_; (try clear hb); (try clear hb2); (try clear hk); (try clear hi)) | (go_at_call 12; (with_reducible refine (value_May.calls 6 true _ A28.out).mono ?_); rintro e w' ⟨rfl, ⟨nd, rfl⟩⟩) | (go_at_call 12; (with_reducible refine (value_May.calls (-2) t151 _ A30.out).mono ?_); rintro e w' ⟨rfl, ⟨nd, rfl⟩⟩))
                                    go_ret
                                    exact ⟨by first | rfl | (simp [errW_none, errW_some] <;> rfl) | (simp [*, errW_none, errW_some] <;> rfl) | (simp [wrap64, errW_none, errW_some]; done), by repeat (first | (with_reducible first | exact HB.out | apply below_alloc | apply pw_below_drewN | apply below_drew1) | exact HB.out)⟩
                                  · replace c29 := Bool.eq_false_iff.mpr c29
                                    subst c29
                                    have H1 : (some false) = some r := by rw [if_neg (show ¬ (false = true) by decide)] at H; exact H
                                    clear H
                                    have H := H1
                                    clear H1
                                    obtain rfl := Option.some.inj H
                                    exact absurd hr_.out (by decide)
                                · rw [if_neg c27] at H
                                  have c27b0 : (t149.toList == ([] : List UInt8)) = false := beq_eq_false_iff_ne.mpr c27
                                  have c27b1 : (t149.toList != ([] : List UInt8)) = true := bne_iff_ne.mpr c27
                                  obtain rfl := Option.some.inj H
                                  exact absurd hr_.out (by decide)
                              · rw [if_neg c25] at H
                                have c25b0 : (t148.toList == ([64, 51] : List UInt8)) = false := beq_eq_false_iff_ne.mpr c25
                                have c25b1 : (t148.toList != ([64, 51] : List UInt8)) = true := bne_iff_ne.mpr c25
                                obtain rfl := Option.some.inj H
                                exact absurd hr_.out (by decide)
                            · rw [if_neg c23] at H
                              have c23b0 : (t147.toList == ([45, 49] : List UInt8)) = false := beq_eq_false_iff_ne.mpr c23
                              have c23b1 : (t147.toList != ([45, 49] : List UInt8)) = true := bne_iff_ne.mpr c23
                              obtain rfl := Option.some.inj H
                              exact absurd hr_.out (by decide)
                          · rw [if_neg c21] at H
                            have c21b0 : (t146.toList == ([51] : List UInt8)) = false := beq_eq_false_iff_ne.mpr c21
                            have c21b1 : (t146.toList != ([51] : List UInt8)) = true := bne_iff_ne.mpr c21
                            obtain rfl := Option.some.inj H
                            exact absurd hr_.out (by decide)
                    · replace c17 := Bool.eq_false_iff.mpr c17
                      subst c17
                      have H1 : (some false) = some r := by rw [if_neg (show ¬ (false = true) by decide)] at H; exact H
                      clear H
                      have H := H1
                      clear H1
                      obtain rfl := Option.some.inj H
                      exact absurd hr_.out (by decide)
                  · rw [if_neg c16] at H
                    have c16b0 : (t140 == 3) = false := beq_eq_false_iff_ne.mpr c16
                    have c16b1 : (t140 != 3) = true := bne_iff_ne.mpr c16
                    obtain rfl := Option.some.inj H
                    exact absurd hr_.out (by decide)
                · replace c15 := Bool.eq_false_iff.mpr c15
                  subst c15
                  have H1 : (some false) = some r := by rw [if_neg (show ¬ (false = true) by decide)] at H; exact H
                  clear H
                  have H := H1
                  clear H1
                  obtain rfl := Option.some.inj H
                  exact absurd hr_.out (by decide)
              · rw [if_neg c14] at H
                have c14b0 : (t138 == (-1)) = false := beq_eq_false_iff_ne.mpr c14
                have c14b1 : (t138 != (-1)) = true := bne_iff_ne.mpr c14
                obtain rfl := Option.some.inj H
                exact absurd hr_.out (by decide)
            · replace c13 := Bool.eq_false_iff.mpr c13
              subst c13
              have H1 : (some false) = some r := by rw [if_neg (show ¬ (false = true) by decide)] at H; exact H
              clear H
              have H := H1
              clear H1
              obtain rfl := Option.some.inj H
              exact absurd hr_.out (by decide)
          · rw [if_neg c12] at H
            have c12b0 : (t136 == 6) = false := beq_eq_false_iff_ne.mpr c12
            have c12b1 : (t136 != 6) = true := bne_iff_ne.mpr c12
            obtain rfl := Option.some.inj H
            exact absurd hr_.out (by decide)
        · replace c11 := Bool.eq_false_iff.mpr c11
          subst c11
          have H1 : (some false) = some r := by rw [if_neg (show ¬ (false = true) by decide)] at H; exact H
          clear H
          have H := H1
          clear H1
          obtain rfl := Option.some.inj H
          exact absurd hr_.out (by decide)
      · rw [if_neg c10] at H
        have c10b0 : (t134 == 7) = false := beq_eq_false_iff_ne.mpr c10
        have c10b1 : (t134 != 7) = true := bne_iff_ne.mpr c10
        obtain rfl := Option.some.inj H
        exact absurd hr_.out (by decide)
    · replace c9 := Bool.eq_false_iff.mpr c9
      subst c9
      have H1 : (some false) = some r := by rw [if_neg (show ¬ (false = true) by decide)] at H; exact H
      clear H
      have H := H1
      clear H1
      obtain rfl := Option.some.inj H
      exact absurd hr_.out (by decide)
  · rw [if_neg c8] at H
    have c8b0 : (t132 == (-1)) = false := beq_eq_false_iff_ne.mpr c8
    have c8b1 : (t132 != (-1)) = true := bne_iff_ne.mpr c8
    obtain rfl := Option.some.inj H
    exact absurd hr_.out (by decide)

def anamnesislaw01_fixed.f : Option Bool := some true
theorem anamnesislaw01_fixedq.told : anamnesislaw01_fixedq.f = some true := by decide +kernel
theorem anamnesislaw01_fixed.calls (r : Bool) (w : World) (_ : anamnesislaw01_fixed.f = some r) (htab : pow10Is w) :
    Calls Tryd.prog 20 #[] w fun e w' => e = .returned (.bool true) ∧ Below w.heap.size w w' :=
  anamnesislaw01_fixedq.calls true w anamnesislaw01_fixedq.told rfl htab

/-! ### anamnesislaw01_ValueTells: function 3 -/
def anamnesislaw01_ValueTells.j0 : Nat → Int → Bool → Option (Bool)
  | 0, _, _ => none
  | k + 1, x0, x70 => if x70 = true then (some false) else ((value_N.f x0).bind fun bt164 => ((anamnesisref01_N.f x0).bind fun bt166 => ((value_At.f x0).bind fun bt168 => ((anamnesisref01_At.f x0).bind fun bt170 => ((anamnesislaw01_fixed.f).bind fun t172 => (if bt164.1 = bt166.1 then (if (bt164.2 == bt166.2) = true then (if bt168.1 = bt170.1 then (some (bt168.2 == bt170.2)) else (some false)) else (some false)) else (some false)))))))
def anamnesislaw01_ValueTells.f (k : Nat) (a0 : Int) : Option (Bool) := (value_Int.f a0).bind fun bt152 => ((anamnesisref01_Int.f a0).bind fun bt154 => ((value_Ref.f a0).bind fun bt156 => ((anamnesisref01_Ref.f a0).bind fun bt158 => (if bt152.1 = bt154.1 then (if (!bt152.2 == bt154.2) = true then (anamnesislaw01_ValueTells.j0 k a0 true) else (if bt156.1 = bt158.1 then (if (!bt156.2 == bt158.2) = true then (anamnesislaw01_ValueTells.j0 k a0 true) else ((value_May.f a0).bind fun t160 => ((anamnesisref01_May.f a0).bind fun t161 => (if (!t160 == t161) = true then (anamnesislaw01_ValueTells.j0 k a0 true) else ((value_Text.f a0).bind fun t162 => ((anamnesisref01_Text.f k a0).bind fun t163 => (anamnesislaw01_ValueTells.j0 k a0 (t162.toList != t163.toList)))))))) else (anamnesislaw01_ValueTells.j0 k a0 true))) else (anamnesislaw01_ValueTells.j0 k a0 true)))))
theorem anamnesislaw01_ValueTells.mono_l : ∀ k, (∀ y0 y1, LeO (anamnesislaw01_ValueTells.j0 k y0 y1) (anamnesislaw01_ValueTells.j0 (k + 1) y0 y1))
  | 0 => fun _ _ r h => by simp [anamnesislaw01_ValueTells.j0] at h
  | k + 1 => by
    have ih0 := anamnesislaw01_ValueTells.mono_l k
    · intro y0 y1
      unfold anamnesislaw01_ValueTells.j0
      repeat' first
      | (with_reducible exact ih0 _ _)
      | (with_reducible exact anamnesisref01_Text.mono _ _)
      | (with_reducible exact LeO.refl _)
      | (with_reducible exact LeO.none _)
      | (with_reducible refine LeO.ite ?_ ?_)
      | (with_reducible refine LeO.bind ?_ (fun _ => ?_))
      | exact ih0 _ _
      | exact anamnesisref01_Text.mono _ _
      | exact LeO.none _
      | refine LeO.ite ?_ ?_
      | refine LeO.bind ?_ (fun _ => ?_)
theorem anamnesislaw01_ValueTells.mono : ∀ a0 k, LeO (anamnesislaw01_ValueTells.f k a0) (anamnesislaw01_ValueTells.f (k + 1) a0) := by
  intro a0 k
  have ih0 := anamnesislaw01_ValueTells.mono_l k
  unfold anamnesislaw01_ValueTells.f
  repeat' first
      | (with_reducible exact ih0 _ _)
      | (with_reducible exact anamnesisref01_Text.mono _ _)
      | (with_reducible exact LeO.refl _)
      | (with_reducible exact LeO.none _)
      | (with_reducible refine LeO.ite ?_ ?_)
      | (with_reducible refine LeO.bind ?_ (fun _ => ?_))
      | exact ih0 _ _
      | exact anamnesisref01_Text.mono _ _
      | exact LeO.none _
      | refine LeO.ite ?_ ?_
      | refine LeO.bind ?_ (fun _ => ?_)
set_option maxHeartbeats 8000000 in
set_option maxRecDepth 100000 in
theorem anamnesislaw01_ValueTells.calls (k : Nat) (a0 : Int) (r : Bool) (w : World) (h : anamnesislaw01_ValueTells.f k a0 = some r) (hr : r = true) (htab : pow10Is w) :
    Calls Tryd.prog 3 #[.int .i64 a0] w fun e w' => e = .returned (.bool r) ∧ Below w.heap.size w w' := by
  have hr_ := Aside0.mk hr
  clear hr
  have htab_ := Aside0.mk htab
  clear htab
  have HB := Aside0.mk (Below.refl w.heap.size w)
  have H : ((value_Int.f a0).bind fun bt152 => ((anamnesisref01_Int.f a0).bind fun bt154 => ((value_Ref.f a0).bind fun bt156 => ((anamnesisref01_Ref.f a0).bind fun bt158 => (if bt152.1 = bt154.1 then (if (!bt152.2 == bt154.2) = true then (anamnesislaw01_ValueTells.j0 k a0 true) else (if bt156.1 = bt158.1 then (if (!bt156.2 == bt158.2) = true then (anamnesislaw01_ValueTells.j0 k a0 true) else ((value_May.f a0).bind fun t160 => ((anamnesisref01_May.f a0).bind fun t161 => (if (!t160 == t161) = true then (anamnesislaw01_ValueTells.j0 k a0 true) else ((value_Text.f a0).bind fun t162 => ((anamnesisref01_Text.f k a0).bind fun t163 => (anamnesislaw01_ValueTells.j0 k a0 (t162.toList != t163.toList)))))))) else (anamnesislaw01_ValueTells.j0 k a0 true))) else (anamnesislaw01_ValueTells.j0 k a0 true)))))) = some r := h
  clear h
  replace H := Option.bind_eq_some_iff.mp H
  obtain ⟨⟨t152, t153⟩, A20, H⟩ := H
  replace H : ((anamnesisref01_Int.f a0).bind fun bt154 => ((value_Ref.f a0).bind fun bt156 => ((anamnesisref01_Ref.f a0).bind fun bt158 => (if t152 = bt154.1 then (if (!t153 == bt154.2) = true then (anamnesislaw01_ValueTells.j0 k a0 true) else (if bt156.1 = bt158.1 then (if (!bt156.2 == bt158.2) = true then (anamnesislaw01_ValueTells.j0 k a0 true) else ((value_May.f a0).bind fun t160 => ((anamnesisref01_May.f a0).bind fun t161 => (if (!t160 == t161) = true then (anamnesislaw01_ValueTells.j0 k a0 true) else ((value_Text.f a0).bind fun t162 => ((anamnesisref01_Text.f k a0).bind fun t163 => (anamnesislaw01_ValueTells.j0 k a0 (t162.toList != t163.toList)))))))) else (anamnesislaw01_ValueTells.j0 k a0 true))) else (anamnesislaw01_ValueTells.j0 k a0 true))))) = some r := H
  have A2 := Aside0.mk A20
  clear A20
  replace H := Option.bind_eq_some_iff.mp H
  obtain ⟨⟨t154, t155⟩, A30, H⟩ := H
  replace H : ((value_Ref.f a0).bind fun bt156 => ((anamnesisref01_Ref.f a0).bind fun bt158 => (if t152 = t154 then (if (!t153 == t155) = true then (anamnesislaw01_ValueTells.j0 k a0 true) else (if bt156.1 = bt158.1 then (if (!bt156.2 == bt158.2) = true then (anamnesislaw01_ValueTells.j0 k a0 true) else ((value_May.f a0).bind fun t160 => ((anamnesisref01_May.f a0).bind fun t161 => (if (!t160 == t161) = true then (anamnesislaw01_ValueTells.j0 k a0 true) else ((value_Text.f a0).bind fun t162 => ((anamnesisref01_Text.f k a0).bind fun t163 => (anamnesislaw01_ValueTells.j0 k a0 (t162.toList != t163.toList)))))))) else (anamnesislaw01_ValueTells.j0 k a0 true))) else (anamnesislaw01_ValueTells.j0 k a0 true)))) = some r := H
  have A3 := Aside0.mk A30
  clear A30
  replace H := Option.bind_eq_some_iff.mp H
  obtain ⟨⟨t156, t157⟩, A40, H⟩ := H
  replace H : ((anamnesisref01_Ref.f a0).bind fun bt158 => (if t152 = t154 then (if (!t153 == t155) = true then (anamnesislaw01_ValueTells.j0 k a0 true) else (if t156 = bt158.1 then (if (!t157 == bt158.2) = true then (anamnesislaw01_ValueTells.j0 k a0 true) else ((value_May.f a0).bind fun t160 => ((anamnesisref01_May.f a0).bind fun t161 => (if (!t160 == t161) = true then (anamnesislaw01_ValueTells.j0 k a0 true) else ((value_Text.f a0).bind fun t162 => ((anamnesisref01_Text.f k a0).bind fun t163 => (anamnesislaw01_ValueTells.j0 k a0 (t162.toList != t163.toList)))))))) else (anamnesislaw01_ValueTells.j0 k a0 true))) else (anamnesislaw01_ValueTells.j0 k a0 true))) = some r := H
  have A4 := Aside0.mk A40
  clear A40
  replace H := Option.bind_eq_some_iff.mp H
  obtain ⟨⟨t158, t159⟩, A50, H⟩ := H
  replace H : (if t152 = t154 then (if (!t153 == t155) = true then (anamnesislaw01_ValueTells.j0 k a0 true) else (if t156 = t158 then (if (!t157 == t159) = true then (anamnesislaw01_ValueTells.j0 k a0 true) else ((value_May.f a0).bind fun t160 => ((anamnesisref01_May.f a0).bind fun t161 => (if (!t160 == t161) = true then (anamnesislaw01_ValueTells.j0 k a0 true) else ((value_Text.f a0).bind fun t162 => ((anamnesisref01_Text.f k a0).bind fun t163 => (anamnesislaw01_ValueTells.j0 k a0 (t162.toList != t163.toList)))))))) else (anamnesislaw01_ValueTells.j0 k a0 true))) else (anamnesislaw01_ValueTells.j0 k a0 true)) = some r := H
  have A5 := Aside0.mk A50
  clear A50
  have HC6 := Aside0.mk H
  clear H
  go_enter Tryd.func3, Tryd.ntmps3
  go_upto_region 5 with (first | ((with_reducible refine gate_callee (f := 8) rfl ?_); refine goesL_ (some 21) rfl rfl Tryd.func8 (by kernel_rfl) rfl #[.int .i64 a0] rfl (by (try simp only [List.map_toArray, List.map_cons, List.map_nil]); first | done | rfl | (simp only [List.length_drop, List.length_take]; rfl)) ?_; (with_reducible refine (value_Int.calls a0 t152 t153 _ A2.out).mono ?_); rintro e w' ⟨rfl, ⟨nd, rfl⟩⟩; refine ⟨_, rfl, ?_⟩) | ((with_reducible refine gate_callee (f := 9) rfl ?_); refine goesL_ (some 26) rfl rfl Tryd.func9 (by kernel_rfl) rfl #[.int .i64 a0] rfl (by (try simp only [List.map_toArray, List.map_cons, List.map_nil]); first | done | rfl | (simp only [List.length_drop, List.length_take]; rfl)) ?_; (with_reducible refine (anamnesisref01_Int.calls a0 t154 t155 _ A3.out).mono ?_); rintro e w' ⟨rfl, ⟨nd, rfl⟩⟩; refine ⟨_, rfl, ?_⟩) | ((with_reducible refine gate_callee (f := 10) rfl ?_); refine goesL_ (some 31) rfl rfl Tryd.func10 (by kernel_rfl) rfl #[.int .i64 a0] rfl (by (try simp only [List.map_toArray, List.map_cons, List.map_nil]); first | done | rfl | (simp only [List.length_drop, List.length_take]; rfl)) ?_; (with_reducible refine (value_Ref.calls a0 t156 t157 _ A4.out).mono ?_); rintro e w' ⟨rfl, ⟨nd, rfl⟩⟩; refine ⟨_, rfl, ?_⟩) | ((with_reducible refine gate_callee (f := 11) rfl ?_); refine goesL_ (some 36) rfl rfl Tryd.func11 (by kernel_rfl) rfl #[.int .i64 a0] rfl (by (try simp only [List.map_toArray, List.map_cons, List.map_nil]); first | done | rfl | (simp only [List.length_drop, List.length_take]; rfl)) ?_; (with_reducible refine (anamnesisref01_Ref.calls a0 t158 t159 _ A5.out).mono ?_); rintro e w' ⟨rfl, ⟨nd, rfl⟩⟩; refine ⟨_, rfl, ?_⟩))
  (try simp only [Act.put, List.setIfInBounds_toArray, List.set_cons_zero, List.set_cons_succ])
  go_cut [70] (fun v70 wc => ∃ (kq : Nat) (x70_5 : Bool), v70 = .bool x70_5 ∧ Aside0 (anamnesislaw01_ValueTells.j0 kq a0 x70_5 = some r) ∧ Aside0 (kq ≤ k) ∧ Aside0 (Below w.heap.size w wc))
  case first =>
    have H := HC6.out
    clear HC6
    by_cases c7 : t152 = t154
    · rw [if_pos c7] at H
      have c7b0 : (t152 == t154) = true := beq_iff_eq.mpr c7
      have c7b1 : (t152 != t154) = false := bne_eq_false_iff_eq.mpr c7
      clear c7
      (first | rw [c7b0] | (simp only [i64_w, i32_w]; rw [c7b0]) | skip)
      by_cases c8 : (!t153 == t155) = true
      · rw [if_pos c8] at H
        have c8b0 : (!t153 == t155) = true := c8
        (try (have c8b1 : (t153 != t155) = true := by simpa using c8))
        (try (have c8b2 : decide (t153 = t155) = false := by simpa using c8))
        (try (have c8b3 : (t153 == t155) = false := by simpa using c8))
        (try (have c8b4 : ¬ (t153 = t155) := by simpa using c8))
        clear c8
        have H' := Aside0.mk H
        clear H
        go_wp2
        go_meet
        case rel => exact ⟨_, (true), (by first | rfl | (simp; done) | (simp [*]; done)), H', ⟨by first | omega | exact Nat.le_refl _⟩, ⟨by repeat (first | (with_reducible first | exact HB.out | apply below_alloc | apply pw_below_drewN | apply below_drew1) | exact HB.out)⟩⟩
      · rw [if_neg c8] at H
        have c8b0 : (!t153 == t155) = false := by simpa using c8
        (try (have c8b1 : (t153 != t155) = false := by simpa using c8))
        (try (have c8b2 : decide (t153 = t155) = true := by simpa using c8))
        (try (have c8b3 : (t153 == t155) = true := by simpa using c8))
        clear c8
        by_cases c9 : t156 = t158
        · rw [if_pos c9] at H
          have c9b0 : (t156 == t158) = true := beq_iff_eq.mpr c9
          have c9b1 : (t156 != t158) = false := bne_eq_false_iff_eq.mpr c9
          clear c9
          by_cases c10 : (!t157 == t159) = true
          · rw [if_pos c10] at H
            have c10b0 : (!t157 == t159) = true := c10
            (try (have c10b1 : (t157 != t159) = true := by simpa using c10))
            (try (have c10b2 : decide (t157 = t159) = false := by simpa using c10))
            (try (have c10b3 : (t157 == t159) = false := by simpa using c10))
            (try (have c10b4 : ¬ (t157 = t159) := by simpa using c10))
            clear c10
            have H' := Aside0.mk H
            clear H
            go_wp2
            go_meet
            case rel => exact ⟨_, (true), (by first | rfl | (simp; done) | (simp [*]; done)), H', ⟨by first | omega | exact Nat.le_refl _⟩, ⟨by repeat (first | (with_reducible first | exact HB.out | apply below_alloc | apply pw_below_drewN | apply below_drew1) | exact HB.out)⟩⟩
          · rw [if_neg c10] at H
            have c10b0 : (!t157 == t159) = false := by simpa using c10
            (try (have c10b1 : (t157 != t159) = false := by simpa using c10))
            (try (have c10b2 : decide (t157 = t159) = true := by simpa using c10))
            (try (have c10b3 : (t157 == t159) = true := by simpa using c10))
            clear c10
            replace H := Option.bind_eq_some_iff.mp H
            obtain ⟨t160, A110, H⟩ := H
            replace H : ((anamnesisref01_May.f a0).bind fun t161 => (if (!t160 == t161) = true then (anamnesislaw01_ValueTells.j0 k a0 true) else ((value_Text.f a0).bind fun t162 => ((anamnesisref01_Text.f k a0).bind fun t163 => (anamnesislaw01_ValueTells.j0 k a0 (t162.toList != t163.toList)))))) = some r := H
            have A11 := Aside0.mk A110
            clear A110
            replace H := Option.bind_eq_some_iff.mp H
            obtain ⟨t161, A120, H⟩ := H
            replace H : (if (!t160 == t161) = true then (anamnesislaw01_ValueTells.j0 k a0 true) else ((value_Text.f a0).bind fun t162 => ((anamnesisref01_Text.f k a0).bind fun t163 => (anamnesislaw01_ValueTells.j0 k a0 (t162.toList != t163.toList))))) = some r := H
            have A12 := Aside0.mk A120
            clear A120
            by_cases c13 : (!t160 == t161) = true
            · rw [if_pos c13] at H
              have c13b0 : (!t160 == t161) = true := c13
              (try (have c13b1 : (t160 != t161) = true := by simpa using c13))
              (try (have c13b2 : decide (t160 = t161) = false := by simpa using c13))
              (try (have c13b3 : (t160 == t161) = false := by simpa using c13))
              (try (have c13b4 : ¬ (t160 = t161) := by simpa using c13))
              clear c13
              have H' := Aside0.mk H
              clear H
              go_wp2_with (first | (go_at_call 12; (with_reducible refine (value_May.calls a0 t160 _ A11.out).mono ?_); rintro e w' ⟨rfl, ⟨nd, rfl⟩⟩) | (go_at_call 13; (with_reducible refine (anamnesisref01_May.calls a0 t161 _ A12.out).mono ?_); rintro e w' ⟨rfl, ⟨nd, rfl⟩⟩))
              go_meet
              case rel => exact ⟨_, (true), (by first | rfl | (simp; done) | (simp [*]; done)), H', ⟨by first | omega | exact Nat.le_refl _⟩, ⟨by repeat (first | (with_reducible first | exact HB.out | apply below_alloc | apply pw_below_drewN | apply below_drew1) | exact HB.out)⟩⟩
            · rw [if_neg c13] at H
              have c13b0 : (!t160 == t161) = false := by simpa using c13
              (try (have c13b1 : (t160 != t161) = false := by simpa using c13))
              (try (have c13b2 : decide (t160 = t161) = true := by simpa using c13))
              (try (have c13b3 : (t160 == t161) = true := by simpa using c13))
              clear c13
              replace H := Option.bind_eq_some_iff.mp H
              obtain ⟨t162, A140, H⟩ := H
              replace H : ((anamnesisref01_Text.f k a0).bind fun t163 => (anamnesislaw01_ValueTells.j0 k a0 (t162.toList != t163.toList))) = some r := H
              have A14 := Aside0.mk A140
              clear A140
              replace H := Option.bind_eq_some_iff.mp H
              obtain ⟨t163, A150, H⟩ := H
              replace H : (anamnesislaw01_ValueTells.j0 k a0 (t162.toList != t163.toList)) = some r := H
              have A15 := Aside0.mk A150
              clear A150
              have H' := Aside0.mk H
              clear H
              go_wp2_with (first | (go_at_call 12; (with_reducible refine (value_May.calls a0 t160 _ A11.out).mono ?_); rintro e w' ⟨rfl, ⟨nd, rfl⟩⟩) | (go_at_call 13; (with_reducible refine (anamnesisref01_May.calls a0 t161 _ A12.out).mono ?_); rintro e w' ⟨rfl, ⟨nd, rfl⟩⟩) | (go_at_call 14; (with_reducible refine (value_Text.calls a0 t162 _ A14.out (tab_on htab_.out (by repeat (first | (with_reducible first | exact HB.out | apply below_alloc | apply pw_below_drewN | apply below_drew1) | exact HB.out)))).mono ?_); rintro e w16 ⟨rfl, hb⟩; have n0_ := Aside0.mk (below_step (by repeat (first | (with_reducible first | exact HB.out | apply below_alloc | apply pw_below_drewN | apply below_drew1) | exact HB.out)) hb); clear HB; have HB := n0_; clear n0_; (try clear hb); (try clear hb2); (try clear hk); (try clear hi)) | (go_at_call 15; (with_reducible refine (anamnesisref01_Text.calls k a0 t163 _ A15.out).mono ?_); rintro e w17 ⟨rfl, hb⟩; have n0_ := Aside0.mk (below_step (by repeat (first | (with_reducible first | exact HB.out | apply below_alloc | apply pw_below_drewN | apply below_drew1) | exact HB.out)) hb); clear HB; have HB := n0_; clear n0_; (try clear hb); (try clear hb2); (try clear hk); (try clear hi)))
              go_meet
              case rel => exact ⟨_, ((t162.toList != t163.toList)), (by first | rfl | (simp; done) | (simp [*]; done)), H', ⟨by first | omega | exact Nat.le_refl _⟩, ⟨by repeat (first | (with_reducible first | exact HB.out | apply below_alloc | apply pw_below_drewN | apply below_drew1) | exact HB.out)⟩⟩
        · rw [if_neg c9] at H
          have c9b0 : (t156 == t158) = false := beq_eq_false_iff_ne.mpr c9
          have c9b1 : (t156 != t158) = true := bne_iff_ne.mpr c9
          have H' := Aside0.mk H
          clear H
          go_wp2
          go_meet
          case rel => exact ⟨_, (true), (by first | rfl | (simp; done) | (simp [*]; done)), H', ⟨by first | omega | exact Nat.le_refl _⟩, ⟨by repeat (first | (with_reducible first | exact HB.out | apply below_alloc | apply pw_below_drewN | apply below_drew1) | exact HB.out)⟩⟩
    · rw [if_neg c7] at H
      have c7b0 : (t152 == t154) = false := beq_eq_false_iff_ne.mpr c7
      have c7b1 : (t152 != t154) = true := bne_iff_ne.mpr c7
      (first | rw [c7b0] | (simp only [i64_w, i32_w]; rw [c7b0]) | skip)
      have H' := Aside0.mk H
      clear H
      go_wp2
      go_meet
      case rel => exact ⟨_, (true), (by first | rfl | (simp; done) | (simp [*]; done)), H', ⟨by first | omega | exact Nat.le_refl _⟩, ⟨by repeat (first | (with_reducible first | exact HB.out | apply below_alloc | apply pw_below_drewN | apply below_drew1) | exact HB.out)⟩⟩
  case rest =>
    clear HC6
    try clear c1
    try clear p2
    try clear c3
    try clear c7
    try clear c7b0
    try clear c7b1
    try clear c8
    try clear c8b0
    try clear c8b1
    try clear c8b2
    try clear c9
    try clear c9b0
    try clear c9b1
    try clear c10
    try clear c10b0
    try clear c10b1
    try clear c10b2
    try clear c11
    try clear c13
    try clear c13b0
    try clear c13b1
    try clear c13b2
    obtain ⟨kq, x70_5, rfl, HA, HJ5, HB⟩ := hcut
    cases kq with
    | zero => exact absurd HA.out (by simp [anamnesislaw01_ValueTells.j0])
    | succ kj5 =>
      have H := HA.out
      clear HA
      simp only [anamnesislaw01_ValueTells.j0] at H
      by_cases c18 : x70_5 = true
      · subst c18
        have H1 : (some false) = some r := by rw [if_pos rfl] at H; exact H
        clear H
        have H := H1
        clear H1
        obtain rfl := Option.some.inj H
        exact absurd hr_.out (by decide)
      · replace c18 := Bool.eq_false_iff.mpr c18
        subst c18
        have H1 : ((value_N.f a0).bind fun bt164 => ((anamnesisref01_N.f a0).bind fun bt166 => ((value_At.f a0).bind fun bt168 => ((anamnesisref01_At.f a0).bind fun bt170 => ((anamnesislaw01_fixed.f).bind fun t172 => (if bt164.1 = bt166.1 then (if (bt164.2 == bt166.2) = true then (if bt168.1 = bt170.1 then (some (bt168.2 == bt170.2)) else (some false)) else (some false)) else (some false))))))) = some r := by rw [if_neg (show ¬ (false = true) by decide)] at H; exact H
        clear H
        have H := H1
        clear H1
        replace H := Option.bind_eq_some_iff.mp H
        obtain ⟨⟨t164, t165⟩, A190, H⟩ := H
        replace H : ((anamnesisref01_N.f a0).bind fun bt166 => ((value_At.f a0).bind fun bt168 => ((anamnesisref01_At.f a0).bind fun bt170 => ((anamnesislaw01_fixed.f).bind fun t172 => (if t164 = bt166.1 then (if (t165 == bt166.2) = true then (if bt168.1 = bt170.1 then (some (bt168.2 == bt170.2)) else (some false)) else (some false)) else (some false)))))) = some r := H
        have A19 := Aside0.mk A190
        clear A190
        replace H := Option.bind_eq_some_iff.mp H
        obtain ⟨⟨t166, t167⟩, A200, H⟩ := H
        replace H : ((value_At.f a0).bind fun bt168 => ((anamnesisref01_At.f a0).bind fun bt170 => ((anamnesislaw01_fixed.f).bind fun t172 => (if t164 = t166 then (if (t165 == t167) = true then (if bt168.1 = bt170.1 then (some (bt168.2 == bt170.2)) else (some false)) else (some false)) else (some false))))) = some r := H
        have A20 := Aside0.mk A200
        clear A200
        replace H := Option.bind_eq_some_iff.mp H
        obtain ⟨⟨t168, t169⟩, A210, H⟩ := H
        replace H : ((anamnesisref01_At.f a0).bind fun bt170 => ((anamnesislaw01_fixed.f).bind fun t172 => (if t164 = t166 then (if (t165 == t167) = true then (if t168 = bt170.1 then (some (t169 == bt170.2)) else (some false)) else (some false)) else (some false)))) = some r := H
        have A21 := Aside0.mk A210
        clear A210
        replace H := Option.bind_eq_some_iff.mp H
        obtain ⟨⟨t170, t171⟩, A220, H⟩ := H
        replace H : ((anamnesislaw01_fixed.f).bind fun t172 => (if t164 = t166 then (if (t165 == t167) = true then (if t168 = t170 then (some (t169 == t171)) else (some false)) else (some false)) else (some false))) = some r := H
        have A22 := Aside0.mk A220
        clear A220
        replace H := Option.bind_eq_some_iff.mp H
        obtain ⟨t172, A230, H⟩ := H
        replace H : (if t164 = t166 then (if (t165 == t167) = true then (if t168 = t170 then (some (t169 == t171)) else (some false)) else (some false)) else (some false)) = some r := H
        have A23 := Aside0.mk A230
        clear A230
        by_cases c24 : t164 = t166
        · rw [if_pos c24] at H
          have c24b0 : (t164 == t166) = true := beq_iff_eq.mpr c24
          have c24b1 : (t164 != t166) = false := bne_eq_false_iff_eq.mpr c24
          clear c24
          by_cases c25 : (t165 == t167) = true
          · rw [if_pos c25] at H
            have c25b0 : (t165 == t167) = true := c25
            (try (have c25b1 : decide (t165 = t167) = true := by simpa using c25))
            (try (have c25b2 : (t165 == t167) = true := by simpa using c25))
            clear c25
            by_cases c26 : t168 = t170
            · rw [if_pos c26] at H
              have c26b0 : (t168 == t170) = true := beq_iff_eq.mpr c26
              have c26b1 : (t168 != t170) = false := bne_eq_false_iff_eq.mpr c26
              clear c26
              obtain rfl := Option.some.inj H
              go_wp2_with (first | ((with_reducible refine gate_callee (f := 16) rfl ?_); refine goesL_ (some 73) rfl rfl Tryd.func16 (by kernel_rfl) rfl #[.int .i64 a0] rfl (by (try simp only [List.map_toArray, List.map_cons, List.map_nil]); first | done | rfl | (simp only [List.length_drop, List.length_take]; rfl)) ?_; (with_reducible refine (value_N.calls a0 t164 t165 _ A19.out).mono ?_); rintro e w' ⟨rfl, ⟨nd, rfl⟩⟩; refine ⟨_, rfl, ?_⟩) | ((with_reducible refine gate_callee (f := 17) rfl ?_); refine goesL_ (some 78) rfl rfl Tryd.func17 (by kernel_rfl) rfl #[.int .i64 a0] rfl (by (try simp only [List.map_toArray, List.map_cons, List.map_nil]); first | done | rfl | (simp only [List.length_drop, List.length_take]; rfl)) ?_; (with_reducible refine (anamnesisref01_N.calls a0 t166 t167 _ A20.out).mono ?_); rintro e w' ⟨rfl, ⟨nd, rfl⟩⟩; refine ⟨_, rfl, ?_⟩) | ((with_reducible refine gate_callee (f := 18) rfl ?_); refine goesL_ (some 83) rfl rfl Tryd.func18 (by kernel_rfl) rfl #[.int .i64 a0] rfl (by (try simp only [List.map_toArray, List.map_cons, List.map_nil]); first | done | rfl | (simp only [List.length_drop, List.length_take]; rfl)) ?_; (with_reducible refine (value_At.calls a0 t168 t169 _ A21.out).mono ?_); rintro e w' ⟨rfl, ⟨nd, rfl⟩⟩; refine ⟨_, rfl, ?_⟩) | ((with_reducible refine gate_callee (f := 19) rfl ?_); refine goesL_ (some 88) rfl rfl Tryd.func19 (by kernel_rfl) rfl #[.int .i64 a0] rfl (by (try simp only [List.map_toArray, List.map_cons, List.map_nil]); first | done | rfl | (simp only [List.length_drop, List.length_take]; rfl)) ?_; (with_reducible refine (anamnesisref01_At.calls a0 t170 t171 _ A22.out).mono ?_); rintro e w' ⟨rfl, ⟨nd, rfl⟩⟩; refine ⟨_, rfl, ?_⟩) | ((with_reducible refine gate_callee (f := 20) rfl ?_); refine goesL_ (some 91) rfl rfl Tryd.func20 (by kernel_rfl) rfl #[] rfl (by (try simp only [List.map_toArray, List.map_cons, List.map_nil]); first | done | rfl | (simp only [List.length_drop, List.length_take]; rfl)) ?_; (with_reducible refine (anamnesislaw01_fixed.calls  t172 _ A23.out (tab_on htab_.out (by repeat (first | (with_reducible first | exact HB.out | apply below_alloc | apply pw_below_drewN | apply below_drew1) | exact HB.out)))).mono ?_); rintro e w27 ⟨rfl, hb⟩; refine ⟨_, rfl, ?_⟩; have n0_ := Aside0.mk (below_step (by repeat (first | (with_reducible first | exact HB.out | apply below_alloc | apply pw_below_drewN | apply below_drew1) | exact HB.out)) hb); clear HB; have HB := n0_; clear n0_; (try clear hb); (try clear hb2); (try clear hk); (try clear hi)))
              go_ret
              exact ⟨by first | rfl | (simp [errW_none, errW_some] <;> rfl) | (simp [*, errW_none, errW_some] <;> rfl) | (simp [wrap64, errW_none, errW_some]; done) | (simp [wrap64, errW_none, errW_some]; exact eq_of_beq hr_.out), by repeat (first | (with_reducible first | exact HB.out | apply below_alloc | apply pw_below_drewN | apply below_drew1) | exact HB.out)⟩
            · rw [if_neg c26] at H
              have c26b0 : (t168 == t170) = false := beq_eq_false_iff_ne.mpr c26
              have c26b1 : (t168 != t170) = true := bne_iff_ne.mpr c26
              obtain rfl := Option.some.inj H
              exact absurd hr_.out (by decide)
          · rw [if_neg c25] at H
            have c25b0 : (t165 == t167) = false := by simpa using c25
            (try (have c25b1 : decide (t165 = t167) = false := by simpa using c25))
            (try (have c25b2 : (t165 == t167) = false := by simpa using c25))
            (try (have c25b3 : ¬ (t165 = t167) := by simpa using c25))
            clear c25
            obtain rfl := Option.some.inj H
            exact absurd hr_.out (by decide)
        · rw [if_neg c24] at H
          have c24b0 : (t164 == t166) = false := beq_eq_false_iff_ne.mpr c24
          have c24b1 : (t164 != t166) = true := bne_iff_ne.mpr c24
          obtain rfl := Option.some.inj H
          exact absurd hr_.out (by decide)

/-- THE ONE PURE STATEMENT of anamnesislaw01_ValueTells: yours. -/
def anamnesislaw01_ValueTells.Pure : Prop := ∀ (a0 : Int), (Lit.int .i64 a0).wf = true → ∃ k, anamnesislaw01_ValueTells.f k a0 = some true
theorem anamnesislaw01_ValueTells.walk (P : anamnesislaw01_ValueTells.Pure) (a0 : Int) (w : World) (w0 : (Lit.int .i64 a0).wf = true) (htab : pow10Is w) :
    Calls Tryd.prog 3 #[.int .i64 a0] w fun e w' => e = .returned (.bool true) ∧ Below w.heap.size w w' := by
  obtain ⟨k, h⟩ := P a0 w0
  refine (anamnesislaw01_ValueTells.calls k a0 true w h rfl htab).mono ?_
  rintro e w' ⟨rfl, hd⟩
  exact ⟨rfl, hd⟩

end Go.Proofs.YtafbiccgbgcooaaDoor.PVal
