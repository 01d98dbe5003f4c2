/- What the statements' walks need. -/
import Derived.Test.YtnjihhheiiapnaaGreatMTa4
import Derived.Test.YtnjihhheiiapnaaGreatMTx28
import Derived.Test.YtnjihhheiiapnaaGreatMTx3
import Derived.Test.YtnjihhheiiapnaaGreatMTx25
set_option linter.unusedVariables false
set_option linter.unusedSimpArgs false
set_option maxRecDepth 100000
namespace Go.Proofs.YtnjihhheiiapnaaGreat
open Go Go.Proofs AW
def mxI (a b : Int) : Int := if b > a then b else a
def shl (k : IntKind) (a n : Int) : Int := k.wrap (a * 2 ^ (min n.toNat k.bits))
def shr (k : IntKind) (a n : Int) : Int := a / 2 ^ (min n.toNat k.bits)
def anamnesisref02_NaN.f  : Option (Int) := some 9221120237041090561
def anamnesisref02_most.f  : Option (Int) := some 9223372036854775807
def anamnesisref02_plain.f (a0 : Int) : Option (Int) := (anamnesisref02_most.f).bind fun t126 => (some (Go.bits .and .i64 a0 t126))
def anamnesisref02_Kind.f (a0 : Int) : Option (Int) := (anamnesisref02_plain.f a0).bind fun t127 => ((anamnesisref02_plain.f a0).bind fun t128 => (if (t127 / 4503599627370496) = 2047 then (if (Int.tmod t128 4503599627370496) = 0 then (some 1) else (some 0)) else (if (t127 / 4503599627370496) > 0 then (some 4) else (if (Int.tmod t128 4503599627370496) > 0 then (some 3) else (some 2)))))
def anamnesisref02_with.f (a0 : Bool) (a1 : Int) : Option (Int) := if a0 = true then ((anamnesisref02_most.f).bind fun t129 => (some (IntKind.i64.wrap ((IntKind.i64.wrap (a1 - t129)) - 1)))) else (some a1)
def anamnesisref02_sign.f (a0 : Int) : Option (Bool) := some (decide (a0 < 0))
def anamnesisref02_part.l0 : Nat → Int → Int → Option (Int × Int)
  | 0, _, _ => none
  | k + 1, x5, x6 => if x5 < 4503599627370496 then (anamnesisref02_part.l0 k (IntKind.i64.wrap (2 * x5)) (IntKind.i64.wrap (x6 - 1))) else (some (x5, x6))
def anamnesisref02_part.f (k : Nat) (a0 : Int) : Option (Int × Int) := (anamnesisref02_plain.f a0).bind fun t130 => ((anamnesisref02_plain.f a0).bind fun t131 => (if (t130 / 4503599627370496) > 0 then (some (IntKind.i64.wrap ((Int.tmod t131 4503599627370496) + 4503599627370496), IntKind.i64.wrap ((t130 / 4503599627370496) - 1075))) else (anamnesisref02_part.l0 k (Int.tmod t131 4503599627370496) (-1074))))
def anamnesisref02_top.l0 : Nat → Int → Int → Option (Int)
  | 0, _, _ => none
  | k + 1, x0, x3 => if x0 > 1 then (anamnesisref02_top.l0 k (IntKind.i64.wrap (Int.tdiv x0 2)) (IntKind.i64.wrap (x3 + 1))) else (some x3)
def anamnesisref02_top.f (k : Nat) (a0 : Int) : Option (Int) := anamnesisref02_top.l0 k a0 0
def anamnesisref02_round.j1 : Nat → Int → Int → Option (Int)
  | 0, _, _ => none
  | k + 1, x0, x1 => if x0 < 4503599627370496 then (some x0) else (if x1 > 971 then (some 9218868437227405312) else (some (IntKind.i64.wrap ((IntKind.i64.wrap ((IntKind.i64.wrap ((IntKind.i64.wrap (x1 + 1075)) * 4503599627370496)) + x0)) - 4503599627370496))))
def anamnesisref02_round.j0 : Nat → Int → Int → Int → Option (Int)
  | 0, _, _, _ => none
  | k + 1, x0, x1, x7 => if x0 = 9007199254740992 then (anamnesisref02_round.j1 k 4503599627370496 (IntKind.i64.wrap ((IntKind.i64.wrap (x1 + x7)) + 1))) else (anamnesisref02_round.j1 k x0 (IntKind.i64.wrap (x1 + x7)))
def anamnesisref02_round.f (k : Nat) (a0 : Int) (a1 : Int) (a2 : Bool) : Option (Int) := (anamnesisref02_top.f k a0).bind fun t132 => (if (mxI (IntKind.i64.wrap (t132 - 52)) (IntKind.i64.wrap ((-1074) - a1))) ≤ 0 then (if 0 ≤ (IntKind.u64.wrap (IntKind.i64.wrap (-(mxI (IntKind.i64.wrap (t132 - 52)) (IntKind.i64.wrap ((-1074) - a1)))))) then (anamnesisref02_round.j0 k (shl .i64 a0 (IntKind.u64.wrap (IntKind.i64.wrap (-(mxI (IntKind.i64.wrap (t132 - 52)) (IntKind.i64.wrap ((-1074) - a1))))))) a1 (mxI (IntKind.i64.wrap (t132 - 52)) (IntKind.i64.wrap ((-1074) - a1)))) else (none)) else (if (mxI (IntKind.i64.wrap (t132 - 52)) (IntKind.i64.wrap ((-1074) - a1))) < 63 then (if 0 ≤ (IntKind.u64.wrap (mxI (IntKind.i64.wrap (t132 - 52)) (IntKind.i64.wrap ((-1074) - a1)))) then (if (shl .i64 1 (IntKind.u64.wrap (mxI (IntKind.i64.wrap (t132 - 52)) (IntKind.i64.wrap ((-1074) - a1))))) = 0 then (none) else (if 0 ≤ (IntKind.u64.wrap (IntKind.i64.wrap ((mxI (IntKind.i64.wrap (t132 - 52)) (IntKind.i64.wrap ((-1074) - a1))) - 1))) then (if (Int.tmod a0 (shl .i64 1 (IntKind.u64.wrap (mxI (IntKind.i64.wrap (t132 - 52)) (IntKind.i64.wrap ((-1074) - a1)))))) > (shl .i64 1 (IntKind.u64.wrap (IntKind.i64.wrap ((mxI (IntKind.i64.wrap (t132 - 52)) (IntKind.i64.wrap ((-1074) - a1))) - 1)))) then (anamnesisref02_round.j0 k (IntKind.i64.wrap ((shr .i64 a0 (IntKind.u64.wrap (mxI (IntKind.i64.wrap (t132 - 52)) (IntKind.i64.wrap ((-1074) - a1))))) + 1)) a1 (mxI (IntKind.i64.wrap (t132 - 52)) (IntKind.i64.wrap ((-1074) - a1)))) else (if (Int.tmod a0 (shl .i64 1 (IntKind.u64.wrap (mxI (IntKind.i64.wrap (t132 - 52)) (IntKind.i64.wrap ((-1074) - a1)))))) = (shl .i64 1 (IntKind.u64.wrap (IntKind.i64.wrap ((mxI (IntKind.i64.wrap (t132 - 52)) (IntKind.i64.wrap ((-1074) - a1))) - 1)))) then (if a2 = true then (anamnesisref02_round.j0 k (IntKind.i64.wrap ((shr .i64 a0 (IntKind.u64.wrap (mxI (IntKind.i64.wrap (t132 - 52)) (IntKind.i64.wrap ((-1074) - a1))))) + 1)) a1 (mxI (IntKind.i64.wrap (t132 - 52)) (IntKind.i64.wrap ((-1074) - a1)))) else (if (Int.tmod (shr .i64 a0 (IntKind.u64.wrap (mxI (IntKind.i64.wrap (t132 - 52)) (IntKind.i64.wrap ((-1074) - a1))))) 2) = 1 then (anamnesisref02_round.j0 k (IntKind.i64.wrap ((shr .i64 a0 (IntKind.u64.wrap (mxI (IntKind.i64.wrap (t132 - 52)) (IntKind.i64.wrap ((-1074) - a1))))) + 1)) a1 (mxI (IntKind.i64.wrap (t132 - 52)) (IntKind.i64.wrap ((-1074) - a1)))) else (anamnesisref02_round.j0 k (shr .i64 a0 (IntKind.u64.wrap (mxI (IntKind.i64.wrap (t132 - 52)) (IntKind.i64.wrap ((-1074) - a1))))) a1 (mxI (IntKind.i64.wrap (t132 - 52)) (IntKind.i64.wrap ((-1074) - a1)))))) else (anamnesisref02_round.j0 k (shr .i64 a0 (IntKind.u64.wrap (mxI (IntKind.i64.wrap (t132 - 52)) (IntKind.i64.wrap ((-1074) - a1))))) a1 (mxI (IntKind.i64.wrap (t132 - 52)) (IntKind.i64.wrap ((-1074) - a1)))))) else (none))) else (none)) else ((anamnesisref02_most.f).bind fun t133 => (if a0 > t133 then (anamnesisref02_round.j0 k 1 a1 (mxI (IntKind.i64.wrap (t132 - 52)) (IntKind.i64.wrap ((-1074) - a1)))) else (if a0 = t133 then (if a2 = true then (anamnesisref02_round.j0 k 1 a1 (mxI (IntKind.i64.wrap (t132 - 52)) (IntKind.i64.wrap ((-1074) - a1)))) else (anamnesisref02_round.j0 k 0 a1 (mxI (IntKind.i64.wrap (t132 - 52)) (IntKind.i64.wrap ((-1074) - a1))))) else (anamnesisref02_round.j0 k 0 a1 (mxI (IntKind.i64.wrap (t132 - 52)) (IntKind.i64.wrap ((-1074) - a1)))))))))
def anamnesisref02_add.j1 : Nat → Int → Int → Int → Bool → Option (Int)
  | 0, _, _, _, _ => none
  | k + 1, x0, x5, x6, x10 => if x5 = 0 then (some 0) else ((anamnesisref02_sign.f x0).bind fun t146 => ((anamnesisref02_round.f k x5 (IntKind.i64.wrap (x6 - 8)) x10).bind fun t147 => ((anamnesisref02_with.f t146 t147).bind fun t148 => (some t148))))
def anamnesisref02_add.j0 : Nat → Int → Int → Int → Int → Int → Bool → Option (Int)
  | 0, _, _, _, _, _, _ => none
  | k + 1, x0, x1, x5, x6, x7, x10 => (anamnesisref02_sign.f x0).bind fun t141 => ((anamnesisref02_sign.f x1).bind fun t142 => (if (t141 == t142) = true then ((anamnesisref02_sign.f x0).bind fun t143 => ((anamnesisref02_round.f k (IntKind.i64.wrap (x5 + x7)) (IntKind.i64.wrap (x6 - 8)) x10).bind fun t144 => ((anamnesisref02_with.f t143 t144).bind fun t145 => (some t145)))) else (if x10 = true then (anamnesisref02_add.j1 k x0 (IntKind.i64.wrap ((IntKind.i64.wrap (x5 - x7)) - 1)) x6 x10) else (anamnesisref02_add.j1 k x0 (IntKind.i64.wrap (x5 - x7)) x6 x10))))
def anamnesisref02_add.f : Nat → Int → Int → Option (Int)
  | 0, _, _ => none
  | k + 1, a0, a1 => (anamnesisref02_plain.f a0).bind fun t134 => ((anamnesisref02_plain.f a1).bind fun t135 => (if t134 < t135 then ((anamnesisref02_add.f k a1 a0).bind fun t136 => (some t136)) else ((anamnesisref02_part.f k a0).bind fun bt137 => ((anamnesisref02_part.f k a1).bind fun bt139 => (if (IntKind.i64.wrap (bt137.2 - bt139.2)) > 62 then (anamnesisref02_add.j0 k a0 a1 (IntKind.i64.wrap (bt137.1 * 256)) bt137.2 0 true) else (if 0 ≤ (IntKind.u64.wrap (IntKind.i64.wrap (bt137.2 - bt139.2))) then (if (shl .i64 1 (IntKind.u64.wrap (IntKind.i64.wrap (bt137.2 - bt139.2)))) = 0 then (none) else (anamnesisref02_add.j0 k a0 a1 (IntKind.i64.wrap (bt137.1 * 256)) bt137.2 (shr .i64 (IntKind.i64.wrap (bt139.1 * 256)) (IntKind.u64.wrap (IntKind.i64.wrap (bt137.2 - bt139.2)))) ((Int.tmod (IntKind.i64.wrap (bt139.1 * 256)) (shl .i64 1 (IntKind.u64.wrap (IntKind.i64.wrap (bt137.2 - bt139.2))))) != 0))) else (none)))))))
def anamnesisref02_sum.j2 : Nat → Int → Int → Int → Bool → Option (Int)
  | 0, _, _, _, _ => none
  | k + 1, x0, x1, x5, x53 => if x53 = true then (some x1) else (if x5 = 2 then ((anamnesisref02_sign.f x0).bind fun t154 => (if t154 = true then ((anamnesisref02_sign.f x1).bind fun t155 => ((anamnesisref02_with.f t155 0).bind fun t156 => (some t156))) else ((anamnesisref02_with.f false 0).bind fun t157 => (some t157)))) else ((anamnesisref02_add.f k x0 x1).bind fun t158 => (some t158)))
def anamnesisref02_sum.j1 : Nat → Int → Int → Int → Int → Bool → Option (Int)
  | 0, _, _, _, _, _ => none
  | k + 1, x0, x1, x5, x6, x42 => if x42 = true then (some x0) else (if x6 = 1 then (anamnesisref02_sum.j2 k x0 x1 x5 true) else (if x5 = 2 then (anamnesisref02_sum.j2 k x0 x1 x5 (x6 != 2)) else (anamnesisref02_sum.j2 k x0 x1 x5 false)))
def anamnesisref02_sum.j0 : Nat → Int → Int → Int → Int → Bool → Option (Int)
  | 0, _, _, _, _, _ => none
  | k + 1, x0, x1, x5, x6, x31 => if x31 = true then ((anamnesisref02_NaN.f).bind fun t153 => (some t153)) else (if x5 = 1 then (anamnesisref02_sum.j1 k x0 x1 x5 x6 true) else (if x6 = 2 then (anamnesisref02_sum.j1 k x0 x1 x5 x6 (x5 != 2)) else (anamnesisref02_sum.j1 k x0 x1 x5 x6 false)))
def anamnesisref02_sum.f (k : Nat) (a0 : Int) (a1 : Int) : Option (Int) := (anamnesisref02_Kind.f a0).bind fun t149 => ((anamnesisref02_Kind.f a1).bind fun t150 => (if t149 = 0 then (anamnesisref02_sum.j0 k a0 a1 t149 t150 true) else (if t150 = 0 then (anamnesisref02_sum.j0 k a0 a1 t149 t150 true) else (if t149 = 1 then (if t150 = 1 then ((anamnesisref02_sign.f a0).bind fun t151 => ((anamnesisref02_sign.f a1).bind fun t152 => (anamnesisref02_sum.j0 k a0 a1 t149 t150 (!t151 == t152)))) else (anamnesisref02_sum.j0 k a0 a1 t149 t150 false)) else (anamnesisref02_sum.j0 k a0 a1 t149 t150 false)))))
def anamnesisref02_product.j2 : Nat → Int → Int → Bool → Bool → Option (Int)
  | 0, _, _, _, _ => none
  | k + 1, x0, x1, x7, x63 => if x63 = true then ((anamnesisref02_with.f x7 0).bind fun t165 => (some t165)) else ((anamnesisref02_part.f k x0).bind fun bt166 => ((anamnesisref02_part.f k x1).bind fun bt168 => (if (Int.tmod (IntKind.i64.wrap ((IntKind.i64.wrap ((IntKind.i64.wrap ((IntKind.i64.wrap (Int.tdiv bt166.1 134217728)) * (Int.tmod bt168.1 134217728))) + (IntKind.i64.wrap ((Int.tmod bt166.1 134217728) * (IntKind.i64.wrap (Int.tdiv bt168.1 134217728)))))) + (IntKind.i64.wrap (Int.tdiv (IntKind.i64.wrap ((Int.tmod bt166.1 134217728) * (Int.tmod bt168.1 134217728))) 134217728)))) 524288) = 0 then ((anamnesisref02_round.f k (IntKind.i64.wrap ((IntKind.i64.wrap ((IntKind.i64.wrap ((IntKind.i64.wrap ((IntKind.i64.wrap (Int.tdiv bt166.1 134217728)) * (IntKind.i64.wrap (Int.tdiv bt168.1 134217728)))) + (IntKind.i64.wrap (Int.tdiv (IntKind.i64.wrap ((IntKind.i64.wrap ((IntKind.i64.wrap ((IntKind.i64.wrap (Int.tdiv bt166.1 134217728)) * (Int.tmod bt168.1 134217728))) + (IntKind.i64.wrap ((Int.tmod bt166.1 134217728) * (IntKind.i64.wrap (Int.tdiv bt168.1 134217728)))))) + (IntKind.i64.wrap (Int.tdiv (IntKind.i64.wrap ((Int.tmod bt166.1 134217728) * (Int.tmod bt168.1 134217728))) 134217728)))) 134217728)))) * 256)) + ((Int.tmod (IntKind.i64.wrap ((IntKind.i64.wrap ((IntKind.i64.wrap ((IntKind.i64.wrap (Int.tdiv bt166.1 134217728)) * (Int.tmod bt168.1 134217728))) + (IntKind.i64.wrap ((Int.tmod bt166.1 134217728) * (IntKind.i64.wrap (Int.tdiv bt168.1 134217728)))))) + (IntKind.i64.wrap (Int.tdiv (IntKind.i64.wrap ((Int.tmod bt166.1 134217728) * (Int.tmod bt168.1 134217728))) 134217728)))) 134217728) / 524288))) (IntKind.i64.wrap ((IntKind.i64.wrap (bt166.2 + bt168.2)) + 46)) ((Int.tmod (IntKind.i64.wrap ((Int.tmod bt166.1 134217728) * (Int.tmod bt168.1 134217728))) 134217728) != 0)).bind fun t170 => ((anamnesisref02_with.f x7 t170).bind fun t171 => (some t171))) else ((anamnesisref02_round.f k (IntKind.i64.wrap ((IntKind.i64.wrap ((IntKind.i64.wrap ((IntKind.i64.wrap ((IntKind.i64.wrap (Int.tdiv bt166.1 134217728)) * (IntKind.i64.wrap (Int.tdiv bt168.1 134217728)))) + (IntKind.i64.wrap (Int.tdiv (IntKind.i64.wrap ((IntKind.i64.wrap ((IntKind.i64.wrap ((IntKind.i64.wrap (Int.tdiv bt166.1 134217728)) * (Int.tmod bt168.1 134217728))) + (IntKind.i64.wrap ((Int.tmod bt166.1 134217728) * (IntKind.i64.wrap (Int.tdiv bt168.1 134217728)))))) + (IntKind.i64.wrap (Int.tdiv (IntKind.i64.wrap ((Int.tmod bt166.1 134217728) * (Int.tmod bt168.1 134217728))) 134217728)))) 134217728)))) * 256)) + ((Int.tmod (IntKind.i64.wrap ((IntKind.i64.wrap ((IntKind.i64.wrap ((IntKind.i64.wrap (Int.tdiv bt166.1 134217728)) * (Int.tmod bt168.1 134217728))) + (IntKind.i64.wrap ((Int.tmod bt166.1 134217728) * (IntKind.i64.wrap (Int.tdiv bt168.1 134217728)))))) + (IntKind.i64.wrap (Int.tdiv (IntKind.i64.wrap ((Int.tmod bt166.1 134217728) * (Int.tmod bt168.1 134217728))) 134217728)))) 134217728) / 524288))) (IntKind.i64.wrap ((IntKind.i64.wrap (bt166.2 + bt168.2)) + 46)) true).bind fun t172 => ((anamnesisref02_with.f x7 t172).bind fun t173 => (some t173))))))
def anamnesisref02_product.j1 : Nat → Int → Int → Int → Int → Bool → Bool → Option (Int)
  | 0, _, _, _, _, _, _ => none
  | k + 1, x0, x1, x5, x6, x7, x55 => if x55 = true then ((anamnesisref02_with.f x7 9218868437227405312).bind fun t164 => (some t164)) else (if x5 = 2 then (anamnesisref02_product.j2 k x0 x1 x7 true) else (anamnesisref02_product.j2 k x0 x1 x7 (x6 == 2)))
def anamnesisref02_product.j0 : Nat → Int → Int → Int → Int → Bool → Bool → Option (Int)
  | 0, _, _, _, _, _, _ => none
  | k + 1, x0, x1, x5, x6, x7, x48 => if x48 = true then ((anamnesisref02_NaN.f).bind fun t163 => (some t163)) else (if x5 = 1 then (anamnesisref02_product.j1 k x0 x1 x5 x6 x7 true) else (anamnesisref02_product.j1 k x0 x1 x5 x6 x7 (x6 == 1)))
def anamnesisref02_product.f (k : Nat) (a0 : Int) (a1 : Int) : Option (Int) := (anamnesisref02_Kind.f a0).bind fun t159 => ((anamnesisref02_Kind.f a1).bind fun t160 => ((anamnesisref02_sign.f a0).bind fun t161 => ((anamnesisref02_sign.f a1).bind fun t162 => (if t159 = 0 then (anamnesisref02_product.j0 k a0 a1 t159 t160 (!t161 == t162) true) else (if t160 = 0 then (anamnesisref02_product.j0 k a0 a1 t159 t160 (!t161 == t162) true) else (if t159 = 1 then (if t160 = 2 then (anamnesisref02_product.j0 k a0 a1 t159 t160 (!t161 == t162) true) else (if t159 = 2 then (anamnesisref02_product.j0 k a0 a1 t159 t160 (!t161 == t162) (t160 == 1)) else (anamnesisref02_product.j0 k a0 a1 t159 t160 (!t161 == t162) false))) else (if t159 = 2 then (anamnesisref02_product.j0 k a0 a1 t159 t160 (!t161 == t162) (t160 == 1)) else (anamnesisref02_product.j0 k a0 a1 t159 t160 (!t161 == t162) false))))))))
def anamnesisref02_quotient.l0 : Nat → Bool → Int → Int → Int → Int → Int → Int → Option (Int)
  | 0, _, _, _, _, _, _, _ => none
  | k + 1, x7, x9, x10, x11, x12, x13, x14 => if x14 < 60 then (if (IntKind.i64.wrap (2 * x13)) ≥ x10 then (anamnesisref02_quotient.l0 k x7 x9 x10 x11 (IntKind.i64.wrap ((IntKind.i64.wrap (2 * x12)) + 1)) (IntKind.i64.wrap ((IntKind.i64.wrap (2 * x13)) - x10)) (IntKind.i64.wrap (x14 + 1))) else (anamnesisref02_quotient.l0 k x7 x9 x10 x11 (IntKind.i64.wrap (2 * x12)) (IntKind.i64.wrap (2 * x13)) (IntKind.i64.wrap (x14 + 1)))) else ((anamnesisref02_round.f k x12 (IntKind.i64.wrap ((IntKind.i64.wrap (x9 - x11)) - 60)) (x13 != 0)).bind fun t185 => ((anamnesisref02_with.f x7 t185).bind fun t186 => (some t186)))
def anamnesisref02_quotient.j2 : Nat → Int → Int → Bool → Bool → Option (Int)
  | 0, _, _, _, _ => none
  | k + 1, x0, x1, x7, x60 => if x60 = true then ((anamnesisref02_with.f x7 0).bind fun t180 => (some t180)) else ((anamnesisref02_part.f k x0).bind fun bt181 => ((anamnesisref02_part.f k x1).bind fun bt183 => (if bt183.1 = 0 then (none) else (anamnesisref02_quotient.l0 k x7 bt181.2 bt183.1 bt183.2 (IntKind.i64.wrap (Int.tdiv bt181.1 bt183.1)) (Int.tmod bt181.1 bt183.1) 0))))
def anamnesisref02_quotient.j1 : Nat → Int → Int → Int → Int → Bool → Bool → Option (Int)
  | 0, _, _, _, _, _, _ => none
  | k + 1, x0, x1, x5, x6, x7, x52 => if x52 = true then ((anamnesisref02_with.f x7 9218868437227405312).bind fun t179 => (some t179)) else (if x5 = 2 then (anamnesisref02_quotient.j2 k x0 x1 x7 true) else (anamnesisref02_quotient.j2 k x0 x1 x7 (x6 == 1)))
def anamnesisref02_quotient.j0 : Nat → Int → Int → Int → Int → Bool → Bool → Option (Int)
  | 0, _, _, _, _, _, _ => none
  | k + 1, x0, x1, x5, x6, x7, x45 => if x45 = true then ((anamnesisref02_NaN.f).bind fun t178 => (some t178)) else (if x5 = 1 then (anamnesisref02_quotient.j1 k x0 x1 x5 x6 x7 true) else (anamnesisref02_quotient.j1 k x0 x1 x5 x6 x7 (x6 == 2)))
def anamnesisref02_quotient.f (k : Nat) (a0 : Int) (a1 : Int) : Option (Int) := (anamnesisref02_Kind.f a0).bind fun t174 => ((anamnesisref02_Kind.f a1).bind fun t175 => ((anamnesisref02_sign.f a0).bind fun t176 => ((anamnesisref02_sign.f a1).bind fun t177 => (if t174 = 0 then (anamnesisref02_quotient.j0 k a0 a1 t174 t175 (!t176 == t177) true) else (if t175 = 0 then (anamnesisref02_quotient.j0 k a0 a1 t174 t175 (!t176 == t177) true) else (if t174 = 1 then (if t175 = 1 then (anamnesisref02_quotient.j0 k a0 a1 t174 t175 (!t176 == t177) true) else (if t174 = 2 then (anamnesisref02_quotient.j0 k a0 a1 t174 t175 (!t176 == t177) (t175 == 2)) else (anamnesisref02_quotient.j0 k a0 a1 t174 t175 (!t176 == t177) false))) else (if t174 = 2 then (anamnesisref02_quotient.j0 k a0 a1 t174 t175 (!t176 == t177) (t175 == 2)) else (anamnesisref02_quotient.j0 k a0 a1 t174 t175 (!t176 == t177) false))))))))
def anamnesisref02_Op.f (k : Nat) (a0 : Int) (a1 : Int) (a2 : Int) : Option (Int) := if a0 = 0 then ((anamnesisref02_sum.f k a1 a2).bind fun t187 => (some t187)) else (if a0 = 1 then ((anamnesisref02_Kind.f a2).bind fun t188 => (if t188 = 0 then ((anamnesisref02_NaN.f).bind fun t189 => (some t189)) else ((anamnesisref02_sign.f a2).bind fun t190 => ((anamnesisref02_plain.f a2).bind fun t191 => ((anamnesisref02_with.f (!t190) t191).bind fun t192 => ((anamnesisref02_sum.f k a1 t192).bind fun t193 => (some t193))))))) else (if a0 = 2 then ((anamnesisref02_product.f k a1 a2).bind fun t194 => (some t194)) else (if a0 = 3 then ((anamnesisref02_quotient.f k a1 a2).bind fun t195 => (some t195)) else ((anamnesisref02_NaN.f).bind fun t196 => (some t196)))))
def anamnesisref02_Trunc.j0 : Nat → Int → Int → Option (Int × Bool)
  | 0, _, _ => none
  | k + 1, x0, x4 => (anamnesisref02_sign.f x0).bind fun t204 => (if t204 = true then (if (IntKind.i64.wrap (-x4)) < (-1073741824) then (some (0, false)) else (if (IntKind.i64.wrap (-x4)) ≥ 1073741824 then (some (0, false)) else (some (IntKind.i64.wrap (-x4), true)))) else (if x4 < (-1073741824) then (some (0, false)) else (if x4 ≥ 1073741824 then (some (0, false)) else (some (x4, true)))))
def anamnesisref02_Trunc.f (k : Nat) (a0 : Int) : Option (Int × Bool) := (anamnesisref02_Kind.f a0).bind fun t200 => (if t200 < 2 then (some (0, false)) else ((anamnesisref02_Kind.f a0).bind fun t201 => (if t201 < 4 then (some (0, true)) else ((anamnesisref02_part.f k a0).bind fun bt202 => (if bt202.2 > 0 then (some (0, false)) else (if bt202.2 < (-62) then (anamnesisref02_Trunc.j0 k a0 0) else (if 0 ≤ (IntKind.u64.wrap (IntKind.i64.wrap (-bt202.2))) then (anamnesisref02_Trunc.j0 k a0 (shr .i64 bt202.1 (IntKind.u64.wrap (IntKind.i64.wrap (-bt202.2))))) else (none))))))))
def anamnesisref02_Canon.f (a0 : Int) : Option (Int) := (anamnesisref02_Kind.f a0).bind fun t205 => (if t205 = 0 then ((anamnesisref02_NaN.f).bind fun t206 => (some t206)) else (some a0))
def anamnesisref02_Of.j0 : Nat → Int → Bool → Option (Int)
  | 0, _, _ => none
  | k + 1, x0, x8 => if x8 = true then ((anamnesisref02_NaN.f).bind fun t210 => (some t210)) else (if x0 = 0 then (some 0) else (if x0 < 0 then ((anamnesisref02_round.f k (IntKind.i64.wrap (-x0)) 0 false).bind fun t211 => ((anamnesisref02_with.f true t211).bind fun t212 => (some t212))) else ((anamnesisref02_round.f k x0 0 false).bind fun t213 => (some t213))))
def anamnesisref02_Of.f (k : Nat) (a0 : Int) : Option (Int) := if a0 < (-9007199254740992) then (anamnesisref02_Of.j0 k a0 true) else (anamnesisref02_Of.j0 k a0 (decide (a0 > 9007199254740992)))
def anamnesisref02_order.f (a0 : Int) : Option (Int) := (anamnesisref02_sign.f a0).bind fun t227 => (if t227 = true then ((anamnesisref02_plain.f a0).bind fun t228 => (some (IntKind.i64.wrap (-t228)))) else (some a0))
def anamnesisref02_Less.f (a0 : Int) (a1 : Int) : Option (Bool) := (anamnesisref02_Kind.f a0).bind fun t229 => (if t229 > 0 then ((anamnesisref02_Kind.f a1).bind fun t230 => (if t230 > 0 then ((anamnesisref02_order.f a0).bind fun t231 => ((anamnesisref02_order.f a1).bind fun t232 => (some (decide (t231 < t232))))) else (some false))) else (some false))
def anamnesisref02_Equal.f (a0 : Int) (a1 : Int) : Option (Bool) := (anamnesisref02_Kind.f a0).bind fun t233 => (if t233 > 0 then ((anamnesisref02_Kind.f a1).bind fun t234 => (if t234 > 0 then ((anamnesisref02_order.f a0).bind fun t235 => ((anamnesisref02_order.f a1).bind fun t236 => (some (t235 == t236)))) else (some false))) else (some false))
end Go.Proofs.YtnjihhheiiapnaaGreat
namespace Go.Proofs.YtnjihhheiiapnaaGreat
open Go Go.Proofs AW
theorem bind_get {α β : Type} {o : Option α} {f : α → Option β} {r : β} (h : o.bind f = some r) : ∃ x, o = some x ∧ f x = some r := Option.bind_eq_some_iff.1 h
theorem bits_and (a : Int) : Go.bits .and .i64 a 9223372036854775807 = a % 9223372036854775808 := by
  unfold Go.bits
  simp only [BitVec.toNat_and, BitVec.toNat_ofInt, show IntKind.i64.bits = 64 from rfl]
  have e2 : (9223372036854775807 % ((2 ^ 64 : Nat) : Int)).toNat = 2 ^ 63 - 1 := by decide
  rw [e2, Nat.and_two_pow_sub_one_eq_mod]
  have : ((a % ((2 ^ 64 : Nat) : Int)).toNat % 2 ^ 63 : Nat) = (a % 9223372036854775808).toNat := by omega
  rw [this, IntKind.wrap_i64]
  omega
theorem plain_f (a : Int) : anamnesisref02_plain.f a = some (a % 9223372036854775808) := by
  unfold anamnesisref02_plain.f anamnesisref02_most.f
  rw [Option.bind_some, bits_and]
theorem rsign_ok (a : Int) : Gives Tryz.prog 41 [iv a] (bv (decide (a < 0))) := by
  refine gives_of Tryz.func41 rfl (Nat.le_of_ble_eq_true rfl) ?_
  (repeat' (first | refine mv ?_ | refine asg ?_ | refine bi ?_ | refine aops_nil ?_ | refine aw_seq ?_ | refine aw_region ?_ | refine aw_ret ?_ | fail))
  exact fin (sh_bv rfl)
theorem rwith_ok (n : Bool) (a r : Int) (h : anamnesisref02_with.f n a = some r) : Gives Tryz.prog 40 [bv n, iv a] (iv r) := by
  unfold anamnesisref02_with.f anamnesisref02_most.f at h
  have c1 := rmost_ok
  cases n with
  | true =>
    rw [if_pos rfl, Option.bind_some] at h
    obtain rfl := Option.some.inj h
    refine gives_of Tryz.func40 rfl (Nat.le_of_ble_eq_true rfl) ?_
    (repeat' (first | refine mv ?_ | refine asg ?_ | refine bi ?_ | refine aops_nil ?_ | refine aw_seq ?_ | refine aw_region ?_ | refine aw_cond_t rfl ?_ | refine aw_ret ?_ | refine cl c1 ?_ | fail))
    exact fin (sh_iv rfl)
  | false =>
    rw [if_neg (by simp)] at h
    obtain rfl := Option.some.inj h
    refine gives_of Tryz.func40 rfl (Nat.le_of_ble_eq_true rfl) ?_
    (repeat' (first | refine mv ?_ | refine asg ?_ | refine aops_nil ?_ | refine aw_seq ?_ | refine aw_region ?_ | refine aw_cond_f rfl ?_ | refine aw_skip ?_ | refine aw_ret ?_ | fail))
    exact fin (sh_iv rfl)
theorem rtop_ok (k : Nat) (a r : Int) (h : anamnesisref02_top.f k a = some r) : Gives Tryz.prog 108 [iv a] (iv r) := by
  refine gives_of Tryz.func108 rfl (Nat.le_of_ble_eq_true rfl) ?_
  (repeat' (first | refine asg ?_ | refine aops_nil ?_ | refine aw_seq ?_ | refine aw_region ?_ | refine aw_block ?_ | fail))
  refine aw_loop (ι := {i : Nat × Int × Int // anamnesisref02_top.l0 i.1 i.2.1 i.2.2 = some r}) (fun i => ⟨[(0, iv i.1.2.1), (3, iv i.1.2.2)], noT⟩) (fun i => i.1.1) ⟨(k, a, 0), h⟩ (ent_env ⟨rfl, rfl, trivial⟩) ?_
  rintro ⟨⟨k, x, y⟩, h⟩
  show AWp _ _ _ _ ⟨[(0, iv x), (3, iv y)], noT⟩
  cases k with
  | zero => cases h
  | succ k =>
    simp only [anamnesisref02_top.l0] at h
    by_cases hx : x > 1
    · rw [if_pos hx] at h
      (repeat' (first | refine mv ?_ | refine asg ?_ | refine qu ?_ | refine bt ?_ | refine bi ?_ | refine aops_nil ?_ | refine aw_seq ?_ | refine aw_region ?_ | refine aw_cond_t rfl ?_ | refine aw_block ?_ | refine aw_skip ?_ | fail))
      exact ⟨⟨(k, _, _), h⟩, Nat.lt_succ_self k, ent_env ⟨rfl, rfl, trivial⟩⟩
    · rw [if_neg hx] at h
      obtain rfl := Option.some.inj h
      (repeat' (first | refine mv ?_ | refine asg ?_ | refine bf ?_ | refine aops_nil ?_ | refine aw_seq ?_ | refine aw_region ?_ | refine aw_cond_f rfl ?_ | refine aw_exit ?_ | refine aw_ret ?_ | fail))
      exact fin (sh_iv rfl)
theorem rpart_ok (k : Nat) (a r e : Int) (h : anamnesisref02_part.f k a = some (r, e)) : Gives Tryz.prog 107 [iv a] (.tup [iv r, iv e]) := by
  have c1 := rplain_ok a
  unfold anamnesisref02_part.f at h
  rw [plain_f, Option.bind_some, Option.bind_some] at h
  generalize a % 9223372036854775808 = p at *
  have q1 : IntKind.u64.wrap 52 = 52 := rfl
  by_cases hp : p / 4503599627370496 > 0
  · rw [if_pos hp] at h
    obtain ⟨rfl, rfl⟩ := Prod.mk.inj (Option.some.inj h)
    refine gives_of Tryz.func107 rfl (Nat.le_of_ble_eq_true rfl) ?_
    iterate 7 (first | refine aw_seq ?_ | refine aw_region ?_ | refine asg ?_ | refine aops_nil ?_)
    refine mv ?_
    refine cl c1 ?_
    refine sr (c := 4503599627370496) ?_
    (repeat' (first | refine mv ?_ | refine asg ?_ | refine rm ?_ | refine bt ?_ | refine bi ?_ | refine aops_nil ?_ | refine aw_seq ?_ | refine aw_region ?_ | refine aw_cond_t rfl ?_ | refine aw_ret ?_ | refine cl c1 ?_ | fail))
    refine fin (sh_ii ?_ ?_) <;> rfl
  · rw [if_neg hp] at h
    refine gives_of Tryz.func107 rfl (Nat.le_of_ble_eq_true rfl) ?_
    iterate 7 (first | refine aw_seq ?_ | refine aw_region ?_ | refine asg ?_ | refine aops_nil ?_)
    refine mv ?_
    refine cl c1 ?_
    refine sr (c := 4503599627370496) ?_
    (repeat' (first | refine mv ?_ | refine asg ?_ | refine rm ?_ | refine bf ?_ | refine aops_nil ?_ | refine aw_seq ?_ | refine aw_region ?_ | refine aw_cond_f rfl ?_ | refine aw_block ?_ | refine aw_skip ?_ | refine cl c1 ?_ | fail))
    refine aw_loop (ι := {i : Nat × Int × Int // anamnesisref02_part.l0 i.1 i.2.1 i.2.2 = some (r, e)}) (fun i => ⟨[(5, iv i.1.2.1), (6, iv i.1.2.2)], noT⟩) (fun i => i.1.1) ⟨(k, _, -1074), h⟩ (ent_env ⟨rfl, rfl, trivial⟩) ?_
    rintro ⟨⟨k, x, y⟩, h⟩
    show AWp _ _ _ _ ⟨[(5, iv x), (6, iv y)], noT⟩
    cases k with
    | zero => cases h
    | succ k =>
      simp only [anamnesisref02_part.l0] at h
      by_cases hx : x < 4503599627370496
      · rw [if_pos hx] at h
        (repeat' (first | refine mv ?_ | refine asg ?_ | refine bt ?_ | refine bi ?_ | refine aops_nil ?_ | refine aw_seq ?_ | refine aw_region ?_ | refine aw_cond_t rfl ?_ | refine aw_block ?_ | refine aw_skip ?_ | fail))
        exact ⟨⟨(k, _, _), h⟩, Nat.lt_succ_self k, ent_env ⟨rfl, rfl, trivial⟩⟩
      · rw [if_neg hx] at h
        obtain ⟨rfl, rfl⟩ := Prod.mk.inj (Option.some.inj h)
        (repeat' (first | refine mv ?_ | refine asg ?_ | refine bf ?_ | refine aops_nil ?_ | refine aw_seq ?_ | refine aw_region ?_ | refine aw_cond_f rfl ?_ | refine aw_exit ?_ | refine aw_ret ?_ | fail))
        refine fin (sh_ii ?_ ?_) <;> rfl
end Go.Proofs.YtnjihhheiiapnaaGreat
