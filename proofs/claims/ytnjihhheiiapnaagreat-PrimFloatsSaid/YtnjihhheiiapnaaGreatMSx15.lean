/- What the statements' walks need. -/
import Derived.Test.YtnjihhheiiapnaaGreatMSa4
import Derived.Test.YtnjihhheiiapnaaGreatMSx13
import Derived.Test.YtnjihhheiiapnaaGreatMSx14
import Derived.Test.YtnjihhheiiapnaaGreatMSa2
import Derived.Test.YtnjihhheiiapnaaGreatMSx1
import Derived.Test.YtnjihhheiiapnaaGreatMSa3
import Derived.Test.YtnjihhheiiapnaaGreatMSx4
import Derived.Test.YtnjihhheiiapnaaGreatMSx2
set_option linter.unusedVariables false
set_option linter.unusedSimpArgs false
set_option maxRecDepth 100000
namespace Go.Proofs.YtnjihhheiiapnaaGreat
open Go Go.Proofs AW
theorem mayH_iff {H : HHeap} : mayH H = true ↔ (1 ≤ H.cap ∧ H.cap ≤ 256 ∧ (H.objs.length : Int) ≤ H.cap ∧ 0 ≤ H.last ∧ H.last ≤ 1073741823) ∧ ∀ o ∈ H.objs, mayObj H.objs.length o = true := by
  simp [mayH]
@[simp] theorem put_len (H : HHeap) (i : Nat) (o : HObj) : (H.put i o).objs.length = H.objs.length := by simp [HHeap.put]
@[simp] theorem put_ref (H : HHeap) (i : Nat) (o : HObj) (v : Int) : (H.put i o).ref v = H.ref v := by simp [HHeap.ref]
theorem keptH_in {H : HHeap} (h : H.In) (e : Int) : (keptH H e).In := by
  unfold keptH; split
  · simp [emptyH, HHeap.In, In64]
  · exact h
end Go.Proofs.YtnjihhheiiapnaaGreat
namespace Go.Proofs.YtnjihhheiiapnaaGreat
open Go Go.Proofs AW
structure HInstr where
  op : Int
  arg : Int
  deriving DecidableEq
def encInstr (x : HInstr) : List AV := [iv x.op, iv x.arg]
def encCode (l : List HInstr) : List (List AV) := l.map encInstr
@[simp] theorem len_code (l : List HInstr) : (encCode l).length = l.length := by simp [encCode]
end Go.Proofs.YtnjihhheiiapnaaGreat
namespace Go.Proofs.YtnjihhheiiapnaaGreat
open Go Go.Proofs AW
def pairAt (s : ByteArray) (k : Nat) : HInstr := ⟨btA s (2 * (k : Int)), btA s (2 * (k : Int) + 1)⟩
def pairsK (s : ByteArray) (k : Nat) : List HInstr := (List.range k).map (pairAt s)
@[simp] theorem len_pairs (s : ByteArray) (k : Nat) : (pairsK s k).length = k := by simp [pairsK]
end Go.Proofs.YtnjihhheiiapnaaGreat
namespace Go.Proofs.YtnjihhheiiapnaaGreat
open Go Go.Proofs AW
theorem ref_cases (H : HHeap) (v : Int) : (isAt v = false ∧ H.ref v = -1) ∨ (isAt v = true ∧ atI v = v / 2 ∧ (H.objs.length : Int) ≤ v / 2 ∧ H.ref v = -1) ∨ (isAt v = true ∧ atI v = H.ref v ∧ 0 ≤ H.ref v ∧ H.ref v < H.objs.length) := by
  cases h : isAt v with
  | false => left; exact ⟨rfl, by simp [HHeap.ref, refI, h]⟩
  | true =>
    have h' : v % 2 = 0 ∧ 0 ≤ v ∧ v ≤ 2097150 := by simpa [isAt] using h
    by_cases h2 : v / 2 < (H.objs.length : Int)
    · right; right
      have e : H.ref v = v / 2 := by simp [HHeap.ref, refI, h, h2]
      exact ⟨rfl, by simp [atI, h, e], by omega, by omega⟩
    · right; left
      exact ⟨rfl, by simp [atI, h], by omega, by simp [HHeap.ref, refI, h, h2]⟩
def numV (n : Int) : Int := if -1073741824 ≤ n ∧ n ≤ 1073741823 then n * 2 + 1 else 0
def smallB (n : Int) : Bool := decide (-1073741824 ≤ n ∧ n ≤ 1073741823)
theorem Int_ok (n : Int) : Gives Tryz.prog 145 [iv n] (.tup [iv (numV n), bv (smallB n)]) := by
  refine gives_of Tryz.func145 rfl (Nat.le_of_ble_eq_true rfl) ?_
  by_cases h : -1073741824 ≤ n ∧ n ≤ 1073741823
  · (repeat' (first | refine mv ?_ | refine asg ?_ | refine o1 ?_ | refine sll (c := 2) ?_ | refine un ?_ | refine aops_nil ?_ | refine aw_seq ?_ | refine aw_region ?_ | refine aw_cond_f rfl ?_ | refine aw_skip ?_ | refine aw_ret ?_ | refine cl ((small_ok n).to' (congrArg bv (decide_eq_true h))) ?_ | fail))
    exact fin (sh_ib (x := n * 2 + 1) (y := true) (by simp only [numV, if_pos h]) (decide_eq_true h).symm)
  · (repeat' (first | refine mv ?_ | refine asg ?_ | refine un ?_ | refine aops_nil ?_ | refine aw_seq ?_ | refine aw_region ?_ | refine aw_cond_t rfl ?_ | refine aw_ret ?_ | refine cl ((small_ok n).to' (congrArg bv (decide_eq_false h))) ?_ | fail))
    exact fin (sh_ib (x := 0) (y := false) (by simp only [numV, if_neg h]) (by simp only [smallB]; exact (decide_eq_false h).symm))
end Go.Proofs.YtnjihhheiiapnaaGreat
namespace Go.Proofs.YtnjihhheiiapnaaGreat
open Go Go.Proofs AW
theorem ty_int {n : Nat} {p : List AV} (h : Ty Tryz.prog (n + 1) 3 p) : ∃ x : Int, p = [iv x] ∧ In64 x := by
  unfold Ty at h
  rw [Tryz.underlying3] at h
  obtain ⟨x, rfl, h1, h2⟩ := h
  exact ⟨x, rfl, h1, h2⟩
theorem ty_string {n : Nat} {p : List AV} (h : Ty Tryz.prog (n + 1) 9 p) : ∃ s : ByteArray, p = [sv s] ∧ s.size < 140737488355328 := by
  unfold Ty at h
  rw [Tryz.underlying9] at h
  obtain ⟨s, rfl, h1⟩ := h
  exact ⟨s, rfl, Nat.lt_of_le_of_lt h1 (by decide)⟩
theorem ty_ints {n : Nat} {p : List AV} (h : Ty Tryz.prog (n + 2) 25 p) : ∃ l : List Int, p = [.sl 1 (encInts l)] ∧ (∀ x ∈ l, In64 x) ∧ l.length < 17592186044416 := by
  unfold Ty at h
  rw [Tryz.underlying25] at h
  obtain ⟨es, rfl, h1, h2⟩ := h
  obtain ⟨l, rfl, h3⟩ := list_map (f := fun x : Int => [iv x]) (q := In64) fun c hc => ty_int (h2 c hc)
  refine ⟨l, rfl, h3, ?_⟩
  have hb : Tryz.prog.bytesOf 3 = 8 := rfl
  have h4 : l.length * 8 ≤ reachBytes := by rw [hb] at h1; simpa using h1
  simp only [reachBytes] at h4
  omega
theorem ty_obj {n : Nat} {p : List AV} (h : Ty Tryz.prog (n + 3) 41 p) : ∃ o : HObj, p = encObj o ∧ o.Big := by
  unfold Ty at h
  rw [Tryz.underlying41] at h
  obtain ⟨parts, hl, rfl, hf⟩ := h
  match parts, hl with
  | [p0, p1, p2, p3, p4, p5], _ =>
    obtain ⟨x0, rfl, i0⟩ := ty_int (hf 0 _ p0 rfl rfl)
    obtain ⟨x1, rfl, i1⟩ := ty_int (hf 1 _ p1 rfl rfl)
    obtain ⟨x2, rfl, i2, j2⟩ := ty_ints (hf 2 _ p2 rfl rfl)
    obtain ⟨x3, rfl, i3⟩ := ty_string (hf 3 _ p3 rfl rfl)
    obtain ⟨x4, rfl, i4⟩ := ty_int (hf 4 _ p4 rfl rfl)
    obtain ⟨x5, rfl, i5⟩ := ty_int (hf 5 _ p5 rfl rfl)
    exact ⟨⟨x0, x1, x2, x3, x4, x5⟩, rfl, i0, i1, i2, i4, i5, j2, i3⟩
theorem ty_heap {n : Nat} {p : List AV} (h : Ty Tryz.prog (n + 5) 24 p) : ∃ H : HHeap, p = encHeap H ∧ H.Big := by
  unfold Ty at h
  rw [Tryz.underlying24] at h
  obtain ⟨parts, hl, rfl, hf⟩ := h
  match parts, hl with
  | [p0, p1, p2], _ =>
    have h0 : Ty Tryz.prog (n + 4) 22 p0 := hf 0 _ p0 rfl rfl
    obtain ⟨x1, rfl, i1⟩ := ty_int (hf 1 _ p1 rfl rfl)
    obtain ⟨x2, rfl, i2⟩ := ty_int (hf 2 _ p2 rfl rfl)
    unfold Ty at h0
    rw [Tryz.underlying22] at h0
    obtain ⟨es, rfl, h1, h2⟩ := h0
    obtain ⟨l, rfl, h3⟩ := list_map (f := encObj) (q := HObj.Big) fun c hc => ty_obj (h2 c hc)
    refine ⟨⟨l, x1, x2⟩, rfl, h3, i1, i2, ?_⟩
    have hb : Tryz.prog.bytesOf 41 = 72 := rfl
    have h4 : l.length * 72 ≤ reachBytes := by rw [hb] at h1; simpa using h1
    simp only [reachBytes] at h4
    show l.length < _
    omega
end Go.Proofs.YtnjihhheiiapnaaGreat
