/- What the statements' walks need. -/
import Derived.Test.YtemcemimipagoaaMVa4
import Derived.Test.YtemcemimipagoaaMVx19
set_option linter.unusedVariables false
set_option linter.unusedSimpArgs false
set_option maxRecDepth 100000
namespace Go.Proofs.Ytemcemimipagoaa
open Go Go.Proofs AW
theorem ty_int {n : Nat} {p : List AV} (h : Ty Try.prog (n + 1) 3 p) : ∃ x : Int, p = [iv x] ∧ In64 x := by
  unfold Ty at h
  rw [Try.underlying3] at h
  obtain ⟨x, rfl, h1, h2⟩ := h
  exact ⟨x, rfl, h1, h2⟩
theorem ty_string {n : Nat} {p : List AV} (h : Ty Try.prog (n + 1) 9 p) : ∃ s : ByteArray, p = [sv s] ∧ s.size < 140737488355328 := by
  unfold Ty at h
  rw [Try.underlying9] at h
  obtain ⟨s, rfl, h1⟩ := h
  exact ⟨s, rfl, Nat.lt_of_le_of_lt h1 (by decide)⟩
theorem ty_ints {n : Nat} {p : List AV} (h : Ty Try.prog (n + 2) 27 p) : ∃ l : List Int, p = [.sl 1 (encInts l)] ∧ (∀ x ∈ l, In64 x) ∧ l.length < 17592186044416 := by
  unfold Ty at h
  rw [Try.underlying27] at h
  obtain ⟨es, rfl, h1, h2⟩ := h
  obtain ⟨l, rfl, h3⟩ := list_map (f := fun x : Int => [iv x]) (q := In64) fun c hc => ty_int (h2 c hc)
  refine ⟨l, rfl, h3, ?_⟩
  have hb : Try.prog.bytesOf 3 = 8 := rfl
  have h4 : l.length * 8 ≤ reachBytes := by rw [hb] at h1; simpa using h1
  simp only [reachBytes] at h4
  omega
theorem ty_obj {n : Nat} {p : List AV} (h : Ty Try.prog (n + 3) 43 p) : ∃ o : HObj, p = encObj o ∧ o.Big := by
  unfold Ty at h
  rw [Try.underlying43] at h
  obtain ⟨parts, hl, rfl, hf⟩ := h
  match parts, hl with
  | [p0, p1, p2, p3, p4, p5], _ =>
    obtain ⟨x0, rfl, i0⟩ := ty_int (hf 0 _ p0 rfl rfl)
    obtain ⟨x1, rfl, i1⟩ := ty_int (hf 1 _ p1 rfl rfl)
    obtain ⟨x2, rfl, i2, j2⟩ := ty_ints (hf 2 _ p2 rfl rfl)
    obtain ⟨x3, rfl, i3⟩ := ty_string (hf 3 _ p3 rfl rfl)
    obtain ⟨x4, rfl, i4⟩ := ty_int (hf 4 _ p4 rfl rfl)
    obtain ⟨x5, rfl, i5⟩ := ty_int (hf 5 _ p5 rfl rfl)
    exact ⟨⟨x0, x1, x2, x3, x4, x5⟩, rfl, i0, i1, i2, i4, i5, j2, i3⟩
theorem ty_heap {n : Nat} {p : List AV} (h : Ty Try.prog (n + 5) 24 p) : ∃ H : HHeap, p = encHeap H ∧ H.Big := by
  unfold Ty at h
  rw [Try.underlying24] at h
  obtain ⟨parts, hl, rfl, hf⟩ := h
  match parts, hl with
  | [p0, p1, p2], _ =>
    have h0 : Ty Try.prog (n + 4) 22 p0 := hf 0 _ p0 rfl rfl
    obtain ⟨x1, rfl, i1⟩ := ty_int (hf 1 _ p1 rfl rfl)
    obtain ⟨x2, rfl, i2⟩ := ty_int (hf 2 _ p2 rfl rfl)
    unfold Ty at h0
    rw [Try.underlying22] at h0
    obtain ⟨es, rfl, h1, h2⟩ := h0
    obtain ⟨l, rfl, h3⟩ := list_map (f := encObj) (q := HObj.Big) fun c hc => ty_obj (h2 c hc)
    refine ⟨⟨l, x1, x2⟩, rfl, h3, i1, i2, ?_⟩
    have hb : Try.prog.bytesOf 43 = 72 := rfl
    have h4 : l.length * 72 ≤ reachBytes := by rw [hb] at h1; simpa using h1
    simp only [reachBytes] at h4
    show l.length < _
    omega
end Go.Proofs.Ytemcemimipagoaa
