/- The laws' calls whose answers the document fixes. -/
import Derived.Test.YtafbiccgbgcooaaKA
set_option linter.unusedSimpArgs false
namespace Go.Proofs.Ytafbiccgbgcooaa
open Go Go.Proofs AW
theorem _root_.Go.Proofs.Ytafbiccgbgcooaa.AW.Gives.to {P : Program} {f : Nat} {args : List AV} {x y : AV} (h : Gives P f args x) (e : x = y) : Gives P f args y := e ▸ h
def oneH : HHeap := ⟨[⟨0, 0, [], ⟨#[]⟩, 0, 0⟩], 3, 0⟩
def h1H : HHeap := ⟨[⟨0, 0, [], ⟨#[]⟩, 0, 0⟩, ⟨0, 0, [0, 0], ⟨#[]⟩, 0, 12345⟩], 3, 12345⟩
def h2H : HHeap := ⟨[⟨0, 0, [], ⟨#[]⟩, 0, 0⟩, ⟨0, 0, [0, 7], ⟨#[]⟩, 0, 12345⟩], 3, 12345⟩
def h3H : HHeap := ⟨[⟨0, 0, [0, 7], ⟨#[]⟩, 0, 12345⟩, ⟨0, 0, [], ⟨#[]⟩, 0, 0⟩], 3, 12345⟩
theorem in_emp : emptyH.In := by simp [emptyH, HHeap.In, In64]
theorem in_one : oneH.In := by simp [oneH, HHeap.In, HObj.In, In64] <;> decide
theorem in_h1 : h1H.In := by simp [h1H, HHeap.In, HObj.In, In64] <;> decide
theorem in_h2 : h2H.In := by simp [h2H, HHeap.In, HObj.In, In64] <;> decide
theorem in_h3 : h3H.In := by simp [h3H, HHeap.In, HObj.In, In64] <;> decide
theorem one_ok : Gives Try.prog 31 [] (.agg (encHeap oneH)) := by
  refine gives_of Try.func31 rfl (Nat.le_of_ble_eq_true rfl) ?_
  (repeat' (first | refine sk ?_ | refine mv ?_ | refine asg ?_ | refine ld ?_ | refine fp ?_ | refine fi ?_ | refine ms 1 ?_ | refine ms 30 ?_ | refine ms 63 ?_ | refine sll (c := 2) ?_ | refine sll (c := 8) ?_ | refine sr ?_ | refine rm ?_ | refine qu ?_ | refine bw ?_ | refine bi ?_ | refine un ?_ | refine pt ?_ | refine pf ?_ | refine ex ?_ | refine cv' ?_ | refine ln ?_ | refine lns ?_ | refine fd ?_ | refine la ?_ | refine so ?_ | refine mf ?_ | refine bd ?_ | refine aops_nil ?_ | refine aw_seq ?_ | refine aw_region ?_ | refine aw_cond_t rfl ?_ | refine aw_cond_f rfl ?_ | refine aw_block ?_ | refine aw_exit ?_ | refine aw_skip ?_ | refine aw_ret ?_ | refine bx 0 ?_ | refine bx 1 ?_ | refine bx 2 ?_ | refine bx 3 ?_ | refine al 0 ?_ | refine al 1 ?_ | refine al 2 ?_ | refine al 3 ?_ | fail))
  refine li 1 ?_
  (repeat' (first | refine sk ?_ | refine mv ?_ | refine asg ?_ | refine ld ?_ | refine fp ?_ | refine fi ?_ | refine ms 1 ?_ | refine ms 30 ?_ | refine ms 63 ?_ | refine sll (c := 2) ?_ | refine sll (c := 8) ?_ | refine sr ?_ | refine rm ?_ | refine qu ?_ | refine bw ?_ | refine bi ?_ | refine un ?_ | refine pt ?_ | refine pf ?_ | refine ex ?_ | refine cv' ?_ | refine ln ?_ | refine lns ?_ | refine fd ?_ | refine la ?_ | refine so ?_ | refine mf ?_ | refine bd ?_ | refine aops_nil ?_ | refine aw_seq ?_ | refine aw_region ?_ | refine aw_cond_t rfl ?_ | refine aw_cond_f rfl ?_ | refine aw_block ?_ | refine aw_exit ?_ | refine aw_skip ?_ | refine aw_ret ?_ | refine bx 0 ?_ | refine bx 1 ?_ | refine bx 2 ?_ | refine bx 3 ?_ | refine al 0 ?_ | refine al 1 ?_ | refine al 2 ?_ | refine al 3 ?_ | fail))
  refine fin (sh_agg (l := [.own 1, iv 3, iv 0]) ⟨?_, .same _ (.v _), .same _ (.v _), trivial⟩)
  exact sh_app (l := []) rfl ⟨.same _ (.v _), .same _ (.v _), .nil 1, .same _ (.v _), .same _ (.v _), .same _ (.v _), trivial⟩
theorem c1 : Gives Try.prog 11 [.agg (encHeap oneH), iv 0, iv 0, iv 2] (.tup [.agg (encHeap h1H), iv 2, iv 0]) :=
  (Alloc_ok oneH in_one 0 0 2).to (by rw [show allocH oneH 0 0 2 = h1H by decide +kernel, show allocV oneH 0 0 2 = 2 by decide +kernel, show allocE oneH 0 0 2 = 0 by decide +kernel])
theorem c2 : Gives Try.prog 26 [.agg (encHeap h1H)] (bv true) := (May_ok h1H in_h1).to (by rw [show mayH h1H = true by decide +kernel])
theorem c3 : Gives Try.prog 18 [.agg (encHeap h1H), iv 2, iv 1, iv 7] (.tup [.agg (encHeap h2H), iv 0]) :=
  (Set_ok h1H in_h1 2 1 7).to (by rw [show setH h1H 2 1 7 = h2H by decide +kernel, show setE h1H 2 1 7 = 0 by decide +kernel])
theorem c4 : Gives Try.prog 17 [.agg (encHeap h2H), iv 2, iv 1] (.tup [iv 7, iv 0]) :=
  (Get_ok h2H in_h2 2 1).to (by rw [show getI h2H 2 1 = 7 by decide +kernel, show wrongE h2H 2 0 1 = 0 by decide +kernel])
theorem c5 : Gives Try.prog 21 [.agg (encHeap h2H), iv 0, iv 2] (.tup [.agg (encHeap h3H), iv 0]) :=
  (Become_ok h2H in_h2 0 2).to (by rw [show becomeH h2H 0 2 = h3H by decide +kernel, show becomeE h2H 0 2 = 0 by decide +kernel])
theorem c6 : Gives Try.prog 17 [.agg (encHeap h3H), iv 0, iv 1] (.tup [iv 7, iv 0]) :=
  (Get_ok h3H in_h3 0 1).to (by rw [show getI h3H 0 1 = 7 by decide +kernel, show wrongE h3H 0 0 1 = 0 by decide +kernel])
theorem c7 : Gives Try.prog 11 [.agg (encHeap h2H), iv 7, iv 0, iv 0] (.tup [.agg (encHeap h2H), iv 0, iv 31]) :=
  (Alloc_ok h2H in_h2 7 0 0).to (by rw [show allocH h2H 7 0 0 = h2H by decide +kernel, show allocV h2H 7 0 0 = 0 by decide +kernel, show allocE h2H 7 0 0 = 31 by decide +kernel])
theorem c8 : Gives Try.prog 24 [.agg (encHeap h2H), iv 2, iv 0] (.tup [iv 0, iv 33]) :=
  (Byte_ok h2H in_h2 2 0).to (by rw [show byteI h2H 2 0 = 0 by decide +kernel, show wrongE h2H 2 1 0 = 33 by decide +kernel])
theorem c9 : Gives Try.prog 17 [.agg (encHeap h2H), iv 2, iv 2] (.tup [iv 0, iv 32]) :=
  (Get_ok h2H in_h2 2 2).to (by rw [show getI h2H 2 2 = 0 by decide +kernel, show wrongE h2H 2 0 2 = 32 by decide +kernel])
theorem noOwn_emp0 : ∀ x ∈ ([.v (.slice none 0 0), iv 0, iv 0] : List AV), NoOwn x := by simp [noOwn_v]
theorem noOwn_emp : NoOwn (.agg [.v (.slice none 0 0), iv 0, iv 0]) := by rw [noOwn_agg]; exact noOwn_emp0
theorem emp_sh (T : Nat → Ob) : Sh T (.agg [.v (.slice none 0 0), iv 0, iv 0]) (.agg (encHeap emptyH)) := sh_agg ⟨.nil 6, .same _ (.v _), .same _ (.v _), trivial⟩
theorem c10 : Gives Try.prog 17 [.agg (encHeap emptyH), iv 0, iv 0] (.tup [iv 0, iv 1]) :=
  (Get_ok emptyH in_emp 0 0).to (by rw [show getI emptyH 0 0 = 0 by decide +kernel, show wrongE emptyH 0 0 0 = 1 by decide +kernel])
theorem c11 : Gives Try.prog 14 [iv 0] (iv 12345) := (next_ok 0).to (by rw [show nextI 0 = 12345 by decide +kernel])
theorem c12 : Gives Try.prog 26 [.agg (encHeap emptyH)] (bv false) := (May_ok emptyH in_emp).to (by rw [show mayH emptyH = false by decide +kernel])
set_option maxRecDepth 100000 in
set_option maxHeartbeats 4000000 in
theorem fixed_ok : Gives Try.prog 10 [] (bv true) := by
  refine gives_of Try.func10 rfl (Nat.le_of_ble_eq_true rfl) ?_
  (repeat' (first | refine sk ?_ | refine mv ?_ | refine asg ?_ | refine ld ?_ | refine fp ?_ | refine fi ?_ | refine ms 1 ?_ | refine ms 30 ?_ | refine ms 63 ?_ | refine sll (c := 2) ?_ | refine sll (c := 8) ?_ | refine sr ?_ | refine rm ?_ | refine qu ?_ | refine bw ?_ | refine bi ?_ | refine un ?_ | refine pt ?_ | refine pf ?_ | refine ex ?_ | refine cv' ?_ | refine ln ?_ | refine lns ?_ | refine fd ?_ | refine la ?_ | refine so ?_ | refine mf ?_ | refine bd ?_ | refine aops_nil ?_ | refine aw_seq ?_ | refine aw_region ?_ | refine aw_cond_t rfl ?_ | refine aw_cond_f rfl ?_ | refine aw_block ?_ | refine aw_exit ?_ | refine aw_skip ?_ | refine aw_ret ?_ | refine bx 0 ?_ | refine bx 1 ?_ | refine bx 2 ?_ | refine bx 3 ?_ | refine al 0 ?_ | refine al 1 ?_ | refine al 2 ?_ | refine al 3 ?_ | refine cl one_ok ?_ (hno := trivial) | refine cl c1 ?_ (hno := ⟨noOwn_heap _, noOwn_iv _, noOwn_iv _, noOwn_iv _, trivial⟩) | refine cl c2 ?_ (hno := ⟨noOwn_heap _, trivial⟩) | refine cl c3 ?_ (hno := ⟨noOwn_heap _, noOwn_iv _, noOwn_iv _, noOwn_iv _, trivial⟩) | refine cl c4 ?_ (hno := ⟨noOwn_heap _, noOwn_iv _, noOwn_iv _, trivial⟩) | refine cl c5 ?_ (hno := ⟨noOwn_heap _, noOwn_iv _, noOwn_iv _, trivial⟩) | refine cl c6 ?_ (hno := ⟨noOwn_heap _, noOwn_iv _, noOwn_iv _, trivial⟩) | refine cl c7 ?_ (hno := ⟨noOwn_heap _, noOwn_iv _, noOwn_iv _, noOwn_iv _, trivial⟩) | refine cl c8 ?_ (hno := ⟨noOwn_heap _, noOwn_iv _, noOwn_iv _, trivial⟩) | refine cl c9 ?_ (hno := ⟨noOwn_heap _, noOwn_iv _, noOwn_iv _, trivial⟩) | refine cs c10 ?_ (hsh := by exact ⟨emp_sh _, .same _ (.v _), .same _ (.v _), trivial⟩) | refine cl c11 ?_ | refine cs c12 ?_ (hsh := by exact ⟨emp_sh _, trivial⟩) | fail))
  exact fin (sh_bv rfl)
end Go.Proofs.Ytafbiccgbgcooaa
