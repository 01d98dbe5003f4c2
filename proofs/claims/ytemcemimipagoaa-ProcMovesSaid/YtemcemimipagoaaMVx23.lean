/- What the statements' walks need. -/
import Derived.Test.YtemcemimipagoaaMVa4
import Derived.Test.YtemcemimipagoaaMVx22
import Derived.Test.YtemcemimipagoaaMVx21
import Derived.Test.YtemcemimipagoaaMVa3
import Derived.Test.YtemcemimipagoaaMVx20
set_option linter.unusedVariables false
set_option linter.unusedSimpArgs false
set_option maxRecDepth 100000
namespace Go.Proofs.Ytemcemimipagoaa
open Go Go.Proofs AW
theorem objslot_has {H : HHeap} {c : Int} (hm : mayH H = true) (hc : 0 ≤ H.ref c) : ∀ x ∈ (H.at' c).slots, hasB H.objs.length x = true := by
  have h := may_obj hm (at_mem hc)
  simp only [mayObj, restB, Bool.and_eq_true, List.all_eq_true] at h
  exact h.2.2.2
def slB (H : HHeap) (v cls : Int) (many : Nat) : Bool := decide (0 ≤ H.ref v ∧ (H.at' v).kind = 0 ∧ (H.at' v).cls = cls ∧ (H.at' v).slots.length = many)
def prcB (H : HHeap) (p : Int) : Bool :=
  slB H p 14 4 && (decide (p ≠ 0) && (isAt ((H.at' p).sl 0) && (isAt ((H.at' p).sl 1) && (isAt ((H.at' p).sl 3) && decide (isN ((H.at' p).sl 2) = true ∧ 0 ≤ nI ((H.at' p).sl 2) ∧ nI ((H.at' p).sl 2) ≤ 7)))))
def semB (H : HHeap) (s : Int) : Bool := slB H s 16 2 && (decide (isN ((H.at' s).sl 0) = true ∧ 0 ≤ nI ((H.at' s).sl 0)) && isAt ((H.at' s).sl 1))
def nxt (H : HHeap) (p : Int) : Int := (H.at' p).sl 0
def lstF (H : HHeap) : Nat → List Int → Int → Option (List Int × Int)
  | 0, _, _ => none
  | k + 1, out, p => if p = 0 then some (out, 0) else if prcB H p = true ∧ out.contains p = false then lstF H k (out ++ [p]) (nxt H p) else some ([], 141)
theorem nodup_len : ∀ {l m : List Int}, l.Nodup → (∀ x ∈ l, x ∈ m) → l.length ≤ m.length
  | [], _, _, _ => Nat.zero_le _
  | a :: l, m, hn, hs => by
    have ha := hs a (.head _)
    have h1 := List.nodup_cons.1 hn
    have := nodup_len (m := m.erase a) h1.2 fun x hx => (List.mem_erase_of_ne (fun e => by subst e; exact h1.1 hx)).2 (hs x (.tail _ hx))
    have hl := List.length_erase_of_mem ha
    have hp : 0 < m.length := List.length_pos_of_mem ha
    simp only [List.length_cons]
    omega
theorem slB_facts {H : HHeap} {v cls : Int} {many : Nat} (h : slB H v cls many = true) : 0 ≤ H.ref v ∧ (H.at' v).kind = 0 ∧ (H.at' v).cls = cls ∧ (H.at' v).slots.length = many := by simpa [slB] using h
theorem prc_facts {H : HHeap} {p : Int} (h : prcB H p = true) : (0 ≤ H.ref p ∧ (H.at' p).kind = 0 ∧ (H.at' p).cls = 14 ∧ (H.at' p).slots.length = 4) ∧ p ≠ 0 ∧ isAt (nxt H p) = true ∧ isAt ((H.at' p).sl 1) = true ∧ isAt ((H.at' p).sl 3) = true ∧
    isN ((H.at' p).sl 2) = true ∧ 0 ≤ nI ((H.at' p).sl 2) ∧ nI ((H.at' p).sl 2) ≤ 7 := by
  simp only [prcB, Bool.and_eq_true, decide_eq_true_eq] at h
  obtain ⟨h1, h2, h3, h4, h5, h6, h7, h8⟩ := h
  exact ⟨slB_facts h1, h2, h3, h4, h5, h6, h7, h8⟩
theorem ref_val {H : HHeap} {v : Int} (h : 0 ≤ H.ref v) : v = 2 * ((H.ref v).toNat : Int) ∧ (H.ref v).toNat < H.objs.length := by
  refine ⟨?_, ref_lt h⟩
  unfold HHeap.ref refI at *
  split at h
  · rename_i h1
    rw [if_pos h1]
    simp only [isAt, decide_eq_true_eq] at h1
    omega
  · omega
theorem room {H : HHeap} {l : List Int} (hn : l.Nodup) (hp : ∀ x ∈ l, 0 ≤ H.ref x) : l.length ≤ H.objs.length := by
  have := nodup_len (m := (List.range H.objs.length).map fun (i : Nat) => 2 * (i : Int)) hn fun x hx => by
    obtain ⟨h1, h2⟩ := ref_val (hp x hx)
    exact List.mem_map.2 ⟨_, List.mem_range.2 h2, h1.symm⟩
  simpa using this
theorem lst_some {H : HHeap} : ∀ (k : Nat) (out : List Int) (p : Int), out.Nodup → (∀ x ∈ out, prcB H x = true) → H.objs.length < out.length + k → ∃ r, lstF H k out p = some r
  | 0, out, p, hn, ho, hk => by
    have := room hn fun x hx => (prc_facts (ho x hx)).1.1
    omega
  | k + 1, out, p, hn, ho, hk => by
    unfold lstF
    split
    · exact ⟨_, rfl⟩
    split
    · rename_i h
      refine lst_some k _ _ ?_ ?_ (by simp; omega)
      · rw [List.nodup_append]
        refine ⟨hn, by simp, fun a ha b hb => ?_⟩
        simp only [List.mem_singleton] at hb
        subst hb
        intro e
        subst e
        simp [ha] at h
      · intro x hx
        rcases List.mem_append.1 hx with hx | hx
        · exact ho x hx
        · simp only [List.mem_singleton] at hx; subst hx; exact h.1
    · exact ⟨_, rfl⟩
def lstI (H : HHeap) (p : Int) : List Int × Int := (lstF H (H.objs.length + 1) [] p).getD ([], 141)
theorem lstI_F (H : HHeap) (p : Int) : lstF H (H.objs.length + 1) [] p = some (lstI H p) := by
  obtain ⟨r, h⟩ := lst_some (H := H) (H.objs.length + 1) [] p List.nodup_nil (by simp) (by simp)
  rw [lstI, h]; rfl
def Chn (H : HHeap) : Int → List Int → Prop
  | p, [] => p = 0
  | p, q :: l => p = q ∧ prcB H q = true ∧ Chn H (nxt H q) l
theorem lst_chn {H : HHeap} : ∀ (k : Nat) (out : List Int) (p : Int) (l : List Int), lstF H k out p = some (l, 0) → ∃ r, l = out ++ r ∧ Chn H p r ∧ ((out.Nodup → l.Nodup))
  | 0, _, _, _, h => by cases h
  | k + 1, out, p, l, h => by
    unfold lstF at h
    split at h
    · rename_i h0
      cases h
      exact ⟨[], by simp, h0, id⟩
    split at h
    · rename_i h0 h1
      obtain ⟨r, rfl, hr, hn⟩ := lst_chn k _ _ _ h
      refine ⟨p :: r, by simp, ⟨rfl, h1.1, hr⟩, fun ho => hn ?_⟩
      rw [List.nodup_append]
      refine ⟨ho, by simp, fun a ha b hb => ?_⟩
      simp only [List.mem_singleton] at hb
      subst hb
      intro e
      subst e
      simp [ha] at h1
    · cases h
theorem chn_lst {H : HHeap} : ∀ (r : List Int) (k : Nat) (out : List Int) (p : Int), Chn H p r → (out ++ r).Nodup → r.length < k → lstF H k out p = some (out ++ r, 0)
  | _, 0, _, _, _, _, hk => by omega
  | [], k + 1, out, p, h, hn, hk => by
    have h0 : p = 0 := h
    unfold lstF
    rw [if_pos h0]; simp
  | q :: r, k + 1, out, p, h, hn, hk => by
    obtain ⟨rfl, h2, h3⟩ := h
    have hp : p ≠ 0 := (prc_facts h2).2.1
    have hc : out.contains p = false := by
      rw [List.nodup_append] at hn
      have := hn.2.2
      cases hcc : out.contains p with
      | false => rfl
      | true => exact absurd rfl (this p (by simpa using hcc) p (.head _))
    unfold lstF
    rw [if_neg hp, if_pos ⟨h2, hc⟩, chn_lst r k (out ++ [p]) (nxt H p) h3 (by simpa using hn) (by simpa using hk)]
    simp
theorem chn_prc {H : HHeap} : ∀ {r : List Int} {p : Int}, Chn H p r → ∀ x ∈ r, prcB H x = true
  | [], _, _, x, hx => by cases hx
  | q :: r, p, ⟨_, h2, h3⟩, x, hx => by
    rcases List.mem_cons.1 hx with rfl | hx
    · exact h2
    · exact chn_prc h3 x hx
theorem chn_hd {H : HHeap} {r : List Int} {p : Int} (h : Chn H p r) : p = r.headD 0 := by
  cases r with
  | nil => exact h
  | cons q r => exact h.1
theorem lstI_ok {H : HHeap} {p : Int} (h : (lstI H p).2 = 0) : Chn H p (lstI H p).1 ∧ (lstI H p).1.Nodup := by
  have h1 := lstI_F H p
  obtain ⟨r, e, hr, hn⟩ := lst_chn (H := H) _ _ _ (lstI H p).1 (by rw [h1]; congr 1; exact Prod.ext rfl h)
  simp only [List.nil_append] at e
  rw [e]
  exact ⟨hr, e ▸ hn .nil⟩
theorem lstI_of {H : HHeap} {p : Int} {r : List Int} (h : Chn H p r) (hn : r.Nodup) : lstI H p = (r, 0) := by
  have hl := room (H := H) hn fun x hx => (prc_facts (chn_prc h x hx)).1.1
  rw [lstI, chn_lst r (H.objs.length + 1) [] p h (by simpa using hn) (by omega)]
  simp
theorem lstI_err (H : HHeap) (p : Int) : (lstI H p).2 = 0 ∨ lstI H p = ([], 141) := by
  have key : ∀ (k : Nat) (out : List Int) (p : Int) (r : List Int × Int), lstF H k out p = some r → r.2 = 0 ∨ r = ([], 141) := by
    intro k
    induction k with
    | zero => intro out p r h; cases h
    | succ k ih =>
      intro out p r h
      unfold lstF at h
      split at h
      · cases h; exact .inl rfl
      split at h
      · exact ih _ _ _ h
      · cases h; exact .inr rfl
  exact key _ _ _ _ (lstI_F H p)
def lnkH (H : HHeap) : List Int → HHeap
  | [] => H
  | p :: l => setH (lnkH H l) p 0 (l.headD 0)
theorem has_at {n v : Int} (h : hasB n v = true) (ha : isAt v = true) : 0 ≤ refI n v := by
  have : isN v = false := by simp [isAt] at ha; simp [isN]; omega
  simpa [hasB, this] using h
section
variable {H : HHeap} {p x : Int}
theorem prc_wrong (hm : mayH H = true) (hp : prcB H p = true) {k : Nat} (hk : k < 4) : wrongE H p 0 k = 0 := by
  obtain ⟨⟨h1, h2, h3, h4⟩, _⟩ := prc_facts hp
  unfold wrongE
  rw [if_neg (by rw [hm]; simp), if_neg (by omega), if_neg (by rw [h2]; simp), if_neg (by omega)]
theorem prc_setE (hm : mayH H = true) (hp : prcB H p = true) {k : Nat} (hk : k < 4) (hx : hasB H.objs.length x = true) : setE H p k x = 0 := by
  rw [setE, if_pos (prc_wrong hm hp hk), if_pos hx]
theorem set_at_same {k : Nat} (he : setE H p k x = 0) : (setH H p k x).at' p = { H.at' p with slots := (H.at' p).slots.set k x } := by
  obtain ⟨h1, h2, h3⟩ := set0 he
  obtain ⟨hm, hr, _⟩ := wrong0 h1
  rw [h3, put_at_same hr]; simp
theorem set_at_other {k : Nat} (he : setE H p k x = 0) {q : Int} (hq : 0 ≤ H.ref q) (hne : q ≠ p) : (setH H p k x).at' q = H.at' q := by
  obtain ⟨h1, h2, h3⟩ := set0 he
  obtain ⟨hm, hr, _⟩ := wrong0 h1
  rw [h3]
  exact put_at_other (fun e => hne (ref_inj hq (by omega))) _
theorem set_prc (hp : prcB H p = true) (he : setE H p 0 x = 0) (hx : isAt x = true) (q : Int) : prcB (setH H p 0 x) q = prcB H q := by
  obtain ⟨⟨p1, p2, p3, p4⟩, p5, p6, p7, p8, p9, p10, p11⟩ := prc_facts hp
  by_cases hq : 0 ≤ H.ref q
  · by_cases hqp : q = p
    · subst hqp
      have e := set_at_same (k := 0) he
      simp only [prcB, slB, set_ref he]
      rw [show (setH H q 0 x).at' q = _ from e]
      have hsl : ∀ j, HObj.sl { H.at' q with slots := (H.at' q).slots.set 0 x } j = if j = 0 then x else (H.at' q).sl j := by
        intro j
        simp only [HObj.sl, List.getElem?_set]
        by_cases hj : j = 0
        · subst hj; simp [p4]
        · rw [if_neg (fun e => hj e.symm), if_neg hj]
      simp only [hsl, List.length_set]
      have p6' : isAt ((H.at' q).sl 0) = true := p6
      simp [hx, p6']
    · have e := set_at_other (k := 0) he hq hqp
      simp only [prcB, slB, set_ref he]
      rw [show (setH H p 0 x).at' q = _ from e]
  · have : ∀ G : HHeap, ¬ 0 ≤ G.ref q → prcB G q = false := fun G hG => by simp [prcB, slB, hG]
    rw [this _ hq, this _ (by rw [set_ref he]; exact hq)]
theorem set_nxt (hp : prcB H p = true) (he : setE H p 0 x = 0) {q : Int} (hq : 0 ≤ H.ref q) : nxt (setH H p 0 x) q = if q = p then x else nxt H q := by
  obtain ⟨⟨p1, p2, p3, p4⟩, _⟩ := prc_facts hp
  by_cases hqp : q = p
  · subst hqp
    rw [if_pos rfl, nxt, show (setH H q 0 x).at' q = _ from set_at_same (k := 0) he]
    simp [HObj.sl, p4]
  · rw [if_neg hqp, nxt, show (setH H p 0 x).at' q = _ from set_at_other (k := 0) he hq hqp]; rfl
theorem set_same (hm : mayH H = true) (hp : prcB H p = true) : setH H p 0 (nxt H p) = H := by
  obtain ⟨⟨p1, p2, p3, p4⟩, p5, p6, _⟩ := prc_facts hp
  have hs : (H.at' p).sl 0 ∈ (H.at' p).slots := List.mem_of_getElem? (sl_get (o := H.at' p) (k := 0) (by omega))
  have he := prc_setE hm hp (k := 0) (by omega) (objslot_has hm p1 _ hs)
  obtain ⟨h1, h2, h3⟩ := set0 he
  rw [show setH H p 0 (nxt H p) = _ from h3]
  have e : (H.at' p).slots.set ((0 : Int)).toNat ((H.at' p).sl 0) = (H.at' p).slots := by
    have := sl_get (o := H.at' p) (k := 0) (by omega)
    have h0 : 0 < (H.at' p).slots.length := by omega
    rw [List.getElem?_eq_getElem h0] at this
    injection this with this
    show (H.at' p).slots.set 0 _ = _
    rw [← this]; exact List.set_getElem_self _
  show H.put (H.ref p).toNat { H.at' p with slots := (H.at' p).slots.set ((0 : Int)).toNat ((H.at' p).sl 0) } = H
  rw [e]
  exact put_self p1
end
theorem at0 {H : HHeap} (h : 1 ≤ H.objs.length) : hasB H.objs.length 0 = true := by
  have : refI H.objs.length 0 = 0 := by unfold refI; rw [if_pos ⟨by decide, by omega⟩]; rfl
  simp [hasB, this]
theorem hd_ok {H : HHeap} (hm : mayH H = true) (h1 : 1 ≤ H.objs.length) (l : List Int) (hl : ∀ x ∈ l, prcB H x = true) : hasB H.objs.length (l.headD 0) = true ∧ isAt (l.headD 0) = true := by
  cases l with
  | nil => exact ⟨at0 h1, by decide⟩
  | cons q l =>
    have hq : 0 ≤ refI H.objs.length q := (prc_facts (hl q (.head _))).1.1
    have hv := ref_val (H := H) (v := q) hq
    have hr : H.ref q = refI H.objs.length q := rfl
    have h256 := (mayH_len hm).1
    refine ⟨?_, ?_⟩
    · rw [List.headD_cons, hasB, decide_eq_true hq, Bool.or_true]
    · rw [List.headD_cons]
      obtain ⟨hv1, hv2⟩ := hv
      generalize (H.ref q).toNat = n at *
      simp only [isAt, decide_eq_true_eq]
      omega
theorem lnk_facts {H : HHeap} (hm : mayH H = true) (h1 : 1 ≤ H.objs.length) : ∀ (l : List Int), (∀ x ∈ l, prcB H x = true) → mayH (lnkH H l) = true ∧ (lnkH H l).objs.length = H.objs.length ∧ (∀ q, (lnkH H l).ref q = H.ref q) ∧ (∀ q, prcB (lnkH H l) q = prcB H q) ∧
    (H.In → (lnkH H l).In)
  | [], _ => ⟨hm, rfl, fun _ => rfl, fun _ => rfl, id⟩
  | p :: l, hl => by
    obtain ⟨i1, i2, i3, i4, i5⟩ := lnk_facts hm h1 l fun x hx => hl x (.tail _ hx)
    have hp : prcB (lnkH H l) p = true := by rw [i4]; exact hl p (.head _)
    have hh : hasB (lnkH H l).objs.length (l.headD 0) = true ∧ isAt (l.headD 0) = true := by
      rw [i2]; exact hd_ok hm h1 l fun x hx => hl x (.tail _ hx)
    have he := prc_setE i1 hp (k := 0) (by omega) hh.1
    refine ⟨setH_may he, by rw [lnkH]; exact (set_len he).trans i2, fun q => by rw [lnkH]; exact (set_ref he q).trans (i3 q), fun q => by rw [lnkH]; exact (set_prc hp he hh.2 q).trans (i4 q), fun hi => setH_in (i5 hi)⟩
theorem lnk_setE {H : HHeap} (hm : mayH H = true) (h1 : 1 ≤ H.objs.length) {p : Int} {l : List Int} (hl : ∀ x ∈ p :: l, prcB H x = true) : setE (lnkH H l) p 0 (l.headD 0) = 0 ∧ prcB (lnkH H l) p = true ∧ isAt (l.headD 0) = true := by
  obtain ⟨i1, i2, i3, i4, i5⟩ := lnk_facts hm h1 l fun x hx => hl x (.tail _ hx)
  have hp : prcB (lnkH H l) p = true := by rw [i4]; exact hl p (.head _)
  have hh : hasB (lnkH H l).objs.length (l.headD 0) = true ∧ isAt (l.headD 0) = true := by
    rw [i2]; exact hd_ok hm h1 l fun x hx => hl x (.tail _ hx)
  exact ⟨prc_setE i1 hp (k := 0) (by omega) hh.1, hp, hh.2⟩
theorem lnk_nxt {H : HHeap} (hm : mayH H = true) (h1 : 1 ≤ H.objs.length) : ∀ (l : List Int), (∀ x ∈ l, prcB H x = true) → ∀ q, 0 ≤ H.ref q → q ∉ l → nxt (lnkH H l) q = nxt H q
  | [], _, _, _, _ => rfl
  | p :: l, hl, q, hq, hn => by
    obtain ⟨he, hp, hx⟩ := lnk_setE hm h1 hl
    obtain ⟨i1, i2, i3, i4, i5⟩ := lnk_facts hm h1 l fun x hx => hl x (.tail _ hx)
    rw [lnkH, set_nxt hp he (by rw [i3]; exact hq), if_neg (fun e => by subst e; exact hn (.head _))]
    exact lnk_nxt hm h1 l (fun x hx => hl x (.tail _ hx)) q hq (fun h => hn (.tail _ h))
theorem lnk_chn {H : HHeap} (hm : mayH H = true) (h1 : 1 ≤ H.objs.length) : ∀ (l : List Int), (∀ x ∈ l, prcB H x = true) → l.Nodup → Chn (lnkH H l) (l.headD 0) l
  | [], _, _ => rfl
  | p :: l, hl, hn => by
    obtain ⟨he, hp, hx⟩ := lnk_setE hm h1 hl
    have hn' := List.nodup_cons.1 hn
    have ih := lnk_chn hm h1 l (fun x hx => hl x (.tail _ hx)) hn'.2
    obtain ⟨i1, i2, i3, i4, i5⟩ := lnk_facts hm h1 l fun x hx => hl x (.tail _ hx)
    have hpr : 0 ≤ (lnkH H l).ref p := (prc_facts hp).1.1
    refine ⟨rfl, by rw [lnkH, set_prc hp he hx]; exact hp, ?_⟩
    rw [lnkH, set_nxt hp he hpr, if_pos rfl]
    have key : ∀ (r : List Int) (a : Int), Chn (lnkH H l) a r → p ∉ r → Chn (setH (lnkH H l) p 0 (l.headD 0)) a r := by
      intro r
      induction r with
      | nil => intro a h _; exact h
      | cons b r ih =>
        rintro a ⟨rfl, h2, h3⟩ hpn
        have hb : 0 ≤ (lnkH H l).ref a := (prc_facts h2).1.1
        refine ⟨rfl, by rw [set_prc hp he hx]; exact h2, ?_⟩
        rw [set_nxt hp he hb, if_neg (fun e => by subst e; exact hpn (.head _))]
        exact ih _ h3 fun h => hpn (.tail _ h)
    exact key l _ ih hn'.1
theorem lnk_same {H : HHeap} (hm : mayH H = true) : ∀ (l : List Int) (p : Int), Chn H p l → lnkH H l = H
  | [], _, _ => rfl
  | q :: l, p, ⟨_, h2, h3⟩ => by
    rw [lnkH, lnk_same hm l _ h3, ← chn_hd h3]
    exact set_same hm h2
end Go.Proofs.Ytemcemimipagoaa
