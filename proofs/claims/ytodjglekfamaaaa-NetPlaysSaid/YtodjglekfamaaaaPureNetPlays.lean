/- A net, and whatever becomes of it, is what the document says, act by act, for every net and all acts. No condition but the row's own (nets up to 600 packets, texts up to 10000 bytes are looked at). -/
import Derived.Test.YtodjglekfamaaaaPNetx10
namespace Go.Proofs.Ytodjglekfamaaaa.Pure
open Go.RowKit Go.Proofs.Ytodjglekfamaaaa.PNet Go.Proofs.YtodjglekfamaaaaW.PrintWords Go.Proofs.YtodjglekfamaaaaW.PrintLast

/-! ### rounds: a function with enough rounds -/
theorem Ev.pos {α : Type} {c : Prop} [Decidable c] {f g : Nat → Option α} {r : α} (h : c) (k : Ev f r) : Ev (fun n => if c then f n else g n) r := by
  obtain ⟨K, k⟩ := k
  exact ⟨K, fun n hn => by simp only [if_pos h]; exact k n hn⟩
theorem Ev.neg {α : Type} {c : Prop} [Decidable c] {f g : Nat → Option α} {r : α} (h : ¬ c) (k : Ev g r) : Ev (fun n => if c then f n else g n) r := by
  obtain ⟨K, k⟩ := k
  exact ⟨K, fun n hn => by simp only [if_neg h]; exact k n hn⟩
theorem Ev.bind0 {α β : Type} {o : Option α} {f : Nat → α → Option β} {a : α} {r : β} (h : o = some a) (k : Ev (fun n => f n a) r) : Ev (fun n => o.bind (f n)) r := by
  subst h; exact k
theorem Ev.some {α : Type} {a r : α} (h : a = r) : Ev (fun _ => Option.some a) r := h ▸ Ev.now a

/-! ### numbers -/
theorem wf_u64 {a : Int} (hw : (Lit.int .u64 a).wf = true) : 0 ≤ a ∧ a < 18446744073709551616 := by
  simp only [Lit.wf, Bool.and_eq_true, decide_eq_true_eq] at hw
  have e0 : IntKind.u64.min = 0 := by decide
  have e1 : IntKind.u64.max = 18446744073709551615 := by decide
  rw [e0, e1] at hw
  omega
theorem wf_i64 {a : Int} (hw : (Lit.int .i64 a).wf = true) : -9223372036854775808 ≤ a ∧ a ≤ 9223372036854775807 := by
  simp only [Lit.wf, Bool.and_eq_true, decide_eq_true_eq] at hw
  have e0 : IntKind.i64.min = -9223372036854775808 := by decide
  have e1 : IntKind.i64.max = 9223372036854775807 := by decide
  rw [e0, e1] at hw
  omega
theorem w64 {n : Int} (h0 : -9223372036854775808 ≤ n) (h1 : n ≤ 9223372036854775807) : wrap64 n = n := by
  unfold wrap64
  omega
theorem knows_ok : Ev haywainlaw22_knows.f true := Ev.of haywainlaw22_knows.mono (k := 60) (by decide +kernel)
theorem knows_so : Ev (fun k => (haywainlaw22_knows.f k).bind fun t => some t) true := Ev.bind knows_ok (Ev.some rfl)

/-! ### lists -/
theorem drop_end {α : Type} {l : List α} {i : Nat} (h : l.drop i = []) : l.length ≤ i := List.drop_eq_nil_iff.mp h
theorem drop_nextG {α : Type} {l : List α} {i : Nat} {w : α} {t : List α} (h : l.drop i = w :: t) : i < l.length ∧ l[i]? = some w ∧ l.drop (i + 1) = t := by
  have hi : i < l.length := by
    refine Nat.lt_of_not_le fun hn => ?_
    rw [List.drop_eq_nil_iff.mpr hn] at h
    exact absurd h (by simp)
  have h2 := List.drop_eq_getElem_cons hi
  rw [h2] at h
  injection h with ha hb
  exact ⟨hi, by rw [List.getElem?_eq_getElem hi, ha], hb⟩
theorem drop_next {l : List S23} {i : Nat} {p : S23} {t : List S23} (h : l.drop i = p :: t) : i < l.length ∧ rd_T23 l (i : Int) = p ∧ l.drop (i + 1) = t := by
  obtain ⟨hi, h2, h3⟩ := drop_nextG h
  refine ⟨hi, ?_, h3⟩
  unfold rd_T23
  rw [Int.toNat_natCast, List.getD_eq_getElem?_getD, h2]
  rfl
theorem nat_up {i n : Nat} (h : i < n) (hn : n ≤ 4000000000000) : wrap64 ((i : Int) + 1) = ((i + 1 : Nat) : Int) := by
  rw [w64 (by omega) (by omega)]; omega
def asP (p : S23) : S31 := ⟨p.f0, p.f1, p.f2, p.f3, p.f4, p.f5, p.f6, p.f7⟩
theorem rd31_map (l : List S23) (i : Int) : rd_T31 (l.map asP) i = asP (rd_T23 l i) := by
  unfold rd_T31 rd_T23
  rw [List.getD_eq_getElem?_getD, List.getD_eq_getElem?_getD, List.getElem?_map]
  cases l[i.toNat]? <;> rfl

/-! ### packets that may be -/
def fairM (p : S23) : Bool := (decide (0 ≤ p.f0) && decide (p.f0 ≤ 99)) && ((decide (0 ≤ p.f2) && decide (p.f2 ≤ 99)) && (!decide (p.f0 = p.f2) && ((decide (1 ≤ p.f1) && decide (p.f1 ≤ 1099511627776)) && ((decide (0 ≤ p.f3) && decide (p.f3 ≤ 1099511627776)) && ((decide (0 ≤ p.f4) && decide (p.f4 ≤ 2)) && ((decide (0 ≤ p.f5) && decide (p.f5 ≤ 1099511627776)) && ((decide (0 ≤ p.f6) && decide (p.f6 ≤ 1099511627776)) && decide ((p.f7.size : Int) ≤ 4000))))))))
theorem fairM_iff {p : S23} : fairM p = true ↔ (0 ≤ p.f0 ∧ p.f0 ≤ 99) ∧ (0 ≤ p.f2 ∧ p.f2 ≤ 99) ∧ p.f0 ≠ p.f2 ∧ (1 ≤ p.f1 ∧ p.f1 ≤ 1099511627776) ∧ (0 ≤ p.f3 ∧ p.f3 ≤ 1099511627776) ∧ (0 ≤ p.f4 ∧ p.f4 ≤ 2) ∧ (0 ≤ p.f5 ∧ p.f5 ≤ 1099511627776) ∧ (0 ≤ p.f6 ∧ p.f6 ≤ 1099511627776) ∧ (p.f7.size : Int) ≤ 4000 := by
  simp only [fairM, Bool.and_eq_true, decide_eq_true_eq, Bool.not_eq_true', decide_eq_false_iff_not, ne_eq]
theorem fairM_no {p : S23} (h : fairM p = true → False) : false = fairM p := (Bool.eq_false_iff.mpr h).symm
theorem within_is (a b c : Int) : net_Fair_1.f a b c = some (decide (b ≤ a) && decide (a ≤ c)) := by
  unfold net_Fair_1.f
  by_cases h : a ≥ b
  · rw [if_pos h, decide_eq_true (show b ≤ a from h), Bool.true_and]
  · rw [if_neg h, decide_eq_false (show ¬ b ≤ a from h), Bool.false_and]
theorem ite_and (b c : Bool) : (if b = true then some c else some false) = some (b && c) := by cases b <;> rfl
theorem ite_ne (a b : Int) (c : Bool) : (if a = b then some false else some c) = some (!decide (a = b) && c) := by
  by_cases h : a = b
  · rw [if_pos h, decide_eq_true h]; rfl
  · rw [if_neg h, decide_eq_false h]; rfl
theorem fair_is (p : S23) : net_Fair.f p.f0 p.f1 p.f2 p.f3 p.f4 p.f5 p.f6 p.f7 = some (fairM p) := by
  unfold net_Fair.f
  simp only [within_is, Option.bind_some, ite_and, ite_ne]
  rfl
theorem fairs_loop (l : List S23) (hl : l.length ≤ 1000000000) : ∀ (t : List S23) (i : Nat) (a : List S23), l.drop i = t → a.length ≤ i → Ev (fun k => net_fair.l0 k a l (l.length : Int) (i : Int)) (a ++ t.filter fairM)
  | [], i, a, h, _ => by
    have hi := drop_end h
    refine Ev.step (fun k => net_fair.l0.eq_2 _ _ _ _ k) ?_
    exact Ev.neg (by omega) (Ev.some (by simp))
  | p :: t, i, a, h, ha => by
    obtain ⟨hi, hw, ht⟩ := drop_next h
    refine Ev.step (fun k => net_fair.l0.eq_2 _ _ _ _ k) ?_
    refine Ev.pos (by omega) (Ev.pos (by omega) (Ev.pos (by omega) ?_))
    rw [hw, nat_up hi (by omega)]
    refine Ev.bind0 (fair_is p) ?_
    by_cases e : fairM p = true
    · refine Ev.pos e (Ev.pos (by omega) ?_)
      have ih := fairs_loop l hl t (i + 1) (a ++ [p]) ht (by simp only [List.length_append, List.length_cons, List.length_nil]; omega)
      rw [List.filter_cons_of_pos e]
      rw [List.append_assoc] at ih
      exact ih
    · refine Ev.neg e ?_
      rw [List.filter_cons_of_neg e]
      exact fairs_loop l hl t (i + 1) a ht (by omega)
theorem fairs_is (l : List S23) (hl : l.length ≤ 1000000000) : Ev (fun k => net_fair.f k l) (l.filter fairM) := fairs_loop l hl l 0 [] rfl (by simp)
def rightM (l : List S23) : Bool := l.all fairM && decide (l.length ≤ 400)
theorem rightM_iff {l : List S23} : rightM l = true ↔ (∀ p ∈ l, fairM p = true) ∧ l.length ≤ 400 := by
  simp [rightM, List.all_eq_true]
def goodM (l : List S23) : List S23 := if rightM l = true then l else []
theorem goodM_right (l : List S23) : rightM (goodM l) = true := by
  unfold goodM
  by_cases h : rightM l = true
  · rw [if_pos h]; exact h
  · rw [if_neg h]; decide
theorem goodM_len (l : List S23) : (goodM l).length ≤ 400 := (rightM_iff.mp (goodM_right l)).2
theorem goodM_of {l : List S23} (h : rightM l = true) : goodM l = l := if_pos h
theorem filter_all {l : List S23} : (l.filter fairM).length = l.length ↔ l.all fairM = true := by
  rw [List.length_filter_eq_length_iff, List.all_eq_true]
theorem right_is (l : List S23) (hl : l.length ≤ 1000000000) : Ev (fun k => net_Right.f k l) (rightM l) := by
  unfold net_Right.f
  refine Ev.bind (fairs_is l hl) ?_
  unfold rightM
  by_cases h : l.all fairM = true
  · have h2 := filter_all.mpr h
    refine Ev.pos (by rw [h2]) (Ev.some ?_)
    rw [h2, h, Bool.true_and]
    exact decide_eq_decide.mpr (by omega)
  · refine Ev.neg (fun hn => h (filter_all.mp (by omega))) (Ev.some ?_)
    rw [eq_false_of_ne_true h, Bool.false_and]
theorem own_is (l : List S23) (hl : l.length ≤ 1000000000) : Ev (fun k => net_own.f k l) (goodM l) := by
  unfold net_own.f
  refine Ev.bind (right_is l hl) ?_
  by_cases h : rightM l = true
  · rw [goodM_of h]
    exact Ev.pos h (Ev.bind0 rfl (Ev.pos (by simp only [List.length_nil]; omega) (Ev.some rfl)))
  · refine Ev.neg h (Ev.some ?_)
    unfold goodM
    rw [if_neg h]

/-! ### the document's packets -/
theorem as_loop (l : List S23) (hl : l.length ≤ 1000000000) : ∀ (t : List S23) (i : Nat) (a : List S31), l.drop i = t → a.length ≤ i → Ev (fun k => haywainlaw22_As.l0 k l a (i : Int)) (a ++ t.map asP)
  | [], i, a, h, _ => by
    have hi := drop_end h
    refine Ev.step (fun k => haywainlaw22_As.l0.eq_2 _ _ _ k) ?_
    exact Ev.neg (by omega) (Ev.some (by simp))
  | p :: t, i, a, h, ha => by
    obtain ⟨hi, hw, ht⟩ := drop_next h
    refine Ev.step (fun k => haywainlaw22_As.l0.eq_2 _ _ _ k) ?_
    refine Ev.pos (by omega) (Ev.pos (by omega) (Ev.pos (by omega) ?_))
    rw [hw, nat_up hi (by omega)]
    have ih := as_loop l hl t (i + 1) (a ++ [asP p]) ht (by simp only [List.length_append, List.length_cons, List.length_nil]; omega)
    rw [List.append_assoc] at ih
    exact ih
theorem as_is (l : List S23) (hl : l.length ≤ 1000000000) : Ev (fun k => haywainlaw22_As.f k l) (l.map asP) := as_loop l hl l 0 [] rfl (by simp)
theorem reffair_is (p : S23) : Ev (fun k => haywainref22_Fair.f k p.f0 p.f1 p.f2 p.f3 p.f4 p.f5 p.f6 p.f7) (fairM p) := by
  have no : Ev (fun k => haywainref22_Fair.j0 k true p.f0 p.f1 p.f2 p.f3 p.f4 p.f5 p.f6 p.f7) false := Ev.step (fun k => haywainref22_Fair.j0.eq_2 _ _ _ _ _ _ _ _ _ k) (Ev.pos rfl (Ev.some rfl))
  unfold haywainref22_Fair.f
  by_cases h1 : p.f0 < 0
  · rw [← fairM_no (fun h => by have := fairM_iff.mp h; omega)]; exact Ev.pos h1 no
  refine Ev.neg h1 ?_
  by_cases h2 : p.f0 > 99
  · rw [← fairM_no (fun h => by have := fairM_iff.mp h; omega)]; exact Ev.pos h2 no
  refine Ev.neg h2 ?_
  by_cases h3 : p.f2 < 0
  · rw [← fairM_no (fun h => by have := fairM_iff.mp h; omega)]; exact Ev.pos h3 no
  refine Ev.neg h3 ?_
  by_cases h4 : p.f2 > 99
  · rw [← fairM_no (fun h => by have := fairM_iff.mp h; omega)]; exact Ev.pos h4 no
  refine Ev.neg h4 ?_
  by_cases h5 : p.f0 = p.f2
  · rw [← fairM_no (fun h => by have := fairM_iff.mp h; omega), show (p.f0 == p.f2) = true from beq_iff_eq.mpr h5]; exact no
  rw [show (p.f0 == p.f2) = false from beq_eq_false_iff_ne.mpr h5]
  refine Ev.step (fun k => haywainref22_Fair.j0.eq_2 _ _ _ _ _ _ _ _ _ k) (Ev.neg (by decide) ?_)
  by_cases h6 : p.f1 < 1
  · exact Ev.pos h6 (Ev.some (fairM_no (fun h => by have := fairM_iff.mp h; omega)))
  refine Ev.neg h6 ?_
  by_cases h7 : p.f1 > 1099511627776
  · exact Ev.pos h7 (Ev.some (fairM_no (fun h => by have := fairM_iff.mp h; omega)))
  refine Ev.neg h7 ?_
  by_cases h8 : p.f3 < 0
  · exact Ev.pos h8 (Ev.some (fairM_no (fun h => by have := fairM_iff.mp h; omega)))
  refine Ev.neg h8 ?_
  by_cases h9 : p.f3 > 1099511627776
  · exact Ev.pos h9 (Ev.some (fairM_no (fun h => by have := fairM_iff.mp h; omega)))
  refine Ev.neg h9 ?_
  by_cases h10 : p.f4 < 0
  · exact Ev.pos h10 (Ev.some (fairM_no (fun h => by have := fairM_iff.mp h; omega)))
  refine Ev.neg h10 ?_
  by_cases h11 : p.f4 > 2
  · exact Ev.pos h11 (Ev.some (fairM_no (fun h => by have := fairM_iff.mp h; omega)))
  refine Ev.neg h11 ?_
  by_cases h12 : p.f5 ≥ 0
  · refine Ev.pos h12 ?_
    by_cases h13 : p.f5 ≤ 1099511627776
    · refine Ev.pos h13 ?_
      by_cases h14 : p.f6 ≥ 0
      · refine Ev.pos h14 ?_
        by_cases h15 : p.f6 ≤ 1099511627776
        · refine Ev.pos h15 (Ev.some ?_)
          refine Bool.eq_iff_iff.mpr ?_
          rw [fairM_iff, decide_eq_true_iff]
          omega
        · exact Ev.neg h15 (Ev.some (fairM_no (fun h => by have := fairM_iff.mp h; omega)))
      · exact Ev.neg h14 (Ev.some (fairM_no (fun h => by have := fairM_iff.mp h; omega)))
    · exact Ev.neg h13 (Ev.some (fairM_no (fun h => by have := fairM_iff.mp h; omega)))
  · exact Ev.neg h12 (Ev.some (fairM_no (fun h => by have := fairM_iff.mp h; omega)))
theorem reffair_at (l : List S23) {i : Int} {p : S23} (h : rd_T23 l i = p) : Ev (fun k => haywainref22_Fair.f k (rd_T31 (l.map asP) i).f0 (rd_T31 (l.map asP) i).f1 (rd_T31 (l.map asP) i).f2 (rd_T31 (l.map asP) i).f3 (rd_T31 (l.map asP) i).f4 (rd_T31 (l.map asP) i).f5 (rd_T31 (l.map asP) i).f6 (rd_T31 (l.map asP) i).f7) (fairM p) := by
  rw [rd31_map, h]
  exact reffair_is p
theorem refright_loop (l : List S23) (hl : l.length ≤ 1000000000) : ∀ (t : List S23) (i : Nat), l.drop i = t → Ev (fun k => haywainref22_Right.l0 k (l.map asP) (i : Int)) (t.all fairM && decide (l.length ≤ 400))
  | [], i, h => by
    have hi := drop_end h
    refine Ev.step (fun k => haywainref22_Right.l0.eq_2 _ _ k) ?_
    refine Ev.neg (by rw [List.length_map]; omega) (Ev.some ?_)
    rw [List.length_map, List.all_nil, Bool.true_and]
    exact decide_eq_decide.mpr (by omega)
  | p :: t, i, h => by
    obtain ⟨hi, hw, ht⟩ := drop_next h
    refine Ev.step (fun k => haywainref22_Right.l0.eq_2 _ _ k) ?_
    refine Ev.pos (by rw [List.length_map]; omega) (Ev.pos (by omega) ?_)
    refine Ev.bind (reffair_at l hw) ?_
    rw [nat_up hi (by omega), List.all_cons]
    by_cases e : fairM p = true
    · refine Ev.pos e ?_
      rw [e, Bool.true_and]
      exact refright_loop l hl t (i + 1) ht
    · refine Ev.neg e (Ev.some ?_)
      rw [eq_false_of_ne_true e, Bool.false_and, Bool.false_and]
theorem refright_is (l : List S23) (hl : l.length ≤ 1000000000) : Ev (fun k => haywainref22_Right.f k (l.map asP)) (rightM l) := refright_loop l hl l 0 rfl
theorem refgood_is (l : List S23) (hl : l.length ≤ 1000000000) : Ev (fun k => haywainref22_Good.f k (l.map asP)) ((goodM l).map asP) := by
  unfold haywainref22_Good.f
  refine Ev.bind (refright_is l hl) ?_
  unfold goodM
  by_cases h : rightM l = true
  · refine Ev.pos h (Ev.some ?_)
    rw [if_pos h]
  · refine Ev.neg h (Ev.some ?_)
    rw [if_neg h]; rfl

/-! ### what is too great to be looked at -/
theorem great_loop (l : List S23) (hl : l.length ≤ 1000000000) : ∀ (t : List S23) (i : Nat), l.drop i = t → ∃ b, Ev (fun k => haywainlaw22_great.l0 k l (i : Int)) b
  | [], i, h => by
    have hi := drop_end h
    exact ⟨false, Ev.step (fun k => haywainlaw22_great.l0.eq_2 _ _ k) (Ev.neg (by omega) (Ev.some rfl))⟩
  | p :: t, i, h => by
    obtain ⟨hi, hw, ht⟩ := drop_next h
    by_cases e : (p.f7.size : Int) > 10000
    · refine ⟨true, Ev.step (fun k => haywainlaw22_great.l0.eq_2 _ _ k) (Ev.pos (by omega) (Ev.pos (by omega) ?_))⟩
      rw [hw]
      exact Ev.pos e (Ev.some rfl)
    · obtain ⟨b, hb⟩ := great_loop l hl t (i + 1) ht
      refine ⟨b, Ev.step (fun k => haywainlaw22_great.l0.eq_2 _ _ k) (Ev.pos (by omega) (Ev.pos (by omega) ?_))⟩
      rw [hw, nat_up hi (by omega)]
      exact Ev.neg e hb
theorem great_is (l : List S23) : ∃ b, Ev (fun k => haywainlaw22_great.f k l) b ∧ (b = false → l.length ≤ 600) := by
  by_cases h : (l.length : Int) > 600
  · refine ⟨true, ?_, fun h => by cases h⟩
    unfold haywainlaw22_great.f
    exact Ev.pos h (Ev.some rfl)
  · obtain ⟨b, hb⟩ := great_loop l (by omega) l 0 rfl
    refine ⟨b, ?_, fun _ => by omega⟩
    unfold haywainlaw22_great.f
    exact Ev.neg h hb

/-! ### lists alike -/
theorem same_loop (a : List S31) (hl : a.length ≤ 4000000000000) : ∀ (d i : Nat), i + d = a.length → Ev (fun k => haywainref22_Same.l0 k a a (i : Int)) true
  | 0, i, h => by
    refine Ev.step (fun k => haywainref22_Same.l0.eq_2 _ _ _ k) ?_
    exact Ev.neg (by omega) (Ev.some rfl)
  | d + 1, i, h => by
    refine Ev.step (fun k => haywainref22_Same.l0.eq_2 _ _ _ k) ?_
    refine Ev.pos (by omega) (Ev.pos (by omega) (Ev.pos (by omega) (Ev.neg (by simp) ?_)))
    rw [nat_up (n := a.length) (by omega) hl]
    exact same_loop a hl d (i + 1) (by omega)
theorem same_self (a : List S31) (hl : a.length ≤ 4000000000000) : Ev (fun k => haywainref22_Same.f k a a) true := by
  unfold haywainref22_Same.f
  exact Ev.pos rfl (same_loop a hl a.length 0 (by omega))
theorem same_as {a b : List S23} (h : a = b) (hl : a.length ≤ 1000000000) : Ev (fun k => haywainref22_Same.f k (a.map asP) (b.map asP)) true := by
  subst h
  exact same_self _ (by rw [List.length_map]; omega)

/-! ### what is sent -/
def roomM (n l : List S23) : List S23 := (l.filter fairM).take (400 - (goodM n).length)
theorem send_loop (F : List S23) (hl : F.length ≤ 1000000000) : ∀ (t : List S23) (i c : Nat) (out : List S23), F.drop i = t → out.length ≤ 400 → c ≤ i →
    Ev (fun k => net_Send.l0 k (c : Int) F (F.length : Int) (i : Int) out) (out ++ t.take (400 - out.length), ((c + (t.take (400 - out.length)).length : Nat) : Int))
  | [], i, c, out, h, ho, hc => by
    have hi := drop_end h
    refine Ev.step (fun k => net_Send.l0.eq_2 _ _ _ _ _ k) ?_
    exact Ev.neg (by omega) (Ev.some (by simp))
  | p :: t, i, c, out, h, ho, hc => by
    obtain ⟨hi, hw, ht⟩ := drop_next h
    refine Ev.step (fun k => net_Send.l0.eq_2 _ _ _ _ _ k) ?_
    refine Ev.pos (by omega) (Ev.pos (by omega) (Ev.pos (by omega) ?_))
    by_cases e : (out.length : Int) = 400
    · refine Ev.pos e (Ev.some ?_)
      have e2 : 400 - out.length = 0 := by omega
      rw [e2]; simp
    · refine Ev.neg e (Ev.pos (by omega) ?_)
      rw [hw, nat_up (n := F.length) hi (by omega), nat_up (n := F.length) (i := c) (by omega) (by omega)]
      have ih := send_loop F hl t (i + 1) (c + 1) (out ++ [p]) ht (by simp only [List.length_append, List.length_cons, List.length_nil]; omega) (by omega)
      obtain ⟨m, hm⟩ : ∃ m, 400 - out.length = m + 1 := ⟨400 - out.length - 1, by omega⟩
      have e3 : 400 - (out ++ [p]).length = m := by simp only [List.length_append, List.length_cons, List.length_nil]; omega
      rw [e3, List.append_assoc] at ih
      rw [hm, List.take_succ_cons, List.length_cons]
      rw [show c + 1 + (t.take m).length = c + ((t.take m).length + 1) by omega] at ih
      exact ih
theorem send_is (n l : List S23) (hn : n.length ≤ 1000000000) (hl : l.length ≤ 1000000000) : Ev (fun k => net_Send.f k n l) (goodM n ++ roomM n l, ((roomM n l).length : Int)) := by
  unfold net_Send.f
  refine Ev.bind (own_is n hn) (Ev.bind (fairs_is l hl) ?_)
  have hf : (l.filter fairM).length ≤ l.length := List.length_filter_le _ _
  have h := send_loop (l.filter fairM) (by omega) (l.filter fairM) 0 0 (goodM n) rfl (goodM_len n) (by omega)
  rw [Nat.zero_add] at h
  exact h
theorem send_right (n l : List S23) : rightM (goodM n ++ roomM n l) = true := by
  refine rightM_iff.mpr ⟨fun p hp => ?_, ?_⟩
  · rcases List.mem_append.mp hp with h | h
    · exact (rightM_iff.mp (goodM_right n)).1 p h
    · exact (List.mem_filter.mp (List.mem_of_mem_take h)).2
  · have := goodM_len n
    have : (roomM n l).length ≤ 400 - (goodM n).length := List.length_take_le _ _
    rw [List.length_append]; omega
theorem refsend_loop (l : List S23) (hl : l.length ≤ 1000000000) : ∀ (t : List S23) (i c : Nat) (out : List S23), l.drop i = t → out.length ≤ 400 → c ≤ i →
    Ev (fun k => haywainref22_Send.l0 k (l.map asP) (out.map asP) (c : Int) (i : Int)) ((out ++ (t.filter fairM).take (400 - out.length)).map asP, ((c + ((t.filter fairM).take (400 - out.length)).length : Nat) : Int))
  | [], i, c, out, h, ho, hc => by
    have hi := drop_end h
    refine Ev.step (fun k => haywainref22_Send.l0.eq_2 _ _ _ _ k) ?_
    exact Ev.neg (by rw [List.length_map]; omega) (Ev.some (by simp))
  | p :: t, i, c, out, h, ho, hc => by
    obtain ⟨hi, hw, ht⟩ := drop_next h
    refine Ev.step (fun k => haywainref22_Send.l0.eq_2 _ _ _ _ k) ?_
    refine Ev.pos (by rw [List.length_map]; omega) (Ev.pos (by omega) ?_)
    refine Ev.bind (reffair_at l hw) ?_
    rw [nat_up (n := l.length) hi (by omega)]
    by_cases e : fairM p = true
    · refine Ev.pos e ?_
      rw [List.filter_cons_of_pos e]
      by_cases e2 : ((out.map asP).length : Int) < 400
      · rw [List.length_map] at e2
        refine Ev.pos (by rw [List.length_map]; omega) (Ev.pos (by rw [List.length_map]; omega) ?_)
        rw [nat_up (n := l.length) (i := c) (by omega) (by omega), rd31_map, hw]
        have ih := refsend_loop l hl t (i + 1) (c + 1) (out ++ [p]) ht (by simp only [List.length_append, List.length_cons, List.length_nil]; omega) (by omega)
        obtain ⟨m, hm⟩ : ∃ m, 400 - out.length = m + 1 := ⟨400 - out.length - 1, by omega⟩
        have e3 : 400 - (out ++ [p]).length = m := by simp only [List.length_append, List.length_cons, List.length_nil]; omega
        rw [e3, List.append_assoc, List.map_append (l₁ := out) (l₂ := [p])] at ih
        rw [hm, List.take_succ_cons, List.length_cons]
        rw [show c + 1 + ((t.filter fairM).take m).length = c + (((t.filter fairM).take m).length + 1) by omega] at ih
        exact ih
      · refine Ev.neg e2 ?_
        rw [List.length_map] at e2
        have ih := refsend_loop l hl t (i + 1) c out ht ho (by omega)
        have e3 : 400 - out.length = 0 := by omega
        rw [e3, List.take_zero] at ih
        rw [e3, List.take_zero]
        exact ih
    · refine Ev.neg e ?_
      rw [List.filter_cons_of_neg e]
      exact refsend_loop l hl t (i + 1) c out ht ho (by omega)
theorem refsend_is (n l : List S23) (hn : n.length ≤ 1000000000) (hl : l.length ≤ 1000000000) : Ev (fun k => haywainref22_Send.f k (n.map asP) (l.map asP)) ((goodM n ++ roomM n l).map asP, ((roomM n l).length : Int)) := by
  unfold haywainref22_Send.f
  have hg := goodM_len n
  refine Ev.bind0 rfl (Ev.bind (refgood_is n hn) (Ev.pos (by rw [List.length_map, List.length_nil]; omega) ?_))
  have h := refsend_loop l hl l 0 0 (goodM n) rfl hg (by omega)
  rw [Nat.zero_add] at h
  exact h

/-! ### what is given -/
def giveM (n : List S23) (i : Int) : List S23 := if i < 0 then goodM n else if i ≥ ((goodM n).length : Int) then goodM n else (goodM n).eraseIdx i.toNat
theorem give_no (n : List S23) (i : Int) (hn : n.length ≤ 1000000000) (h : i < 0 ∨ i ≥ ((goodM n).length : Int)) : Ev (fun k => net_Give.f k n i) (goodM n, 0, 0, 0, 0, 0, 0, 0, (⟨#[]⟩ : ByteArray), 4) := by
  unfold net_Give.f
  have hg := goodM_len n
  refine Ev.bind (own_is n hn) (Ev.pos (by omega) ?_)
  by_cases h1 : i < 0
  · exact Ev.pos h1 (Ev.some rfl)
  · exact Ev.neg h1 (Ev.pos (by omega) (Ev.some rfl))
theorem give_yes (n : List S23) (i : Int) (p : S23) (hn : n.length ≤ 1000000000) (h0 : 0 ≤ i) (h : i < ((goodM n).length : Int)) (hp : rd_T23 (goodM n) i = p) : Ev (fun k => net_Give.f k n i) ((goodM n).eraseIdx i.toNat, p.f0, p.f1, p.f2, p.f3, p.f4, p.f5, p.f6, p.f7, 0) := by
  subst hp
  unfold net_Give.f
  have hg := goodM_len n
  refine Ev.bind (own_is n hn) (Ev.pos (by omega) ?_)
  have e : wrap64 (i + 1) = i + 1 := w64 (by omega) (by omega)
  rw [e]
  exact Ev.neg (by omega) (Ev.neg (by omega) (Ev.pos h0 (Ev.pos h (Ev.pos (by omega) (Ev.pos (by omega) (Ev.pos (by omega) (Ev.some rfl)))))))
theorem refgive_loop (G : List S23) (hl : G.length ≤ 1000000000) (j : Nat) (hj : j < G.length) (p : S23) (hp : rd_T23 G (j : Int) = p) : ∀ (t : List S23) (i : Nat) (a : List S31), G.drop i = t → a.length ≤ i →
    Ev (fun k => haywainref22_Give.l0 k (G.map asP) (j : Int) a (i : Int)) (a ++ (if i ≤ j then t.eraseIdx (j - i) else t).map asP, p.f0, p.f1, p.f2, p.f3, p.f4, p.f5, p.f6, p.f7, 0)
  | [], i, a, h, _ => by
    have hi := drop_end h
    refine Ev.step (fun k => haywainref22_Give.l0.eq_2 _ _ _ _ k) ?_
    refine Ev.neg (by rw [List.length_map]; omega) (Ev.pos (by omega) (Ev.pos (by rw [List.length_map]; omega) ?_))
    rw [rd31_map, hp, if_neg (by omega), List.map_nil, List.append_nil]
    exact Ev.some rfl
  | x :: t, i, a, h, ha => by
    obtain ⟨hi, hw, ht⟩ := drop_next h
    refine Ev.step (fun k => haywainref22_Give.l0.eq_2 _ _ _ _ k) ?_
    refine Ev.pos (by rw [List.length_map]; omega) ?_
    rw [nat_up (n := G.length) hi (by omega)]
    by_cases e : (i : Int) = (j : Int)
    · refine Ev.pos e ?_
      have ih := refgive_loop G hl j hj p hp t (i + 1) a ht (by omega)
      rw [if_neg (by omega)] at ih
      rw [if_pos (by omega), show j - i = 0 by omega, List.eraseIdx_cons_zero]
      exact ih
    · refine Ev.neg e (Ev.pos (by omega) (Ev.pos (by omega) ?_))
      have ih := refgive_loop G hl j hj p hp t (i + 1) (a ++ [asP x]) ht (by simp only [List.length_append, List.length_cons, List.length_nil]; omega)
      rw [rd31_map, hw]
      by_cases h2 : i ≤ j
      · rw [if_pos (by omega), List.append_assoc] at ih
        rw [if_pos h2, show j - i = (j - (i + 1)) + 1 by omega, List.eraseIdx_cons_succ]
        exact ih
      · rw [if_neg (by omega), List.append_assoc] at ih
        rw [if_neg h2]
        exact ih
theorem refgive_no (n : List S23) (i : Int) (hn : n.length ≤ 1000000000) (h : i < 0 ∨ i ≥ ((goodM n).length : Int)) : Ev (fun k => haywainref22_Give.f k (n.map asP) i) ((goodM n).map asP, 0, 0, 0, 0, 0, 0, 0, (⟨#[]⟩ : ByteArray), 4) := by
  unfold haywainref22_Give.f
  have no : Ev (fun k => haywainref22_Give.j0 k ((goodM n).map asP) i true) ((goodM n).map asP, 0, 0, 0, 0, 0, 0, 0, (⟨#[]⟩ : ByteArray), 4) := Ev.step (fun k => haywainref22_Give.j0.eq_2 _ _ _ k) (Ev.pos rfl (Ev.some rfl))
  refine Ev.bind (refgood_is n hn) ?_
  by_cases h1 : i < 0
  · exact Ev.pos h1 no
  · refine Ev.neg h1 ?_
    rw [decide_eq_true (by rw [List.length_map]; omega)]
    exact no
theorem refgive_yes (n : List S23) (i : Int) (p : S23) (hn : n.length ≤ 1000000000) (h0 : 0 ≤ i) (h : i < ((goodM n).length : Int)) (hp : rd_T23 (goodM n) i = p) : Ev (fun k => haywainref22_Give.f k (n.map asP) i) (((goodM n).eraseIdx i.toNat).map asP, p.f0, p.f1, p.f2, p.f3, p.f4, p.f5, p.f6, p.f7, 0) := by
  unfold haywainref22_Give.f
  have hg := goodM_len n
  refine Ev.bind (refgood_is n hn) (Ev.neg (by omega) ?_)
  rw [decide_eq_false (by rw [List.length_map]; omega)]
  refine Ev.step (fun k => haywainref22_Give.j0.eq_2 _ _ _ k) (Ev.neg (by decide) ?_)
  obtain ⟨j, rfl⟩ := Int.eq_ofNat_of_zero_le h0
  have ih := refgive_loop (goodM n) (by omega) j (by omega) p hp (goodM n) 0 [] rfl (by simp)
  rw [if_pos (by omega)] at ih
  exact ih

/-! ### what is doubled -/
def twiceM (n : List S23) (i : Int) : List S23 × Int := if i < 0 then (goodM n, 4) else if i ≥ ((goodM n).length : Int) then (goodM n, 4) else if (goodM n).length = 400 then (goodM n, 3) else (goodM n ++ [rd_T23 (goodM n) i], 0)
theorem twice_is (n : List S23) (i : Int) (hn : n.length ≤ 1000000000) : Ev (fun k => net_Twice.f k n i) (twiceM n i) := by
  unfold net_Twice.f twiceM
  have hg := goodM_len n
  have no : Ev (fun k => net_Twice.j0 k i true (goodM n)) (goodM n, 4) := Ev.step (fun k => net_Twice.j0.eq_2 _ _ _ k) (Ev.pos rfl (Ev.some rfl))
  refine Ev.bind (own_is n hn) ?_
  by_cases h1 : i < 0
  · rw [if_pos h1]; exact Ev.pos h1 no
  refine Ev.neg h1 ?_
  rw [if_neg h1]
  by_cases h2 : i ≥ ((goodM n).length : Int)
  · rw [if_pos h2, decide_eq_true h2]; exact no
  rw [if_neg h2, decide_eq_false h2]
  refine Ev.step (fun k => net_Twice.j0.eq_2 _ _ _ k) (Ev.neg (by decide) ?_)
  by_cases h3 : (goodM n).length = 400
  · rw [if_pos h3]; exact Ev.pos (by omega) (Ev.some rfl)
  · rw [if_neg h3]; exact Ev.neg (by omega) (Ev.pos (by omega) (Ev.pos (by omega) (Ev.pos (by omega) (Ev.some rfl))))
theorem twice_right (n : List S23) (i : Int) : rightM (twiceM n i).1 = true := by
  have hg := goodM_len n
  have hr := goodM_right n
  unfold twiceM
  by_cases h1 : i < 0
  · rw [if_pos h1]; exact hr
  rw [if_neg h1]
  by_cases h2 : i ≥ ((goodM n).length : Int)
  · rw [if_pos h2]; exact hr
  rw [if_neg h2]
  by_cases h3 : (goodM n).length = 400
  · rw [if_pos h3]; exact hr
  rw [if_neg h3]
  obtain ⟨ha, hb⟩ := rightM_iff.mp hr
  refine rightM_iff.mpr ⟨fun p hp => ?_, by rw [List.length_append, List.length_cons, List.length_nil]; omega⟩
  rcases List.mem_append.mp hp with h | h
  · exact ha p h
  · rw [List.mem_singleton.mp h]
    refine ha _ ?_
    unfold rd_T23
    rw [List.getD_eq_getElem?_getD, List.getElem?_eq_getElem (by omega)]
    exact List.getElem_mem _
theorem reftwice_is (n : List S23) (i : Int) (hn : n.length ≤ 1000000000) : Ev (fun k => haywainref22_Twice.f k (n.map asP) i) ((twiceM n i).1.map asP, (twiceM n i).2) := by
  unfold haywainref22_Twice.f twiceM
  have hg := goodM_len n
  have no : Ev (fun k => haywainref22_Twice.j0 k ((goodM n).map asP) i true) ((goodM n).map asP, 4) := Ev.step (fun k => haywainref22_Twice.j0.eq_2 _ _ _ k) (Ev.pos rfl (Ev.some rfl))
  refine Ev.bind (refgood_is n hn) ?_
  by_cases h1 : i < 0
  · rw [if_pos h1]; exact Ev.pos h1 no
  refine Ev.neg h1 ?_
  rw [if_neg h1]
  by_cases h2 : i ≥ ((goodM n).length : Int)
  · rw [if_pos h2, decide_eq_true (by rw [List.length_map]; exact h2)]; exact no
  rw [if_neg h2, decide_eq_false (by rw [List.length_map]; exact h2)]
  refine Ev.step (fun k => haywainref22_Twice.j0.eq_2 _ _ _ k) (Ev.neg (by decide) ?_)
  by_cases h3 : (goodM n).length = 400
  · rw [if_pos h3]; exact Ev.pos (by rw [List.length_map]; omega) (Ev.some rfl)
  · rw [if_neg h3]
    refine Ev.neg (by rw [List.length_map]; omega) (Ev.bind0 rfl (Ev.pos (by rw [List.length_map, List.length_nil]; omega) (Ev.bind0 rfl (Ev.pos (by omega) (Ev.pos (by rw [List.length_map]; omega) (Ev.pos (by rw [List.nil_append, List.length_map]; omega) ?_))))))
    rw [rd31_map, List.map_append, List.nil_append]
    exact Ev.some rfl

/-! ### the law -/
theorem plays_next (l : List S39) (n : List S23) (hn : n.length ≤ 600) (i : Nat) (hi : i < 30) (ih : Ev (fun k => haywainlaw22_NetPlays.l0 k l (n.map asP) ((i + 1 : Nat) : Int) n) true) : Ev (fun k => haywainlaw22_NetPlays.j2 k l (n.map asP) (i : Int) n) true := by
  refine Ev.step (fun k => haywainlaw22_NetPlays.j2.eq_2 _ _ _ _ k) ?_
  refine Ev.bind (as_is n (by omega)) (Ev.bind (same_as rfl (by omega)) (Ev.pos rfl ?_))
  rw [nat_up (n := 30) hi (by omega)]
  exact ih
theorem plays_loop (l : List S39) : ∀ (d i : Nat) (n : List S23), i + d = 31 → n.length ≤ 600 → Ev (fun k => haywainlaw22_NetPlays.l0 k l (n.map asP) (i : Int) n) true
  | 0, i, n, h, hn => by
    have no : Ev (fun k => haywainlaw22_NetPlays.j1 k l (n.map asP) (i : Int) false n) true := Ev.step (fun k => haywainlaw22_NetPlays.j1.eq_2 _ _ _ _ _ k) (Ev.neg (by decide) knows_so)
    refine Ev.step (fun k => haywainlaw22_NetPlays.l0.eq_2 _ _ _ _ k) ?_
    by_cases h1 : (i : Int) < (l.length : Int)
    · refine Ev.pos h1 ?_
      rw [decide_eq_false (by omega)]; exact no
    · exact Ev.neg h1 no
  | d + 1, i, n, h, hn => by
    have no : Ev (fun k => haywainlaw22_NetPlays.j1 k l (n.map asP) (i : Int) false n) true := Ev.step (fun k => haywainlaw22_NetPlays.j1.eq_2 _ _ _ _ _ k) (Ev.neg (by decide) knows_so)
    refine Ev.step (fun k => haywainlaw22_NetPlays.l0.eq_2 _ _ _ _ k) ?_
    by_cases h1 : (i : Int) < (l.length : Int)
    · refine Ev.pos h1 ?_
      by_cases h2 : (i : Int) < 30
      · rw [decide_eq_true h2]
        refine Ev.step (fun k => haywainlaw22_NetPlays.j1.eq_2 _ _ _ _ _ k) (Ev.pos rfl (Ev.pos (by omega) (Ev.pos h1 ?_)))
        have next : ∀ m : List S23, m.length ≤ 600 → Ev (fun k => haywainlaw22_NetPlays.j2 k l (m.map asP) (i : Int) m) true := fun m hm => plays_next l m hm i (by omega) (plays_loop l d (i + 1) m (by omega) hm)
        generalize rd_T39 l (i : Int) = x
        obtain ⟨b, hb, hg⟩ := great_is x.f2
        refine Ev.bind hb ?_
        by_cases h3 : b = true
        · refine Ev.pos h3 ?_
          rw [nat_up (n := 30) (by omega) (by omega)]
          exact plays_loop l d (i + 1) n (by omega) hn
        have hx := hg (eq_false_of_ne_true h3)
        refine Ev.neg h3 ?_
        have gl := goodM_len n
        by_cases h4 : x.f0 = 0
        · refine Ev.pos h4 ?_
          refine Ev.bind (send_is n x.f2 (by omega) (by omega)) (Ev.bind (as_is x.f2 (by omega)) (Ev.bind (refsend_is n x.f2 (by omega) (by omega)) (Ev.pos rfl ?_)))
          exact next _ (by have := (rightM_iff.mp (send_right n x.f2)).2; omega)
        refine Ev.neg h4 ?_
        by_cases h5 : x.f0 = 1
        · refine Ev.pos h5 ?_
          by_cases h6 : x.f1 < 0 ∨ x.f1 ≥ ((goodM n).length : Int)
          · refine Ev.bind (give_no n x.f1 (by omega) h6) (Ev.bind (refgive_no n x.f1 (by omega) h6) (Ev.pos rfl ?_))
            refine Ev.bind (as_is _ (by simp)) (Ev.bind (same_self _ (by simp)) (Ev.pos rfl ?_))
            exact next _ (by omega)
          · refine Ev.bind (give_yes n x.f1 _ (by omega) (by omega) (by omega) rfl) (Ev.bind (refgive_yes n x.f1 _ (by omega) (by omega) (by omega) rfl) (Ev.pos rfl ?_))
            refine Ev.bind (as_is _ (by simp)) (Ev.bind (same_self _ (by simp)) (Ev.pos rfl ?_))
            exact next _ (by have : ((goodM n).eraseIdx x.f1.toNat).length ≤ (goodM n).length := List.length_eraseIdx_le _ _; omega)
        · refine Ev.neg h5 ?_
          refine Ev.bind (twice_is n x.f1 (by omega)) (Ev.bind (reftwice_is n x.f1 (by omega)) (Ev.pos rfl ?_))
          exact next _ (by have := (rightM_iff.mp (twice_right n x.f1)).2; omega)
      · rw [decide_eq_false h2]; exact no
    · exact Ev.neg h1 no
theorem NetPlays : haywainlaw22_NetPlays.Pure := by
  intro n l _ _
  refine Ev.rounds ?_
  unfold haywainlaw22_NetPlays.f
  obtain ⟨b, hb, hg⟩ := great_is n
  refine Ev.bind hb ?_
  by_cases h1 : b = true
  · exact Ev.pos h1 knows_so
  have hn := hg (eq_false_of_ne_true h1)
  exact Ev.neg h1 (Ev.bind (as_is n (by omega)) (plays_loop l 31 0 n (by omega) hn))

end Go.Proofs.Ytodjglekfamaaaa.Pure
