/- A packet that is doubled stands at the end, and taken out there leaves the net as it was; what is sent stands behind all others; for every net, place and packet. No condition but the row's own (nets up to 600 packets, texts up to 10000 bytes are looked at). -/
import Derived.Test.YtodjglekfamaaaaPNetx12
namespace Go.Proofs.Ytodjglekfamaaaa.Pure
open Go.RowKit Go.Proofs.Ytodjglekfamaaaa.PNet Go.Proofs.YtodjglekfamaaaaW.PrintWords Go.Proofs.YtodjglekfamaaaaW.PrintLast

/-! ### rounds: a function with enough rounds -/
theorem Ev.pos {α : Type} {c : Prop} [Decidable c] {f g : Nat → Option α} {r : α} (h : c) (k : Ev f r) : Ev (fun n => if c then f n else g n) r := by
  obtain ⟨K, k⟩ := k
  exact ⟨K, fun n hn => by simp only [if_pos h]; exact k n hn⟩
theorem Ev.neg {α : Type} {c : Prop} [Decidable c] {f g : Nat → Option α} {r : α} (h : ¬ c) (k : Ev g r) : Ev (fun n => if c then f n else g n) r := by
  obtain ⟨K, k⟩ := k
  exact ⟨K, fun n hn => by simp only [if_neg h]; exact k n hn⟩
theorem Ev.bind0 {α β : Type} {o : Option α} {f : Nat → α → Option β} {a : α} {r : β} (h : o = some a) (k : Ev (fun n => f n a) r) : Ev (fun n => o.bind (f n)) r := by
  subst h; exact k
theorem Ev.some {α : Type} {a r : α} (h : a = r) : Ev (fun _ => Option.some a) r := h ▸ Ev.now a

/-! ### numbers -/
theorem wf_u64 {a : Int} (hw : (Lit.int .u64 a).wf = true) : 0 ≤ a ∧ a < 18446744073709551616 := by
  simp only [Lit.wf, Bool.and_eq_true, decide_eq_true_eq] at hw
  have e0 : IntKind.u64.min = 0 := by decide
  have e1 : IntKind.u64.max = 18446744073709551615 := by decide
  rw [e0, e1] at hw
  omega
theorem wf_i64 {a : Int} (hw : (Lit.int .i64 a).wf = true) : -9223372036854775808 ≤ a ∧ a ≤ 9223372036854775807 := by
  simp only [Lit.wf, Bool.and_eq_true, decide_eq_true_eq] at hw
  have e0 : IntKind.i64.min = -9223372036854775808 := by decide
  have e1 : IntKind.i64.max = 9223372036854775807 := by decide
  rw [e0, e1] at hw
  omega
theorem w64 {n : Int} (h0 : -9223372036854775808 ≤ n) (h1 : n ≤ 9223372036854775807) : wrap64 n = n := by
  unfold wrap64
  omega
theorem knows_ok : Ev haywainlaw22_knows.f true := Ev.of haywainlaw22_knows.mono (k := 60) (by decide +kernel)
theorem knows_so : Ev (fun k => (haywainlaw22_knows.f k).bind fun t => some t) true := Ev.bind knows_ok (Ev.some rfl)

/-! ### lists -/
theorem drop_end {α : Type} {l : List α} {i : Nat} (h : l.drop i = []) : l.length ≤ i := List.drop_eq_nil_iff.mp h
theorem drop_nextG {α : Type} {l : List α} {i : Nat} {w : α} {t : List α} (h : l.drop i = w :: t) : i < l.length ∧ l[i]? = some w ∧ l.drop (i + 1) = t := by
  have hi : i < l.length := by
    refine Nat.lt_of_not_le fun hn => ?_
    rw [List.drop_eq_nil_iff.mpr hn] at h
    exact absurd h (by simp)
  have h2 := List.drop_eq_getElem_cons hi
  rw [h2] at h
  injection h with ha hb
  exact ⟨hi, by rw [List.getElem?_eq_getElem hi, ha], hb⟩
theorem drop_next {l : List S23} {i : Nat} {p : S23} {t : List S23} (h : l.drop i = p :: t) : i < l.length ∧ rd_T23 l (i : Int) = p ∧ l.drop (i + 1) = t := by
  obtain ⟨hi, h2, h3⟩ := drop_nextG h
  refine ⟨hi, ?_, h3⟩
  unfold rd_T23
  rw [Int.toNat_natCast, List.getD_eq_getElem?_getD, h2]
  rfl
theorem nat_up {i n : Nat} (h : i < n) (hn : n ≤ 4000000000000) : wrap64 ((i : Int) + 1) = ((i + 1 : Nat) : Int) := by
  rw [w64 (by omega) (by omega)]; omega
def asP (p : S23) : S31 := ⟨p.f0, p.f1, p.f2, p.f3, p.f4, p.f5, p.f6, p.f7⟩
theorem rd31_map (l : List S23) (i : Int) : rd_T31 (l.map asP) i = asP (rd_T23 l i) := by
  unfold rd_T31 rd_T23
  rw [List.getD_eq_getElem?_getD, List.getD_eq_getElem?_getD, List.getElem?_map]
  cases l[i.toNat]? <;> rfl

/-! ### packets that may be -/
def fairM (p : S23) : Bool := (decide (0 ≤ p.f0) && decide (p.f0 ≤ 99)) && ((decide (0 ≤ p.f2) && decide (p.f2 ≤ 99)) && (!decide (p.f0 = p.f2) && ((decide (1 ≤ p.f1) && decide (p.f1 ≤ 1099511627776)) && ((decide (0 ≤ p.f3) && decide (p.f3 ≤ 1099511627776)) && ((decide (0 ≤ p.f4) && decide (p.f4 ≤ 2)) && ((decide (0 ≤ p.f5) && decide (p.f5 ≤ 1099511627776)) && ((decide (0 ≤ p.f6) && decide (p.f6 ≤ 1099511627776)) && decide ((p.f7.size : Int) ≤ 4000))))))))
theorem fairM_iff {p : S23} : fairM p = true ↔ (0 ≤ p.f0 ∧ p.f0 ≤ 99) ∧ (0 ≤ p.f2 ∧ p.f2 ≤ 99) ∧ p.f0 ≠ p.f2 ∧ (1 ≤ p.f1 ∧ p.f1 ≤ 1099511627776) ∧ (0 ≤ p.f3 ∧ p.f3 ≤ 1099511627776) ∧ (0 ≤ p.f4 ∧ p.f4 ≤ 2) ∧ (0 ≤ p.f5 ∧ p.f5 ≤ 1099511627776) ∧ (0 ≤ p.f6 ∧ p.f6 ≤ 1099511627776) ∧ (p.f7.size : Int) ≤ 4000 := by
  simp only [fairM, Bool.and_eq_true, decide_eq_true_eq, Bool.not_eq_true', decide_eq_false_iff_not, ne_eq]
theorem fairM_no {p : S23} (h : fairM p = true → False) : false = fairM p := (Bool.eq_false_iff.mpr h).symm
theorem within_is (a b c : Int) : net_Fair_1.f a b c = some (decide (b ≤ a) && decide (a ≤ c)) := by
  unfold net_Fair_1.f
  by_cases h : a ≥ b
  · rw [if_pos h, decide_eq_true (show b ≤ a from h), Bool.true_and]
  · rw [if_neg h, decide_eq_false (show ¬ b ≤ a from h), Bool.false_and]
theorem ite_and (b c : Bool) : (if b = true then some c else some false) = some (b && c) := by cases b <;> rfl
theorem ite_ne (a b : Int) (c : Bool) : (if a = b then some false else some c) = some (!decide (a = b) && c) := by
  by_cases h : a = b
  · rw [if_pos h, decide_eq_true h]; rfl
  · rw [if_neg h, decide_eq_false h]; rfl
theorem fair_is (p : S23) : net_Fair.f p.f0 p.f1 p.f2 p.f3 p.f4 p.f5 p.f6 p.f7 = some (fairM p) := by
  unfold net_Fair.f
  simp only [within_is, Option.bind_some, ite_and, ite_ne]
  rfl
theorem fairs_loop (l : List S23) (hl : l.length ≤ 1000000000) : ∀ (t : List S23) (i : Nat) (a : List S23), l.drop i = t → a.length ≤ i → Ev (fun k => net_fair.l0 k a l (l.length : Int) (i : Int)) (a ++ t.filter fairM)
  | [], i, a, h, _ => by
    have hi := drop_end h
    refine Ev.step (fun k => net_fair.l0.eq_2 _ _ _ _ k) ?_
    exact Ev.neg (by omega) (Ev.some (by simp))
  | p :: t, i, a, h, ha => by
    obtain ⟨hi, hw, ht⟩ := drop_next h
    refine Ev.step (fun k => net_fair.l0.eq_2 _ _ _ _ k) ?_
    refine Ev.pos (by omega) (Ev.pos (by omega) (Ev.pos (by omega) ?_))
    rw [hw, nat_up hi (by omega)]
    refine Ev.bind0 (fair_is p) ?_
    by_cases e : fairM p = true
    · refine Ev.pos e (Ev.pos (by omega) ?_)
      have ih := fairs_loop l hl t (i + 1) (a ++ [p]) ht (by simp only [List.length_append, List.length_cons, List.length_nil]; omega)
      rw [List.filter_cons_of_pos e]
      rw [List.append_assoc] at ih
      exact ih
    · refine Ev.neg e ?_
      rw [List.filter_cons_of_neg e]
      exact fairs_loop l hl t (i + 1) a ht (by omega)
theorem fairs_is (l : List S23) (hl : l.length ≤ 1000000000) : Ev (fun k => net_fair.f k l) (l.filter fairM) := fairs_loop l hl l 0 [] rfl (by simp)
def rightM (l : List S23) : Bool := l.all fairM && decide (l.length ≤ 400)
theorem rightM_iff {l : List S23} : rightM l = true ↔ (∀ p ∈ l, fairM p = true) ∧ l.length ≤ 400 := by
  simp [rightM, List.all_eq_true]
def goodM (l : List S23) : List S23 := if rightM l = true then l else []
theorem goodM_right (l : List S23) : rightM (goodM l) = true := by
  unfold goodM
  by_cases h : rightM l = true
  · rw [if_pos h]; exact h
  · rw [if_neg h]; decide
theorem goodM_len (l : List S23) : (goodM l).length ≤ 400 := (rightM_iff.mp (goodM_right l)).2
theorem goodM_of {l : List S23} (h : rightM l = true) : goodM l = l := if_pos h
theorem filter_all {l : List S23} : (l.filter fairM).length = l.length ↔ l.all fairM = true := by
  rw [List.length_filter_eq_length_iff, List.all_eq_true]
theorem right_is (l : List S23) (hl : l.length ≤ 1000000000) : Ev (fun k => net_Right.f k l) (rightM l) := by
  unfold net_Right.f
  refine Ev.bind (fairs_is l hl) ?_
  unfold rightM
  by_cases h : l.all fairM = true
  · have h2 := filter_all.mpr h
    refine Ev.pos (by rw [h2]) (Ev.some ?_)
    rw [h2, h, Bool.true_and]
    exact decide_eq_decide.mpr (by omega)
  · refine Ev.neg (fun hn => h (filter_all.mp (by omega))) (Ev.some ?_)
    rw [eq_false_of_ne_true h, Bool.false_and]
theorem own_is (l : List S23) (hl : l.length ≤ 1000000000) : Ev (fun k => net_own.f k l) (goodM l) := by
  unfold net_own.f
  refine Ev.bind (right_is l hl) ?_
  by_cases h : rightM l = true
  · rw [goodM_of h]
    exact Ev.pos h (Ev.bind0 rfl (Ev.pos (by simp only [List.length_nil]; omega) (Ev.some rfl)))
  · refine Ev.neg h (Ev.some ?_)
    unfold goodM
    rw [if_neg h]

/-! ### the document's packets -/
theorem as_loop (l : List S23) (hl : l.length ≤ 1000000000) : ∀ (t : List S23) (i : Nat) (a : List S31), l.drop i = t → a.length ≤ i → Ev (fun k => haywainlaw22_As.l0 k l a (i : Int)) (a ++ t.map asP)
  | [], i, a, h, _ => by
    have hi := drop_end h
    refine Ev.step (fun k => haywainlaw22_As.l0.eq_2 _ _ _ k) ?_
    exact Ev.neg (by omega) (Ev.some (by simp))
  | p :: t, i, a, h, ha => by
    obtain ⟨hi, hw, ht⟩ := drop_next h
    refine Ev.step (fun k => haywainlaw22_As.l0.eq_2 _ _ _ k) ?_
    refine Ev.pos (by omega) (Ev.pos (by omega) (Ev.pos (by omega) ?_))
    rw [hw, nat_up hi (by omega)]
    have ih := as_loop l hl t (i + 1) (a ++ [asP p]) ht (by simp only [List.length_append, List.length_cons, List.length_nil]; omega)
    rw [List.append_assoc] at ih
    exact ih
theorem as_is (l : List S23) (hl : l.length ≤ 1000000000) : Ev (fun k => haywainlaw22_As.f k l) (l.map asP) := as_loop l hl l 0 [] rfl (by simp)
theorem reffair_is (p : S23) : Ev (fun k => haywainref22_Fair.f k p.f0 p.f1 p.f2 p.f3 p.f4 p.f5 p.f6 p.f7) (fairM p) := by
  have no : Ev (fun k => haywainref22_Fair.j0 k true p.f0 p.f1 p.f2 p.f3 p.f4 p.f5 p.f6 p.f7) false := Ev.step (fun k => haywainref22_Fair.j0.eq_2 _ _ _ _ _ _ _ _ _ k) (Ev.pos rfl (Ev.some rfl))
  unfold haywainref22_Fair.f
  by_cases h1 : p.f0 < 0
  · rw [← fairM_no (fun h => by have := fairM_iff.mp h; omega)]; exact Ev.pos h1 no
  refine Ev.neg h1 ?_
  by_cases h2 : p.f0 > 99
  · rw [← fairM_no (fun h => by have := fairM_iff.mp h; omega)]; exact Ev.pos h2 no
  refine Ev.neg h2 ?_
  by_cases h3 : p.f2 < 0
  · rw [← fairM_no (fun h => by have := fairM_iff.mp h; omega)]; exact Ev.pos h3 no
  refine Ev.neg h3 ?_
  by_cases h4 : p.f2 > 99
  · rw [← fairM_no (fun h => by have := fairM_iff.mp h; omega)]; exact Ev.pos h4 no
  refine Ev.neg h4 ?_
  by_cases h5 : p.f0 = p.f2
  · rw [← fairM_no (fun h => by have := fairM_iff.mp h; omega), show (p.f0 == p.f2) = true from beq_iff_eq.mpr h5]; exact no
  rw [show (p.f0 == p.f2) = false from beq_eq_false_iff_ne.mpr h5]
  refine Ev.step (fun k => haywainref22_Fair.j0.eq_2 _ _ _ _ _ _ _ _ _ k) (Ev.neg (by decide) ?_)
  by_cases h6 : p.f1 < 1
  · exact Ev.pos h6 (Ev.some (fairM_no (fun h => by have := fairM_iff.mp h; omega)))
  refine Ev.neg h6 ?_
  by_cases h7 : p.f1 > 1099511627776
  · exact Ev.pos h7 (Ev.some (fairM_no (fun h => by have := fairM_iff.mp h; omega)))
  refine Ev.neg h7 ?_
  by_cases h8 : p.f3 < 0
  · exact Ev.pos h8 (Ev.some (fairM_no (fun h => by have := fairM_iff.mp h; omega)))
  refine Ev.neg h8 ?_
  by_cases h9 : p.f3 > 1099511627776
  · exact Ev.pos h9 (Ev.some (fairM_no (fun h => by have := fairM_iff.mp h; omega)))
  refine Ev.neg h9 ?_
  by_cases h10 : p.f4 < 0
  · exact Ev.pos h10 (Ev.some (fairM_no (fun h => by have := fairM_iff.mp h; omega)))
  refine Ev.neg h10 ?_
  by_cases h11 : p.f4 > 2
  · exact Ev.pos h11 (Ev.some (fairM_no (fun h => by have := fairM_iff.mp h; omega)))
  refine Ev.neg h11 ?_
  by_cases h12 : p.f5 ≥ 0
  · refine Ev.pos h12 ?_
    by_cases h13 : p.f5 ≤ 1099511627776
    · refine Ev.pos h13 ?_
      by_cases h14 : p.f6 ≥ 0
      · refine Ev.pos h14 ?_
        by_cases h15 : p.f6 ≤ 1099511627776
        · refine Ev.pos h15 (Ev.some ?_)
          refine Bool.eq_iff_iff.mpr ?_
          rw [fairM_iff, decide_eq_true_iff]
          omega
        · exact Ev.neg h15 (Ev.some (fairM_no (fun h => by have := fairM_iff.mp h; omega)))
      · exact Ev.neg h14 (Ev.some (fairM_no (fun h => by have := fairM_iff.mp h; omega)))
    · exact Ev.neg h13 (Ev.some (fairM_no (fun h => by have := fairM_iff.mp h; omega)))
  · exact Ev.neg h12 (Ev.some (fairM_no (fun h => by have := fairM_iff.mp h; omega)))
theorem reffair_at (l : List S23) {i : Int} {p : S23} (h : rd_T23 l i = p) : Ev (fun k => haywainref22_Fair.f k (rd_T31 (l.map asP) i).f0 (rd_T31 (l.map asP) i).f1 (rd_T31 (l.map asP) i).f2 (rd_T31 (l.map asP) i).f3 (rd_T31 (l.map asP) i).f4 (rd_T31 (l.map asP) i).f5 (rd_T31 (l.map asP) i).f6 (rd_T31 (l.map asP) i).f7) (fairM p) := by
  rw [rd31_map, h]
  exact reffair_is p
theorem refright_loop (l : List S23) (hl : l.length ≤ 1000000000) : ∀ (t : List S23) (i : Nat), l.drop i = t → Ev (fun k => haywainref22_Right.l0 k (l.map asP) (i : Int)) (t.all fairM && decide (l.length ≤ 400))
  | [], i, h => by
    have hi := drop_end h
    refine Ev.step (fun k => haywainref22_Right.l0.eq_2 _ _ k) ?_
    refine Ev.neg (by rw [List.length_map]; omega) (Ev.some ?_)
    rw [List.length_map, List.all_nil, Bool.true_and]
    exact decide_eq_decide.mpr (by omega)
  | p :: t, i, h => by
    obtain ⟨hi, hw, ht⟩ := drop_next h
    refine Ev.step (fun k => haywainref22_Right.l0.eq_2 _ _ k) ?_
    refine Ev.pos (by rw [List.length_map]; omega) (Ev.pos (by omega) ?_)
    refine Ev.bind (reffair_at l hw) ?_
    rw [nat_up hi (by omega), List.all_cons]
    by_cases e : fairM p = true
    · refine Ev.pos e ?_
      rw [e, Bool.true_and]
      exact refright_loop l hl t (i + 1) ht
    · refine Ev.neg e (Ev.some ?_)
      rw [eq_false_of_ne_true e, Bool.false_and, Bool.false_and]
theorem refright_is (l : List S23) (hl : l.length ≤ 1000000000) : Ev (fun k => haywainref22_Right.f k (l.map asP)) (rightM l) := refright_loop l hl l 0 rfl
theorem refgood_is (l : List S23) (hl : l.length ≤ 1000000000) : Ev (fun k => haywainref22_Good.f k (l.map asP)) ((goodM l).map asP) := by
  unfold haywainref22_Good.f
  refine Ev.bind (refright_is l hl) ?_
  unfold goodM
  by_cases h : rightM l = true
  · refine Ev.pos h (Ev.some ?_)
    rw [if_pos h]
  · refine Ev.neg h (Ev.some ?_)
    rw [if_neg h]; rfl

/-! ### what is too great to be looked at -/
theorem great_loop (l : List S23) (hl : l.length ≤ 1000000000) : ∀ (t : List S23) (i : Nat), l.drop i = t → ∃ b, Ev (fun k => haywainlaw22_great.l0 k l (i : Int)) b
  | [], i, h => by
    have hi := drop_end h
    exact ⟨false, Ev.step (fun k => haywainlaw22_great.l0.eq_2 _ _ k) (Ev.neg (by omega) (Ev.some rfl))⟩
  | p :: t, i, h => by
    obtain ⟨hi, hw, ht⟩ := drop_next h
    by_cases e : (p.f7.size : Int) > 10000
    · refine ⟨true, Ev.step (fun k => haywainlaw22_great.l0.eq_2 _ _ k) (Ev.pos (by omega) (Ev.pos (by omega) ?_))⟩
      rw [hw]
      exact Ev.pos e (Ev.some rfl)
    · obtain ⟨b, hb⟩ := great_loop l hl t (i + 1) ht
      refine ⟨b, Ev.step (fun k => haywainlaw22_great.l0.eq_2 _ _ k) (Ev.pos (by omega) (Ev.pos (by omega) ?_))⟩
      rw [hw, nat_up hi (by omega)]
      exact Ev.neg e hb
theorem great_is (l : List S23) : ∃ b, Ev (fun k => haywainlaw22_great.f k l) b ∧ (b = false → l.length ≤ 600) := by
  by_cases h : (l.length : Int) > 600
  · refine ⟨true, ?_, fun h => by cases h⟩
    unfold haywainlaw22_great.f
    exact Ev.pos h (Ev.some rfl)
  · obtain ⟨b, hb⟩ := great_loop l (by omega) l 0 rfl
    refine ⟨b, ?_, fun _ => by omega⟩
    unfold haywainlaw22_great.f
    exact Ev.neg h hb

/-! ### lists alike -/
theorem same_loop (a : List S31) (hl : a.length ≤ 4000000000000) : ∀ (d i : Nat), i + d = a.length → Ev (fun k => haywainref22_Same.l0 k a a (i : Int)) true
  | 0, i, h => by
    refine Ev.step (fun k => haywainref22_Same.l0.eq_2 _ _ _ k) ?_
    exact Ev.neg (by omega) (Ev.some rfl)
  | d + 1, i, h => by
    refine Ev.step (fun k => haywainref22_Same.l0.eq_2 _ _ _ k) ?_
    refine Ev.pos (by omega) (Ev.pos (by omega) (Ev.pos (by omega) (Ev.neg (by simp) ?_)))
    rw [nat_up (n := a.length) (by omega) hl]
    exact same_loop a hl d (i + 1) (by omega)
theorem same_self (a : List S31) (hl : a.length ≤ 4000000000000) : Ev (fun k => haywainref22_Same.f k a a) true := by
  unfold haywainref22_Same.f
  exact Ev.pos rfl (same_loop a hl a.length 0 (by omega))
theorem same_as {a b : List S23} (h : a = b) (hl : a.length ≤ 1000000000) : Ev (fun k => haywainref22_Same.f k (a.map asP) (b.map asP)) true := by
  subst h
  exact same_self _ (by rw [List.length_map]; omega)

/-! ### what is sent -/
def roomM (n l : List S23) : List S23 := (l.filter fairM).take (400 - (goodM n).length)
theorem send_loop (F : List S23) (hl : F.length ≤ 1000000000) : ∀ (t : List S23) (i c : Nat) (out : List S23), F.drop i = t → out.length ≤ 400 → c ≤ i →
    Ev (fun k => net_Send.l0 k (c : Int) F (F.length : Int) (i : Int) out) (out ++ t.take (400 - out.length), ((c + (t.take (400 - out.length)).length : Nat) : Int))
  | [], i, c, out, h, ho, hc => by
    have hi := drop_end h
    refine Ev.step (fun k => net_Send.l0.eq_2 _ _ _ _ _ k) ?_
    exact Ev.neg (by omega) (Ev.some (by simp))
  | p :: t, i, c, out, h, ho, hc => by
    obtain ⟨hi, hw, ht⟩ := drop_next h
    refine Ev.step (fun k => net_Send.l0.eq_2 _ _ _ _ _ k) ?_
    refine Ev.pos (by omega) (Ev.pos (by omega) (Ev.pos (by omega) ?_))
    by_cases e : (out.length : Int) = 400
    · refine Ev.pos e (Ev.some ?_)
      have e2 : 400 - out.length = 0 := by omega
      rw [e2]; simp
    · refine Ev.neg e (Ev.pos (by omega) ?_)
      rw [hw, nat_up (n := F.length) hi (by omega), nat_up (n := F.length) (i := c) (by omega) (by omega)]
      have ih := send_loop F hl t (i + 1) (c + 1) (out ++ [p]) ht (by simp only [List.length_append, List.length_cons, List.length_nil]; omega) (by omega)
      obtain ⟨m, hm⟩ : ∃ m, 400 - out.length = m + 1 := ⟨400 - out.length - 1, by omega⟩
      have e3 : 400 - (out ++ [p]).length = m := by simp only [List.length_append, List.length_cons, List.length_nil]; omega
      rw [e3, List.append_assoc] at ih
      rw [hm, List.take_succ_cons, List.length_cons]
      rw [show c + 1 + (t.take m).length = c + ((t.take m).length + 1) by omega] at ih
      exact ih
theorem send_is (n l : List S23) (hn : n.length ≤ 1000000000) (hl : l.length ≤ 1000000000) : Ev (fun k => net_Send.f k n l) (goodM n ++ roomM n l, ((roomM n l).length : Int)) := by
  unfold net_Send.f
  refine Ev.bind (own_is n hn) (Ev.bind (fairs_is l hl) ?_)
  have hf : (l.filter fairM).length ≤ l.length := List.length_filter_le _ _
  have h := send_loop (l.filter fairM) (by omega) (l.filter fairM) 0 0 (goodM n) rfl (goodM_len n) (by omega)
  rw [Nat.zero_add] at h
  exact h
theorem send_right (n l : List S23) : rightM (goodM n ++ roomM n l) = true := by
  refine rightM_iff.mpr ⟨fun p hp => ?_, ?_⟩
  · rcases List.mem_append.mp hp with h | h
    · exact (rightM_iff.mp (goodM_right n)).1 p h
    · exact (List.mem_filter.mp (List.mem_of_mem_take h)).2
  · have := goodM_len n
    have : (roomM n l).length ≤ 400 - (goodM n).length := List.length_take_le _ _
    rw [List.length_append]; omega

/-! ### what is given -/
def giveM (n : List S23) (i : Int) : List S23 := if i < 0 then goodM n else if i ≥ ((goodM n).length : Int) then goodM n else (goodM n).eraseIdx i.toNat
theorem give_no (n : List S23) (i : Int) (hn : n.length ≤ 1000000000) (h : i < 0 ∨ i ≥ ((goodM n).length : Int)) : Ev (fun k => net_Give.f k n i) (goodM n, 0, 0, 0, 0, 0, 0, 0, (⟨#[]⟩ : ByteArray), 4) := by
  unfold net_Give.f
  have hg := goodM_len n
  refine Ev.bind (own_is n hn) (Ev.pos (by omega) ?_)
  by_cases h1 : i < 0
  · exact Ev.pos h1 (Ev.some rfl)
  · exact Ev.neg h1 (Ev.pos (by omega) (Ev.some rfl))
theorem give_yes (n : List S23) (i : Int) (p : S23) (hn : n.length ≤ 1000000000) (h0 : 0 ≤ i) (h : i < ((goodM n).length : Int)) (hp : rd_T23 (goodM n) i = p) : Ev (fun k => net_Give.f k n i) ((goodM n).eraseIdx i.toNat, p.f0, p.f1, p.f2, p.f3, p.f4, p.f5, p.f6, p.f7, 0) := by
  subst hp
  unfold net_Give.f
  have hg := goodM_len n
  refine Ev.bind (own_is n hn) (Ev.pos (by omega) ?_)
  have e : wrap64 (i + 1) = i + 1 := w64 (by omega) (by omega)
  rw [e]
  exact Ev.neg (by omega) (Ev.neg (by omega) (Ev.pos h0 (Ev.pos h (Ev.pos (by omega) (Ev.pos (by omega) (Ev.pos (by omega) (Ev.some rfl)))))))

/-! ### what is doubled -/
def twiceM (n : List S23) (i : Int) : List S23 × Int := if i < 0 then (goodM n, 4) else if i ≥ ((goodM n).length : Int) then (goodM n, 4) else if (goodM n).length = 400 then (goodM n, 3) else (goodM n ++ [rd_T23 (goodM n) i], 0)
theorem twice_is (n : List S23) (i : Int) (hn : n.length ≤ 1000000000) : Ev (fun k => net_Twice.f k n i) (twiceM n i) := by
  unfold net_Twice.f twiceM
  have hg := goodM_len n
  have no : Ev (fun k => net_Twice.j0 k i true (goodM n)) (goodM n, 4) := Ev.step (fun k => net_Twice.j0.eq_2 _ _ _ k) (Ev.pos rfl (Ev.some rfl))
  refine Ev.bind (own_is n hn) ?_
  by_cases h1 : i < 0
  · rw [if_pos h1]; exact Ev.pos h1 no
  refine Ev.neg h1 ?_
  rw [if_neg h1]
  by_cases h2 : i ≥ ((goodM n).length : Int)
  · rw [if_pos h2, decide_eq_true h2]; exact no
  rw [if_neg h2, decide_eq_false h2]
  refine Ev.step (fun k => net_Twice.j0.eq_2 _ _ _ k) (Ev.neg (by decide) ?_)
  by_cases h3 : (goodM n).length = 400
  · rw [if_pos h3]; exact Ev.pos (by omega) (Ev.some rfl)
  · rw [if_neg h3]; exact Ev.neg (by omega) (Ev.pos (by omega) (Ev.pos (by omega) (Ev.pos (by omega) (Ev.some rfl))))
theorem twice_right (n : List S23) (i : Int) : rightM (twiceM n i).1 = true := by
  have hg := goodM_len n
  have hr := goodM_right n
  unfold twiceM
  by_cases h1 : i < 0
  · rw [if_pos h1]; exact hr
  rw [if_neg h1]
  by_cases h2 : i ≥ ((goodM n).length : Int)
  · rw [if_pos h2]; exact hr
  rw [if_neg h2]
  by_cases h3 : (goodM n).length = 400
  · rw [if_pos h3]; exact hr
  rw [if_neg h3]
  obtain ⟨ha, hb⟩ := rightM_iff.mp hr
  refine rightM_iff.mpr ⟨fun p hp => ?_, by rw [List.length_append, List.length_cons, List.length_nil]; omega⟩
  rcases List.mem_append.mp hp with h | h
  · exact ha p h
  · rw [List.mem_singleton.mp h]
    refine ha _ ?_
    unfold rd_T23
    rw [List.getD_eq_getElem?_getD, List.getElem?_eq_getElem (by omega)]
    exact List.getElem_mem _

/-! ### the law -/
theorem again_sent (n : List S23) (hr : rightM n = true) (p : S23) : Ev (fun k => haywainlaw22_NetAgain.j1 k n p.f0 p.f1 p.f2 p.f3 p.f4 p.f5 p.f6 p.f7) true := by
  have hG := goodM_of hr
  have hl := (rightM_iff.mp hr).2
  refine Ev.step (fun k => haywainlaw22_NetAgain.j1.eq_2 _ _ _ _ _ _ _ _ _ k) ?_
  refine Ev.bind (send_is n [p] (by omega) (by simp)) ?_
  rw [hG]
  have hR : roomM n [p] = [] ∨ roomM n [p] = [p] := by
    unfold roomM
    rw [hG]
    by_cases e : fairM p = true
    · rw [List.filter_cons_of_pos e, List.filter_nil]
      rcases Nat.eq_zero_or_pos (400 - n.length) with h | h
      · rw [h, List.take_zero]; exact Or.inl rfl
      · exact Or.inr (List.take_of_length_le (by rw [List.length_cons, List.length_nil]; omega))
    · rw [List.filter_cons_of_neg e, List.filter_nil, List.take_nil]; exact Or.inl rfl
  rcases hR with hR | hR
  · rw [hR, List.append_nil]
    refine Ev.pos rfl ?_
    exact Ev.bind (as_is n (by omega)) (Ev.bind (as_is n (by omega)) (Ev.bind (same_as rfl (by omega)) (Ev.pos rfl knows_so)))
  · rw [hR]
    have e1 : rd_T23 (n ++ [p]) (n.length : Int) = p := by
      unfold rd_T23
      rw [Int.toNat_natCast, List.getD_eq_getElem?_getD, List.getElem?_append_right (Nat.le_refl _), Nat.sub_self]
      rfl
    have e2 : (n ++ [p]).take n.length = n := by rw [List.take_append_of_le_length (Nat.le_refl _), List.take_length]
    refine Ev.neg (by simp) (Ev.pos (by simp) ?_)
    refine Ev.pos (by rw [w64 (by omega) (by omega), List.length_append, List.length_cons, List.length_nil]; omega) (Ev.pos (by omega) (Ev.pos (by rw [List.length_append, List.length_cons, List.length_nil]; omega) ?_))
    rw [e1]
    refine Ev.pos (by simp) (Ev.pos (by rw [List.length_append]; omega) ?_)
    rw [Int.toNat_natCast, e2]
    exact Ev.bind (as_is n (by omega)) (Ev.bind (as_is n (by omega)) (Ev.bind (same_as rfl (by omega)) (Ev.pos rfl knows_so)))
theorem NetAgain : haywainlaw22_NetAgain.Pure := by
  intro n i a0 a1 a2 a3 a4 a5 a6 a7 _ _ _ _ _ _ _ _ _ _
  refine Ev.rounds ?_
  unfold haywainlaw22_NetAgain.f
  have yes : Ev (fun k => haywainlaw22_NetAgain.j0 k i true n a0 a1 a2 a3 a4 a5 a6 a7) true := Ev.step (fun k => haywainlaw22_NetAgain.j0.eq_2 _ _ _ _ _ _ _ _ _ _ _ k) (Ev.pos rfl knows_so)
  obtain ⟨b, hb, hg⟩ := great_is n
  refine Ev.bind hb ?_
  by_cases h1 : b = true
  · exact Ev.pos h1 yes
  have hn := hg (eq_false_of_ne_true h1)
  refine Ev.neg h1 ?_
  by_cases h2 : (a7.size : Int) > 10000
  · exact Ev.pos h2 yes
  refine Ev.neg h2 (Ev.bind (as_is n (by omega)) (Ev.bind (refright_is n (by omega)) ?_))
  by_cases hr : rightM n = true
  · rw [hr]
    have hG := goodM_of hr
    have hl := (rightM_iff.mp hr).2
    have sent : Ev (fun k => haywainlaw22_NetAgain.j1 k n a0 a1 a2 a3 a4 a5 a6 a7) true := again_sent n hr ⟨a0, a1, a2, a3, a4, a5, a6, a7⟩
    refine Ev.step (fun k => haywainlaw22_NetAgain.j0.eq_2 _ _ _ _ _ _ _ _ _ _ _ k) (Ev.neg (by decide) ?_)
    refine Ev.bind (twice_is n i (by omega)) ?_
    have htr := twice_right n i
    unfold twiceM at htr ⊢
    rw [hG] at htr ⊢
    by_cases h3 : i < 0
    · rw [if_pos h3]; exact Ev.neg (show ¬ (4 : Int) = 0 by decide) sent
    rw [if_neg h3] at htr ⊢
    by_cases h4 : i ≥ (n.length : Int)
    · rw [if_pos h4]; exact Ev.neg (show ¬ (4 : Int) = 0 by decide) sent
    rw [if_neg h4] at htr ⊢
    by_cases h5 : n.length = 400
    · rw [if_pos h5]; exact Ev.neg (show ¬ (3 : Int) = 0 by decide) sent
    rw [if_neg h5] at htr ⊢
    refine Ev.pos rfl ?_
    have hGx : goodM (n ++ [rd_T23 n i]) = n ++ [rd_T23 n i] := goodM_of htr
    have hxl : (n ++ [rd_T23 n i]).length = n.length + 1 := by rw [List.length_append, List.length_cons, List.length_nil]
    have ew : wrap64 (((n ++ [rd_T23 n i]).length : Int) - 1) = (n.length : Int) := by rw [hxl, w64 (by omega) (by omega)]; omega
    dsimp only
    rw [ew]
    have e1 : rd_T23 (n ++ [rd_T23 n i]) (n.length : Int) = rd_T23 n i := by
      rw [rd_T23, Int.toNat_natCast, List.getD_eq_getElem?_getD, List.getElem?_append_right (Nat.le_refl _), Nat.sub_self]
      rfl
    have e2 : (n ++ [rd_T23 n i]).eraseIdx n.length = n := by
      rw [List.eraseIdx_append_of_length_le (Nat.le_refl _), Nat.sub_self, List.eraseIdx_cons_zero, List.append_nil]
    have hgv := give_yes (n ++ [rd_T23 n i]) (n.length : Int) (rd_T23 n i) (by omega) (by omega) (by rw [hGx]; omega) (by rw [hGx]; exact e1)
    rw [hGx, Int.toNat_natCast, e2] at hgv
    refine Ev.bind hgv ?_
    refine Ev.pos rfl (Ev.neg h3 (Ev.neg h4 (Ev.pos (by omega) (Ev.pos (by omega) (Ev.neg (by simp) ?_)))))
    exact Ev.bind (as_is n (by omega)) (Ev.bind (as_is n (by omega)) (Ev.bind (same_as rfl (by omega)) (Ev.pos rfl sent)))
  · rw [eq_false_of_ne_true hr]; exact yes

end Go.Proofs.Ytodjglekfamaaaa.Pure
