/- A member's incarnation, the members, and whether what one says counts, are what the document says, for every view and numbers. No condition but the row's own (views up to 50 members are looked at). -/
import Derived.Test.YtgfaejkgkhdihaaPViewx11
namespace Go.Proofs.Ytgfaejkgkhdihaa.Pure
open Go.RowKit Go.Proofs.Ytgfaejkgkhdihaa.PView Go.Proofs.YtgfaejkgkhdihaaW.PrintWords Go.Proofs.YtgfaejkgkhdihaaW.PrintLast

/-! ### rounds: a function with enough rounds -/
theorem Ev.pos {α : Type} {c : Prop} [Decidable c] {f g : Nat → Option α} {r : α} (h : c) (k : Ev f r) : Ev (fun n => if c then f n else g n) r := by
  obtain ⟨K, k⟩ := k
  exact ⟨K, fun n hn => by simp only [if_pos h]; exact k n hn⟩
theorem Ev.neg {α : Type} {c : Prop} [Decidable c] {f g : Nat → Option α} {r : α} (h : ¬ c) (k : Ev g r) : Ev (fun n => if c then f n else g n) r := by
  obtain ⟨K, k⟩ := k
  exact ⟨K, fun n hn => by simp only [if_neg h]; exact k n hn⟩
theorem Ev.bind0 {α β : Type} {o : Option α} {f : Nat → α → Option β} {a : α} {r : β} (h : o = some a) (k : Ev (fun n => f n a) r) : Ev (fun n => o.bind (f n)) r := by
  subst h; exact k
theorem Ev.some {α : Type} {a r : α} (h : a = r) : Ev (fun _ => Option.some a) r := h ▸ Ev.now a

/-! ### numbers -/
theorem wf_u64 {a : Int} (hw : (Lit.int .u64 a).wf = true) : 0 ≤ a ∧ a < 18446744073709551616 := by
  simp only [Lit.wf, Bool.and_eq_true, decide_eq_true_eq] at hw
  have e0 : IntKind.u64.min = 0 := by decide
  have e1 : IntKind.u64.max = 18446744073709551615 := by decide
  rw [e0, e1] at hw
  omega
theorem wf_i64 {a : Int} (hw : (Lit.int .i64 a).wf = true) : -9223372036854775808 ≤ a ∧ a ≤ 9223372036854775807 := by
  simp only [Lit.wf, Bool.and_eq_true, decide_eq_true_eq] at hw
  have e0 : IntKind.i64.min = -9223372036854775808 := by decide
  have e1 : IntKind.i64.max = 9223372036854775807 := by decide
  rw [e0, e1] at hw
  omega
theorem w64 {n : Int} (h0 : -9223372036854775808 ≤ n) (h1 : n ≤ 9223372036854775807) : wrap64 n = n := by
  unfold wrap64
  omega
theorem knows_ok : Ev haywainlaw11_knows.f true := Ev.of haywainlaw11_knows.mono (k := 130) (by decide +kernel)
theorem knows_so : Ev (fun k => (haywainlaw11_knows.f k).bind fun t => some t) true := Ev.bind knows_ok (Ev.some rfl)
theorem great_is (n : Int) (l : List S59) : haywainlaw11_great.f n l = some (decide ((l.length : Int) > 50)) := rfl

/-! ### lists -/
theorem drop_end {α : Type} {l : List α} {i : Nat} (h : l.drop i = []) : l.length ≤ i := List.drop_eq_nil_iff.mp h
theorem drop_nextG {α : Type} {l : List α} {i : Nat} {w : α} {t : List α} (h : l.drop i = w :: t) : i < l.length ∧ l[i]? = some w ∧ l.drop (i + 1) = t := by
  have hi : i < l.length := by
    refine Nat.lt_of_not_le fun hn => ?_
    rw [List.drop_eq_nil_iff.mpr hn] at h
    exact absurd h (by simp)
  have h2 := List.drop_eq_getElem_cons hi
  rw [h2] at h
  injection h with ha hb
  exact ⟨hi, by rw [List.getElem?_eq_getElem hi, ha], hb⟩
theorem drop_next {l : List S59} {i : Nat} {p : S59} {t : List S59} (h : l.drop i = p :: t) : i < l.length ∧ rd_T59 l (i : Int) = p ∧ l.drop (i + 1) = t := by
  obtain ⟨hi, h2, h3⟩ := drop_nextG h
  refine ⟨hi, ?_, h3⟩
  unfold rd_T59
  rw [Int.toNat_natCast, List.getD_eq_getElem?_getD, h2]
  rfl
theorem nat_up {i n : Nat} (h : i < n) (hn : n ≤ 4000000000000) : wrap64 ((i : Int) + 1) = ((i + 1 : Nat) : Int) := by
  rw [w64 (by omega) (by omega)]; omega
def asM (p : S59) : S60 := ⟨p.f0, p.f1⟩
theorem rd60_map (l : List S59) (i : Int) : rd_T60 (l.map asM) i = asM (rd_T59 l i) := by
  unfold rd_T60 rd_T59
  rw [List.getD_eq_getElem?_getD, List.getD_eq_getElem?_getD, List.getElem?_map]
  cases l[i.toNat]? <;> rfl

/-! ### views that may be -/
def fairM (a b : Int) : Bool := decide (1 ≤ a) && (decide (a ≤ 99) && (decide (1 ≤ b) && decide (b ≤ 1099511627776)))
theorem fairM_iff {a b : Int} : fairM a b = true ↔ 1 ≤ a ∧ a ≤ 99 ∧ 1 ≤ b ∧ b ≤ 1099511627776 := by
  simp only [fairM, Bool.and_eq_true, decide_eq_true_eq]
theorem ite_dec {c : Prop} [Decidable c] (x : Bool) : (if c then some x else some false) = some (decide c && x) := by
  by_cases h : c
  · rw [if_pos h, decide_eq_true h]; rfl
  · rw [if_neg h, decide_eq_false h]; rfl
theorem fair_is (a b : Int) : view_fair.f a b = some (fairM a b) := by
  unfold view_fair.f
  simp only [ite_dec]
  rfl
def okL : Int → List S59 → Bool
  | _, [] => true
  | b, m :: t => fairM m.f0 m.f1 && (decide (b < m.f0) && okL m.f0 t)
theorem okL_cons {b : Int} {m : S59} {t : List S59} : okL b (m :: t) = true ↔ (1 ≤ m.f0 ∧ m.f0 ≤ 99 ∧ 1 ≤ m.f1 ∧ m.f1 ≤ 1099511627776) ∧ b < m.f0 ∧ okL m.f0 t = true := by
  simp only [okL, Bool.and_eq_true, fairM_iff, decide_eq_true_eq]
theorem right_loop (l : List S59) (hl : l.length ≤ 1000000000) : ∀ (t : List S59) (i : Nat) (b : Int), l.drop i = t → Ev (fun k => view_Right.l0 k b l (l.length : Int) (i : Int)) (okL b t)
  | [], i, b, h => by
    have hi := drop_end h
    refine Ev.step (fun k => view_Right.l0.eq_2 _ _ _ _ k) ?_
    exact Ev.neg (by omega) (Ev.some rfl)
  | p :: t, i, b, h => by
    obtain ⟨hi, hw, ht⟩ := drop_next h
    refine Ev.step (fun k => view_Right.l0.eq_2 _ _ _ _ k) ?_
    refine Ev.pos (by omega) (Ev.pos (by omega) (Ev.pos (by omega) ?_))
    rw [hw, nat_up hi (by omega)]
    refine Ev.bind0 (fair_is _ _) ?_
    unfold okL
    by_cases e : fairM p.f0 p.f1 = true
    · refine Ev.pos e ?_
      rw [e, Bool.true_and]
      by_cases e2 : p.f0 ≤ b
      · refine Ev.pos e2 (Ev.some ?_)
        rw [decide_eq_false (by omega), Bool.false_and]
      · refine Ev.neg e2 ?_
        rw [decide_eq_true (by omega), Bool.true_and]
        exact right_loop l hl t (i + 1) p.f0 ht
    · refine Ev.neg e (Ev.some ?_)
      rw [eq_false_of_ne_true e, Bool.false_and]
def rightV (n : Int) (l : List S59) : Bool := decide (0 ≤ n) && (decide (n ≤ 1099511627776) && (decide ((l.length : Int) ≤ 5) && okL 0 l))
theorem rightV_iff {n : Int} {l : List S59} : rightV n l = true ↔ 0 ≤ n ∧ n ≤ 1099511627776 ∧ l.length ≤ 5 ∧ okL 0 l = true := by
  simp only [rightV, Bool.and_eq_true, decide_eq_true_eq]
  exact ⟨fun ⟨a, b, c, d⟩ => ⟨a, b, by omega, d⟩, fun ⟨a, b, c, d⟩ => ⟨a, b, by omega, d⟩⟩
theorem right_is (n : Int) (l : List S59) (hl : l.length ≤ 1000000000) : Ev (fun k => view_Right.f k n l) (rightV n l) := by
  unfold view_Right.f rightV
  have no : Ev (fun k => view_Right.j0 k true n l) false := Ev.step (fun k => view_Right.j0.eq_2 _ _ _ k) (Ev.pos rfl (Ev.some rfl))
  by_cases h1 : n < 0
  · rw [decide_eq_false (by omega : ¬ 0 ≤ n), Bool.false_and]; exact Ev.pos h1 no
  refine Ev.neg h1 ?_
  rw [decide_eq_true (by omega : 0 ≤ n), Bool.true_and]
  by_cases h2 : n > 1099511627776
  · rw [decide_eq_false (by omega : ¬ n ≤ 1099511627776), Bool.false_and]; exact Ev.pos h2 no
  refine Ev.neg h2 ?_
  rw [decide_eq_true (by omega : n ≤ 1099511627776), Bool.true_and]
  by_cases h3 : (l.length : Int) > 5
  · rw [decide_eq_false (by omega : ¬ (l.length : Int) ≤ 5), decide_eq_true h3, Bool.false_and]; exact no
  rw [decide_eq_true (by omega : (l.length : Int) ≤ 5), decide_eq_false h3, Bool.true_and]
  exact Ev.step (fun k => view_Right.j0.eq_2 _ _ _ k) (Ev.neg (by decide) (right_loop l hl l 0 0 rfl))
def ownV (n : Int) (l : List S59) : Int × List S59 := if rightV n l = true then (n, l) else (0, [])
theorem ownV_right (n : Int) (l : List S59) : rightV (ownV n l).1 (ownV n l).2 = true := by
  unfold ownV
  by_cases h : rightV n l = true
  · rw [if_pos h]; exact h
  · rw [if_neg h]; decide
theorem ownV_of {n : Int} {l : List S59} (h : rightV n l = true) : ownV n l = (n, l) := if_pos h
theorem own_is (n : Int) (l : List S59) (hl : l.length ≤ 1000000000) : Ev (fun k => view_own.f k n l) (ownV n l) := by
  unfold view_own.f
  refine Ev.bind (right_is n l hl) ?_
  unfold ownV
  by_cases h : rightV n l = true
  · refine Ev.pos h (Ev.bind0 rfl (Ev.pos (by rw [List.length_nil]; omega) (Ev.some ?_)))
    rw [if_pos h]; rfl
  · refine Ev.neg h (Ev.some ?_)
    rw [if_neg h]

/-! ### a member -/
def findV (id : Int) : List S59 → Int × Int
  | [] => (0, 0)
  | m :: t => if m.f0 = id then (m.f0, m.f1) else findV id t
theorem find_loop (l : List S59) (id : Int) (hl : l.length ≤ 1000000000) : ∀ (t : List S59) (i : Nat), l.drop i = t → Ev (fun k => view_find.l0 k id l (l.length : Int) (i : Int)) (findV id t)
  | [], i, h => by
    have hi := drop_end h
    refine Ev.step (fun k => view_find.l0.eq_2 _ _ _ _ k) ?_
    exact Ev.neg (by omega) (Ev.some rfl)
  | p :: t, i, h => by
    obtain ⟨hi, hw, ht⟩ := drop_next h
    refine Ev.step (fun k => view_find.l0.eq_2 _ _ _ _ k) ?_
    refine Ev.pos (by omega) (Ev.pos (by omega) (Ev.pos (by omega) ?_))
    rw [hw, nat_up hi (by omega)]
    unfold findV
    by_cases e : p.f0 = id
    · refine Ev.pos e (Ev.some ?_)
      rw [if_pos e]
    · refine Ev.neg e ?_
      rw [if_neg e]
      exact find_loop l id hl t (i + 1) ht
theorem find_is (n : Int) (l : List S59) (id : Int) (hl : l.length ≤ 1000000000) : Ev (fun k => view_find.f k n l id) (findV id l) := find_loop l id hl l 0 rfl
theorem find_none {id : Int} : ∀ {l : List S59}, (∀ m ∈ l, m.f0 ≠ id) → findV id l = (0, 0)
  | [], _ => rfl
  | m :: t, h => by
    unfold findV
    rw [if_neg (h m (List.mem_cons_self ..))]
    exact find_none fun x hx => h x (List.mem_cons_of_mem _ hx)
theorem find_fst {id : Int} : ∀ {l : List S59}, (∃ m ∈ l, m.f0 = id) → (findV id l).1 = id
  | [], h => by obtain ⟨m, hm, _⟩ := h; exact absurd hm (by simp)
  | m :: t, h => by
    unfold findV
    by_cases e : m.f0 = id
    · rw [if_pos e]; exact e
    · rw [if_neg e]
      obtain ⟨x, hx, rfl⟩ := h
      rcases List.mem_cons.mp hx with rfl | hx
      · exact absurd rfl e
      · exact find_fst ⟨x, hx, rfl⟩
theorem okL_gt : ∀ {l : List S59} {b : Int}, okL b l = true → ∀ m ∈ l, b < m.f0 ∧ (1 ≤ m.f0 ∧ m.f0 ≤ 99 ∧ 1 ≤ m.f1 ∧ m.f1 ≤ 1099511627776)
  | [], _, _, m, hm => absurd hm (by simp)
  | x :: t, b, h, m, hm => by
    obtain ⟨h1, h2, h3⟩ := okL_cons.mp h
    rcases List.mem_cons.mp hm with rfl | hm
    · exact ⟨h2, h1⟩
    · have := okL_gt h3 m hm; omega
theorem find_cases : ∀ {l : List S59} {b : Int} (id : Int), okL b l = true → (findV id l = (0, 0) ∧ ∀ m ∈ l, m.f0 ≠ id) ∨ (∃ m ∈ l, m.f0 = id ∧ findV id l = (id, m.f1))
  | [], _, _, _ => Or.inl ⟨rfl, fun m hm => absurd hm (by simp)⟩
  | x :: t, b, id, h => by
    obtain ⟨h1, h2, h3⟩ := okL_cons.mp h
    unfold findV
    by_cases e : x.f0 = id
    · rw [if_pos e]
      exact Or.inr ⟨x, List.mem_cons_self .., e, by rw [e]⟩
    · rw [if_neg e]
      rcases find_cases id h3 with ⟨ha, hb⟩ | ⟨m, hm, ha, hb⟩
      · refine Or.inl ⟨ha, fun m hm => ?_⟩
        rcases List.mem_cons.mp hm with rfl | hm
        · exact e
        · exact hb m hm
      · exact Or.inr ⟨m, List.mem_cons_of_mem _ hm, ha, hb⟩
theorem find_zero {l : List S59} {b : Int} (id : Int) (h : okL b l = true) : ((findV id l).1 == 0 && ((findV id l).2 == 0)) = decide ((findV id l).2 = 0) := by
  rcases find_cases id h with ⟨ha, _⟩ | ⟨m, hm, ha, hb⟩
  · rw [ha]; rfl
  · have := okL_gt h m hm
    rw [hb]
    have e1 : (id == 0) = false := beq_eq_false_iff_ne.mpr (by omega)
    rw [e1, Bool.false_and]
    exact (decide_eq_false (by show ¬ m.f1 = 0; omega)).symm
theorem inc_is (n : Int) (l : List S59) (id : Int) (hl : l.length ≤ 1000000000) : Ev (fun k => view_Inc.f k n l id) (findV id (ownV n l).2).2 := by
  unfold view_Inc.f
  have hr := (rightV_iff.mp (ownV_right n l)).2.2.1
  exact Ev.bind (own_is n l hl) (Ev.bind (find_is _ _ id (by omega)) (Ev.some rfl))
def fencedM (N : Int) (L : List S59) (num id inc : Int) : Int := if num = N then (if (findV id L).2 = 0 then 4 else (if (findV id L).2 = inc then 0 else 9)) else 9
theorem fenced_is (n : Int) (l : List S59) (num id inc : Int) (hl : l.length ≤ 1000000000) : Ev (fun k => view_Fenced.f k n l num id inc) (fencedM (ownV n l).1 (ownV n l).2 num id inc) := by
  unfold view_Fenced.f fencedM
  have hr := rightV_iff.mp (ownV_right n l)
  refine Ev.bind (own_is n l hl) (Ev.bind (find_is _ _ id (by omega)) ?_)
  by_cases h1 : num = (ownV n l).1
  · refine Ev.pos h1 ?_
    rw [if_pos h1]
    simp only [find_zero id hr.2.2.2]
    by_cases h2 : (findV id (ownV n l).2).2 = 0
    · refine Ev.pos (decide_eq_true h2) (Ev.some ?_)
      rw [if_pos h2]
    · refine Ev.neg (by rw [decide_eq_false h2]; decide) ?_
      by_cases h3 : (findV id (ownV n l).2).2 = inc
      · refine Ev.pos h3 (Ev.some ?_)
        rw [if_neg h2, if_pos h3]
      · refine Ev.neg h3 (Ev.some ?_)
        rw [if_neg h2, if_neg h3]
  · refine Ev.neg h1 (Ev.some ?_)
    rw [if_neg h1]

/-! ### the document's view -/
theorem as_loop (n : Int) (l : List S59) (hl : l.length ≤ 1000000000) : ∀ (t : List S59) (i : Nat) (a : List S60), l.drop i = t → a.length ≤ i → Ev (fun k => haywainlaw11_as.l0 k (i : Int) n l n a) (n, a ++ t.map asM)
  | [], i, a, h, _ => by
    have hi := drop_end h
    refine Ev.step (fun k => haywainlaw11_as.l0.eq_2 _ _ _ _ _ k) ?_
    exact Ev.neg (by omega) (Ev.some (by simp))
  | p :: t, i, a, h, ha => by
    obtain ⟨hi, hw, ht⟩ := drop_next h
    refine Ev.step (fun k => haywainlaw11_as.l0.eq_2 _ _ _ _ _ k) ?_
    refine Ev.pos (by omega) (Ev.pos (by omega) (Ev.pos (by omega) ?_))
    rw [hw, nat_up hi (by omega)]
    have ih := as_loop n l hl t (i + 1) (a ++ [asM p]) ht (by simp only [List.length_append, List.length_cons, List.length_nil]; omega)
    rw [List.append_assoc] at ih
    exact ih
theorem as_is (n : Int) (l : List S59) (hl : l.length ≤ 1000000000) : Ev (fun k => haywainlaw11_as.f k n l) (n, l.map asM) := as_loop n l hl l 0 [] rfl (by simp)
theorem refright_no (n : Int) (l : List S59) (hl : l.length ≤ 1000000000) : ∀ (d i : Nat), i + d = l.length → Ev (fun k => haywainref11_Right.l0 k false (i : Int) n (l.map asM)) false
  | 0, i, h => by
    refine Ev.step (fun k => haywainref11_Right.l0.eq_2 _ _ _ _ k) ?_
    exact Ev.neg (by rw [List.length_map]; omega) (Ev.some rfl)
  | d + 1, i, h => by
    refine Ev.step (fun k => haywainref11_Right.l0.eq_2 _ _ _ _ k) ?_
    refine Ev.pos (by rw [List.length_map]; omega) (Ev.pos (by omega) (Ev.neg (by decide) ?_))
    rw [nat_up (n := l.length) (by omega) (by omega)]
    exact refright_no n l hl d (i + 1) (by omega)
theorem refright_loop (n : Int) (l : List S59) (hl : l.length ≤ 1000000000) : ∀ (t : List S59) (i : Nat) (b : Int) (c : Bool), l.drop i = t → (i = 0 → b = 0) → (0 < i → (rd_T59 l ((i - 1 : Nat) : Int)).f0 = b) →
    Ev (fun k => haywainref11_Right.l0 k c (i : Int) n (l.map asM)) (c && okL b t)
  | [], i, b, c, h, _, _ => by
    have hi := drop_end h
    refine Ev.step (fun k => haywainref11_Right.l0.eq_2 _ _ _ _ k) ?_
    refine Ev.neg (by rw [List.length_map]; omega) (Ev.some ?_)
    unfold okL
    rw [Bool.and_true]
  | p :: t, i, b, false, h, _, _ => by
    obtain ⟨hi, _, _⟩ := drop_next h
    rw [Bool.false_and]
    exact refright_no n l hl (l.length - i) i (by omega)
  | p :: t, i, b, true, h, b1, b2 => by
    obtain ⟨hi, hw, ht⟩ := drop_next h
    have no := refright_no n l hl (l.length - (i + 1)) (i + 1) (by omega)
    refine Ev.step (fun k => haywainref11_Right.l0.eq_2 _ _ _ _ k) ?_
    refine Ev.pos (by rw [List.length_map]; omega) (Ev.pos (by omega) (Ev.pos rfl ?_))
    rw [nat_up hi (by omega), rd60_map, hw, Bool.true_and]
    unfold okL fairM
    by_cases h1 : (asM p).f0 ≥ 1
    · refine Ev.pos h1 ?_
      rw [decide_eq_true (show 1 ≤ p.f0 from h1), Bool.true_and]
      by_cases h2 : (asM p).f0 ≤ 99
      · refine Ev.pos h2 ?_
        rw [decide_eq_true (show p.f0 ≤ 99 from h2), Bool.true_and]
        by_cases h3 : (asM p).f1 ≥ 1
        · refine Ev.pos h3 ?_
          rw [decide_eq_true (show 1 ≤ p.f1 from h3), Bool.true_and]
          by_cases h4 : (asM p).f1 ≤ 1099511627776
          · refine Ev.pos h4 ?_
            rw [decide_eq_true (show p.f1 ≤ 1099511627776 from h4), Bool.true_and]
            have h1' : 1 ≤ p.f0 := h1
            by_cases h5 : 0 < i
            · have e1 : wrap64 ((i : Int) - 1) = ((i - 1 : Nat) : Int) := by rw [w64 (by omega) (by omega)]; omega
              refine Ev.neg (by omega) ?_
              rw [e1]
              refine Ev.pos (by omega) (Ev.pos (by rw [List.length_map]; omega) ?_)
              rw [rd60_map]
              have e2 : (asM (rd_T59 l ((i - 1 : Nat) : Int))).f0 = b := b2 h5
              rw [e2]
              exact refright_loop n l hl t (i + 1) p.f0 (decide (b < p.f0)) ht (fun h => by omega) (fun _ => by rw [Nat.add_sub_cancel, hw])
            · have := b1 (by omega)
              refine Ev.pos (by omega) ?_
              rw [decide_eq_true (by omega : b < p.f0)]
              exact refright_loop n l hl t (i + 1) p.f0 true ht (fun h => by omega) (fun _ => by rw [Nat.add_sub_cancel, hw])
          · refine Ev.neg h4 ?_
            rw [decide_eq_false (show ¬ p.f1 ≤ 1099511627776 from h4), Bool.false_and]
            exact no
        · refine Ev.neg h3 ?_
          rw [decide_eq_false (show ¬ 1 ≤ p.f1 from h3), Bool.false_and, Bool.false_and]
          exact no
      · refine Ev.neg h2 ?_
        rw [decide_eq_false (show ¬ p.f0 ≤ 99 from h2), Bool.false_and, Bool.false_and]
        exact no
    · refine Ev.neg h1 ?_
      rw [decide_eq_false (show ¬ 1 ≤ p.f0 from h1), Bool.false_and, Bool.false_and]
      exact no
theorem refright_is (n : Int) (l : List S59) (hl : l.length ≤ 1000000000) : Ev (fun k => haywainref11_Right.f k n (l.map asM)) (rightV n l) := by
  unfold haywainref11_Right.f rightV
  have go : ∀ c : Bool, Ev (fun k => haywainref11_Right.j0 k c n (l.map asM)) (c && okL 0 l) := fun c => Ev.step (fun k => haywainref11_Right.j0.eq_2 _ _ _ k) (refright_loop n l hl l 0 0 c rfl (fun _ => rfl) (fun h => absurd h (by decide)))
  by_cases h1 : n ≥ 0
  · refine Ev.pos h1 ?_
    rw [decide_eq_true (show 0 ≤ n from h1), Bool.true_and]
    by_cases h2 : n ≤ 1099511627776
    · refine Ev.pos h2 ?_
      rw [decide_eq_true h2, Bool.true_and, List.length_map]
      exact go _
    · refine Ev.neg h2 ?_
      rw [decide_eq_false h2, Bool.false_and]
      exact go false
  · refine Ev.neg h1 ?_
    rw [decide_eq_false (show ¬ 0 ≤ n from h1), Bool.false_and]
    exact go false
theorem refgood_is (n : Int) (l : List S59) (hl : l.length ≤ 1000000000) : Ev (fun k => haywainref11_Good.f k n (l.map asM)) ((ownV n l).1, (ownV n l).2.map asM) := by
  unfold haywainref11_Good.f
  refine Ev.bind (refright_is n l hl) ?_
  unfold ownV
  by_cases h : rightV n l = true
  · refine Ev.pos h (Ev.some ?_)
    rw [if_pos h]
  · refine Ev.neg h (Ev.some ?_)
    rw [if_neg h]; rfl
theorem refinc_loop (n : Int) (l : List S59) (id : Int) (hl : l.length ≤ 1000000000) : ∀ (t : List S59) (i : Nat), l.drop i = t → Ev (fun k => haywainref11_Inc.l0 k id (i : Int) n (l.map asM)) (findV id t).2
  | [], i, h => by
    have hi := drop_end h
    refine Ev.step (fun k => haywainref11_Inc.l0.eq_2 _ _ _ _ k) ?_
    exact Ev.neg (by rw [List.length_map]; omega) (Ev.some rfl)
  | p :: t, i, h => by
    obtain ⟨hi, hw, ht⟩ := drop_next h
    refine Ev.step (fun k => haywainref11_Inc.l0.eq_2 _ _ _ _ k) ?_
    refine Ev.pos (by rw [List.length_map]; omega) (Ev.pos (by omega) ?_)
    rw [rd60_map, hw, nat_up hi (by omega)]
    unfold findV
    by_cases e : (asM p).f0 = id
    · refine Ev.pos e (Ev.some ?_)
      rw [if_pos (show p.f0 = id from e)]; rfl
    · refine Ev.neg e ?_
      rw [if_neg (show ¬ p.f0 = id from e)]
      exact refinc_loop n l id hl t (i + 1) ht
theorem refinc_is (n : Int) (l : List S59) (id : Int) (hl : l.length ≤ 1000000000) : Ev (fun k => haywainref11_Inc.f k n (l.map asM) id) (findV id (ownV n l).2).2 := by
  unfold haywainref11_Inc.f
  have hr := (rightV_iff.mp (ownV_right n l)).2.2.1
  exact Ev.bind (refgood_is n l hl) (refinc_loop _ _ id (by omega) (ownV n l).2 0 rfl)

/-! ### the members, and what one says -/
theorem ids_loop (l : List S59) (hl : l.length ≤ 1000000000) : ∀ (t : List S59) (i : Nat) (a : List Int), l.drop i = t → a.length ≤ i → Ev (fun k => view_Ids.l0 k a l (l.length : Int) (i : Int)) (a ++ t.map (·.f0))
  | [], i, a, h, _ => by
    have hi := drop_end h
    refine Ev.step (fun k => view_Ids.l0.eq_2 _ _ _ _ k) ?_
    exact Ev.neg (by omega) (Ev.some (by simp))
  | p :: t, i, a, h, ha => by
    obtain ⟨hi, hw, ht⟩ := drop_next h
    refine Ev.step (fun k => view_Ids.l0.eq_2 _ _ _ _ k) ?_
    refine Ev.pos (by omega) (Ev.pos (by omega) (Ev.pos (by omega) (Ev.pos (by omega) ?_)))
    rw [hw, nat_up hi (by omega)]
    have ih := ids_loop l hl t (i + 1) (a ++ [p.f0]) ht (by simp only [List.length_append, List.length_cons, List.length_nil]; omega)
    rw [List.append_assoc] at ih
    exact ih
theorem ids_is (n : Int) (l : List S59) (hl : l.length ≤ 1000000000) : Ev (fun k => view_Ids.f k n l) ((ownV n l).2.map (·.f0)) := by
  unfold view_Ids.f
  have hr := (rightV_iff.mp (ownV_right n l)).2.2.1
  exact Ev.bind (own_is n l hl) (ids_loop _ (by omega) _ 0 [] rfl (by simp))
theorem refids_loop (n : Int) (l : List S59) (hl : l.length ≤ 1000000000) : ∀ (t : List S59) (i : Nat) (a : List Int), l.drop i = t → a.length ≤ i → Ev (fun k => haywainref11_Ids.l0 k a (i : Int) n (l.map asM)) (a ++ t.map (·.f0))
  | [], i, a, h, _ => by
    have hi := drop_end h
    refine Ev.step (fun k => haywainref11_Ids.l0.eq_2 _ _ _ _ k) ?_
    exact Ev.neg (by rw [List.length_map]; omega) (Ev.some (by simp))
  | p :: t, i, a, h, ha => by
    obtain ⟨hi, hw, ht⟩ := drop_next h
    refine Ev.step (fun k => haywainref11_Ids.l0.eq_2 _ _ _ _ k) ?_
    refine Ev.pos (by rw [List.length_map]; omega) (Ev.pos (by omega) (Ev.pos (by omega) ?_))
    rw [rd60_map, hw, nat_up hi (by omega)]
    have ih := refids_loop n l hl t (i + 1) (a ++ [p.f0]) ht (by simp only [List.length_append, List.length_cons, List.length_nil]; omega)
    rw [List.append_assoc] at ih
    exact ih
theorem refids_is (n : Int) (l : List S59) (hl : l.length ≤ 1000000000) : Ev (fun k => haywainref11_Ids.f k n (l.map asM)) ((ownV n l).2.map (·.f0)) := by
  unfold haywainref11_Ids.f
  have hr := (rightV_iff.mp (ownV_right n l)).2.2.1
  exact Ev.bind (refgood_is n l hl) (refids_loop _ _ (by omega) _ 0 [] rfl (by simp))
theorem same_loop (a : List Int) (hl : a.length ≤ 4000000000000) : ∀ (d i : Nat), i + d = a.length → Ev (fun k => haywainref09_SameInts.l0 k a a (i : Int)) true
  | 0, i, h => by
    refine Ev.step (fun k => haywainref09_SameInts.l0.eq_2 _ _ _ k) ?_
    exact Ev.neg (by omega) (Ev.some rfl)
  | d + 1, i, h => by
    refine Ev.step (fun k => haywainref09_SameInts.l0.eq_2 _ _ _ k) ?_
    refine Ev.pos (by omega) (Ev.pos (by omega) (Ev.pos (by omega) (Ev.pos rfl ?_)))
    rw [nat_up (n := a.length) (by omega) hl]
    exact same_loop a hl d (i + 1) (by omega)
theorem same_self (a : List Int) (hl : a.length ≤ 4000000000000) : Ev (fun k => haywainref09_SameInts.f k a a) true := by
  unfold haywainref09_SameInts.f
  exact Ev.pos rfl (same_loop a hl a.length 0 (by omega))
theorem reffenced_is (n : Int) (l : List S59) (num id inc : Int) (hl : l.length ≤ 1000000000) : Ev (fun k => haywainref11_Fenced.f k n (l.map asM) num id inc) (fencedM (ownV n l).1 (ownV n l).2 num id inc) := by
  unfold haywainref11_Fenced.f fencedM
  have hr := ownV_right n l
  have hr5 := (rightV_iff.mp hr).2.2.1
  have hi := refinc_is (ownV n l).1 (ownV n l).2 id (by omega)
  rw [ownV_of hr] at hi
  refine Ev.bind (refgood_is n l hl) ?_
  by_cases h1 : num = (ownV n l).1
  · refine Ev.pos h1 (Ev.bind hi ?_)
    rw [if_pos h1]
    by_cases h2 : (findV id (ownV n l).2).2 = 0
    · refine Ev.pos h2 (Ev.some ?_)
      rw [if_pos h2]
    · refine Ev.neg h2 ?_
      by_cases h3 : (findV id (ownV n l).2).2 = inc
      · refine Ev.pos h3 (Ev.some ?_)
        rw [if_neg h2, if_pos h3]
      · refine Ev.neg h3 (Ev.some ?_)
        rw [if_neg h2, if_neg h3]
  · refine Ev.neg h1 (Ev.some ?_)
    rw [if_neg h1]

/-! ### the law -/
theorem ViewAsks : haywainlaw11_ViewAsks.Pure := by
  intro n l num id inc _ _ _ _ _
  refine Ev.rounds ?_
  unfold haywainlaw11_ViewAsks.f
  refine Ev.bind0 (great_is n l) ?_
  by_cases h1 : decide ((l.length : Int) > 50) = true
  · exact Ev.pos h1 knows_so
  refine Ev.neg h1 ?_
  simp only [decide_eq_true_eq] at h1
  have hr5 := (rightV_iff.mp (ownV_right n l)).2.2.1
  refine Ev.bind (as_is n l (by omega)) (Ev.bind (inc_is n l id (by omega)) (Ev.bind (refinc_is n l id (by omega)) (Ev.pos rfl ?_)))
  refine Ev.bind (ids_is n l (by omega)) (Ev.bind (refids_is n l (by omega)) (Ev.bind (same_self _ (by rw [List.length_map]; omega)) (Ev.pos rfl ?_)))
  exact Ev.bind (fenced_is n l num id inc (by omega)) (Ev.bind (reffenced_is n l num id inc (by omega)) (Ev.pos rfl knows_so))

end Go.Proofs.Ytgfaejkgkhdihaa.Pure
