/- A view, and whatever becomes of it, is what the document says, act by act, with its errors, for every view and all acts. No condition but the row's own (views up to 50 members are looked at). -/
import Derived.Test.YtgfaejkgkhdihaaPViewx12
namespace Go.Proofs.Ytgfaejkgkhdihaa.Pure
open Go.RowKit Go.Proofs.Ytgfaejkgkhdihaa.PView Go.Proofs.YtgfaejkgkhdihaaW.PrintWords Go.Proofs.YtgfaejkgkhdihaaW.PrintLast

/-! ### rounds: a function with enough rounds -/
theorem Ev.pos {α : Type} {c : Prop} [Decidable c] {f g : Nat → Option α} {r : α} (h : c) (k : Ev f r) : Ev (fun n => if c then f n else g n) r := by
  obtain ⟨K, k⟩ := k
  exact ⟨K, fun n hn => by simp only [if_pos h]; exact k n hn⟩
theorem Ev.neg {α : Type} {c : Prop} [Decidable c] {f g : Nat → Option α} {r : α} (h : ¬ c) (k : Ev g r) : Ev (fun n => if c then f n else g n) r := by
  obtain ⟨K, k⟩ := k
  exact ⟨K, fun n hn => by simp only [if_neg h]; exact k n hn⟩
theorem Ev.bind0 {α β : Type} {o : Option α} {f : Nat → α → Option β} {a : α} {r : β} (h : o = some a) (k : Ev (fun n => f n a) r) : Ev (fun n => o.bind (f n)) r := by
  subst h; exact k
theorem Ev.some {α : Type} {a r : α} (h : a = r) : Ev (fun _ => Option.some a) r := h ▸ Ev.now a

/-! ### numbers -/
theorem wf_u64 {a : Int} (hw : (Lit.int .u64 a).wf = true) : 0 ≤ a ∧ a < 18446744073709551616 := by
  simp only [Lit.wf, Bool.and_eq_true, decide_eq_true_eq] at hw
  have e0 : IntKind.u64.min = 0 := by decide
  have e1 : IntKind.u64.max = 18446744073709551615 := by decide
  rw [e0, e1] at hw
  omega
theorem wf_i64 {a : Int} (hw : (Lit.int .i64 a).wf = true) : -9223372036854775808 ≤ a ∧ a ≤ 9223372036854775807 := by
  simp only [Lit.wf, Bool.and_eq_true, decide_eq_true_eq] at hw
  have e0 : IntKind.i64.min = -9223372036854775808 := by decide
  have e1 : IntKind.i64.max = 9223372036854775807 := by decide
  rw [e0, e1] at hw
  omega
theorem w64 {n : Int} (h0 : -9223372036854775808 ≤ n) (h1 : n ≤ 9223372036854775807) : wrap64 n = n := by
  unfold wrap64
  omega
theorem knows_ok : Ev haywainlaw11_knows.f true := Ev.of haywainlaw11_knows.mono (k := 130) (by decide +kernel)
theorem knows_so : Ev (fun k => (haywainlaw11_knows.f k).bind fun t => some t) true := Ev.bind knows_ok (Ev.some rfl)
theorem great_is (n : Int) (l : List S59) : haywainlaw11_great.f n l = some (decide ((l.length : Int) > 50)) := rfl

/-! ### lists -/
theorem drop_end {α : Type} {l : List α} {i : Nat} (h : l.drop i = []) : l.length ≤ i := List.drop_eq_nil_iff.mp h
theorem drop_nextG {α : Type} {l : List α} {i : Nat} {w : α} {t : List α} (h : l.drop i = w :: t) : i < l.length ∧ l[i]? = some w ∧ l.drop (i + 1) = t := by
  have hi : i < l.length := by
    refine Nat.lt_of_not_le fun hn => ?_
    rw [List.drop_eq_nil_iff.mpr hn] at h
    exact absurd h (by simp)
  have h2 := List.drop_eq_getElem_cons hi
  rw [h2] at h
  injection h with ha hb
  exact ⟨hi, by rw [List.getElem?_eq_getElem hi, ha], hb⟩
theorem drop_next {l : List S59} {i : Nat} {p : S59} {t : List S59} (h : l.drop i = p :: t) : i < l.length ∧ rd_T59 l (i : Int) = p ∧ l.drop (i + 1) = t := by
  obtain ⟨hi, h2, h3⟩ := drop_nextG h
  refine ⟨hi, ?_, h3⟩
  unfold rd_T59
  rw [Int.toNat_natCast, List.getD_eq_getElem?_getD, h2]
  rfl
theorem nat_up {i n : Nat} (h : i < n) (hn : n ≤ 4000000000000) : wrap64 ((i : Int) + 1) = ((i + 1 : Nat) : Int) := by
  rw [w64 (by omega) (by omega)]; omega
def asM (p : S59) : S60 := ⟨p.f0, p.f1⟩
theorem rd60_map (l : List S59) (i : Int) : rd_T60 (l.map asM) i = asM (rd_T59 l i) := by
  unfold rd_T60 rd_T59
  rw [List.getD_eq_getElem?_getD, List.getD_eq_getElem?_getD, List.getElem?_map]
  cases l[i.toNat]? <;> rfl

/-! ### views that may be -/
def fairM (a b : Int) : Bool := decide (1 ≤ a) && (decide (a ≤ 99) && (decide (1 ≤ b) && decide (b ≤ 1099511627776)))
theorem fairM_iff {a b : Int} : fairM a b = true ↔ 1 ≤ a ∧ a ≤ 99 ∧ 1 ≤ b ∧ b ≤ 1099511627776 := by
  simp only [fairM, Bool.and_eq_true, decide_eq_true_eq]
theorem ite_dec {c : Prop} [Decidable c] (x : Bool) : (if c then some x else some false) = some (decide c && x) := by
  by_cases h : c
  · rw [if_pos h, decide_eq_true h]; rfl
  · rw [if_neg h, decide_eq_false h]; rfl
theorem fair_is (a b : Int) : view_fair.f a b = some (fairM a b) := by
  unfold view_fair.f
  simp only [ite_dec]
  rfl
def okL : Int → List S59 → Bool
  | _, [] => true
  | b, m :: t => fairM m.f0 m.f1 && (decide (b < m.f0) && okL m.f0 t)
theorem okL_cons {b : Int} {m : S59} {t : List S59} : okL b (m :: t) = true ↔ (1 ≤ m.f0 ∧ m.f0 ≤ 99 ∧ 1 ≤ m.f1 ∧ m.f1 ≤ 1099511627776) ∧ b < m.f0 ∧ okL m.f0 t = true := by
  simp only [okL, Bool.and_eq_true, fairM_iff, decide_eq_true_eq]
theorem right_loop (l : List S59) (hl : l.length ≤ 1000000000) : ∀ (t : List S59) (i : Nat) (b : Int), l.drop i = t → Ev (fun k => view_Right.l0 k b l (l.length : Int) (i : Int)) (okL b t)
  | [], i, b, h => by
    have hi := drop_end h
    refine Ev.step (fun k => view_Right.l0.eq_2 _ _ _ _ k) ?_
    exact Ev.neg (by omega) (Ev.some rfl)
  | p :: t, i, b, h => by
    obtain ⟨hi, hw, ht⟩ := drop_next h
    refine Ev.step (fun k => view_Right.l0.eq_2 _ _ _ _ k) ?_
    refine Ev.pos (by omega) (Ev.pos (by omega) (Ev.pos (by omega) ?_))
    rw [hw, nat_up hi (by omega)]
    refine Ev.bind0 (fair_is _ _) ?_
    unfold okL
    by_cases e : fairM p.f0 p.f1 = true
    · refine Ev.pos e ?_
      rw [e, Bool.true_and]
      by_cases e2 : p.f0 ≤ b
      · refine Ev.pos e2 (Ev.some ?_)
        rw [decide_eq_false (by omega), Bool.false_and]
      · refine Ev.neg e2 ?_
        rw [decide_eq_true (by omega), Bool.true_and]
        exact right_loop l hl t (i + 1) p.f0 ht
    · refine Ev.neg e (Ev.some ?_)
      rw [eq_false_of_ne_true e, Bool.false_and]
def rightV (n : Int) (l : List S59) : Bool := decide (0 ≤ n) && (decide (n ≤ 1099511627776) && (decide ((l.length : Int) ≤ 5) && okL 0 l))
theorem rightV_iff {n : Int} {l : List S59} : rightV n l = true ↔ 0 ≤ n ∧ n ≤ 1099511627776 ∧ l.length ≤ 5 ∧ okL 0 l = true := by
  simp only [rightV, Bool.and_eq_true, decide_eq_true_eq]
  exact ⟨fun ⟨a, b, c, d⟩ => ⟨a, b, by omega, d⟩, fun ⟨a, b, c, d⟩ => ⟨a, b, by omega, d⟩⟩
theorem right_is (n : Int) (l : List S59) (hl : l.length ≤ 1000000000) : Ev (fun k => view_Right.f k n l) (rightV n l) := by
  unfold view_Right.f rightV
  have no : Ev (fun k => view_Right.j0 k true n l) false := Ev.step (fun k => view_Right.j0.eq_2 _ _ _ k) (Ev.pos rfl (Ev.some rfl))
  by_cases h1 : n < 0
  · rw [decide_eq_false (by omega : ¬ 0 ≤ n), Bool.false_and]; exact Ev.pos h1 no
  refine Ev.neg h1 ?_
  rw [decide_eq_true (by omega : 0 ≤ n), Bool.true_and]
  by_cases h2 : n > 1099511627776
  · rw [decide_eq_false (by omega : ¬ n ≤ 1099511627776), Bool.false_and]; exact Ev.pos h2 no
  refine Ev.neg h2 ?_
  rw [decide_eq_true (by omega : n ≤ 1099511627776), Bool.true_and]
  by_cases h3 : (l.length : Int) > 5
  · rw [decide_eq_false (by omega : ¬ (l.length : Int) ≤ 5), decide_eq_true h3, Bool.false_and]; exact no
  rw [decide_eq_true (by omega : (l.length : Int) ≤ 5), decide_eq_false h3, Bool.true_and]
  exact Ev.step (fun k => view_Right.j0.eq_2 _ _ _ k) (Ev.neg (by decide) (right_loop l hl l 0 0 rfl))
def ownV (n : Int) (l : List S59) : Int × List S59 := if rightV n l = true then (n, l) else (0, [])
theorem ownV_right (n : Int) (l : List S59) : rightV (ownV n l).1 (ownV n l).2 = true := by
  unfold ownV
  by_cases h : rightV n l = true
  · rw [if_pos h]; exact h
  · rw [if_neg h]; decide
theorem ownV_of {n : Int} {l : List S59} (h : rightV n l = true) : ownV n l = (n, l) := if_pos h
theorem own_is (n : Int) (l : List S59) (hl : l.length ≤ 1000000000) : Ev (fun k => view_own.f k n l) (ownV n l) := by
  unfold view_own.f
  refine Ev.bind (right_is n l hl) ?_
  unfold ownV
  by_cases h : rightV n l = true
  · refine Ev.pos h (Ev.bind0 rfl (Ev.pos (by rw [List.length_nil]; omega) (Ev.some ?_)))
    rw [if_pos h]; rfl
  · refine Ev.neg h (Ev.some ?_)
    rw [if_neg h]

/-! ### a member -/
def findV (id : Int) : List S59 → Int × Int
  | [] => (0, 0)
  | m :: t => if m.f0 = id then (m.f0, m.f1) else findV id t
theorem find_loop (l : List S59) (id : Int) (hl : l.length ≤ 1000000000) : ∀ (t : List S59) (i : Nat), l.drop i = t → Ev (fun k => view_find.l0 k id l (l.length : Int) (i : Int)) (findV id t)
  | [], i, h => by
    have hi := drop_end h
    refine Ev.step (fun k => view_find.l0.eq_2 _ _ _ _ k) ?_
    exact Ev.neg (by omega) (Ev.some rfl)
  | p :: t, i, h => by
    obtain ⟨hi, hw, ht⟩ := drop_next h
    refine Ev.step (fun k => view_find.l0.eq_2 _ _ _ _ k) ?_
    refine Ev.pos (by omega) (Ev.pos (by omega) (Ev.pos (by omega) ?_))
    rw [hw, nat_up hi (by omega)]
    unfold findV
    by_cases e : p.f0 = id
    · refine Ev.pos e (Ev.some ?_)
      rw [if_pos e]
    · refine Ev.neg e ?_
      rw [if_neg e]
      exact find_loop l id hl t (i + 1) ht
theorem find_is (n : Int) (l : List S59) (id : Int) (hl : l.length ≤ 1000000000) : Ev (fun k => view_find.f k n l id) (findV id l) := find_loop l id hl l 0 rfl
theorem find_none {id : Int} : ∀ {l : List S59}, (∀ m ∈ l, m.f0 ≠ id) → findV id l = (0, 0)
  | [], _ => rfl
  | m :: t, h => by
    unfold findV
    rw [if_neg (h m (List.mem_cons_self ..))]
    exact find_none fun x hx => h x (List.mem_cons_of_mem _ hx)
theorem find_fst {id : Int} : ∀ {l : List S59}, (∃ m ∈ l, m.f0 = id) → (findV id l).1 = id
  | [], h => by obtain ⟨m, hm, _⟩ := h; exact absurd hm (by simp)
  | m :: t, h => by
    unfold findV
    by_cases e : m.f0 = id
    · rw [if_pos e]; exact e
    · rw [if_neg e]
      obtain ⟨x, hx, rfl⟩ := h
      rcases List.mem_cons.mp hx with rfl | hx
      · exact absurd rfl e
      · exact find_fst ⟨x, hx, rfl⟩
theorem okL_gt : ∀ {l : List S59} {b : Int}, okL b l = true → ∀ m ∈ l, b < m.f0 ∧ (1 ≤ m.f0 ∧ m.f0 ≤ 99 ∧ 1 ≤ m.f1 ∧ m.f1 ≤ 1099511627776)
  | [], _, _, m, hm => absurd hm (by simp)
  | x :: t, b, h, m, hm => by
    obtain ⟨h1, h2, h3⟩ := okL_cons.mp h
    rcases List.mem_cons.mp hm with rfl | hm
    · exact ⟨h2, h1⟩
    · have := okL_gt h3 m hm; omega
theorem find_cases : ∀ {l : List S59} {b : Int} (id : Int), okL b l = true → (findV id l = (0, 0) ∧ ∀ m ∈ l, m.f0 ≠ id) ∨ (∃ m ∈ l, m.f0 = id ∧ findV id l = (id, m.f1))
  | [], _, _, _ => Or.inl ⟨rfl, fun m hm => absurd hm (by simp)⟩
  | x :: t, b, id, h => by
    obtain ⟨h1, h2, h3⟩ := okL_cons.mp h
    unfold findV
    by_cases e : x.f0 = id
    · rw [if_pos e]
      exact Or.inr ⟨x, List.mem_cons_self .., e, by rw [e]⟩
    · rw [if_neg e]
      rcases find_cases id h3 with ⟨ha, hb⟩ | ⟨m, hm, ha, hb⟩
      · refine Or.inl ⟨ha, fun m hm => ?_⟩
        rcases List.mem_cons.mp hm with rfl | hm
        · exact e
        · exact hb m hm
      · exact Or.inr ⟨m, List.mem_cons_of_mem _ hm, ha, hb⟩
theorem find_zero {l : List S59} {b : Int} (id : Int) (h : okL b l = true) : ((findV id l).1 == 0 && ((findV id l).2 == 0)) = decide ((findV id l).2 = 0) := by
  rcases find_cases id h with ⟨ha, _⟩ | ⟨m, hm, ha, hb⟩
  · rw [ha]; rfl
  · have := okL_gt h m hm
    rw [hb]
    have e1 : (id == 0) = false := beq_eq_false_iff_ne.mpr (by omega)
    rw [e1, Bool.false_and]
    exact (decide_eq_false (by show ¬ m.f1 = 0; omega)).symm
theorem inc_is (n : Int) (l : List S59) (id : Int) (hl : l.length ≤ 1000000000) : Ev (fun k => view_Inc.f k n l id) (findV id (ownV n l).2).2 := by
  unfold view_Inc.f
  have hr := (rightV_iff.mp (ownV_right n l)).2.2.1
  exact Ev.bind (own_is n l hl) (Ev.bind (find_is _ _ id (by omega)) (Ev.some rfl))
def fencedM (N : Int) (L : List S59) (num id inc : Int) : Int := if num = N then (if (findV id L).2 = 0 then 4 else (if (findV id L).2 = inc then 0 else 9)) else 9
theorem fenced_is (n : Int) (l : List S59) (num id inc : Int) (hl : l.length ≤ 1000000000) : Ev (fun k => view_Fenced.f k n l num id inc) (fencedM (ownV n l).1 (ownV n l).2 num id inc) := by
  unfold view_Fenced.f fencedM
  have hr := rightV_iff.mp (ownV_right n l)
  refine Ev.bind (own_is n l hl) (Ev.bind (find_is _ _ id (by omega)) ?_)
  by_cases h1 : num = (ownV n l).1
  · refine Ev.pos h1 ?_
    rw [if_pos h1]
    simp only [find_zero id hr.2.2.2]
    by_cases h2 : (findV id (ownV n l).2).2 = 0
    · refine Ev.pos (decide_eq_true h2) (Ev.some ?_)
      rw [if_pos h2]
    · refine Ev.neg (by rw [decide_eq_false h2]; decide) ?_
      by_cases h3 : (findV id (ownV n l).2).2 = inc
      · refine Ev.pos h3 (Ev.some ?_)
        rw [if_neg h2, if_pos h3]
      · refine Ev.neg h3 (Ev.some ?_)
        rw [if_neg h2, if_neg h3]
  · refine Ev.neg h1 (Ev.some ?_)
    rw [if_neg h1]

/-! ### the document's view -/
theorem as_loop (n : Int) (l : List S59) (hl : l.length ≤ 1000000000) : ∀ (t : List S59) (i : Nat) (a : List S60), l.drop i = t → a.length ≤ i → Ev (fun k => haywainlaw11_as.l0 k (i : Int) n l n a) (n, a ++ t.map asM)
  | [], i, a, h, _ => by
    have hi := drop_end h
    refine Ev.step (fun k => haywainlaw11_as.l0.eq_2 _ _ _ _ _ k) ?_
    exact Ev.neg (by omega) (Ev.some (by simp))
  | p :: t, i, a, h, ha => by
    obtain ⟨hi, hw, ht⟩ := drop_next h
    refine Ev.step (fun k => haywainlaw11_as.l0.eq_2 _ _ _ _ _ k) ?_
    refine Ev.pos (by omega) (Ev.pos (by omega) (Ev.pos (by omega) ?_))
    rw [hw, nat_up hi (by omega)]
    have ih := as_loop n l hl t (i + 1) (a ++ [asM p]) ht (by simp only [List.length_append, List.length_cons, List.length_nil]; omega)
    rw [List.append_assoc] at ih
    exact ih
theorem as_is (n : Int) (l : List S59) (hl : l.length ≤ 1000000000) : Ev (fun k => haywainlaw11_as.f k n l) (n, l.map asM) := as_loop n l hl l 0 [] rfl (by simp)
theorem refright_no (n : Int) (l : List S59) (hl : l.length ≤ 1000000000) : ∀ (d i : Nat), i + d = l.length → Ev (fun k => haywainref11_Right.l0 k false (i : Int) n (l.map asM)) false
  | 0, i, h => by
    refine Ev.step (fun k => haywainref11_Right.l0.eq_2 _ _ _ _ k) ?_
    exact Ev.neg (by rw [List.length_map]; omega) (Ev.some rfl)
  | d + 1, i, h => by
    refine Ev.step (fun k => haywainref11_Right.l0.eq_2 _ _ _ _ k) ?_
    refine Ev.pos (by rw [List.length_map]; omega) (Ev.pos (by omega) (Ev.neg (by decide) ?_))
    rw [nat_up (n := l.length) (by omega) (by omega)]
    exact refright_no n l hl d (i + 1) (by omega)
theorem refright_loop (n : Int) (l : List S59) (hl : l.length ≤ 1000000000) : ∀ (t : List S59) (i : Nat) (b : Int) (c : Bool), l.drop i = t → (i = 0 → b = 0) → (0 < i → (rd_T59 l ((i - 1 : Nat) : Int)).f0 = b) →
    Ev (fun k => haywainref11_Right.l0 k c (i : Int) n (l.map asM)) (c && okL b t)
  | [], i, b, c, h, _, _ => by
    have hi := drop_end h
    refine Ev.step (fun k => haywainref11_Right.l0.eq_2 _ _ _ _ k) ?_
    refine Ev.neg (by rw [List.length_map]; omega) (Ev.some ?_)
    unfold okL
    rw [Bool.and_true]
  | p :: t, i, b, false, h, _, _ => by
    obtain ⟨hi, _, _⟩ := drop_next h
    rw [Bool.false_and]
    exact refright_no n l hl (l.length - i) i (by omega)
  | p :: t, i, b, true, h, b1, b2 => by
    obtain ⟨hi, hw, ht⟩ := drop_next h
    have no := refright_no n l hl (l.length - (i + 1)) (i + 1) (by omega)
    refine Ev.step (fun k => haywainref11_Right.l0.eq_2 _ _ _ _ k) ?_
    refine Ev.pos (by rw [List.length_map]; omega) (Ev.pos (by omega) (Ev.pos rfl ?_))
    rw [nat_up hi (by omega), rd60_map, hw, Bool.true_and]
    unfold okL fairM
    by_cases h1 : (asM p).f0 ≥ 1
    · refine Ev.pos h1 ?_
      rw [decide_eq_true (show 1 ≤ p.f0 from h1), Bool.true_and]
      by_cases h2 : (asM p).f0 ≤ 99
      · refine Ev.pos h2 ?_
        rw [decide_eq_true (show p.f0 ≤ 99 from h2), Bool.true_and]
        by_cases h3 : (asM p).f1 ≥ 1
        · refine Ev.pos h3 ?_
          rw [decide_eq_true (show 1 ≤ p.f1 from h3), Bool.true_and]
          by_cases h4 : (asM p).f1 ≤ 1099511627776
          · refine Ev.pos h4 ?_
            rw [decide_eq_true (show p.f1 ≤ 1099511627776 from h4), Bool.true_and]
            have h1' : 1 ≤ p.f0 := h1
            by_cases h5 : 0 < i
            · have e1 : wrap64 ((i : Int) - 1) = ((i - 1 : Nat) : Int) := by rw [w64 (by omega) (by omega)]; omega
              refine Ev.neg (by omega) ?_
              rw [e1]
              refine Ev.pos (by omega) (Ev.pos (by rw [List.length_map]; omega) ?_)
              rw [rd60_map]
              have e2 : (asM (rd_T59 l ((i - 1 : Nat) : Int))).f0 = b := b2 h5
              rw [e2]
              exact refright_loop n l hl t (i + 1) p.f0 (decide (b < p.f0)) ht (fun h => by omega) (fun _ => by rw [Nat.add_sub_cancel, hw])
            · have := b1 (by omega)
              refine Ev.pos (by omega) ?_
              rw [decide_eq_true (by omega : b < p.f0)]
              exact refright_loop n l hl t (i + 1) p.f0 true ht (fun h => by omega) (fun _ => by rw [Nat.add_sub_cancel, hw])
          · refine Ev.neg h4 ?_
            rw [decide_eq_false (show ¬ p.f1 ≤ 1099511627776 from h4), Bool.false_and]
            exact no
        · refine Ev.neg h3 ?_
          rw [decide_eq_false (show ¬ 1 ≤ p.f1 from h3), Bool.false_and, Bool.false_and]
          exact no
      · refine Ev.neg h2 ?_
        rw [decide_eq_false (show ¬ p.f0 ≤ 99 from h2), Bool.false_and, Bool.false_and]
        exact no
    · refine Ev.neg h1 ?_
      rw [decide_eq_false (show ¬ 1 ≤ p.f0 from h1), Bool.false_and, Bool.false_and]
      exact no
theorem refright_is (n : Int) (l : List S59) (hl : l.length ≤ 1000000000) : Ev (fun k => haywainref11_Right.f k n (l.map asM)) (rightV n l) := by
  unfold haywainref11_Right.f rightV
  have go : ∀ c : Bool, Ev (fun k => haywainref11_Right.j0 k c n (l.map asM)) (c && okL 0 l) := fun c => Ev.step (fun k => haywainref11_Right.j0.eq_2 _ _ _ k) (refright_loop n l hl l 0 0 c rfl (fun _ => rfl) (fun h => absurd h (by decide)))
  by_cases h1 : n ≥ 0
  · refine Ev.pos h1 ?_
    rw [decide_eq_true (show 0 ≤ n from h1), Bool.true_and]
    by_cases h2 : n ≤ 1099511627776
    · refine Ev.pos h2 ?_
      rw [decide_eq_true h2, Bool.true_and, List.length_map]
      exact go _
    · refine Ev.neg h2 ?_
      rw [decide_eq_false h2, Bool.false_and]
      exact go false
  · refine Ev.neg h1 ?_
    rw [decide_eq_false (show ¬ 0 ≤ n from h1), Bool.false_and]
    exact go false
theorem refgood_is (n : Int) (l : List S59) (hl : l.length ≤ 1000000000) : Ev (fun k => haywainref11_Good.f k n (l.map asM)) ((ownV n l).1, (ownV n l).2.map asM) := by
  unfold haywainref11_Good.f
  refine Ev.bind (refright_is n l hl) ?_
  unfold ownV
  by_cases h : rightV n l = true
  · refine Ev.pos h (Ev.some ?_)
    rw [if_pos h]
  · refine Ev.neg h (Ev.some ?_)
    rw [if_neg h]; rfl
theorem refinc_loop (n : Int) (l : List S59) (id : Int) (hl : l.length ≤ 1000000000) : ∀ (t : List S59) (i : Nat), l.drop i = t → Ev (fun k => haywainref11_Inc.l0 k id (i : Int) n (l.map asM)) (findV id t).2
  | [], i, h => by
    have hi := drop_end h
    refine Ev.step (fun k => haywainref11_Inc.l0.eq_2 _ _ _ _ k) ?_
    exact Ev.neg (by rw [List.length_map]; omega) (Ev.some rfl)
  | p :: t, i, h => by
    obtain ⟨hi, hw, ht⟩ := drop_next h
    refine Ev.step (fun k => haywainref11_Inc.l0.eq_2 _ _ _ _ k) ?_
    refine Ev.pos (by rw [List.length_map]; omega) (Ev.pos (by omega) ?_)
    rw [rd60_map, hw, nat_up hi (by omega)]
    unfold findV
    by_cases e : (asM p).f0 = id
    · refine Ev.pos e (Ev.some ?_)
      rw [if_pos (show p.f0 = id from e)]; rfl
    · refine Ev.neg e ?_
      rw [if_neg (show ¬ p.f0 = id from e)]
      exact refinc_loop n l id hl t (i + 1) ht
theorem refinc_is (n : Int) (l : List S59) (id : Int) (hl : l.length ≤ 1000000000) : Ev (fun k => haywainref11_Inc.f k n (l.map asM) id) (findV id (ownV n l).2).2 := by
  unfold haywainref11_Inc.f
  have hr := (rightV_iff.mp (ownV_right n l)).2.2.1
  exact Ev.bind (refgood_is n l hl) (refinc_loop _ _ id (by omega) (ownV n l).2 0 rfl)

/-! ### who comes, and who goes -/
def dropM (id : Int) (l : List S59) : List S59 := l.filter (fun m => !(m.f0 == id))
theorem drop_okL {id : Int} : ∀ {l : List S59} {b : Int}, okL b l = true → okL b (dropM id l) = true
  | [], _, _ => rfl
  | m :: t, b, h => by
    obtain ⟨h1, h2, h3⟩ := okL_cons.mp h
    have ih := drop_okL (id := id) h3
    unfold dropM at ih ⊢
    by_cases e : m.f0 = id
    · rw [List.filter_cons_of_neg (by simp [e])]
      exact okL_le ih (by omega)
    · rw [List.filter_cons_of_pos (by simp [e])]
      exact okL_cons.mpr ⟨h1, h2, ih⟩
where
  okL_le : ∀ {l : List S59} {b c : Int}, okL b l = true → c ≤ b → okL c l = true
    | [], _, _, _, _ => rfl
    | m :: t, b, c, h, hc => by
      obtain ⟨h1, h2, h3⟩ := okL_cons.mp h
      exact okL_cons.mpr ⟨h1, by omega, h3⟩
theorem drop_no {id : Int} {l : List S59} : ∀ m ∈ dropM id l, m.f0 ≠ id := by
  intro m hm
  have := (List.mem_filter.mp hm).2
  simpa using this
theorem drop_same {id : Int} {l : List S59} (h : ∀ m ∈ l, m.f0 ≠ id) : dropM id l = l := List.filter_eq_self.mpr fun m hm => by simp [h m hm]
theorem drop_len {id : Int} {l : List S59} : (dropM id l).length ≤ l.length := List.length_filter_le _ _
theorem drop_less {id : Int} {l : List S59} (h : ∃ m ∈ l, m.f0 = id) : (dropM id l).length < l.length := by
  refine Nat.lt_of_le_of_ne drop_len fun he => ?_
  obtain ⟨m, hm, e⟩ := h
  have := List.length_filter_eq_length_iff.mp he m hm
  simp [e] at this
theorem last_is : ∀ {l : List S59} {b c : Int} (a : Int), okL b l = true → (l.map (fun m => (m.f0, m.f1))).foldl (fun c m => if m.1 = a then m.2 else c) c = (if ∃ m ∈ l, m.f0 = a then (findV a l).2 else c)
  | [], _, c, a, _ => by simp
  | m :: t, b, c, a, h => by
    obtain ⟨h1, h2, h3⟩ := okL_cons.mp h
    have ih := last_is (c := if m.f0 = a then m.f1 else c) a h3
    rw [List.map_cons, List.foldl_cons]
    refine ih.trans ?_
    rw [show findV a (m :: t) = if m.f0 = a then (m.f0, m.f1) else findV a t from rfl]
    by_cases e : m.f0 = a
    · rw [if_pos e, if_pos e, if_neg (fun ⟨x, hx, ex⟩ => by have := okL_gt h3 x hx; omega), if_pos ⟨m, List.mem_cons_self .., e⟩]
    · rw [if_neg e, if_neg e]
      by_cases g : ∃ x ∈ t, x.f0 = a
      · obtain ⟨x, hx, ex⟩ := g
        rw [if_pos ⟨x, hx, ex⟩, if_pos ⟨x, List.mem_cons_of_mem _ hx, ex⟩]
      · rw [if_neg g, if_neg (fun ⟨x, hx, ex⟩ => by
          rcases List.mem_cons.mp hx with rfl | hx
          · exact e ex
          · exact g ⟨x, hx, ex⟩)]
theorem find_mem : ∀ {l : List S59} {b : Int} {m : S59}, okL b l = true → m ∈ l → findV m.f0 l = (m.f0, m.f1)
  | [], _, _, _, hm => absurd hm (by simp)
  | x :: t, b, m, h, hm => by
    obtain ⟨h1, h2, h3⟩ := okL_cons.mp h
    unfold findV
    rcases List.mem_cons.mp hm with rfl | hm
    · rw [if_pos rfl]
    · have := okL_gt h3 m hm
      rw [if_neg (by omega)]
      exact find_mem h3 hm
theorem wf_of {a : Int} (h0 : 0 ≤ a) (h1 : a ≤ 1099511627776) : (Lit.int .i64 a).wf = true := by
  simp only [Lit.wf, Bool.and_eq_true, decide_eq_true_eq]
  have e0 : IntKind.i64.min = -9223372036854775808 := by decide
  have e1 : IntKind.i64.max = 9223372036854775807 := by decide
  rw [e0, e1]
  omega
theorem without_is {b : Int} (l : List S59) (id : Int) (hl : l.length ≤ 1000000000) (h : okL b l = true) (h0 : 1 ≤ id) (h1 : id ≤ 99) : view_without.f l id = some (dropM id l) := by
  unfold view_without.f
  have hok : view_without.ok l id = true := by
    unfold view_without.ok
    rw [Bool.and_eq_true, List.all_eq_true]
    refine ⟨fun m hm => ?_, wf_of (by omega) (by omega)⟩
    have := okL_gt h m hm
    rw [wf_of (by omega) (by omega), wf_of (by omega) (by omega)]; rfl
  rw [if_pos (by omega), if_pos hok]
  refine congrArg some ?_
  unfold view_without.out dropM
  refine (List.map_congr_left ?_).trans (List.map_id _)
  intro m hm
  have hm2 := (List.mem_filter.mp hm).1
  have e : Mp.last (view_without.pr l) m.f0 = m.f1 := by
    unfold Mp.last view_without.pr
    rw [last_is m.f0 h, if_pos ⟨m, hm2, rfl⟩, find_mem h hm2]
  rw [e]; rfl
def insM (p : S59) : List S59 → List S59
  | [] => [p]
  | x :: t => if x.f0 > p.f0 then p :: x :: t else x :: insM p t
theorem ins_len (p : S59) : ∀ l : List S59, (insM p l).length = l.length + 1
  | [] => rfl
  | x :: t => by
    unfold insM
    by_cases e : x.f0 > p.f0
    · rw [if_pos e]; rfl
    · rw [if_neg e, List.length_cons, ins_len p t]; rfl
theorem ins_okL (p : S59) (hp : fairM p.f0 p.f1 = true) : ∀ {l : List S59} {b : Int}, okL b l = true → b < p.f0 → (∀ m ∈ l, m.f0 ≠ p.f0) → okL b (insM p l) = true
  | [], b, _, hb, _ => okL_cons.mpr ⟨fairM_iff.mp hp, hb, rfl⟩
  | x :: t, b, h, hb, hn => by
    obtain ⟨h1, h2, h3⟩ := okL_cons.mp h
    unfold insM
    by_cases e : x.f0 > p.f0
    · rw [if_pos e]
      exact okL_cons.mpr ⟨fairM_iff.mp hp, hb, okL_cons.mpr ⟨h1, e, h3⟩⟩
    · rw [if_neg e]
      have := hn x (List.mem_cons_self ..)
      exact okL_cons.mpr ⟨h1, h2, ins_okL p hp h3 (by omega) fun m hm => hn m (List.mem_cons_of_mem _ hm)⟩
theorem ins_find_same (p : S59) : ∀ {l : List S59}, (∀ m ∈ l, m.f0 ≠ p.f0) → findV p.f0 (insM p l) = (p.f0, p.f1)
  | [], _ => by unfold insM findV; rw [if_pos rfl]
  | x :: t, hn => by
    unfold insM
    by_cases e : x.f0 > p.f0
    · rw [if_pos e]; unfold findV; rw [if_pos rfl]
    · rw [if_neg e]; unfold findV
      rw [if_neg (hn x (List.mem_cons_self ..))]
      exact ins_find_same p fun m hm => hn m (List.mem_cons_of_mem _ hm)
theorem ins_find_other (p : S59) {a : Int} (ha : a ≠ p.f0) : ∀ {l : List S59}, findV a (insM p l) = findV a l
  | [] => by unfold insM findV; rw [if_neg (Ne.symm ha)]; rfl
  | x :: t => by
    unfold insM
    by_cases e : x.f0 > p.f0
    · rw [if_pos e, findV, if_neg (Ne.symm ha)]
    · rw [if_neg e, findV, findV, ins_find_other p ha]
theorem drop_find_other {id a : Int} (ha : a ≠ id) : ∀ {l : List S59}, findV a (dropM id l) = findV a l
  | [] => rfl
  | x :: t => by
    have ih := drop_find_other ha (l := t)
    unfold dropM at ih ⊢
    by_cases e : x.f0 = id
    · rw [List.filter_cons_of_neg (by simp [e]), ih, findV, if_neg (by omega)]
    · rw [List.filter_cons_of_pos (by simp [e]), findV, findV, ih]
theorem ins_drop {p : S59} : ∀ {l : List S59}, (∀ m ∈ l, m.f0 ≠ p.f0) → dropM p.f0 (insM p l) = l
  | [], _ => by unfold insM dropM; rw [List.filter_cons_of_neg (by simp)]; rfl
  | x :: t, hn => by
    have hx := hn x (List.mem_cons_self ..)
    have ht : ∀ m ∈ t, m.f0 ≠ p.f0 := fun m hm => hn m (List.mem_cons_of_mem _ hm)
    unfold insM
    by_cases e : x.f0 > p.f0
    · rw [if_pos e]
      unfold dropM
      rw [List.filter_cons_of_neg (by simp)]
      exact drop_same hn
    · rw [if_neg e]
      have ih := ins_drop (p := p) ht
      unfold dropM at ih ⊢
      rw [List.filter_cons_of_pos (by simp [hx]), ih]
theorem with_done (l : List S59) (hl : l.length ≤ 1000000) (p : S59) (hp : 1 ≤ p.f0) : ∀ (t : List S59) (i : Nat) (a : List S59), l.drop i = t → i ≤ l.length → a.length ≤ i + 1 → (∃ m ∈ a, m.f0 = p.f0) →
    Ev (fun k => view_with.l0 k a l (l.length : Int) (i : Int) p.f0 p.f1) (a ++ t)
  | [], i, a, h, hil, ha, hf => by
    have hi := drop_end h
    have hz : ((findV p.f0 a).1 == 0) = false := by rw [find_fst hf]; exact beq_eq_false_iff_ne.mpr (by omega)
    refine Ev.step (fun k => view_with.l0.eq_2 _ _ _ _ _ _ k) (Ev.neg (by omega) ?_)
    exact Ev.bind (find_is 0 a p.f0 (by omega)) (Ev.neg (by rw [hz, Bool.false_and]; decide) (Ev.some (by simp)))
  | x :: t, i, a, h, hil, ha, hf => by
    obtain ⟨hi, hw, ht⟩ := drop_next h
    have hz : ((findV p.f0 a).1 == 0) = false := by rw [find_fst hf]; exact beq_eq_false_iff_ne.mpr (by omega)
    refine Ev.step (fun k => view_with.l0.eq_2 _ _ _ _ _ _ k) (Ev.pos (by omega) (Ev.pos (by omega) (Ev.pos (by omega) ?_)))
    rw [hw, nat_up (n := l.length) hi (by omega)]
    have ih := with_done l hl p hp t (i + 1) (a ++ [x]) ht (by omega) (by simp only [List.length_append, List.length_cons, List.length_nil]; omega) (by obtain ⟨m, hm, e⟩ := hf; exact ⟨m, List.mem_append_left _ hm, e⟩)
    rw [List.append_assoc] at ih
    by_cases e : x.f0 > p.f0
    · exact Ev.pos e (Ev.bind (find_is 0 a p.f0 (by omega)) (Ev.neg (by rw [hz, Bool.false_and]; decide) (Ev.pos (by omega) ih)))
    · exact Ev.neg e (Ev.pos (by omega) ih)
theorem with_loop (l : List S59) (hl : l.length ≤ 1000000) (p : S59) (hp : 1 ≤ p.f0) : ∀ (t : List S59) (i : Nat) (a : List S59), l.drop i = t → i ≤ l.length → a.length ≤ i → (∀ m ∈ a, m.f0 ≠ p.f0) → (∀ m ∈ t, m.f0 ≠ p.f0) →
    Ev (fun k => view_with.l0 k a l (l.length : Int) (i : Int) p.f0 p.f1) (a ++ insM p t)
  | [], i, a, h, hil, ha, hf, _ => by
    have hi := drop_end h
    refine Ev.step (fun k => view_with.l0.eq_2 _ _ _ _ _ _ k) (Ev.neg (by omega) ?_)
    refine Ev.bind (find_is 0 a p.f0 (by omega)) ?_
    rw [find_none hf]
    exact Ev.pos (by decide) (Ev.pos (by omega) (Ev.some rfl))
  | x :: t, i, a, h, hil, ha, hf, hg => by
    obtain ⟨hi, hw, ht⟩ := drop_next h
    have hx := hg x (List.mem_cons_self ..)
    refine Ev.step (fun k => view_with.l0.eq_2 _ _ _ _ _ _ k) (Ev.pos (by omega) (Ev.pos (by omega) (Ev.pos (by omega) ?_)))
    rw [hw, nat_up (n := l.length) hi (by omega)]
    unfold insM
    by_cases e : x.f0 > p.f0
    · refine Ev.pos e (Ev.bind (find_is 0 a p.f0 (by omega)) ?_)
      rw [find_none hf, if_pos e]
      refine Ev.pos (by decide) (Ev.pos (by omega) (Ev.bind0 rfl (Ev.pos (by simp only [List.length_append, List.length_cons, List.length_nil]; omega) ?_)))
      have ih := with_done l hl p hp t (i + 1) (a ++ [p] ++ [x]) ht (by omega) (by simp only [List.length_append, List.length_cons, List.length_nil]; omega) ⟨p, by simp, rfl⟩
      have e2 : a ++ [p] ++ [x] ++ t = a ++ p :: x :: t := by simp
      rw [e2] at ih
      exact ih
    · refine Ev.neg e (Ev.pos (by omega) ?_)
      rw [if_neg e]
      have ih := with_loop l hl p hp t (i + 1) (a ++ [x]) ht (by omega) (by simp only [List.length_append, List.length_cons, List.length_nil]; omega) (fun m hm => by
        rcases List.mem_append.mp hm with hm | hm
        · exact hf m hm
        · rw [List.mem_singleton.mp hm]; exact hx) (fun m hm => hg m (List.mem_cons_of_mem _ hm))
      rw [List.append_assoc] at ih
      exact ih
theorem with_is (l : List S59) (hl : l.length ≤ 1000000) (p : S59) (hp : 1 ≤ p.f0) (hg : ∀ m ∈ l, m.f0 ≠ p.f0) : Ev (fun k => view_with.f k l p.f0 p.f1) (insM p l) := with_loop l hl p hp l 0 [] rfl (by omega) (by simp) (fun m hm => absurd hm (by simp)) hg
def joinM (N : Int) (L : List S59) (id inc : Int) : Int × List S59 × Int :=
  if fairM id inc = true then (if N = 1099511627776 then (N, L, 6) else (if (findV id L).2 = inc then (N, L, 5) else (if (findV id L).2 > inc then (N, L, 9) else (if (findV id L).2 = 0 ∧ L.length = 5 then (N, L, 3) else (N + 1, insM ⟨id, inc⟩ (dropM id L), 0))))) else (N, L, 1)
theorem join_is (n : Int) (l : List S59) (id inc : Int) (hl : l.length ≤ 1000000000) : Ev (fun k => view_Join.f k n l id inc) (joinM (ownV n l).1 (ownV n l).2 id inc) := by
  unfold view_Join.f joinM
  have hr := rightV_iff.mp (ownV_right n l)
  refine Ev.bind (own_is n l hl) (Ev.bind (find_is _ _ id (by omega)) (Ev.bind0 (fair_is id inc) ?_))
  generalize (ownV n l).1 = N at hr ⊢
  generalize (ownV n l).2 = L at hr ⊢
  obtain ⟨r1, r2, r3, r4⟩ := hr
  by_cases hf : fairM id inc = true
  · refine Ev.pos hf ?_
    rw [if_pos hf]
    obtain ⟨f1, f2, f3, f4⟩ := fairM_iff.mp hf
    by_cases h1 : N = 1099511627776
    · refine Ev.pos h1 (Ev.some ?_)
      rw [if_pos h1]
    refine Ev.neg h1 ?_
    rw [if_neg h1]
    have hn : Ev (fun k => view_Join.j1 k id false N L id inc) (N + 1, insM ⟨id, inc⟩ (dropM id L), 0) := by
      refine Ev.step (fun k => view_Join.j1.eq_2 _ _ _ _ _ _ k) (Ev.neg (by decide) ?_)
      refine Ev.bind0 (without_is L id (by omega) r4 f1 f2) ?_
      have hd := drop_len (id := id) (l := L)
      refine Ev.bind (with_is (dropM id L) (by omega) ⟨id, inc⟩ f1 drop_no) (Ev.some ?_)
      rw [w64 (by omega) (by omega)]
    rcases find_cases id r4 with ⟨ha, hno⟩ | ⟨m, hm, hid, ha⟩
    · rw [ha]
      have e1 : ((0 : Int) == id) = false := beq_eq_false_iff_ne.mpr (by omega)
      refine Ev.neg (by rw [e1, Bool.false_and]; decide) (Ev.neg (by decide) ?_)
      rw [if_neg (by show ¬ (0 : Int) = inc; omega), if_neg (by show ¬ (0 : Int) > inc; omega)]
      refine Ev.step (fun k => view_Join.j0.eq_2 _ _ _ _ _ _ _ _ k) (Ev.neg (by decide) (Ev.pos (by decide) ?_))
      by_cases h5 : L.length = 5
      · rw [if_pos ⟨rfl, h5⟩, h5]
        exact Ev.step (fun k => view_Join.j1.eq_2 _ _ _ _ _ _ k) (Ev.pos (by decide) (Ev.some rfl))
      · rw [if_neg (fun h => h5 h.2), show ((L.length : Int) == 5) = false from beq_eq_false_iff_ne.mpr (by omega)]
        exact hn
    · have hg := okL_gt r4 m hm
      rw [ha]
      by_cases h2 : m.f1 = inc
      · refine Ev.pos (by simp [h2]) (Ev.some ?_)
        rw [if_pos (by exact h2)]
      · refine Ev.neg (by simp [h2]) (Ev.pos ?_ ?_)
        · have e1 : (id == 0) = false := beq_eq_false_iff_ne.mpr (by omega)
          simp [e1]
        · rw [if_neg (by exact h2)]
          by_cases h3 : m.f1 > inc
          · rw [if_pos (by exact h3)]
            have e4 : decide ((id, m.f1).2 > inc) = true := decide_eq_true h3
            rw [e4]
            exact Ev.step (fun k => view_Join.j0.eq_2 _ _ _ _ _ _ _ _ k) (Ev.pos rfl (Ev.some rfl))
          · rw [if_neg (by exact h3), if_neg (fun h => by have h0 : m.f1 = 0 := h.1; omega)]
            have e4 : decide ((id, m.f1).2 > inc) = false := decide_eq_false h3
            rw [e4]
            refine Ev.step (fun k => view_Join.j0.eq_2 _ _ _ _ _ _ _ _ k) (Ev.neg (by decide) (Ev.neg ?_ hn))
            have e1 : (id == 0) = false := beq_eq_false_iff_ne.mpr (by omega)
            simp [e1]
  · refine Ev.neg hf (Ev.some ?_)
    rw [if_neg hf]
def leaveM (N : Int) (L : List S59) (id : Int) : Int × List S59 × Int := if (findV id L).2 = 0 then (N, L, 4) else (if N = 1099511627776 then (N, L, 6) else (N + 1, dropM id L, 0))
theorem leave_is (n : Int) (l : List S59) (id : Int) (hl : l.length ≤ 1000000000) : Ev (fun k => view_Leave.f k n l id) (leaveM (ownV n l).1 (ownV n l).2 id) := by
  unfold view_Leave.f leaveM
  have hr := rightV_iff.mp (ownV_right n l)
  refine Ev.bind (own_is n l hl) (Ev.bind (find_is _ _ id (by omega)) ?_)
  generalize (ownV n l).1 = N at hr ⊢
  generalize (ownV n l).2 = L at hr ⊢
  obtain ⟨r1, r2, r3, r4⟩ := hr
  simp only [find_zero id r4]
  by_cases h1 : (findV id L).2 = 0
  · refine Ev.pos (decide_eq_true h1) (Ev.some ?_)
    rw [if_pos h1]
  · refine Ev.neg (by rw [decide_eq_false h1]; decide) ?_
    rw [if_neg h1]
    by_cases h2 : N = 1099511627776
    · refine Ev.pos h2 (Ev.some ?_)
      rw [if_pos h2]
    · refine Ev.neg h2 ?_
      rw [if_neg h2]
      have hb : 1 ≤ id ∧ id ≤ 99 := by
        rcases find_cases id r4 with ⟨ha, _⟩ | ⟨m, hm, hid, _⟩
        · rw [ha] at h1; exact absurd rfl h1
        · have := okL_gt r4 m hm; omega
      refine Ev.bind0 (without_is L id (by omega) r4 hb.1 hb.2) (Ev.some ?_)
      rw [w64 (by omega) (by omega)]
def doM (N : Int) (L : List S59) (a : S46) : Int × List S59 × Int := if a.f0 = 0 then joinM N L a.f1 a.f2 else leaveM N L a.f1
theorem do_is (n : Int) (l : List S59) (a : S46) (hl : l.length ≤ 1000000000) : Ev (fun k => haywainlaw11_do.f k n l a.f0 a.f1 a.f2) (doM (ownV n l).1 (ownV n l).2 a) := by
  unfold haywainlaw11_do.f doM
  by_cases h : a.f0 = 0
  · rw [if_pos h]; exact Ev.pos h (Ev.bind (join_is n l a.f1 a.f2 hl) (Ev.some rfl))
  · rw [if_neg h]; exact Ev.neg h (Ev.bind (leave_is n l a.f1 hl) (Ev.some rfl))
theorem join_right {N : Int} {L : List S59} {id inc : Int} (hr : rightV N L = true) : rightV (joinM N L id inc).1 (joinM N L id inc).2.1 = true := by
  unfold joinM
  by_cases hf : fairM id inc = true
  · rw [if_pos hf]
    by_cases h1 : N = 1099511627776
    · rw [if_pos h1]; exact hr
    rw [if_neg h1]
    by_cases h2 : (findV id L).2 = inc
    · rw [if_pos h2]; exact hr
    rw [if_neg h2]
    by_cases h3 : (findV id L).2 > inc
    · rw [if_pos h3]; exact hr
    rw [if_neg h3]
    by_cases h4 : (findV id L).2 = 0 ∧ L.length = 5
    · rw [if_pos h4]; exact hr
    rw [if_neg h4]
    obtain ⟨r1, r2, r3, r4⟩ := rightV_iff.mp hr
    obtain ⟨f1, f2, f3, f4⟩ := fairM_iff.mp hf
    refine rightV_iff.mpr ⟨by show 0 ≤ N + 1; omega, by show N + 1 ≤ _; omega, ?_, ins_okL ⟨id, inc⟩ hf (drop_okL r4) (by show 0 < id; omega) drop_no⟩
    show (insM ⟨id, inc⟩ (dropM id L)).length ≤ 5
    rw [ins_len]
    rcases find_cases id r4 with ⟨ha, hno⟩ | ⟨m, hm, hid, _⟩
    · have := drop_len (id := id) (l := L)
      have : L.length ≠ 5 := fun h => h4 ⟨by rw [ha], h⟩
      omega
    · have := drop_less ⟨m, hm, hid⟩
      omega
  · rw [if_neg hf]; exact hr
theorem leave_right {N : Int} {L : List S59} {id : Int} (hr : rightV N L = true) : rightV (leaveM N L id).1 (leaveM N L id).2.1 = true := by
  unfold leaveM
  by_cases h1 : (findV id L).2 = 0
  · rw [if_pos h1]; exact hr
  rw [if_neg h1]
  by_cases h2 : N = 1099511627776
  · rw [if_pos h2]; exact hr
  rw [if_neg h2]
  obtain ⟨r1, r2, r3, r4⟩ := rightV_iff.mp hr
  have := drop_len (id := id) (l := L)
  exact rightV_iff.mpr ⟨by show 0 ≤ N + 1; omega, by show N + 1 ≤ _; omega, by show (dropM id L).length ≤ 5; omega, drop_okL r4⟩
theorem do_right {N : Int} {L : List S59} {a : S46} (hr : rightV N L = true) : rightV (doM N L a).1 (doM N L a).2.1 = true := by
  unfold doM
  by_cases h : a.f0 = 0
  · rw [if_pos h]; exact join_right hr
  · rw [if_neg h]; exact leave_right hr
theorem refjoin_loop (N : Int) (L : List S59) (hr : rightV N L = true) (id inc : Int) (hi : 1 ≤ inc) : ∀ (d j : Nat) (t : List S59) (acc : List S60), j + d = 100 → okL ((j : Int) - 1) t = true → (∀ a : Int, (j : Int) ≤ a → (if a = id then inc else (findV a L).2) = (findV a t).2) → acc.length ≤ j →
    Ev (fun k => haywainref11_Join.l0 k id inc (j : Int) N (L.map asM) (N + 1) acc) (N + 1, acc ++ t.map asM, 0)
  | 0, j, t, acc, h, ht, _, _ => by
    refine Ev.step (fun k => haywainref11_Join.l0.eq_2 _ _ _ _ _ _ _ k) (Ev.neg (by omega) (Ev.some ?_))
    cases t with
    | nil => simp
    | cons m t =>
      obtain ⟨h1, h2, _⟩ := okL_cons.mp ht
      omega
  | d + 1, j, t, acc, h, ht, hv, ha => by
    have hr5 := (rightV_iff.mp hr).2.2.1
    have hin : Ev (fun k => haywainref11_Inc.f k N (L.map asM) (j : Int)) (findV (j : Int) L).2 := by
      have h := refinc_is N L (j : Int) (by omega)
      rw [ownV_of hr] at h
      exact h
    have hvj := hv (j : Int) (Int.le_refl _)
    refine Ev.step (fun k => haywainref11_Join.l0.eq_2 _ _ _ _ _ _ _ k) (Ev.pos (by omega) (Ev.bind hin ?_))
    rw [nat_up (n := 100) (by omega) (by omega)]
    have skip : (findV (j : Int) t).2 = 0 → okL (((j + 1 : Nat) : Int) - 1) t = true → Ev (fun k => if (j : Int) = id then (if inc > 0 then (if acc.length < 8796093022208 then (haywainref11_Join.l0 k id inc ((j + 1 : Nat) : Int) N (L.map asM) (N + 1) (acc ++ [(⟨(j : Int), inc⟩ : S60)])) else (none)) else (haywainref11_Join.l0 k id inc ((j + 1 : Nat) : Int) N (L.map asM) (N + 1) acc)) else (if (findV (j : Int) L).2 > 0 then (if acc.length < 8796093022208 then (haywainref11_Join.l0 k id inc ((j + 1 : Nat) : Int) N (L.map asM) (N + 1) (acc ++ [(⟨(j : Int), (findV (j : Int) L).2⟩ : S60)])) else (none)) else (haywainref11_Join.l0 k id inc ((j + 1 : Nat) : Int) N (L.map asM) (N + 1) acc))) (N + 1, acc ++ t.map asM, 0) := by
      intro hz ht2
      rw [hz] at hvj
      by_cases e : (j : Int) = id
      · rw [if_pos e] at hvj; omega
      · rw [if_neg e] at hvj
        refine Ev.neg e (Ev.neg (by omega) ?_)
        exact refjoin_loop N L hr id inc hi d (j + 1) t acc (by omega) ht2 (fun a hja => hv a (by omega)) (by omega)
    cases t with
    | nil => exact skip rfl rfl
    | cons m t =>
      obtain ⟨h1, h2, h3⟩ := okL_cons.mp ht
      by_cases hm : m.f0 = (j : Int)
      · have e1 : findV (j : Int) (m :: t) = (m.f0, m.f1) := by unfold findV; rw [if_pos hm]
        rw [e1] at hvj
        have ih := refjoin_loop N L hr id inc hi d (j + 1) t (acc ++ [asM m]) (by omega) (by rw [show ((j + 1 : Nat) : Int) - 1 = m.f0 by omega]; exact h3) (fun a hja => by
          have := hv a (by omega)
          rw [this, show findV a (m :: t) = if m.f0 = a then (m.f0, m.f1) else findV a t from rfl, if_neg (by omega)]) (by simp only [List.length_append, List.length_cons, List.length_nil]; omega)
        rw [List.append_assoc] at ih
        by_cases e : (j : Int) = id
        · rw [if_pos e] at hvj
          refine Ev.pos e (Ev.pos (by omega) (Ev.pos (by omega) ?_))
          rw [show (⟨(j : Int), inc⟩ : S60) = asM m by unfold asM; rw [hm]; exact congrArg _ hvj]
          exact ih
        · rw [if_neg e] at hvj
          have hvj' : (findV (j : Int) L).2 = m.f1 := hvj
          refine Ev.neg e (Ev.pos (by omega) (Ev.pos (by omega) ?_))
          rw [show (⟨(j : Int), (findV (j : Int) L).2⟩ : S60) = asM m by unfold asM; rw [hm, hvj']]
          exact ih
      · refine skip ?_ (okL_cons.mpr ⟨h1, by omega, h3⟩)
        rw [find_none (fun x hx => by
          rcases List.mem_cons.mp hx with rfl | hx
          · exact hm
          · have := okL_gt h3 x hx; omega)]
theorem refjoin_is (n : Int) (l : List S59) (id inc : Int) (hl : l.length ≤ 1000000000) : Ev (fun k => haywainref11_Join.f k n (l.map asM) id inc) ((joinM (ownV n l).1 (ownV n l).2 id inc).1, (joinM (ownV n l).1 (ownV n l).2 id inc).2.1.map asM, (joinM (ownV n l).1 (ownV n l).2 id inc).2.2) := by
  unfold haywainref11_Join.f
  have hr := ownV_right n l
  refine Ev.bind (refgood_is n l hl) ?_
  generalize (ownV n l).1 = N at hr ⊢
  generalize (ownV n l).2 = L at hr ⊢
  have hr' := rightV_iff.mp hr
  obtain ⟨r1, r2, r3, r4⟩ := hr'
  have no : fairM id inc ≠ true → Ev (fun k => haywainref11_Join.j0 k id inc true N (L.map asM)) ((joinM N L id inc).1, (joinM N L id inc).2.1.map asM, (joinM N L id inc).2.2) := by
    intro hf
    unfold joinM
    rw [if_neg hf]
    exact Ev.step (fun k => haywainref11_Join.j0.eq_2 _ _ _ _ _ k) (Ev.pos rfl (Ev.some rfl))
  by_cases h1 : id < 1
  · exact Ev.pos h1 (no (fun hf => by have := fairM_iff.mp hf; omega))
  refine Ev.neg h1 ?_
  by_cases h2 : id > 99
  · exact Ev.pos h2 (no (fun hf => by have := fairM_iff.mp hf; omega))
  refine Ev.neg h2 ?_
  by_cases h3 : inc < 1
  · exact Ev.pos h3 (no (fun hf => by have := fairM_iff.mp hf; omega))
  refine Ev.neg h3 ?_
  by_cases h4 : inc > 1099511627776
  · rw [decide_eq_true h4]
    exact no (fun hf => by have := fairM_iff.mp hf; omega)
  rw [decide_eq_false h4]
  have hf : fairM id inc = true := fairM_iff.mpr (by omega)
  have hin : Ev (fun k => haywainref11_Inc.f k N (L.map asM) id) (findV id L).2 := by
    have h := refinc_is N L id (by omega)
    rw [ownV_of hr] at h
    exact h
  unfold joinM
  rw [if_pos hf]
  refine Ev.step (fun k => haywainref11_Join.j0.eq_2 _ _ _ _ _ k) (Ev.neg (by decide) ?_)
  by_cases h5 : N = 1099511627776
  · refine Ev.pos h5 (Ev.some ?_)
    rw [if_pos h5]
  refine Ev.neg h5 (Ev.bind hin ?_)
  rw [if_neg h5]
  by_cases h6 : (findV id L).2 = inc
  · refine Ev.pos h6 (Ev.some ?_)
    rw [if_pos h6]
  refine Ev.neg h6 ?_
  rw [if_neg h6]
  by_cases h7 : (findV id L).2 > inc
  · refine Ev.pos h7 (Ev.some ?_)
    rw [if_pos h7]
  refine Ev.neg h7 ?_
  rw [if_neg h7]
  have go : Ev (fun k => haywainref11_Join.j1 k id inc false N (L.map asM)) (N + 1, (insM ⟨id, inc⟩ (dropM id L)).map asM, 0) := by
    refine Ev.step (fun k => haywainref11_Join.j1.eq_2 _ _ _ _ _ k) (Ev.neg (by decide) ?_)
    rw [w64 (by omega) (by omega)]
    have hok := ins_okL ⟨id, inc⟩ hf (drop_okL (id := id) r4) (by show 0 < id; omega) drop_no
    exact refjoin_loop N L hr id inc (by omega) 99 1 (insM ⟨id, inc⟩ (dropM id L)) [] (by omega) hok (fun a _ => by
      by_cases e : a = id
      · subst e
        have h8 := ins_find_same ⟨a, inc⟩ (l := dropM a L) drop_no
        have h9 : findV a (insM ⟨a, inc⟩ (dropM a L)) = (a, inc) := h8
        rw [if_pos rfl, h9]
      · rw [if_neg e, ins_find_other ⟨id, inc⟩ e, drop_find_other e]) (by simp)
  by_cases h8 : (findV id L).2 = 0
  · refine Ev.pos h8 ?_
    by_cases h9 : L.length = 5
    · rw [if_pos ⟨h8, h9⟩, decide_eq_true (by rw [List.length_map]; omega)]
      exact Ev.step (fun k => haywainref11_Join.j1.eq_2 _ _ _ _ _ k) (Ev.pos rfl (Ev.some rfl))
    · rw [if_neg (fun h => h9 h.2), decide_eq_false (by rw [List.length_map]; omega)]
      exact go
  · refine Ev.neg h8 ?_
    rw [if_neg (fun h => h8 h.1)]
    exact go
theorem refleave_loop (N : Int) (L : List S59) (id : Int) (hl : L.length ≤ 1000000000) : ∀ (t : List S59) (i : Nat) (acc : List S60), L.drop i = t → acc.length ≤ i →
    Ev (fun k => haywainref11_Leave.l0 k id (i : Int) N (L.map asM) (N + 1) acc) (N + 1, acc ++ (dropM id t).map asM, 0)
  | [], i, acc, h, _ => by
    have hi := drop_end h
    refine Ev.step (fun k => haywainref11_Leave.l0.eq_2 _ _ _ _ _ _ k) ?_
    exact Ev.neg (by rw [List.length_map]; omega) (Ev.some (by simp [dropM]))
  | p :: t, i, acc, h, ha => by
    obtain ⟨hi, hw, ht⟩ := drop_next h
    refine Ev.step (fun k => haywainref11_Leave.l0.eq_2 _ _ _ _ _ _ k) ?_
    refine Ev.pos (by rw [List.length_map]; omega) (Ev.pos (by omega) ?_)
    rw [rd60_map, hw, nat_up hi (by omega)]
    unfold dropM
    by_cases e : (asM p).f0 = id
    · refine Ev.pos e ?_
      rw [List.filter_cons_of_neg (by have e' : p.f0 = id := e; simp [e'])]
      exact refleave_loop N L id hl t (i + 1) acc ht (by omega)
    · refine Ev.neg e (Ev.pos (by omega) ?_)
      rw [List.filter_cons_of_pos (by have e' : ¬ p.f0 = id := e; simp [e'])]
      have ih := refleave_loop N L id hl t (i + 1) (acc ++ [asM p]) ht (by simp only [List.length_append, List.length_cons, List.length_nil]; omega)
      rw [List.append_assoc] at ih
      exact ih
theorem refleave_is (n : Int) (l : List S59) (id : Int) (hl : l.length ≤ 1000000000) : Ev (fun k => haywainref11_Leave.f k n (l.map asM) id) ((leaveM (ownV n l).1 (ownV n l).2 id).1, (leaveM (ownV n l).1 (ownV n l).2 id).2.1.map asM, (leaveM (ownV n l).1 (ownV n l).2 id).2.2) := by
  unfold haywainref11_Leave.f leaveM
  have hr := ownV_right n l
  refine Ev.bind (refgood_is n l hl) ?_
  generalize (ownV n l).1 = N at hr ⊢
  generalize (ownV n l).2 = L at hr ⊢
  obtain ⟨r1, r2, r3, r4⟩ := rightV_iff.mp hr
  have hin : Ev (fun k => haywainref11_Inc.f k N (L.map asM) id) (findV id L).2 := by
    have h := refinc_is N L id (by omega)
    rw [ownV_of hr] at h
    exact h
  refine Ev.bind hin ?_
  by_cases h1 : (findV id L).2 = 0
  · refine Ev.pos h1 (Ev.some ?_)
    rw [if_pos h1]
  refine Ev.neg h1 ?_
  rw [if_neg h1]
  by_cases h2 : N = 1099511627776
  · refine Ev.pos h2 (Ev.some ?_)
    rw [if_pos h2]
  refine Ev.neg h2 ?_
  rw [if_neg h2, w64 (by omega) (by omega)]
  exact refleave_loop N L id (by omega) L 0 [] rfl (by simp)

/-! ### views alike -/
theorem vsame_loop (n m : Int) (a : List S60) (hl : a.length ≤ 4000000000000) : ∀ (d i : Nat), i + d = a.length → Ev (fun k => haywainref11_Same.l0 k (i : Int) n a m a) true
  | 0, i, h => by
    refine Ev.step (fun k => haywainref11_Same.l0.eq_2 _ _ _ _ _ k) ?_
    exact Ev.neg (by omega) (Ev.some rfl)
  | d + 1, i, h => by
    refine Ev.step (fun k => haywainref11_Same.l0.eq_2 _ _ _ _ _ k) ?_
    refine Ev.pos (by omega) (Ev.pos (by omega) (Ev.pos (by omega) (Ev.neg (by simp) ?_)))
    rw [nat_up (n := a.length) (by omega) hl]
    exact vsame_loop n m a hl d (i + 1) (by omega)
theorem vsame {n m : Int} {a b : List S60} (h : n = m) (e : a = b) (hl : a.length ≤ 4000000000000) : Ev (fun k => haywainref11_Same.f k n a m b) true := by
  subst h e
  unfold haywainref11_Same.f
  rw [show ((a.length : Int) != (a.length : Int)) = false by simp]
  exact Ev.pos rfl (Ev.step (fun k => haywainref11_Same.j0.eq_2 _ _ _ _ _ k) (Ev.neg (by decide) (vsame_loop n n a hl a.length 0 (by omega))))

/-! ### the law -/
theorem plays_next (l : List S46) (i : Nat) (hi : i < 40) (e : Int) (N : Int) (L : List S59) (hL : L.length ≤ 1000) (ih : Ev (fun k => haywainlaw11_ViewPlays.l0 k l ((i + 1 : Nat) : Int) N L N (L.map asM)) true) :
    Ev (fun k => haywainlaw11_ViewPlays.j2 k l (i : Int) e e N L N (L.map asM)) true := by
  refine Ev.step (fun k => haywainlaw11_ViewPlays.j2.eq_2 _ _ _ _ _ _ _ _ k) (Ev.pos rfl ?_)
  refine Ev.bind (as_is N L (by omega)) (Ev.bind (vsame rfl rfl (by rw [List.length_map]; omega)) (Ev.pos rfl ?_))
  rw [nat_up (n := 40) hi (by omega)]
  exact ih
theorem plays_loop (l : List S46) : ∀ (d i : Nat) (n : Int) (L : List S59), i + d = 41 → L.length ≤ 1000 → Ev (fun k => haywainlaw11_ViewPlays.l0 k l (i : Int) n L n (L.map asM)) true
  | 0, i, n, L, h, hL => by
    have no : Ev (fun k => haywainlaw11_ViewPlays.j1 k l (i : Int) false n L n (L.map asM)) true := Ev.step (fun k => haywainlaw11_ViewPlays.j1.eq_2 _ _ _ _ _ _ _ k) (Ev.neg (by decide) knows_so)
    refine Ev.step (fun k => haywainlaw11_ViewPlays.l0.eq_2 _ _ _ _ _ _ k) ?_
    by_cases h1 : (i : Int) < (l.length : Int)
    · refine Ev.pos h1 ?_
      rw [decide_eq_false (by omega)]; exact no
    · exact Ev.neg h1 no
  | d + 1, i, n, L, h, hL => by
    have no : Ev (fun k => haywainlaw11_ViewPlays.j1 k l (i : Int) false n L n (L.map asM)) true := Ev.step (fun k => haywainlaw11_ViewPlays.j1.eq_2 _ _ _ _ _ _ _ k) (Ev.neg (by decide) knows_so)
    refine Ev.step (fun k => haywainlaw11_ViewPlays.l0.eq_2 _ _ _ _ _ _ k) ?_
    by_cases h1 : (i : Int) < (l.length : Int)
    · refine Ev.pos h1 ?_
      by_cases h2 : (i : Int) < 40
      · rw [decide_eq_true h2]
        refine Ev.step (fun k => haywainlaw11_ViewPlays.j1.eq_2 _ _ _ _ _ _ _ k) (Ev.pos rfl (Ev.pos (by omega) (Ev.pos h1 ?_)))
        generalize rd_T46 l (i : Int) = a
        have hr2 := do_right (a := a) (ownV_right n L)
        have hl2 := (rightV_iff.mp hr2).2.2.1
        have ih := plays_loop l d (i + 1) (doM (ownV n L).1 (ownV n L).2 a).1 (doM (ownV n L).1 (ownV n L).2 a).2.1 (by omega) (by omega)
        have next := plays_next l i (by omega) (doM (ownV n L).1 (ownV n L).2 a).2.2 _ _ (by omega) ih
        refine Ev.bind (do_is n L a (by omega)) ?_
        by_cases h3 : a.f0 = 0
        · refine Ev.pos h3 (Ev.bind (refjoin_is n L a.f1 a.f2 (by omega)) ?_)
          have e : doM (ownV n L).1 (ownV n L).2 a = joinM (ownV n L).1 (ownV n L).2 a.f1 a.f2 := if_pos h3
          rw [e] at next ⊢
          exact next
        · refine Ev.neg h3 (Ev.bind (refleave_is n L a.f1 (by omega)) ?_)
          have e : doM (ownV n L).1 (ownV n L).2 a = leaveM (ownV n L).1 (ownV n L).2 a.f1 := if_neg h3
          rw [e] at next ⊢
          exact next
      · rw [decide_eq_false h2]; exact no
    · exact Ev.neg h1 no
theorem ViewPlays : haywainlaw11_ViewPlays.Pure := by
  intro n L l _ _ _
  refine Ev.rounds ?_
  unfold haywainlaw11_ViewPlays.f
  refine Ev.bind0 (great_is n L) ?_
  by_cases h1 : decide ((L.length : Int) > 50) = true
  · exact Ev.pos h1 knows_so
  refine Ev.neg h1 ?_
  simp only [decide_eq_true_eq] at h1
  refine Ev.bind (as_is n L (by omega)) (Ev.bind (right_is n L (by omega)) (Ev.bind (refright_is n L (by omega)) (Ev.neg (by simp) ?_)))
  exact plays_loop l 41 0 n L (by omega) (by omega)

end Go.Proofs.Ytgfaejkgkhdihaa.Pure
