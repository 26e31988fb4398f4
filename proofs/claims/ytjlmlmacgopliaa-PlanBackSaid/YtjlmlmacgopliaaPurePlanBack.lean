/- Moves that were told make the other owners, name each partition once at most, and none that stays. No condition but the row's own (up to 50 owners are looked at). -/
import Derived.Test.YtjlmlmacgopliaaPPlanx16
namespace Go.Proofs.Ytjlmlmacgopliaa.Pure
open Go.RowKit Go.Proofs.Ytjlmlmacgopliaa.PPlan Go.Proofs.YtjlmlmacgopliaaW.PrintWords Go.Proofs.YtjlmlmacgopliaaW.PrintLast

/-! ### rounds: a function with enough rounds -/
theorem Ev.pos {α : Type} {c : Prop} [Decidable c] {f g : Nat → Option α} {r : α} (h : c) (k : Ev f r) : Ev (fun n => if c then f n else g n) r := by
  obtain ⟨K, k⟩ := k
  exact ⟨K, fun n hn => by simp only [if_pos h]; exact k n hn⟩
theorem Ev.neg {α : Type} {c : Prop} [Decidable c] {f g : Nat → Option α} {r : α} (h : ¬ c) (k : Ev g r) : Ev (fun n => if c then f n else g n) r := by
  obtain ⟨K, k⟩ := k
  exact ⟨K, fun n hn => by simp only [if_neg h]; exact k n hn⟩
theorem Ev.bind0 {α β : Type} {o : Option α} {f : Nat → α → Option β} {a : α} {r : β} (h : o = some a) (k : Ev (fun n => f n a) r) : Ev (fun n => o.bind (f n)) r := by
  subst h; exact k
theorem Ev.some {α : Type} {a r : α} (h : a = r) : Ev (fun _ => Option.some a) r := h ▸ Ev.now a

/-! ### numbers -/
theorem wf_u64 {a : Int} (hw : (Lit.int .u64 a).wf = true) : 0 ≤ a ∧ a < 18446744073709551616 := by
  simp only [Lit.wf, Bool.and_eq_true, decide_eq_true_eq] at hw
  have e0 : IntKind.u64.min = 0 := by decide
  have e1 : IntKind.u64.max = 18446744073709551615 := by decide
  rw [e0, e1] at hw
  omega
theorem wf_i64 {a : Int} (hw : (Lit.int .i64 a).wf = true) : -9223372036854775808 ≤ a ∧ a ≤ 9223372036854775807 := by
  simp only [Lit.wf, Bool.and_eq_true, decide_eq_true_eq] at hw
  have e0 : IntKind.i64.min = -9223372036854775808 := by decide
  have e1 : IntKind.i64.max = 9223372036854775807 := by decide
  rw [e0, e1] at hw
  omega
theorem w64 {n : Int} (h0 : -9223372036854775808 ≤ n) (h1 : n ≤ 9223372036854775807) : wrap64 n = n := by
  unfold wrap64
  omega
theorem knows_ok : Ev haywainlaw10_knows.f true := Ev.of haywainlaw10_knows.mono (k := 60) (by decide +kernel)
theorem knows_so : Ev (fun k => (haywainlaw10_knows.f k).bind fun t => some t) true := Ev.bind knows_ok (Ev.some rfl)

/-! ### lists -/
theorem rd_at {l : List Int} {i : Nat} (h : i < l.length) : rd l (i : Int) = l[i] := by
  unfold rd
  rw [Int.toNat_natCast, List.getD_eq_getElem?_getD, List.getElem?_eq_getElem h]
  rfl
theorem drop_end {α : Type} {l : List α} {i : Nat} (h : l.drop i = []) : l.length ≤ i := List.drop_eq_nil_iff.mp h
theorem drop_nextG {α : Type} {l : List α} {i : Nat} {w : α} {t : List α} (h : l.drop i = w :: t) : i < l.length ∧ l[i]? = some w ∧ l.drop (i + 1) = t := by
  have hi : i < l.length := by
    refine Nat.lt_of_not_le fun hn => ?_
    rw [List.drop_eq_nil_iff.mpr hn] at h
    exact absurd h (by simp)
  have h2 := List.drop_eq_getElem_cons hi
  rw [h2] at h
  injection h with ha hb
  exact ⟨hi, by rw [List.getElem?_eq_getElem hi, ha], hb⟩
theorem drop_next {l : List Int} {i : Nat} {w : Int} {t : List Int} (h : l.drop i = w :: t) : i < l.length ∧ rd l (i : Int) = w ∧ l.drop (i + 1) = t := by
  obtain ⟨hi, h2, h3⟩ := drop_nextG h
  refine ⟨hi, ?_, h3⟩
  unfold rd
  rw [Int.toNat_natCast, List.getD_eq_getElem?_getD, h2]
  rfl
theorem nat_up {i n : Nat} (h : i < n) (hn : n ≤ 4000000000000) : wrap64 ((i : Int) + 1) = ((i + 1 : Nat) : Int) := by
  rw [w64 (by omega) (by omega)]; omega

/-! ### owners that may be -/
def okW (w : Int) : Bool := decide (1 ≤ w) && decide (w ≤ 99)
theorem okW_iff {w : Int} : okW w = true ↔ 1 ≤ w ∧ w ≤ 99 := by simp [okW]
def sizeP (l : List Int) : Bool := decide (1 ≤ l.length) && decide (l.length ≤ 6)
def rightP (l : List Int) : Bool := l.all okW && sizeP l
theorem rightP_iff {l : List Int} : rightP l = true ↔ (∀ w ∈ l, 1 ≤ w ∧ w ≤ 99) ∧ 1 ≤ l.length ∧ l.length ≤ 6 := by
  simp [rightP, sizeP, okW, List.all_eq_true]
theorem right_loop (l : List Int) (hl : l.length ≤ 4000000000000) : ∀ (t : List Int) (i : Nat), l.drop i = t → Ev (fun k => plan_Right.l0 k l l (l.length : Int) (i : Int)) (t.all okW && sizeP l)
  | [], i, h => by
    have hi := drop_end h
    refine Ev.step (fun k => plan_Right.l0.eq_2 _ _ _ _ k) ?_
    refine Ev.neg (by omega) ?_
    unfold sizeP
    by_cases e : (l.length : Int) ≥ 1
    · refine Ev.pos e (Ev.some ?_)
      have e2 : decide ((l.length : Int) ≤ 6) = decide (l.length ≤ 6) := decide_eq_decide.mpr (by omega)
      rw [e2, decide_eq_true (by omega : 1 ≤ l.length)]; rfl
    · refine Ev.neg e (Ev.some ?_)
      rw [decide_eq_false (by omega : ¬ 1 ≤ l.length)]; simp
  | w :: t, i, h => by
    obtain ⟨hi, hw, ht⟩ := drop_next h
    refine Ev.step (fun k => plan_Right.l0.eq_2 _ _ _ _ k) ?_
    refine Ev.pos (by omega) (Ev.pos (by omega) (Ev.pos (by omega) ?_))
    rw [hw, nat_up hi hl]
    simp only [List.all_cons, okW]
    by_cases e1 : w < 1
    · refine Ev.pos e1 (Ev.some ?_)
      rw [decide_eq_false (by omega : ¬ 1 ≤ w)]; rfl
    refine Ev.neg e1 ?_
    rw [decide_eq_true (by omega : 1 ≤ w)]
    by_cases e2 : w > 99
    · refine Ev.pos e2 (Ev.some ?_)
      rw [decide_eq_false (by omega : ¬ w ≤ 99)]; rfl
    refine Ev.neg e2 ?_
    rw [decide_eq_true (by omega : w ≤ 99)]
    exact right_loop l hl t (i + 1) ht
theorem right_is (l : List Int) (hl : l.length ≤ 4000000000000) : Ev (fun k => plan_Right.f k l) (rightP l) := right_loop l hl l 0 rfl
theorem great_is (l : List Int) : haywainlaw10_great.f l = some (decide ((l.length : Int) > 50)) := rfl

/-! ### the same, as the document says it -/
theorem id_is (w : Int) : haywainref10_id.f w = some (okW w) := by
  unfold haywainref10_id.f okW
  by_cases e : w > 0
  · rw [if_pos e, decide_eq_true (by omega : 1 ≤ w)]; rfl
  · rw [if_neg e, decide_eq_false (by omega : ¬ 1 ≤ w)]; rfl
theorem refright_loop (l : List Int) (hl : l.length ≤ 4000000000000) : ∀ (t : List Int) (i : Nat) (b : Bool), l.drop i = t → Ev (fun k => haywainref10_Right.l0 k l b (i : Int)) (b && t.all okW)
  | [], i, b, h => by
    have hi := drop_end h
    refine Ev.step (fun k => haywainref10_Right.l0.eq_2 _ _ _ k) ?_
    exact Ev.neg (by omega) (Ev.some (by simp))
  | w :: t, i, b, h => by
    obtain ⟨hi, hw, ht⟩ := drop_next h
    refine Ev.step (fun k => haywainref10_Right.l0.eq_2 _ _ _ k) ?_
    refine Ev.pos (by omega) ?_
    rw [nat_up hi hl]
    cases b with
    | true =>
      refine Ev.pos rfl (Ev.pos (by omega) (Ev.bind0 (by rw [hw]; exact id_is w) ?_))
      have := refright_loop l hl t (i + 1) (okW w) ht
      simpa using this
    | false =>
      refine Ev.neg (by decide) ?_
      have := refright_loop l hl t (i + 1) false ht
      simpa using this
theorem refright_is (l : List Int) (hl : l.length ≤ 4000000000000) : Ev (fun k => haywainref10_Right.f k l) (rightP l) := by
  unfold haywainref10_Right.f rightP sizeP
  have go : ∀ b : Bool, Ev (fun k => haywainref10_Right.j0 k l b) (b && l.all okW) := fun b => Ev.step (fun k => haywainref10_Right.j0.eq_2 _ _ k) (refright_loop l hl l 0 b rfl)
  rw [Bool.and_comm]
  by_cases e : (l.length : Int) > 0
  · refine Ev.pos e ?_
    have e2 : decide ((l.length : Int) ≤ 6) = decide (l.length ≤ 6) := decide_eq_decide.mpr (by omega)
    rw [e2, decide_eq_true (by omega : 1 ≤ l.length), Bool.true_and]
    exact go _
  · refine Ev.neg e ?_
    rw [decide_eq_false (by omega : ¬ 1 ≤ l.length)]
    exact go _

/-! ### lists alike -/
theorem same_loop (a : List Int) (hl : a.length ≤ 4000000000000) : ∀ (d i : Nat), i + d = a.length → Ev (fun k => haywainref09_SameInts.l0 k a a (i : Int)) true
  | 0, i, h => by
    refine Ev.step (fun k => haywainref09_SameInts.l0.eq_2 _ _ _ k) ?_
    exact Ev.neg (by omega) (Ev.some rfl)
  | d + 1, i, h => by
    refine Ev.step (fun k => haywainref09_SameInts.l0.eq_2 _ _ _ k) ?_
    refine Ev.pos (by omega) (Ev.pos (by omega) (Ev.pos (by omega) (Ev.pos rfl ?_)))
    rw [nat_up (n := a.length) (by omega) hl]
    exact same_loop a hl d (i + 1) (by omega)
theorem same_self (a : List Int) (hl : a.length ≤ 4000000000000) : Ev (fun k => haywainref09_SameInts.f k a a) true := by
  unfold haywainref09_SameInts.f
  exact Ev.pos rfl (same_loop a hl a.length 0 (by omega))

/-! ### what goes where -/
def mk35 (m : Int × Int × Int) : S35 := ⟨m.1, m.2.1, m.2.2⟩
theorem rd35 {ms : List (Int × Int × Int)} {i : Nat} {m : Int × Int × Int} (h : ms[i]? = some m) : rd_T35 (ms.map mk35) (i : Int) = mk35 m := by
  unfold rd_T35
  rw [Int.toNat_natCast, List.getD_eq_getElem?_getD, List.getElem?_map, h]
  rfl
def mvs : List Int → List Int → Nat → List (Int × Int × Int)
  | o :: t, f :: s, i => if f = o then mvs t s (i + 1) else ((i : Int), o, f) :: mvs t s (i + 1)
  | _, _, _ => []
theorem moves_loop (o f : List Int) (hl : o.length ≤ 100) (hf : f.length = o.length) : ∀ (t s : List Int) (i : Nat) (out : List S35), o.drop i = t → f.drop i = s → out.length ≤ i →
    Ev (fun k => plan_Moves.l0 k f out o (o.length : Int) (i : Int)) (out ++ (mvs t s i).map mk35, 0)
  | [], s, i, out, h, _, _ => by
    have hi := drop_end h
    refine Ev.step (fun k => plan_Moves.l0.eq_2 _ _ _ _ _ k) ?_
    exact Ev.neg (by omega) (Ev.some (by simp [mvs]))
  | w :: t, [], i, out, h, h', _ => by
    have h1 := (drop_next h).1
    have h2 := drop_end h'
    omega
  | w :: t, v :: s, i, out, h, h', ho => by
    obtain ⟨hi, hw, ht⟩ := drop_next h
    obtain ⟨hi', hv, hs⟩ := drop_next h'
    refine Ev.step (fun k => plan_Moves.l0.eq_2 _ _ _ _ _ k) ?_
    refine Ev.pos (by omega) (Ev.pos (by omega) (Ev.pos (by omega) (Ev.pos (by omega) ?_)))
    rw [hw, hv, nat_up hi (by omega)]
    by_cases e : v = w
    · refine Ev.pos e ?_
      simp only [mvs, if_pos e]
      exact moves_loop o f hl hf t s (i + 1) out ht hs (by omega)
    · refine Ev.neg e (Ev.pos (by omega) ?_)
      simp only [mvs, if_neg e]
      have := moves_loop o f hl hf t s (i + 1) (out ++ [⟨(i : Int), w, v⟩]) ht hs (by simp; omega)
      rw [List.append_assoc] at this
      exact this
def movesM (o f : List Int) : List (Int × Int × Int) × Int := if rightP o = true ∧ rightP f = true ∧ o.length = f.length then (mvs o f 0, 0) else ([], 1)
theorem moves_is (o f : List Int) (ho : o.length ≤ 100) (hf : f.length ≤ 100) : Ev (fun k => plan_Moves.f k o f) ((movesM o f).1.map mk35, (movesM o f).2) := by
  unfold plan_Moves.f
  have no : ¬ (rightP o = true ∧ rightP f = true ∧ o.length = f.length) → Ev (fun k => plan_Moves.j0 k o f true) ((movesM o f).1.map mk35, (movesM o f).2) := by
    intro h
    unfold movesM
    rw [if_neg h]
    exact Ev.step (fun k => plan_Moves.j0.eq_2 _ _ _ k) (Ev.pos rfl (Ev.some rfl))
  refine Ev.bind (right_is o (by omega)) ?_
  by_cases h1 : rightP o = true
  · refine Ev.pos h1 (Ev.bind (right_is f (by omega)) ?_)
    by_cases h2 : rightP f = true
    · refine Ev.pos h2 ?_
      by_cases h3 : o.length = f.length
      · unfold movesM
        rw [if_pos ⟨h1, h2, h3⟩]
        have e : ((o.length : Int) != (f.length : Int)) = false := by rw [h3]; simp
        simp only [e]
        refine Ev.step (fun k => plan_Moves.j0.eq_2 _ _ _ k) (Ev.neg (by decide) ?_)
        exact moves_loop o f ho h3.symm o f 0 [] rfl rfl (by simp)
      · have e : ((o.length : Int) != (f.length : Int)) = true := by simp; omega
        simp only [e]
        exact no (fun h => h3 h.2.2)
    · exact Ev.neg h2 (no (fun h => h2 h.2.1))
  · exact Ev.neg h1 (no (fun h => h1 h.1))
theorem mvs_len : ∀ (o f : List Int) (i : Nat), (mvs o f i).length ≤ o.length
  | [], _, _ => by simp [mvs]
  | _ :: _, [], _ => by simp [mvs]
  | o :: t, f :: s, i => by
    have := mvs_len t s (i + 1)
    simp only [mvs]
    split
    · simp only [List.length_cons]; omega
    · simp only [List.length_cons]; omega
theorem movesM_len (o f : List Int) : (movesM o f).1.length ≤ o.length := by
  unfold movesM
  split
  · exact mvs_len o f 0
  · simp

/-! ### owners behind moves -/
def applyM : List (Int × Int × Int) → List Int → List Int × Int
  | [], out => (out, 0)
  | (p, fr, tw) :: t, out => if p < 0 ∨ p ≥ out.length then ([], 4) else if rd out p = fr then (if okW tw = true then applyM t (out.set p.toNat tw) else ([], 1)) else ([], 6)
theorem apply_loop (ms : List (Int × Int × Int)) (hm : ms.length ≤ 1000) : ∀ (t : List (Int × Int × Int)) (i : Nat) (out : List Int), ms.drop i = t → Ev (fun k => plan_Apply.l0 k out (ms.map mk35) ((ms.map mk35).length : Int) (i : Int)) (applyM t out)
  | [], i, out, h => by
    have hi := drop_end h
    refine Ev.step (fun k => plan_Apply.l0.eq_2 _ _ _ _ k) ?_
    exact Ev.neg (by rw [List.length_map]; omega) (Ev.some rfl)
  | (p, fr, tw) :: t, i, out, h => by
    obtain ⟨hi, hw, ht⟩ := drop_nextG h
    refine Ev.step (fun k => plan_Apply.l0.eq_2 _ _ _ _ k) ?_
    refine Ev.pos (by rw [List.length_map]; omega) (Ev.pos (by omega) (Ev.pos (by rw [List.length_map]; omega) ?_))
    rw [rd35 hw]
    simp only [applyM]
    by_cases h1 : p < 0
    · rw [if_pos (Or.inl h1)]
      exact Ev.pos h1 (Ev.step (fun k => plan_Apply.j1.eq_2 _ _ _ _ _ _ _ _ k) (Ev.pos rfl (Ev.some rfl)))
    refine Ev.neg h1 ?_
    by_cases h2 : (mk35 (p, fr, tw)).f0 ≥ (out.length : Int)
    · rw [if_pos (show p < 0 ∨ p ≥ (out.length : Int) from Or.inr h2), decide_eq_true h2]
      exact Ev.step (fun k => plan_Apply.j1.eq_2 _ _ _ _ _ _ _ _ k) (Ev.pos rfl (Ev.some rfl))
    have h2' : ¬ p ≥ (out.length : Int) := h2
    have h3' : ¬ (mk35 (p, fr, tw)).f0 < 0 := h1
    rw [if_neg (by omega), decide_eq_false h2]
    refine Ev.step (fun k => plan_Apply.j1.eq_2 _ _ _ _ _ _ _ _ k) (Ev.neg (by decide) (Ev.pos (by omega) (Ev.pos (by omega) ?_)))
    by_cases h3 : rd out p = fr
    · refine Ev.pos h3 ?_
      rw [if_pos h3]
      by_cases h4 : tw < 1
      · rw [if_neg (by rw [okW_iff]; omega)]
        exact Ev.pos h4 (Ev.some rfl)
      refine Ev.neg h4 ?_
      by_cases h5 : tw > 99
      · rw [if_neg (by rw [okW_iff]; omega)]
        exact Ev.pos h5 (Ev.some rfl)
      refine Ev.neg h5 ?_
      rw [if_pos (by rw [okW_iff]; omega), nat_up hi (by omega)]
      exact apply_loop ms hm t (i + 1) (out.set p.toNat tw) ht
    · rw [if_neg h3]
      exact Ev.neg h3 (Ev.some rfl)
def applyR (o : List Int) (ms : List (Int × Int × Int)) : List Int × Int := if rightP o = true then applyM ms o else ([], 1)
theorem apply_is (o : List Int) (ms : List (Int × Int × Int)) (ho : o.length ≤ 1000) (hm : ms.length ≤ 1000) : Ev (fun k => plan_Apply.f k o (ms.map mk35)) (applyR o ms) := by
  unfold plan_Apply.f applyR
  refine Ev.bind (right_is o (by omega)) ?_
  by_cases h : rightP o = true
  · rw [if_pos h]
    exact Ev.pos h (Ev.bind0 rfl (Ev.pos (by simp; omega) (apply_loop ms hm ms 0 o rfl)))
  · rw [if_neg h]
    exact Ev.neg h (Ev.some rfl)

theorem mvs_mem {o f : List Int} : ∀ {t s : List Int} {i : Nat}, ∀ m ∈ mvs t s i, (i : Int) ≤ m.1 ∧ m.2.1 ≠ m.2.2
  | [], _, _, m, h => by simp [mvs] at h
  | _ :: _, [], _, m, h => by simp [mvs] at h
  | w :: t, v :: s, i, m, h => by
    simp only [mvs] at h
    by_cases e : v = w
    · rw [if_pos e] at h
      have := mvs_mem (o := o) (f := f) (t := t) (s := s) (i := i + 1) m h
      exact ⟨by omega, this.2⟩
    · rw [if_neg e] at h
      rcases List.mem_cons.mp h with q | q
      · subst q; exact ⟨Int.le_refl _, Ne.symm e⟩
      · have := mvs_mem (o := o) (f := f) (t := t) (s := s) (i := i + 1) m q
        exact ⟨by omega, this.2⟩
theorem mvs_up : ∀ {t s : List Int} {i : Nat}, (mvs t s i).Pairwise (fun a b => a.1 < b.1)
  | [], _, _ => by simp [mvs]
  | _ :: _, [], _ => by simp [mvs]
  | w :: t, v :: s, i => by
    simp only [mvs]
    by_cases e : v = w
    · rw [if_pos e]; exact mvs_up
    · rw [if_neg e]
      refine List.Pairwise.cons (fun m hm => ?_) mvs_up
      have := mvs_mem (o := []) (f := []) m hm
      show (i : Int) < m.1
      omega
theorem back_loop {o f : List Int} {ms : List (Int × Int × Int)} (hm : ms.length ≤ 1000) (hne : ∀ m ∈ ms, m.2.1 ≠ m.2.2) (hup : ms.Pairwise (fun a b => a.1 < b.1))
    (ha : Ev (fun k => plan_Apply.f k o (ms.map mk35)) (f, 0)) (hf : f.length ≤ 1000) : ∀ (t : List (Int × Int × Int)) (i : Nat), ms.drop i = t →
    Ev (fun k => haywainlaw10_PlanBack.l0 k o f (ms.map mk35) (i : Int)) true
  | [], i, h => by
    have hi := drop_end h
    refine Ev.step (fun k => haywainlaw10_PlanBack.l0.eq_2 _ _ _ _ k) ?_
    refine Ev.neg (by rw [List.length_map]; omega) (Ev.bind ha (Ev.pos rfl ?_))
    exact Ev.bind (same_self f (by omega)) (Ev.pos rfl knows_so)
  | m :: t, i, h => by
    obtain ⟨hi, hw, ht⟩ := drop_nextG h
    refine Ev.step (fun k => haywainlaw10_PlanBack.l0.eq_2 _ _ _ _ k) ?_
    refine Ev.pos (by rw [List.length_map]; omega) (Ev.pos (by omega) ?_)
    rw [rd35 hw]
    have hmm : m ∈ ms := List.mem_of_getElem? hw
    refine Ev.neg (hne m hmm) ?_
    have next : Ev (fun k => haywainlaw10_PlanBack.l0 k o f (ms.map mk35) (wrap64 ((i : Int) + 1))) true := by
      rw [nat_up hi (by omega)]
      exact back_loop hm hne hup ha hf t (i + 1) ht
    by_cases h0 : 0 < i
    · have e1 : wrap64 ((i : Int) - 1) = ((i - 1 : Nat) : Int) := by rw [w64 (by omega) (by omega)]; omega
      refine Ev.pos (by omega) (Ev.pos (by omega) (Ev.pos (by rw [List.length_map]; omega) ?_))
      have hj : ms[i - 1]? = some ms[i - 1] := List.getElem?_eq_getElem (by omega)
      rw [e1, rd35 hj]
      refine Ev.neg ?_ next
      have := List.pairwise_iff_getElem.mp hup (i - 1) i (by omega) hi (by omega)
      rw [List.getElem?_eq_getElem hi] at hw
      rw [Option.some.inj hw] at this
      show ¬ (ms[i - 1]).1 ≥ m.1
      omega
    · exact Ev.neg (by omega) next
theorem apply_mvs {o f : List Int} (hlen : f.length = o.length) (hf : ∀ w ∈ f, 1 ≤ w ∧ w ≤ 99) : ∀ (t s : List Int) (i : Nat) (out : List Int), o.drop i = t → f.drop i = s → out.length = o.length → out.drop i = t → out.take i = f.take i → applyM (mvs t s i) out = (f, 0)
  | [], s, i, out, h, h', hl, _, ht => by
    have hi := drop_end h
    simp only [mvs, applyM]
    rw [List.take_of_length_le (by omega), List.take_of_length_le (by omega)] at ht
    rw [ht]
  | w :: t, [], i, out, h, h', _, _, _ => by
    have h1 := (drop_next h).1
    have h2 := drop_end h'
    omega
  | w :: t, v :: s, i, out, h, h', hl, hd, ht => by
    obtain ⟨hi, _, ht1⟩ := drop_next h
    obtain ⟨hi', hv, hs1⟩ := drop_nextG h'
    obtain ⟨hi2, hw, ht2⟩ := drop_next hd
    obtain ⟨_, hw2, _⟩ := drop_nextG hd
    simp only [mvs]
    by_cases e : v = w
    · rw [if_pos e]
      refine apply_mvs hlen hf t s (i + 1) out ht1 hs1 hl ht2 ?_
      rw [List.take_add_one, List.take_add_one, ht, hv, hw2, e]
    · rw [if_neg e]
      have hvm := hf v (List.mem_of_getElem? hv)
      simp only [applyM]
      rw [if_neg (by omega), if_pos hw, if_pos (okW_iff.mpr hvm), Int.toNat_natCast]
      refine apply_mvs hlen hf t s (i + 1) (out.set i v) ht1 hs1 (by rw [List.length_set]; exact hl) ?_ ?_
      · rw [List.drop_set_of_lt (by omega)]; exact ht2
      · rw [List.take_add_one, List.take_add_one, List.take_set_of_le (by omega), ht, hv, List.getElem?_set_self (by omega)]
theorem PlanBack : haywainlaw10_PlanBack.Pure := by
  intro o f _ _ _ _ _ _
  refine Ev.rounds ?_
  unfold haywainlaw10_PlanBack.f
  have yes : Ev (fun k => haywainlaw10_PlanBack.j0 k o f true) true := Ev.step (fun k => haywainlaw10_PlanBack.j0.eq_2 _ _ _ k) (Ev.pos rfl knows_so)
  refine Ev.bind0 (great_is o) ?_
  by_cases h1 : decide ((o.length : Int) > 50) = true
  · exact Ev.pos h1 yes
  refine Ev.neg h1 (Ev.bind0 (great_is f) ?_)
  by_cases h2 : decide ((f.length : Int) > 50) = true
  · simp only [h2]; exact yes
  simp only [eq_false_of_ne_true h2]
  simp only [decide_eq_true_eq] at h1 h2
  refine Ev.step (fun k => haywainlaw10_PlanBack.j0.eq_2 _ _ _ k) (Ev.neg (by decide) ?_)
  refine Ev.bind (moves_is o f (by omega) (by omega)) ?_
  by_cases hr : rightP o = true ∧ rightP f = true ∧ o.length = f.length
  · have em : movesM o f = (mvs o f 0, 0) := by unfold movesM; rw [if_pos hr]
    rw [em]
    refine Ev.pos rfl ?_
    have hlen := mvs_len o f 0
    have hfr := (rightP_iff.mp hr.2.1).1
    have ha := apply_is o (mvs o f 0) (by omega) (by omega)
    have e2 : applyR o (mvs o f 0) = (f, 0) := by
      unfold applyR
      rw [if_pos hr.1]
      exact apply_mvs hr.2.2.symm hfr o f 0 o rfl rfl rfl rfl rfl
    rw [e2] at ha
    exact back_loop (by omega) (fun m hm => (mvs_mem (o := []) (f := []) m hm).2) mvs_up ha (by omega) (mvs o f 0) 0 rfl
  · have em : movesM o f = ([], 1) := by unfold movesM; rw [if_neg hr]
    rw [em]
    refine Ev.neg (by decide) (Ev.bind (refright_is o (by omega)) ?_)
    by_cases r1 : rightP o = true
    · refine Ev.pos r1 (Ev.bind (refright_is f (by omega)) ?_)
      by_cases r2 : rightP f = true
      · exact Ev.pos r2 (Ev.neg (fun he => hr ⟨r1, r2, by omega⟩) knows_so)
      · exact Ev.neg r2 knows_so
    · exact Ev.neg r1 knows_so

end Go.Proofs.Ytjlmlmacgopliaa.Pure
