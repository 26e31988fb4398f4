/- What goes where is told as the document says, for all owners. No condition but the row's own (up to 50 owners are looked at). -/
import Derived.Test.YtjlmlmacgopliaaPPlanx12
namespace Go.Proofs.Ytjlmlmacgopliaa.Pure
open Go.RowKit Go.Proofs.Ytjlmlmacgopliaa.PPlan Go.Proofs.YtjlmlmacgopliaaW.PrintWords Go.Proofs.YtjlmlmacgopliaaW.PrintLast

/-! ### rounds: a function with enough rounds -/
theorem Ev.pos {α : Type} {c : Prop} [Decidable c] {f g : Nat → Option α} {r : α} (h : c) (k : Ev f r) : Ev (fun n => if c then f n else g n) r := by
  obtain ⟨K, k⟩ := k
  exact ⟨K, fun n hn => by simp only [if_pos h]; exact k n hn⟩
theorem Ev.neg {α : Type} {c : Prop} [Decidable c] {f g : Nat → Option α} {r : α} (h : ¬ c) (k : Ev g r) : Ev (fun n => if c then f n else g n) r := by
  obtain ⟨K, k⟩ := k
  exact ⟨K, fun n hn => by simp only [if_neg h]; exact k n hn⟩
theorem Ev.bind0 {α β : Type} {o : Option α} {f : Nat → α → Option β} {a : α} {r : β} (h : o = some a) (k : Ev (fun n => f n a) r) : Ev (fun n => o.bind (f n)) r := by
  subst h; exact k
theorem Ev.some {α : Type} {a r : α} (h : a = r) : Ev (fun _ => Option.some a) r := h ▸ Ev.now a

/-! ### numbers -/
theorem wf_u64 {a : Int} (hw : (Lit.int .u64 a).wf = true) : 0 ≤ a ∧ a < 18446744073709551616 := by
  simp only [Lit.wf, Bool.and_eq_true, decide_eq_true_eq] at hw
  have e0 : IntKind.u64.min = 0 := by decide
  have e1 : IntKind.u64.max = 18446744073709551615 := by decide
  rw [e0, e1] at hw
  omega
theorem wf_i64 {a : Int} (hw : (Lit.int .i64 a).wf = true) : -9223372036854775808 ≤ a ∧ a ≤ 9223372036854775807 := by
  simp only [Lit.wf, Bool.and_eq_true, decide_eq_true_eq] at hw
  have e0 : IntKind.i64.min = -9223372036854775808 := by decide
  have e1 : IntKind.i64.max = 9223372036854775807 := by decide
  rw [e0, e1] at hw
  omega
theorem w64 {n : Int} (h0 : -9223372036854775808 ≤ n) (h1 : n ≤ 9223372036854775807) : wrap64 n = n := by
  unfold wrap64
  omega
theorem knows_ok : Ev haywainlaw10_knows.f true := Ev.of haywainlaw10_knows.mono (k := 60) (by decide +kernel)
theorem knows_so : Ev (fun k => (haywainlaw10_knows.f k).bind fun t => some t) true := Ev.bind knows_ok (Ev.some rfl)

/-! ### lists -/
theorem rd_at {l : List Int} {i : Nat} (h : i < l.length) : rd l (i : Int) = l[i] := by
  unfold rd
  rw [Int.toNat_natCast, List.getD_eq_getElem?_getD, List.getElem?_eq_getElem h]
  rfl
theorem drop_end {α : Type} {l : List α} {i : Nat} (h : l.drop i = []) : l.length ≤ i := List.drop_eq_nil_iff.mp h
theorem drop_nextG {α : Type} {l : List α} {i : Nat} {w : α} {t : List α} (h : l.drop i = w :: t) : i < l.length ∧ l[i]? = some w ∧ l.drop (i + 1) = t := by
  have hi : i < l.length := by
    refine Nat.lt_of_not_le fun hn => ?_
    rw [List.drop_eq_nil_iff.mpr hn] at h
    exact absurd h (by simp)
  have h2 := List.drop_eq_getElem_cons hi
  rw [h2] at h
  injection h with ha hb
  exact ⟨hi, by rw [List.getElem?_eq_getElem hi, ha], hb⟩
theorem drop_next {l : List Int} {i : Nat} {w : Int} {t : List Int} (h : l.drop i = w :: t) : i < l.length ∧ rd l (i : Int) = w ∧ l.drop (i + 1) = t := by
  obtain ⟨hi, h2, h3⟩ := drop_nextG h
  refine ⟨hi, ?_, h3⟩
  unfold rd
  rw [Int.toNat_natCast, List.getD_eq_getElem?_getD, h2]
  rfl
theorem nat_up {i n : Nat} (h : i < n) (hn : n ≤ 4000000000000) : wrap64 ((i : Int) + 1) = ((i + 1 : Nat) : Int) := by
  rw [w64 (by omega) (by omega)]; omega

/-! ### owners that may be -/
def okW (w : Int) : Bool := decide (1 ≤ w) && decide (w ≤ 99)
theorem okW_iff {w : Int} : okW w = true ↔ 1 ≤ w ∧ w ≤ 99 := by simp [okW]
def sizeP (l : List Int) : Bool := decide (1 ≤ l.length) && decide (l.length ≤ 6)
def rightP (l : List Int) : Bool := l.all okW && sizeP l
theorem rightP_iff {l : List Int} : rightP l = true ↔ (∀ w ∈ l, 1 ≤ w ∧ w ≤ 99) ∧ 1 ≤ l.length ∧ l.length ≤ 6 := by
  simp [rightP, sizeP, okW, List.all_eq_true]
theorem right_loop (l : List Int) (hl : l.length ≤ 4000000000000) : ∀ (t : List Int) (i : Nat), l.drop i = t → Ev (fun k => plan_Right.l0 k l l (l.length : Int) (i : Int)) (t.all okW && sizeP l)
  | [], i, h => by
    have hi := drop_end h
    refine Ev.step (fun k => plan_Right.l0.eq_2 _ _ _ _ k) ?_
    refine Ev.neg (by omega) ?_
    unfold sizeP
    by_cases e : (l.length : Int) ≥ 1
    · refine Ev.pos e (Ev.some ?_)
      have e2 : decide ((l.length : Int) ≤ 6) = decide (l.length ≤ 6) := decide_eq_decide.mpr (by omega)
      rw [e2, decide_eq_true (by omega : 1 ≤ l.length)]; rfl
    · refine Ev.neg e (Ev.some ?_)
      rw [decide_eq_false (by omega : ¬ 1 ≤ l.length)]; simp
  | w :: t, i, h => by
    obtain ⟨hi, hw, ht⟩ := drop_next h
    refine Ev.step (fun k => plan_Right.l0.eq_2 _ _ _ _ k) ?_
    refine Ev.pos (by omega) (Ev.pos (by omega) (Ev.pos (by omega) ?_))
    rw [hw, nat_up hi hl]
    simp only [List.all_cons, okW]
    by_cases e1 : w < 1
    · refine Ev.pos e1 (Ev.some ?_)
      rw [decide_eq_false (by omega : ¬ 1 ≤ w)]; rfl
    refine Ev.neg e1 ?_
    rw [decide_eq_true (by omega : 1 ≤ w)]
    by_cases e2 : w > 99
    · refine Ev.pos e2 (Ev.some ?_)
      rw [decide_eq_false (by omega : ¬ w ≤ 99)]; rfl
    refine Ev.neg e2 ?_
    rw [decide_eq_true (by omega : w ≤ 99)]
    exact right_loop l hl t (i + 1) ht
theorem right_is (l : List Int) (hl : l.length ≤ 4000000000000) : Ev (fun k => plan_Right.f k l) (rightP l) := right_loop l hl l 0 rfl
theorem great_is (l : List Int) : haywainlaw10_great.f l = some (decide ((l.length : Int) > 50)) := rfl

/-! ### the same, as the document says it -/
theorem id_is (w : Int) : haywainref10_id.f w = some (okW w) := by
  unfold haywainref10_id.f okW
  by_cases e : w > 0
  · rw [if_pos e, decide_eq_true (by omega : 1 ≤ w)]; rfl
  · rw [if_neg e, decide_eq_false (by omega : ¬ 1 ≤ w)]; rfl
theorem refright_loop (l : List Int) (hl : l.length ≤ 4000000000000) : ∀ (t : List Int) (i : Nat) (b : Bool), l.drop i = t → Ev (fun k => haywainref10_Right.l0 k l b (i : Int)) (b && t.all okW)
  | [], i, b, h => by
    have hi := drop_end h
    refine Ev.step (fun k => haywainref10_Right.l0.eq_2 _ _ _ k) ?_
    exact Ev.neg (by omega) (Ev.some (by simp))
  | w :: t, i, b, h => by
    obtain ⟨hi, hw, ht⟩ := drop_next h
    refine Ev.step (fun k => haywainref10_Right.l0.eq_2 _ _ _ k) ?_
    refine Ev.pos (by omega) ?_
    rw [nat_up hi hl]
    cases b with
    | true =>
      refine Ev.pos rfl (Ev.pos (by omega) (Ev.bind0 (by rw [hw]; exact id_is w) ?_))
      have := refright_loop l hl t (i + 1) (okW w) ht
      simpa using this
    | false =>
      refine Ev.neg (by decide) ?_
      have := refright_loop l hl t (i + 1) false ht
      simpa using this
theorem refright_is (l : List Int) (hl : l.length ≤ 4000000000000) : Ev (fun k => haywainref10_Right.f k l) (rightP l) := by
  unfold haywainref10_Right.f rightP sizeP
  have go : ∀ b : Bool, Ev (fun k => haywainref10_Right.j0 k l b) (b && l.all okW) := fun b => Ev.step (fun k => haywainref10_Right.j0.eq_2 _ _ k) (refright_loop l hl l 0 b rfl)
  rw [Bool.and_comm]
  by_cases e : (l.length : Int) > 0
  · refine Ev.pos e ?_
    have e2 : decide ((l.length : Int) ≤ 6) = decide (l.length ≤ 6) := decide_eq_decide.mpr (by omega)
    rw [e2, decide_eq_true (by omega : 1 ≤ l.length), Bool.true_and]
    exact go _
  · refine Ev.neg e ?_
    rw [decide_eq_false (by omega : ¬ 1 ≤ l.length)]
    exact go _

/-! ### what goes where -/
def mk35 (m : Int × Int × Int) : S35 := ⟨m.1, m.2.1, m.2.2⟩
theorem rd35 {ms : List (Int × Int × Int)} {i : Nat} {m : Int × Int × Int} (h : ms[i]? = some m) : rd_T35 (ms.map mk35) (i : Int) = mk35 m := by
  unfold rd_T35
  rw [Int.toNat_natCast, List.getD_eq_getElem?_getD, List.getElem?_map, h]
  rfl
def mvs : List Int → List Int → Nat → List (Int × Int × Int)
  | o :: t, f :: s, i => if f = o then mvs t s (i + 1) else ((i : Int), o, f) :: mvs t s (i + 1)
  | _, _, _ => []
theorem moves_loop (o f : List Int) (hl : o.length ≤ 100) (hf : f.length = o.length) : ∀ (t s : List Int) (i : Nat) (out : List S35), o.drop i = t → f.drop i = s → out.length ≤ i →
    Ev (fun k => plan_Moves.l0 k f out o (o.length : Int) (i : Int)) (out ++ (mvs t s i).map mk35, 0)
  | [], s, i, out, h, _, _ => by
    have hi := drop_end h
    refine Ev.step (fun k => plan_Moves.l0.eq_2 _ _ _ _ _ k) ?_
    exact Ev.neg (by omega) (Ev.some (by simp [mvs]))
  | w :: t, [], i, out, h, h', _ => by
    have h1 := (drop_next h).1
    have h2 := drop_end h'
    omega
  | w :: t, v :: s, i, out, h, h', ho => by
    obtain ⟨hi, hw, ht⟩ := drop_next h
    obtain ⟨hi', hv, hs⟩ := drop_next h'
    refine Ev.step (fun k => plan_Moves.l0.eq_2 _ _ _ _ _ k) ?_
    refine Ev.pos (by omega) (Ev.pos (by omega) (Ev.pos (by omega) (Ev.pos (by omega) ?_)))
    rw [hw, hv, nat_up hi (by omega)]
    by_cases e : v = w
    · refine Ev.pos e ?_
      simp only [mvs, if_pos e]
      exact moves_loop o f hl hf t s (i + 1) out ht hs (by omega)
    · refine Ev.neg e (Ev.pos (by omega) ?_)
      simp only [mvs, if_neg e]
      have := moves_loop o f hl hf t s (i + 1) (out ++ [⟨(i : Int), w, v⟩]) ht hs (by simp; omega)
      rw [List.append_assoc] at this
      exact this
def movesM (o f : List Int) : List (Int × Int × Int) × Int := if rightP o = true ∧ rightP f = true ∧ o.length = f.length then (mvs o f 0, 0) else ([], 1)
theorem moves_is (o f : List Int) (ho : o.length ≤ 100) (hf : f.length ≤ 100) : Ev (fun k => plan_Moves.f k o f) ((movesM o f).1.map mk35, (movesM o f).2) := by
  unfold plan_Moves.f
  have no : ¬ (rightP o = true ∧ rightP f = true ∧ o.length = f.length) → Ev (fun k => plan_Moves.j0 k o f true) ((movesM o f).1.map mk35, (movesM o f).2) := by
    intro h
    unfold movesM
    rw [if_neg h]
    exact Ev.step (fun k => plan_Moves.j0.eq_2 _ _ _ k) (Ev.pos rfl (Ev.some rfl))
  refine Ev.bind (right_is o (by omega)) ?_
  by_cases h1 : rightP o = true
  · refine Ev.pos h1 (Ev.bind (right_is f (by omega)) ?_)
    by_cases h2 : rightP f = true
    · refine Ev.pos h2 ?_
      by_cases h3 : o.length = f.length
      · unfold movesM
        rw [if_pos ⟨h1, h2, h3⟩]
        have e : ((o.length : Int) != (f.length : Int)) = false := by rw [h3]; simp
        simp only [e]
        refine Ev.step (fun k => plan_Moves.j0.eq_2 _ _ _ k) (Ev.neg (by decide) ?_)
        exact moves_loop o f ho h3.symm o f 0 [] rfl rfl (by simp)
      · have e : ((o.length : Int) != (f.length : Int)) = true := by simp; omega
        simp only [e]
        exact no (fun h => h3 h.2.2)
    · exact Ev.neg h2 (no (fun h => h2 h.2.1))
  · exact Ev.neg h1 (no (fun h => h1 h.1))

/-! ### the same, as the document says it -/
def mk36 (m : Int × Int × Int) : S36 := ⟨m.1, m.2.1, m.2.2⟩
theorem rd36 {ms : List (Int × Int × Int)} {i : Nat} {m : Int × Int × Int} (h : ms[i]? = some m) : rd_T36 (ms.map mk36) (i : Int) = mk36 m := by
  unfold rd_T36
  rw [Int.toNat_natCast, List.getD_eq_getElem?_getD, List.getElem?_map, h]
  rfl
theorem refmoves_loop (o f : List Int) (hl : o.length ≤ 100) (hf : f.length = o.length) : ∀ (t s : List Int) (i : Nat) (out : List S36), o.drop i = t → f.drop i = s → out.length ≤ i →
    Ev (fun k => haywainref10_Moves.l0 k o f out (i : Int)) (out ++ (mvs t s i).map mk36, 0)
  | [], s, i, out, h, _, _ => by
    have hi := drop_end h
    refine Ev.step (fun k => haywainref10_Moves.l0.eq_2 _ _ _ _ k) ?_
    exact Ev.neg (by omega) (Ev.some (by simp [mvs]))
  | w :: t, [], i, out, h, h', _ => by
    have h1 := (drop_next h).1
    have h2 := drop_end h'
    omega
  | w :: t, v :: s, i, out, h, h', ho => by
    obtain ⟨hi, hw, ht⟩ := drop_next h
    obtain ⟨hi', hv, hs⟩ := drop_next h'
    refine Ev.step (fun k => haywainref10_Moves.l0.eq_2 _ _ _ _ k) ?_
    refine Ev.pos (by omega) (Ev.pos (by omega) (Ev.pos (by omega) ?_))
    rw [hw, hv, nat_up hi (by omega)]
    by_cases e : w = v
    · refine Ev.pos e ?_
      simp only [mvs, if_pos e.symm]
      exact refmoves_loop o f hl hf t s (i + 1) out ht hs (by omega)
    · refine Ev.neg e (Ev.pos (by omega) ?_)
      simp only [mvs, if_neg (Ne.symm e)]
      have := refmoves_loop o f hl hf t s (i + 1) (out ++ [⟨(i : Int), w, v⟩]) ht hs (by simp; omega)
      rw [List.append_assoc] at this
      exact this
theorem refmoves_is (o f : List Int) (ho : o.length ≤ 100) (hf : f.length ≤ 100) : Ev (fun k => haywainref10_Moves.f k o f) ((movesM o f).1.map mk36, (movesM o f).2) := by
  unfold haywainref10_Moves.f
  have no : ¬ (rightP o = true ∧ rightP f = true ∧ o.length = f.length) → Ev (fun k => haywainref10_Moves.j0 k o f true) ((movesM o f).1.map mk36, (movesM o f).2) := by
    intro h
    unfold movesM
    rw [if_neg h]
    exact Ev.step (fun k => haywainref10_Moves.j0.eq_2 _ _ _ k) (Ev.pos rfl (Ev.some rfl))
  refine Ev.bind (refright_is o (by omega)) ?_
  by_cases h1 : rightP o = true
  · refine Ev.pos h1 (Ev.bind (refright_is f (by omega)) ?_)
    by_cases h2 : rightP f = true
    · refine Ev.pos h2 ?_
      by_cases h3 : o.length = f.length
      · unfold movesM
        rw [if_pos ⟨h1, h2, h3⟩]
        have e : ((o.length : Int) != (f.length : Int)) = false := by rw [h3]; simp
        simp only [e]
        refine Ev.step (fun k => haywainref10_Moves.j0.eq_2 _ _ _ k) (Ev.neg (by decide) ?_)
        exact refmoves_loop o f ho h3.symm o f 0 [] rfl rfl (by simp)
      · have e : ((o.length : Int) != (f.length : Int)) = true := by simp; omega
        simp only [e]
        exact no (fun h => h3 h.2.2)
    · exact Ev.neg h2 (no (fun h => h2 h.2.1))
  · exact Ev.neg h1 (no (fun h => h1 h.1))
theorem same_loop35 (ms : List (Int × Int × Int)) (hl : ms.length ≤ 1000) : ∀ (t : List (Int × Int × Int)) (i : Nat), ms.drop i = t → Ev (fun k => haywainlaw10_same.l0 k (ms.map mk35) (ms.map mk36) (i : Int)) true
  | [], i, h => by
    have hi := drop_end h
    refine Ev.step (fun k => haywainlaw10_same.l0.eq_2 _ _ _ k) ?_
    exact Ev.neg (by rw [List.length_map]; omega) (Ev.some rfl)
  | m :: t, i, h => by
    obtain ⟨hi, hm, ht⟩ := drop_nextG h
    refine Ev.step (fun k => haywainlaw10_same.l0.eq_2 _ _ _ k) ?_
    refine Ev.pos (by rw [List.length_map]; omega) (Ev.pos (by omega) (Ev.pos (by rw [List.length_map]; omega) ?_))
    rw [rd35 hm, rd36 hm, nat_up hi (by omega)]
    exact Ev.pos rfl (Ev.pos rfl (Ev.pos rfl (same_loop35 ms hl t (i + 1) ht)))
theorem same35_is (ms : List (Int × Int × Int)) (hl : ms.length ≤ 1000) : Ev (fun k => haywainlaw10_same.f k (ms.map mk35) (ms.map mk36)) true := by
  unfold haywainlaw10_same.f
  exact Ev.pos (by rw [List.length_map, List.length_map]) (same_loop35 ms hl ms 0 rfl)
theorem mvs_len : ∀ (o f : List Int) (i : Nat), (mvs o f i).length ≤ o.length
  | [], _, _ => by simp [mvs]
  | _ :: _, [], _ => by simp [mvs]
  | o :: t, f :: s, i => by
    have := mvs_len t s (i + 1)
    simp only [mvs]
    split
    · simp only [List.length_cons]; omega
    · simp only [List.length_cons]; omega
theorem movesM_len (o f : List Int) : (movesM o f).1.length ≤ o.length := by
  unfold movesM
  split
  · exact mvs_len o f 0
  · simp

theorem PlanMoves : haywainlaw10_PlanMoves.Pure := by
  intro o f _ _ _ _ _ _
  refine Ev.rounds ?_
  unfold haywainlaw10_PlanMoves.f
  have yes : Ev (fun k => haywainlaw10_PlanMoves.j0 k o f true) true := Ev.step (fun k => haywainlaw10_PlanMoves.j0.eq_2 _ _ _ k) (Ev.pos rfl knows_so)
  refine Ev.bind0 (great_is o) ?_
  by_cases h1 : decide ((o.length : Int) > 50) = true
  · exact Ev.pos h1 yes
  refine Ev.neg h1 (Ev.bind0 (great_is f) ?_)
  by_cases h2 : decide ((f.length : Int) > 50) = true
  · simp only [h2]; exact yes
  simp only [eq_false_of_ne_true h2]
  simp only [decide_eq_true_eq] at h1 h2
  refine Ev.step (fun k => haywainlaw10_PlanMoves.j0.eq_2 _ _ _ k) (Ev.neg (by decide) ?_)
  refine Ev.bind (moves_is o f (by omega) (by omega)) (Ev.bind (refmoves_is o f (by omega) (by omega)) ?_)
  have hl := movesM_len o f
  refine Ev.bind (same35_is _ (by omega)) (Ev.pos rfl (Ev.pos rfl ?_))
  exact Ev.bind (right_is o (by omega)) (Ev.bind (refright_is o (by omega)) (Ev.pos (by simp) knows_so))

end Go.Proofs.Ytjlmlmacgopliaa.Pure
