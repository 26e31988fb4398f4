/- A handoff begins as the document says, or its error is told, for every number and all owners. No condition but the row's own (up to 50 owners are looked at). -/
import Derived.Test.YtbelnafoidbcjaaPMovex10
namespace Go.Proofs.Ytbelnafoidbcjaa.Pure
open Go.RowKit Go.Proofs.Ytbelnafoidbcjaa.PMove Go.Proofs.YtbelnafoidbcjaaW.PrintWords Go.Proofs.YtbelnafoidbcjaaW.PrintLast

/-! ### rounds: a function with enough rounds -/
theorem Ev.pos {α : Type} {c : Prop} [Decidable c] {f g : Nat → Option α} {r : α} (h : c) (k : Ev f r) : Ev (fun n => if c then f n else g n) r := by
  obtain ⟨K, k⟩ := k
  exact ⟨K, fun n hn => by simp only [if_pos h]; exact k n hn⟩
theorem Ev.neg {α : Type} {c : Prop} [Decidable c] {f g : Nat → Option α} {r : α} (h : ¬ c) (k : Ev g r) : Ev (fun n => if c then f n else g n) r := by
  obtain ⟨K, k⟩ := k
  exact ⟨K, fun n hn => by simp only [if_neg h]; exact k n hn⟩
theorem Ev.bind0 {α β : Type} {o : Option α} {f : Nat → α → Option β} {a : α} {r : β} (h : o = some a) (k : Ev (fun n => f n a) r) : Ev (fun n => o.bind (f n)) r := by
  subst h; exact k
theorem Ev.some {α : Type} {a r : α} (h : a = r) : Ev (fun _ => Option.some a) r := h ▸ Ev.now a

/-! ### numbers -/
theorem wf_u64 {a : Int} (hw : (Lit.int .u64 a).wf = true) : 0 ≤ a ∧ a < 18446744073709551616 := by
  simp only [Lit.wf, Bool.and_eq_true, decide_eq_true_eq] at hw
  have e0 : IntKind.u64.min = 0 := by decide
  have e1 : IntKind.u64.max = 18446744073709551615 := by decide
  rw [e0, e1] at hw
  omega
theorem wf_i64 {a : Int} (hw : (Lit.int .i64 a).wf = true) : -9223372036854775808 ≤ a ∧ a ≤ 9223372036854775807 := by
  simp only [Lit.wf, Bool.and_eq_true, decide_eq_true_eq] at hw
  have e0 : IntKind.i64.min = -9223372036854775808 := by decide
  have e1 : IntKind.i64.max = 9223372036854775807 := by decide
  rw [e0, e1] at hw
  omega
theorem w64 {n : Int} (h0 : -9223372036854775808 ≤ n) (h1 : n ≤ 9223372036854775807) : wrap64 n = n := by
  unfold wrap64
  omega
theorem knows_ok : Ev haywainlaw18_knows.f true := Ev.of haywainlaw18_knows.mono (k := 60) (by decide +kernel)
theorem knows_so : Ev (fun k => (haywainlaw18_knows.f k).bind fun t => some t) true := Ev.bind knows_ok (Ev.some rfl)

/-! ### lists -/
theorem rd_at {l : List Int} {i : Nat} (h : i < l.length) : rd l (i : Int) = l[i] := by
  unfold rd
  rw [Int.toNat_natCast, List.getD_eq_getElem?_getD, List.getElem?_eq_getElem h]
  rfl
theorem drop_end {α : Type} {l : List α} {i : Nat} (h : l.drop i = []) : l.length ≤ i := List.drop_eq_nil_iff.mp h
theorem drop_nextG {α : Type} {l : List α} {i : Nat} {w : α} {t : List α} (h : l.drop i = w :: t) : i < l.length ∧ l[i]? = some w ∧ l.drop (i + 1) = t := by
  have hi : i < l.length := by
    refine Nat.lt_of_not_le fun hn => ?_
    rw [List.drop_eq_nil_iff.mpr hn] at h
    exact absurd h (by simp)
  have h2 := List.drop_eq_getElem_cons hi
  rw [h2] at h
  injection h with ha hb
  exact ⟨hi, by rw [List.getElem?_eq_getElem hi, ha], hb⟩
theorem drop_next {l : List Int} {i : Nat} {w : Int} {t : List Int} (h : l.drop i = w :: t) : i < l.length ∧ rd l (i : Int) = w ∧ l.drop (i + 1) = t := by
  obtain ⟨hi, h2, h3⟩ := drop_nextG h
  refine ⟨hi, ?_, h3⟩
  unfold rd
  rw [Int.toNat_natCast, List.getD_eq_getElem?_getD, h2]
  rfl
theorem nat_up {i n : Nat} (h : i < n) (hn : n ≤ 4000000000000) : wrap64 ((i : Int) + 1) = ((i + 1 : Nat) : Int) := by
  rw [w64 (by omega) (by omega)]; omega

/-! ### owners that may be -/
def okW (w : Int) : Bool := decide (1 ≤ w) && decide (w ≤ 99)
theorem okW_iff {w : Int} : okW w = true ↔ 1 ≤ w ∧ w ≤ 99 := by simp [okW]
def sizeP (l : List Int) : Bool := decide (1 ≤ l.length) && decide (l.length ≤ 6)
def rightP (l : List Int) : Bool := l.all okW && sizeP l
theorem rightP_iff {l : List Int} : rightP l = true ↔ (∀ w ∈ l, 1 ≤ w ∧ w ≤ 99) ∧ 1 ≤ l.length ∧ l.length ≤ 6 := by
  simp [rightP, sizeP, okW, List.all_eq_true]
theorem right_loop (l : List Int) (hl : l.length ≤ 4000000000000) : ∀ (t : List Int) (i : Nat), l.drop i = t → Ev (fun k => plan_Right.l0 k l l (l.length : Int) (i : Int)) (t.all okW && sizeP l)
  | [], i, h => by
    have hi := drop_end h
    refine Ev.step (fun k => plan_Right.l0.eq_2 _ _ _ _ k) ?_
    refine Ev.neg (by omega) ?_
    unfold sizeP
    by_cases e : (l.length : Int) ≥ 1
    · refine Ev.pos e (Ev.some ?_)
      have e2 : decide ((l.length : Int) ≤ 6) = decide (l.length ≤ 6) := decide_eq_decide.mpr (by omega)
      rw [e2, decide_eq_true (by omega : 1 ≤ l.length)]; rfl
    · refine Ev.neg e (Ev.some ?_)
      rw [decide_eq_false (by omega : ¬ 1 ≤ l.length)]; simp
  | w :: t, i, h => by
    obtain ⟨hi, hw, ht⟩ := drop_next h
    refine Ev.step (fun k => plan_Right.l0.eq_2 _ _ _ _ k) ?_
    refine Ev.pos (by omega) (Ev.pos (by omega) (Ev.pos (by omega) ?_))
    rw [hw, nat_up hi hl]
    simp only [List.all_cons, okW]
    by_cases e1 : w < 1
    · refine Ev.pos e1 (Ev.some ?_)
      rw [decide_eq_false (by omega : ¬ 1 ≤ w)]; rfl
    refine Ev.neg e1 ?_
    rw [decide_eq_true (by omega : 1 ≤ w)]
    by_cases e2 : w > 99
    · refine Ev.pos e2 (Ev.some ?_)
      rw [decide_eq_false (by omega : ¬ w ≤ 99)]; rfl
    refine Ev.neg e2 ?_
    rw [decide_eq_true (by omega : w ≤ 99)]
    exact right_loop l hl t (i + 1) ht
theorem right_is (l : List Int) (hl : l.length ≤ 4000000000000) : Ev (fun k => plan_Right.f k l) (rightP l) := right_loop l hl l 0 rfl

/-! ### lists alike -/
theorem same_loop (a : List Int) (hl : a.length ≤ 4000000000000) : ∀ (d i : Nat), i + d = a.length → Ev (fun k => haywainref09_SameInts.l0 k a a (i : Int)) true
  | 0, i, h => by
    refine Ev.step (fun k => haywainref09_SameInts.l0.eq_2 _ _ _ k) ?_
    exact Ev.neg (by omega) (Ev.some rfl)
  | d + 1, i, h => by
    refine Ev.step (fun k => haywainref09_SameInts.l0.eq_2 _ _ _ k) ?_
    refine Ev.pos (by omega) (Ev.pos (by omega) (Ev.pos (by omega) (Ev.pos rfl ?_)))
    rw [nat_up (n := a.length) (by omega) hl]
    exact same_loop a hl d (i + 1) (by omega)
theorem same_self (a : List Int) (hl : a.length ≤ 4000000000000) : Ev (fun k => haywainref09_SameInts.f k a a) true := by
  unfold haywainref09_SameInts.f
  exact Ev.pos rfl (same_loop a hl a.length 0 (by omega))

/-! ### the same, as the document says it -/
theorem id_is (w : Int) : haywainref10_id.f w = some (okW w) := by
  unfold haywainref10_id.f okW
  by_cases e : w > 0
  · rw [if_pos e, decide_eq_true (by omega : 1 ≤ w)]; rfl
  · rw [if_neg e, decide_eq_false (by omega : ¬ 1 ≤ w)]; rfl
theorem refright_loop (l : List Int) (hl : l.length ≤ 4000000000000) : ∀ (t : List Int) (i : Nat) (b : Bool), l.drop i = t → Ev (fun k => haywainref10_Right.l0 k l b (i : Int)) (b && t.all okW)
  | [], i, b, h => by
    have hi := drop_end h
    refine Ev.step (fun k => haywainref10_Right.l0.eq_2 _ _ _ k) ?_
    exact Ev.neg (by omega) (Ev.some (by simp))
  | w :: t, i, b, h => by
    obtain ⟨hi, hw, ht⟩ := drop_next h
    refine Ev.step (fun k => haywainref10_Right.l0.eq_2 _ _ _ k) ?_
    refine Ev.pos (by omega) ?_
    rw [nat_up hi hl]
    cases b with
    | true =>
      refine Ev.pos rfl (Ev.pos (by omega) (Ev.bind0 (by rw [hw]; exact id_is w) ?_))
      have := refright_loop l hl t (i + 1) (okW w) ht
      simpa using this
    | false =>
      refine Ev.neg (by decide) ?_
      have := refright_loop l hl t (i + 1) false ht
      simpa using this
theorem refright_is (l : List Int) (hl : l.length ≤ 4000000000000) : Ev (fun k => haywainref10_Right.f k l) (rightP l) := by
  unfold haywainref10_Right.f rightP sizeP
  have go : ∀ b : Bool, Ev (fun k => haywainref10_Right.j0 k l b) (b && l.all okW) := fun b => Ev.step (fun k => haywainref10_Right.j0.eq_2 _ _ k) (refright_loop l hl l 0 b rfl)
  rw [Bool.and_comm]
  by_cases e : (l.length : Int) > 0
  · refine Ev.pos e ?_
    have e2 : decide ((l.length : Int) ≤ 6) = decide (l.length ≤ 6) := decide_eq_decide.mpr (by omega)
    rw [e2, decide_eq_true (by omega : 1 ≤ l.length), Bool.true_and]
    exact go _
  · refine Ev.neg e ?_
    rw [decide_eq_false (by omega : ¬ 1 ≤ l.length)]
    exact go _

/-! ### what goes where -/
def mk59 (m : Int × Int × Int) : S59 := ⟨m.1, m.2.1, m.2.2⟩
theorem rd59 {ms : List (Int × Int × Int)} {i : Nat} {m : Int × Int × Int} (h : ms[i]? = some m) : rd_T59 (ms.map mk59) (i : Int) = mk59 m := by
  unfold rd_T59
  rw [Int.toNat_natCast, List.getD_eq_getElem?_getD, List.getElem?_map, h]
  rfl
def mvs : List Int → List Int → Nat → List (Int × Int × Int)
  | o :: t, f :: s, i => if f = o then mvs t s (i + 1) else ((i : Int), o, f) :: mvs t s (i + 1)
  | _, _, _ => []
theorem moves_loop (o f : List Int) (hl : o.length ≤ 100) (hf : f.length = o.length) : ∀ (t s : List Int) (i : Nat) (out : List S59), o.drop i = t → f.drop i = s → out.length ≤ i →
    Ev (fun k => plan_Moves.l0 k f out o (o.length : Int) (i : Int)) (out ++ (mvs t s i).map mk59, 0)
  | [], s, i, out, h, _, _ => by
    have hi := drop_end h
    refine Ev.step (fun k => plan_Moves.l0.eq_2 _ _ _ _ _ k) ?_
    exact Ev.neg (by omega) (Ev.some (by simp [mvs]))
  | w :: t, [], i, out, h, h', _ => by
    have h1 := (drop_next h).1
    have h2 := drop_end h'
    omega
  | w :: t, v :: s, i, out, h, h', ho => by
    obtain ⟨hi, hw, ht⟩ := drop_next h
    obtain ⟨hi', hv, hs⟩ := drop_next h'
    refine Ev.step (fun k => plan_Moves.l0.eq_2 _ _ _ _ _ k) ?_
    refine Ev.pos (by omega) (Ev.pos (by omega) (Ev.pos (by omega) (Ev.pos (by omega) ?_)))
    rw [hw, hv, nat_up hi (by omega)]
    by_cases e : v = w
    · refine Ev.pos e ?_
      simp only [mvs, if_pos e]
      exact moves_loop o f hl hf t s (i + 1) out ht hs (by omega)
    · refine Ev.neg e (Ev.pos (by omega) ?_)
      simp only [mvs, if_neg e]
      have := moves_loop o f hl hf t s (i + 1) (out ++ [⟨(i : Int), w, v⟩]) ht hs (by simp; omega)
      rw [List.append_assoc] at this
      exact this
def movesM (o f : List Int) : List (Int × Int × Int) × Int := if rightP o = true ∧ rightP f = true ∧ o.length = f.length then (mvs o f 0, 0) else ([], 1)
theorem moves_is (o f : List Int) (ho : o.length ≤ 100) (hf : f.length ≤ 100) : Ev (fun k => plan_Moves.f k o f) ((movesM o f).1.map mk59, (movesM o f).2) := by
  unfold plan_Moves.f
  have no : ¬ (rightP o = true ∧ rightP f = true ∧ o.length = f.length) → Ev (fun k => plan_Moves.j0 k o f true) ((movesM o f).1.map mk59, (movesM o f).2) := by
    intro h
    unfold movesM
    rw [if_neg h]
    exact Ev.step (fun k => plan_Moves.j0.eq_2 _ _ _ k) (Ev.pos rfl (Ev.some rfl))
  refine Ev.bind (right_is o (by omega)) ?_
  by_cases h1 : rightP o = true
  · refine Ev.pos h1 (Ev.bind (right_is f (by omega)) ?_)
    by_cases h2 : rightP f = true
    · refine Ev.pos h2 ?_
      by_cases h3 : o.length = f.length
      · unfold movesM
        rw [if_pos ⟨h1, h2, h3⟩]
        have e : ((o.length : Int) != (f.length : Int)) = false := by rw [h3]; simp
        simp only [e]
        refine Ev.step (fun k => plan_Moves.j0.eq_2 _ _ _ k) (Ev.neg (by decide) ?_)
        exact moves_loop o f ho h3.symm o f 0 [] rfl rfl (by simp)
      · have e : ((o.length : Int) != (f.length : Int)) = true := by simp; omega
        simp only [e]
        exact no (fun h => h3 h.2.2)
    · exact Ev.neg h2 (no (fun h => h2 h.2.1))
  · exact Ev.neg h1 (no (fun h => h1 h.1))
theorem mvs_len : ∀ (o f : List Int) (i : Nat), (mvs o f i).length ≤ o.length
  | [], _, _ => by simp [mvs]
  | _ :: _, [], _ => by simp [mvs]
  | o :: t, f :: s, i => by
    have := mvs_len t s (i + 1)
    simp only [mvs]
    split
    · simp only [List.length_cons]; omega
    · simp only [List.length_cons]; omega
theorem movesM_len (o f : List Int) : (movesM o f).1.length ≤ o.length := by
  unfold movesM
  split
  · exact mvs_len o f 0
  · simp

/-! ### is a number in a list? -/
theorem has_loop (l : List Int) (n : Int) (hl : l.length ≤ 4000000000000) : ∀ (t : List Int) (i : Nat), l.drop i = t → Ev (fun k => haywainref09_Has.l0 k l n (i : Int)) (decide (n ∈ t))
  | [], i, h => by
    have hi := drop_end h
    refine Ev.step (fun k => haywainref09_Has.l0.eq_2 _ _ _ k) ?_
    exact Ev.neg (by omega) (Ev.some (by simp))
  | w :: t, i, h => by
    obtain ⟨hi, hw, ht⟩ := drop_next h
    refine Ev.step (fun k => haywainref09_Has.l0.eq_2 _ _ _ k) ?_
    refine Ev.pos (by omega) (Ev.pos (by omega) ?_)
    rw [hw, nat_up hi hl]
    by_cases e : w = n
    · exact Ev.pos e (Ev.some (by simp [e]))
    · refine Ev.neg e ?_
      have ih := has_loop l n hl t (i + 1) ht
      have e2 : (n ∈ w :: t) = (n ∈ t) := by simp [Ne.symm e]
      simp only [e2]
      exact ih
theorem has_is (l : List Int) (n : Int) (hl : l.length ≤ 4000000000000) : Ev (fun k => haywainref09_Has.f k l n) (decide (n ∈ l)) := has_loop l n hl l 0 rfl
theorem in_loop (l : List Int) (n : Int) (hl : l.length ≤ 4000000000000) : ∀ (t : List Int) (i : Nat), l.drop i = t → Ev (fun k => move_has.l0 k n l (l.length : Int) (i : Int)) (decide (n ∈ t))
  | [], i, h => by
    have hi := drop_end h
    refine Ev.step (fun k => move_has.l0.eq_2 _ _ _ _ k) ?_
    exact Ev.neg (by omega) (Ev.some (by simp))
  | w :: t, i, h => by
    obtain ⟨hi, hw, ht⟩ := drop_next h
    refine Ev.step (fun k => move_has.l0.eq_2 _ _ _ _ k) ?_
    refine Ev.pos (by omega) (Ev.pos (by omega) (Ev.pos (by omega) ?_))
    rw [hw, nat_up hi hl]
    by_cases e : w = n
    · exact Ev.pos e (Ev.some (by simp [e]))
    · refine Ev.neg e ?_
      have ih := in_loop l n hl t (i + 1) ht
      have e2 : (n ∈ w :: t) = (n ∈ t) := by simp [Ne.symm e]
      simp only [e2]
      exact ih
theorem in_is (l : List Int) (n : Int) (hl : l.length ≤ 4000000000000) : Ev (fun k => move_in.f k l n) (decide (n ∈ l)) := in_loop l n hl l 0 rfl

/-! ### partitions that go -/
def goesL (o f : List Int) : List Int := (mvs o f 0).map (·.1)
theorem goes_loop (ms : List (Int × Int × Int)) (hm : ms.length ≤ 1000) : ∀ (t : List (Int × Int × Int)) (i : Nat) (out : List Int), ms.drop i = t → out.length ≤ i → Ev (fun k => move_goes.l0 k out (ms.map mk59) ((ms.map mk59).length : Int) (i : Int)) (out ++ t.map (·.1))
  | [], i, out, h, _ => by
    have hi := drop_end h
    refine Ev.step (fun k => move_goes.l0.eq_2 _ _ _ _ k) ?_
    exact Ev.neg (by rw [List.length_map]; omega) (Ev.some (by simp))
  | m :: t, i, out, h, ho => by
    obtain ⟨hi, hw, ht⟩ := drop_nextG h
    refine Ev.step (fun k => move_goes.l0.eq_2 _ _ _ _ k) ?_
    refine Ev.pos (by rw [List.length_map]; omega) (Ev.pos (by omega) (Ev.pos (by rw [List.length_map]; omega) (Ev.pos (by omega) ?_)))
    rw [rd59 hw, nat_up hi (by omega)]
    have := goes_loop ms hm t (i + 1) (out ++ [m.1]) ht (by simp; omega)
    rw [List.append_assoc] at this
    exact this
theorem goes_is (e : Int) (o f g : List Int) (en : Int) (ho : o.length ≤ 100) (hf : f.length ≤ 100) : Ev (fun k => move_goes.f k e o f g en) ((movesM o f).1.map (·.1)) := by
  unfold move_goes.f
  have hl := movesM_len o f
  exact Ev.bind (moves_is o f ho hf) (goes_loop _ (by omega) _ 0 [] rfl (by simp))
theorem mvs_mem {p : Int} : ∀ {o f : List Int} {i : Nat}, p ∈ (mvs o f i).map (·.1) ↔ ∃ j : Nat, j < o.length ∧ j < f.length ∧ p = ((i + j : Nat) : Int) ∧ rd o (j : Int) ≠ rd f (j : Int)
  | [], _, _ => by simp [mvs]
  | _ :: _, [], _ => by simp [mvs]
  | x :: o, y :: f, i => by
    have ih := mvs_mem (p := p) (o := o) (f := f) (i := i + 1)
    have up : ∀ j : Nat, rd (x :: o) ((j + 1 : Nat) : Int) = rd o (j : Int) ∧ rd (y :: f) ((j + 1 : Nat) : Int) = rd f (j : Int) := fun j => ⟨by simp [rd], by simp [rd]⟩
    have zero : rd (x :: o) ((0 : Nat) : Int) = x ∧ rd (y :: f) ((0 : Nat) : Int) = y := ⟨by simp [rd], by simp [rd]⟩
    have tail : (∃ j : Nat, j < o.length ∧ j < f.length ∧ p = ((i + 1 + j : Nat) : Int) ∧ rd o (j : Int) ≠ rd f (j : Int)) ↔ ∃ j : Nat, 0 < j ∧ j < (x :: o).length ∧ j < (y :: f).length ∧ p = ((i + j : Nat) : Int) ∧ rd (x :: o) (j : Int) ≠ rd (y :: f) (j : Int) := by
      constructor
      · rintro ⟨j, a, b, c, d⟩
        exact ⟨j + 1, by omega, by simpa using a, by simpa using b, by rw [c]; omega, by rw [(up j).1, (up j).2]; exact d⟩
      · rintro ⟨j, z, a, b, c, d⟩
        obtain ⟨j, rfl⟩ : ∃ q, j = q + 1 := ⟨j - 1, by omega⟩
        rw [(up j).1, (up j).2] at d
        exact ⟨j, by simpa using a, by simpa using b, by rw [c]; omega, d⟩
    simp only [mvs]
    by_cases e : y = x
    · rw [if_pos e, ih, tail]
      constructor
      · rintro ⟨j, _, h⟩; exact ⟨j, h⟩
      · rintro ⟨j, a, b, c, d⟩
        refine ⟨j, Nat.pos_of_ne_zero fun z => d ?_, a, b, c, d⟩
        subst z
        rw [zero.1, zero.2, e]
    · rw [if_neg e, List.map_cons, List.mem_cons, ih, tail]
      constructor
      · rintro (h | ⟨j, _, h⟩)
        · exact ⟨0, by simp, by simp, by rw [h]; simp, by rw [zero.1, zero.2]; exact Ne.symm e⟩
        · exact ⟨j, h⟩
      · rintro ⟨j, a, b, c, d⟩
        by_cases z : j = 0
        · subst z
          exact .inl (by rw [c]; simp)
        · exact .inr ⟨j, by omega, a, b, c, d⟩
theorem goesL_mem {p : Int} {o f : List Int} (h : o.length = f.length) : p ∈ goesL o f ↔ 0 ≤ p ∧ p < o.length ∧ rd o p ≠ rd f p := by
  unfold goesL
  rw [mvs_mem]
  constructor
  · rintro ⟨j, a, _, c, d⟩
    have c' : p = (j : Int) := by omega
    subst c'
    exact ⟨by omega, by omega, d⟩
  · rintro ⟨a, b, d⟩
    have e : p = ((p.toNat : Nat) : Int) := by omega
    refine ⟨p.toNat, by omega, by omega, by omega, ?_⟩
    rw [← e]; exact d
theorem mvs_asc : ∀ {o f : List Int} {i : Nat}, ((mvs o f i).map (·.1)).Pairwise (· < ·)
  | [], _, _ => by simp [mvs]
  | _ :: _, [], _ => by simp [mvs]
  | x :: o, y :: f, i => by
    simp only [mvs]
    by_cases e : y = x
    · rw [if_pos e]; exact mvs_asc
    · rw [if_neg e, List.map_cons]
      refine List.Pairwise.cons (fun p hp => ?_) mvs_asc
      obtain ⟨j, _, _, c, _⟩ := mvs_mem.mp hp
      show (i : Int) < p
      omega
/-- Two lists that rise. -/
theorem asc_len : ∀ {A B : List Int}, A.Pairwise (· < ·) → B.Pairwise (· < ·) → (∀ p ∈ A, p ∈ B) → A.length ≤ B.length ∧ (A.length = B.length → A = B)
  | [], [], _, _, _ => ⟨Nat.le_refl _, fun _ => rfl⟩
  | [], _ :: _, _, _, _ => ⟨by simp, fun h => by simp at h⟩
  | a :: A, [], _, _, h => by have := h a (by simp); simp at this
  | a :: A, b :: B, ha, hb, h => by
    have ha' := List.pairwise_cons.mp ha
    have hb' := List.pairwise_cons.mp hb
    by_cases e : a = b
    · have sub : ∀ p ∈ A, p ∈ B := fun p hp => by
        have h1 := h p (by simp [hp])
        have h2 := ha'.1 p hp
        rcases List.mem_cons.mp h1 with q | q
        · omega
        · exact q
      obtain ⟨i1, i2⟩ := asc_len ha'.2 hb'.2 sub
      refine ⟨by simpa using i1, fun hl => ?_⟩
      rw [e, i2 (by simpa using hl)]
    · have hab : a ∈ B := (List.mem_cons.mp (h a (by simp))).resolve_left e
      have hlt := hb'.1 a hab
      have sub : ∀ p ∈ a :: A, p ∈ B := fun p hp => by
        have h1 := h p hp
        rcases List.mem_cons.mp h1 with q | q
        · rcases List.mem_cons.mp hp with r | r
          · rw [r]; exact hab
          · have := ha'.1 p r
            omega
        · exact q
      obtain ⟨i1, _⟩ := asc_len ha hb'.2 sub
      refine ⟨by simp only [List.length_cons] at i1 ⊢; omega, fun hl => ?_⟩
      simp only [List.length_cons] at i1 hl
      omega

/-! ### handoffs that may be -/
def gotOk (A : List Int) : Int → List Int → Bool
  | _, [] => true
  | b, p :: t => decide (b < p) && (decide (p ∈ A) && gotOk A p t)
def headP (e : Int) (o f : List Int) (en : Int) : Prop := 1 ≤ e ∧ e < 1099511627776 ∧ 0 ≤ en ∧ en ≤ 2 ∧ rightP o = true ∧ rightP f = true ∧ o.length = f.length
instance (e : Int) (o f : List Int) (en : Int) : Decidable (headP e o f en) := by unfold headP; infer_instance
def endB (o f g : List Int) (en : Int) : Bool := if en = 1 then (g.length : Int) == ((goesL o f).length : Int) else true
def rightH (e : Int) (o f g : List Int) (en : Int) : Bool := if headP e o f en then gotOk (goesL o f) (-1) g && endB o f g en else false
theorem got_loop {e : Int} {o f g : List Int} {en : Int} (hA : (goesL o f).length ≤ 1000) (hg : g.length ≤ 1000) : ∀ (t : List Int) (i : Nat) (b : Int), g.drop i = t → Ev (fun k => move_Right.l0 k (goesL o f) b g (g.length : Int) (i : Int) e o f g en) (gotOk (goesL o f) b t && endB o f g en)
  | [], i, b, h => by
    have hi := drop_end h
    refine Ev.step (fun k => move_Right.l0.eq_2 _ _ _ _ _ _ _ _ _ _ k) ?_
    refine Ev.neg (by omega) ?_
    simp only [gotOk, Bool.true_and, endB]
    by_cases e1 : en = 1
    · refine Ev.pos e1 (Ev.some ?_); rw [if_pos e1]
    · refine Ev.neg e1 (Ev.some ?_); rw [if_neg e1]
  | p :: t, i, b, h => by
    obtain ⟨hi, hw, ht⟩ := drop_next h
    refine Ev.step (fun k => move_Right.l0.eq_2 _ _ _ _ _ _ _ _ _ _ k) ?_
    refine Ev.pos (by omega) (Ev.pos (by omega) (Ev.pos (by omega) ?_))
    rw [hw, nat_up hi (by omega)]
    simp only [gotOk]
    by_cases e1 : p ≤ b
    · refine Ev.pos e1 (Ev.some ?_)
      rw [decide_eq_false (by omega : ¬ b < p)]; rfl
    refine Ev.neg e1 (Ev.bind (in_is _ p (by omega)) ?_)
    rw [decide_eq_true (by omega : b < p)]
    by_cases e2 : p ∈ goesL o f
    · rw [decide_eq_true e2]
      exact Ev.pos rfl (got_loop hA hg t (i + 1) p ht)
    · rw [decide_eq_false e2]
      exact Ev.neg (by decide) (Ev.some rfl)
theorem right_is' (e : Int) (o f g : List Int) (en : Int) (ho : o.length ≤ 100) (hf : f.length ≤ 100) (hg : g.length ≤ 1000) : Ev (fun k => move_Right.f k e o f g en) (rightH e o f g en) := by
  unfold move_Right.f
  have no : ¬ headP e o f en → Ev (fun k => move_Right.j0 k true e o f g en) (rightH e o f g en) := by
    intro h
    unfold rightH
    rw [if_neg h]
    exact Ev.step (fun k => move_Right.j0.eq_2 _ _ _ _ _ _ k) (Ev.pos rfl (Ev.some rfl))
  by_cases h1 : e < 1
  · exact Ev.pos h1 (no fun h => by have := h.1; omega)
  refine Ev.neg h1 ?_
  by_cases h2 : e ≥ 1099511627776
  · exact Ev.pos h2 (no fun h => by have := h.2.1; omega)
  refine Ev.neg h2 ?_
  by_cases h3 : en < 0
  · exact Ev.pos h3 (no fun h => by have := h.2.2.1; omega)
  refine Ev.neg h3 ?_
  by_cases h4 : en > 2
  · rw [decide_eq_true h4]; exact no fun h => by have := h.2.2.2.1; omega
  rw [decide_eq_false h4]
  refine Ev.step (fun k => move_Right.j0.eq_2 _ _ _ _ _ _ k) (Ev.neg (by decide) (Ev.bind (moves_is o f ho hf) ?_))
  by_cases hr : rightP o = true ∧ rightP f = true ∧ o.length = f.length
  · have em : movesM o f = (mvs o f 0, 0) := by unfold movesM; rw [if_pos hr]
    have hp : headP e o f en := ⟨by omega, by omega, by omega, by omega, hr⟩
    have gi := goes_is e o f g en ho hf
    have hlen := mvs_len o f 0
    rw [em] at gi ⊢
    refine Ev.pos rfl (Ev.bind gi ?_)
    unfold rightH
    rw [if_pos hp]
    exact got_loop (by unfold goesL; rw [List.length_map]; omega) hg g 0 (-1) rfl
  · have em : movesM o f = ([], 1) := by unfold movesM; rw [if_neg hr]
    rw [em]
    refine Ev.neg (by decide) (Ev.some ?_)
    unfold rightH
    rw [if_neg (fun h => hr h.2.2.2.2)]

/-! ### the same, as the document says it -/
theorem refgoes_is {o f : List Int} (h : o.length = f.length) (e : Int) (g : List Int) (en p : Int) : haywainref18_Goes.f e o f g en p = some (decide (p ∈ goesL o f)) := by
  unfold haywainref18_Goes.f
  by_cases h1 : p ≥ 0
  · rw [if_pos h1]
    by_cases h2 : p < (o.length : Int)
    · rw [if_pos h2, if_pos (by omega), if_pos (by omega)]
      by_cases h3 : rd o p = rd f p
      · rw [decide_eq_false (fun hm => ((goesL_mem h).mp hm).2.2 h3)]; simp [h3]
      · rw [decide_eq_true ((goesL_mem h).mpr ⟨by omega, h2, h3⟩)]; simp [h3]
    · rw [if_neg h2, decide_eq_false (fun hm => h2 ((goesL_mem h).mp hm).2.1)]
  · rw [if_neg h1, decide_eq_false (fun hm => h1 ((goesL_mem h).mp hm).1)]
def allB (A g : List Int) : Nat → Nat → Bool
  | 0, _ => true
  | d + 1, i => (if (i : Int) ∈ A then decide ((i : Int) ∈ g) else true) && allB A g d (i + 1)
theorem allB_iff {A g : List Int} : ∀ {d i : Nat}, allB A g d i = true ↔ ∀ j : Nat, i ≤ j → j < i + d → (j : Int) ∈ A → (j : Int) ∈ g
  | 0, i => by simp [allB]; omega
  | d + 1, i => by
    simp only [allB, Bool.and_eq_true]
    rw [allB_iff]
    constructor
    · rintro ⟨a, b⟩ j h1 h2 h3
      by_cases e : i = j
      · subst e
        rw [if_pos h3] at a
        exact of_decide_eq_true a
      · exact b j (by omega) (by omega) h3
    · intro h
      refine ⟨?_, fun j h1 h2 h3 => h j (by omega) (by omega) h3⟩
      by_cases e : (i : Int) ∈ A
      · rw [if_pos e]; exact decide_eq_true (h i (Nat.le_refl _) (by omega) e)
      · rw [if_neg e]
theorem refall_loop {e : Int} {o f g : List Int} {en : Int} (h : o.length = f.length) (ho : o.length ≤ 1000) (hg : g.length ≤ 1000) : ∀ (d i : Nat), i + d = o.length → Ev (fun k => haywainref18_All.l0 k (i : Int) e o f g en) (allB (goesL o f) g d i)
  | 0, i, hi => by
    refine Ev.step (fun k => haywainref18_All.l0.eq_2 _ _ _ _ _ _ k) ?_
    exact Ev.neg (by omega) (Ev.some rfl)
  | d + 1, i, hi => by
    refine Ev.step (fun k => haywainref18_All.l0.eq_2 _ _ _ _ _ _ k) ?_
    refine Ev.pos (by omega) (Ev.bind0 (refgoes_is h e g en (i : Int)) ?_)
    rw [nat_up (n := 1000) (by omega) (by omega)]
    simp only [allB]
    by_cases e1 : (i : Int) ∈ goesL o f
    · rw [if_pos e1]
      refine Ev.pos (decide_eq_true e1) (Ev.bind (has_is g (i : Int) (by omega)) ?_)
      by_cases e2 : (i : Int) ∈ g
      · rw [decide_eq_true e2]
        exact Ev.pos rfl (refall_loop h ho hg d (i + 1) (by omega))
      · rw [decide_eq_false e2]
        exact Ev.neg (by decide) (Ev.some rfl)
    · rw [if_neg e1]
      exact Ev.neg (by rw [decide_eq_false e1]; decide) (refall_loop h ho hg d (i + 1) (by omega))
theorem gotOk_asc {A : List Int} : ∀ {t : List Int} {b : Int}, gotOk A b t = true → t.Pairwise (· < ·) ∧ (∀ p ∈ t, b < p ∧ p ∈ A)
  | [], _, _ => by simp
  | p :: t, b, h => by
    simp only [gotOk, Bool.and_eq_true, decide_eq_true_eq] at h
    obtain ⟨i1, i2⟩ := gotOk_asc h.2.2
    refine ⟨List.Pairwise.cons (fun q hq => (i2 q hq).1) i1, fun q hq => ?_⟩
    rcases List.mem_cons.mp hq with r | r
    · rw [r]; exact ⟨h.1, h.2.1⟩
    · have := i2 q r
      exact ⟨by omega, this.2⟩
theorem all_end {o f g : List Int} (h : o.length = f.length) (hg : gotOk (goesL o f) (-1) g = true) : allB (goesL o f) g o.length 0 = ((g.length : Int) == ((goesL o f).length : Int)) := by
  obtain ⟨a1, a2⟩ := gotOk_asc hg
  have asc : (goesL o f).Pairwise (· < ·) := mvs_asc
  obtain ⟨l1, l2⟩ := asc_len a1 asc (fun p hp => (a2 p hp).2)
  rw [Bool.eq_iff_iff, allB_iff, beq_iff_eq]
  constructor
  · intro hh
    have := asc_len asc a1 (fun p hp => by
      have := (goesL_mem h).mp hp
      have e : p = ((p.toNat : Nat) : Int) := by omega
      rw [e] at hp ⊢
      exact hh p.toNat (by omega) (by omega) hp)
    omega
  · intro hh j _ _ hm
    rw [l2 (by omega)]
    exact hm
theorem refgot_loop {e : Int} {o f g : List Int} {en : Int} (h : o.length = f.length) (hg : g.length ≤ 1000) {r : Bool} (fin : gotOk (goesL o f) (-1) g = true → Ev (fun k => haywainref18_Right.l0 k (g.length : Int) e o f g en) r) :
    ∀ (t : List Int) (i : Nat) (b : Int), i ≤ g.length → g.drop i = t → (i = 0 → b = -1) → (0 < i → rd g ((i - 1 : Nat) : Int) = b) → gotOk (goesL o f) (-1) g = gotOk (goesL o f) b t →
    Ev (fun k => haywainref18_Right.l0 k (i : Int) e o f g en) (if gotOk (goesL o f) (-1) g = true then r else false)
  | [], i, b, hi, hd, _, _, hb => by
    have h1 := drop_end hd
    have h0 : i = g.length := by omega
    have hb : gotOk (goesL o f) (-1) g = true := hb
    rw [if_pos hb, h0]
    exact fin hb
  | p :: t, i, b, _, hd, b1, b2, hb => by
    obtain ⟨hi, hw, ht⟩ := drop_next hd
    refine Ev.step (fun k => haywainref18_Right.l0.eq_2 _ _ _ _ _ _ k) ?_
    refine Ev.pos (by omega) (Ev.pos (by omega) ?_)
    rw [hw]
    refine Ev.bind0 (refgoes_is h e g en p) ?_
    simp only [gotOk] at hb
    by_cases e1 : p ∈ goesL o f
    · rw [decide_eq_true e1, Bool.true_and] at hb
      refine Ev.pos (decide_eq_true e1) ?_
      have hp0 := ((goesL_mem h).mp e1).1
      have next : gotOk (goesL o f) (-1) g = gotOk (goesL o f) p t → Ev (fun k => haywainref18_Right.l0 k (wrap64 ((i : Int) + 1)) e o f g en) (if gotOk (goesL o f) (-1) g = true then r else false) := by
        intro hn
        rw [nat_up hi (by omega)]
        exact refgot_loop h hg fin t (i + 1) p (by omega) ht (by omega) (fun _ => by simpa using hw) hn
      by_cases e2 : 0 < i
      · have e3 : wrap64 ((i : Int) - 1) = ((i - 1 : Nat) : Int) := by rw [w64 (by omega) (by omega)]; omega
        refine Ev.pos (by omega) (Ev.pos (by omega) (Ev.pos (by omega) ?_))
        rw [e3, b2 e2]
        by_cases e4 : b ≥ p
        · refine Ev.pos e4 (Ev.some ?_)
          rw [decide_eq_false (by omega : ¬ b < p)] at hb
          rw [hb]; rfl
        · rw [decide_eq_true (by omega : b < p), Bool.true_and] at hb
          exact Ev.neg e4 (next hb)
      · have := b1 (by omega)
        rw [decide_eq_true (by omega : b < p), Bool.true_and] at hb
        exact Ev.neg (by omega) (next hb)
    · rw [decide_eq_false e1, Bool.false_and, Bool.and_false] at hb
      refine Ev.neg (by rw [decide_eq_false e1]; decide) (Ev.some ?_)
      rw [hb]; rfl
theorem refright_is' (e : Int) (o f g : List Int) (en : Int) (ho : o.length ≤ 100) (hf : f.length ≤ 100) (hg : g.length ≤ 1000) : Ev (fun k => haywainref18_Right.f k e o f g en) (rightH e o f g en) := by
  unfold haywainref18_Right.f
  have no : ¬ headP e o f en → Ev (fun k => haywainref18_Right.j0 k true e o f g en) (rightH e o f g en) := by
    intro h
    unfold rightH
    rw [if_neg h]
    exact Ev.step (fun k => haywainref18_Right.j0.eq_2 _ _ _ _ _ _ k) (Ev.pos rfl (Ev.some rfl))
  by_cases h1 : e < 1
  · exact Ev.pos h1 (no fun h => by have := h.1; omega)
  refine Ev.neg h1 ?_
  by_cases h2 : e > 1099511627775
  · exact Ev.pos h2 (no fun h => by have := h.2.1; omega)
  refine Ev.neg h2 ?_
  by_cases h3 : en < 0
  · exact Ev.pos h3 (no fun h => by have := h.2.2.1; omega)
  refine Ev.neg h3 ?_
  by_cases h4 : en > 2
  · exact Ev.pos h4 (no fun h => by have := h.2.2.2.1; omega)
  refine Ev.neg h4 (Ev.bind (refright_is o (by omega)) ?_)
  by_cases r1 : rightP o = true
  · refine Ev.pos r1 (Ev.bind (refright_is f (by omega)) ?_)
    by_cases r2 : rightP f = true
    · refine Ev.pos r2 ?_
      by_cases r3 : o.length = f.length
      · have e5 : ((o.length : Int) != (f.length : Int)) = false := by rw [r3]; simp
        have hp : headP e o f en := ⟨by omega, by omega, by omega, by omega, r1, r2, r3⟩
        simp only [e5]
        refine Ev.step (fun k => haywainref18_Right.j0.eq_2 _ _ _ _ _ _ k) (Ev.neg (by decide) ?_)
        have main := refgot_loop (e := e) (en := en) r3 hg (r := endB o f g en) (fun hok => by
          refine Ev.step (fun k => haywainref18_Right.l0.eq_2 _ _ _ _ _ _ k) (Ev.neg (by omega) ?_)
          unfold endB
          by_cases e6 : en = 1
          · rw [if_pos e6, ← all_end r3 hok]
            exact Ev.pos e6 (Ev.bind (refall_loop r3 (by omega) hg o.length 0 (by omega)) (Ev.some rfl))
          · rw [if_neg e6]
            exact Ev.neg e6 (Ev.some rfl)) g 0 (-1) (by omega) rfl (fun _ => rfl) (fun h => absurd h (by decide)) rfl
        have e7 : rightH e o f g en = if gotOk (goesL o f) (-1) g = true then endB o f g en else false := by
          unfold rightH
          rw [if_pos hp]
          cases gotOk (goesL o f) (-1) g <;> rfl
        rw [e7]
        exact main
      · have e5 : ((o.length : Int) != (f.length : Int)) = true := by simp; omega
        simp only [e5]
        exact no fun h => r3 h.2.2.2.2.2.2
    · exact Ev.neg r2 (no fun h => r2 h.2.2.2.2.2.1)
  · exact Ev.neg r1 (no fun h => r1 h.2.2.2.2.1)
theorem rightH_head {e : Int} {o f g : List Int} {en : Int} (h : rightH e o f g en = true) : headP e o f en := by
  unfold rightH at h
  by_cases h1 : headP e o f en
  · exact h1
  · rw [if_neg h1] at h; cases h

theorem MoveBegins : haywainlaw18_MoveBegins.Pure := by
  intro e o f _ _ _ _ _ _ _
  refine Ev.rounds ?_
  unfold haywainlaw18_MoveBegins.f
  have yes : Ev (fun k => haywainlaw18_MoveBegins.j0 k e o f true) true := Ev.step (fun k => haywainlaw18_MoveBegins.j0.eq_2 _ _ _ _ k) (Ev.pos rfl knows_so)
  by_cases h1 : (o.length : Int) > 50
  · exact Ev.pos h1 yes
  refine Ev.neg h1 ?_
  by_cases h2 : (f.length : Int) > 50
  · rw [decide_eq_true h2]; exact yes
  rw [decide_eq_false h2]
  refine Ev.step (fun k => haywainlaw18_MoveBegins.j0.eq_2 _ _ _ _ k) (Ev.neg (by decide) ?_)
  have fin : ∀ (a : Int) (x y z : List Int) (b n : Int), x.length ≤ 1000 → y.length ≤ 1000 → z.length ≤ 1000 → Ev (fun k => (haywainref18_Same.f k a x y z b a x y z b).bind fun t => if t = true then (if n = n then ((haywainlaw18_knows.f k).bind fun t => some t) else none) else none) true := by
    intro a x y z b n hx hy hz
    have s : Ev (fun k => haywainref18_Same.f k a x y z b a x y z b) true := by
      unfold haywainref18_Same.f
      exact Ev.pos rfl (Ev.pos rfl (Ev.bind (same_self x (by omega)) (Ev.pos rfl (Ev.bind (same_self y (by omega)) (Ev.pos rfl (Ev.bind (same_self z (by omega)) (Ev.some rfl)))))))
    exact Ev.bind s (Ev.pos rfl (Ev.pos rfl knows_so))
  have a1 : Ev (fun k => move_Begin.f k e o f) (if rightH e o f [] 0 = true then (e, o, f, [], 0, 0) else (0, [], [], [], 0, 1)) := by
    unfold move_Begin.f
    refine Ev.bind (right_is' e o f [] 0 (by omega) (by omega) (by simp)) ?_
    by_cases h : rightH e o f [] 0 = true
    · refine Ev.pos h (Ev.bind0 (a := (e, o, f, [], 0)) ?_ (Ev.some (by rw [if_pos h])))
      unfold move_own.f
      simp; omega
    · exact Ev.neg h (Ev.some (by rw [if_neg h]))
  have a2 : Ev (fun k => haywainref18_Begin.f k e o f) (if rightH e o f [] 0 = true then (e, o, f, [], 0, 0) else (0, [], [], [], 0, 1)) := by
    unfold haywainref18_Begin.f
    refine Ev.bind (refright_is' e o f [] 0 (by omega) (by omega) (by simp)) ?_
    by_cases h : rightH e o f [] 0 = true
    · exact Ev.pos h (Ev.some (by rw [if_pos h]))
    · exact Ev.neg h (Ev.some (by rw [if_neg h]))
  refine Ev.bind a1 (Ev.bind a2 (Ev.bind0 rfl ?_))
  by_cases h : rightH e o f [] 0 = true
  · rw [if_pos h]
    exact fin e o f [] 0 0 (by omega) (by omega) (by simp)
  · rw [if_neg h]
    exact fin 0 [] [] [] 0 1 (by simp) (by simp) (by simp)

end Go.Proofs.Ytbelnafoidbcjaa.Pure
