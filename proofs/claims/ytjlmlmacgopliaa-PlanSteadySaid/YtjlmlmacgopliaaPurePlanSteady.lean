/- What was made even with less moves than there are partitions is left alone. No condition but the row's own (lists up to 50 are looked at). -/
import Derived.Test.YtjlmlmacgopliaaPPlanx18
namespace Go.Proofs.Ytjlmlmacgopliaa.Pure
open Go.RowKit Go.Proofs.Ytjlmlmacgopliaa.PPlan Go.Proofs.YtjlmlmacgopliaaW.PrintWords Go.Proofs.YtjlmlmacgopliaaW.PrintLast

/-! ### rounds: a function with enough rounds -/
theorem Ev.pos {α : Type} {c : Prop} [Decidable c] {f g : Nat → Option α} {r : α} (h : c) (k : Ev f r) : Ev (fun n => if c then f n else g n) r := by
  obtain ⟨K, k⟩ := k
  exact ⟨K, fun n hn => by simp only [if_pos h]; exact k n hn⟩
theorem Ev.neg {α : Type} {c : Prop} [Decidable c] {f g : Nat → Option α} {r : α} (h : ¬ c) (k : Ev g r) : Ev (fun n => if c then f n else g n) r := by
  obtain ⟨K, k⟩ := k
  exact ⟨K, fun n hn => by simp only [if_neg h]; exact k n hn⟩
theorem Ev.bind0 {α β : Type} {o : Option α} {f : Nat → α → Option β} {a : α} {r : β} (h : o = some a) (k : Ev (fun n => f n a) r) : Ev (fun n => o.bind (f n)) r := by
  subst h; exact k
theorem Ev.some {α : Type} {a r : α} (h : a = r) : Ev (fun _ => Option.some a) r := h ▸ Ev.now a

/-! ### numbers -/
theorem wf_u64 {a : Int} (hw : (Lit.int .u64 a).wf = true) : 0 ≤ a ∧ a < 18446744073709551616 := by
  simp only [Lit.wf, Bool.and_eq_true, decide_eq_true_eq] at hw
  have e0 : IntKind.u64.min = 0 := by decide
  have e1 : IntKind.u64.max = 18446744073709551615 := by decide
  rw [e0, e1] at hw
  omega
theorem wf_i64 {a : Int} (hw : (Lit.int .i64 a).wf = true) : -9223372036854775808 ≤ a ∧ a ≤ 9223372036854775807 := by
  simp only [Lit.wf, Bool.and_eq_true, decide_eq_true_eq] at hw
  have e0 : IntKind.i64.min = -9223372036854775808 := by decide
  have e1 : IntKind.i64.max = 9223372036854775807 := by decide
  rw [e0, e1] at hw
  omega
theorem w64 {n : Int} (h0 : -9223372036854775808 ≤ n) (h1 : n ≤ 9223372036854775807) : wrap64 n = n := by
  unfold wrap64
  omega
theorem knows_ok : Ev haywainlaw10_knows.f true := Ev.of haywainlaw10_knows.mono (k := 60) (by decide +kernel)
theorem knows_so : Ev (fun k => (haywainlaw10_knows.f k).bind fun t => some t) true := Ev.bind knows_ok (Ev.some rfl)

/-! ### lists -/
theorem rd_at {l : List Int} {i : Nat} (h : i < l.length) : rd l (i : Int) = l[i] := by
  unfold rd
  rw [Int.toNat_natCast, List.getD_eq_getElem?_getD, List.getElem?_eq_getElem h]
  rfl
theorem drop_end {α : Type} {l : List α} {i : Nat} (h : l.drop i = []) : l.length ≤ i := List.drop_eq_nil_iff.mp h
theorem drop_nextG {α : Type} {l : List α} {i : Nat} {w : α} {t : List α} (h : l.drop i = w :: t) : i < l.length ∧ l[i]? = some w ∧ l.drop (i + 1) = t := by
  have hi : i < l.length := by
    refine Nat.lt_of_not_le fun hn => ?_
    rw [List.drop_eq_nil_iff.mpr hn] at h
    exact absurd h (by simp)
  have h2 := List.drop_eq_getElem_cons hi
  rw [h2] at h
  injection h with ha hb
  exact ⟨hi, by rw [List.getElem?_eq_getElem hi, ha], hb⟩
theorem drop_next {l : List Int} {i : Nat} {w : Int} {t : List Int} (h : l.drop i = w :: t) : i < l.length ∧ rd l (i : Int) = w ∧ l.drop (i + 1) = t := by
  obtain ⟨hi, h2, h3⟩ := drop_nextG h
  refine ⟨hi, ?_, h3⟩
  unfold rd
  rw [Int.toNat_natCast, List.getD_eq_getElem?_getD, h2]
  rfl
theorem nat_up {i n : Nat} (h : i < n) (hn : n ≤ 4000000000000) : wrap64 ((i : Int) + 1) = ((i + 1 : Nat) : Int) := by
  rw [w64 (by omega) (by omega)]; omega

/-! ### owners that may be -/
def okW (w : Int) : Bool := decide (1 ≤ w) && decide (w ≤ 99)
theorem okW_iff {w : Int} : okW w = true ↔ 1 ≤ w ∧ w ≤ 99 := by simp [okW]
def sizeP (l : List Int) : Bool := decide (1 ≤ l.length) && decide (l.length ≤ 6)
def rightP (l : List Int) : Bool := l.all okW && sizeP l
theorem rightP_iff {l : List Int} : rightP l = true ↔ (∀ w ∈ l, 1 ≤ w ∧ w ≤ 99) ∧ 1 ≤ l.length ∧ l.length ≤ 6 := by
  simp [rightP, sizeP, okW, List.all_eq_true]
theorem right_loop (l : List Int) (hl : l.length ≤ 4000000000000) : ∀ (t : List Int) (i : Nat), l.drop i = t → Ev (fun k => plan_Right.l0 k l l (l.length : Int) (i : Int)) (t.all okW && sizeP l)
  | [], i, h => by
    have hi := drop_end h
    refine Ev.step (fun k => plan_Right.l0.eq_2 _ _ _ _ k) ?_
    refine Ev.neg (by omega) ?_
    unfold sizeP
    by_cases e : (l.length : Int) ≥ 1
    · refine Ev.pos e (Ev.some ?_)
      have e2 : decide ((l.length : Int) ≤ 6) = decide (l.length ≤ 6) := decide_eq_decide.mpr (by omega)
      rw [e2, decide_eq_true (by omega : 1 ≤ l.length)]; rfl
    · refine Ev.neg e (Ev.some ?_)
      rw [decide_eq_false (by omega : ¬ 1 ≤ l.length)]; simp
  | w :: t, i, h => by
    obtain ⟨hi, hw, ht⟩ := drop_next h
    refine Ev.step (fun k => plan_Right.l0.eq_2 _ _ _ _ k) ?_
    refine Ev.pos (by omega) (Ev.pos (by omega) (Ev.pos (by omega) ?_))
    rw [hw, nat_up hi hl]
    simp only [List.all_cons, okW]
    by_cases e1 : w < 1
    · refine Ev.pos e1 (Ev.some ?_)
      rw [decide_eq_false (by omega : ¬ 1 ≤ w)]; rfl
    refine Ev.neg e1 ?_
    rw [decide_eq_true (by omega : 1 ≤ w)]
    by_cases e2 : w > 99
    · refine Ev.pos e2 (Ev.some ?_)
      rw [decide_eq_false (by omega : ¬ w ≤ 99)]; rfl
    refine Ev.neg e2 ?_
    rw [decide_eq_true (by omega : w ≤ 99)]
    exact right_loop l hl t (i + 1) ht
theorem right_is (l : List Int) (hl : l.length ≤ 4000000000000) : Ev (fun k => plan_Right.f k l) (rightP l) := right_loop l hl l 0 rfl
theorem great_is (l : List Int) : haywainlaw10_great.f l = some (decide ((l.length : Int) > 50)) := rfl

/-! ### the same, as the document says it -/
theorem id_is (w : Int) : haywainref10_id.f w = some (okW w) := by
  unfold haywainref10_id.f okW
  by_cases e : w > 0
  · rw [if_pos e, decide_eq_true (by omega : 1 ≤ w)]; rfl
  · rw [if_neg e, decide_eq_false (by omega : ¬ 1 ≤ w)]; rfl
theorem refright_loop (l : List Int) (hl : l.length ≤ 4000000000000) : ∀ (t : List Int) (i : Nat) (b : Bool), l.drop i = t → Ev (fun k => haywainref10_Right.l0 k l b (i : Int)) (b && t.all okW)
  | [], i, b, h => by
    have hi := drop_end h
    refine Ev.step (fun k => haywainref10_Right.l0.eq_2 _ _ _ k) ?_
    exact Ev.neg (by omega) (Ev.some (by simp))
  | w :: t, i, b, h => by
    obtain ⟨hi, hw, ht⟩ := drop_next h
    refine Ev.step (fun k => haywainref10_Right.l0.eq_2 _ _ _ k) ?_
    refine Ev.pos (by omega) ?_
    rw [nat_up hi hl]
    cases b with
    | true =>
      refine Ev.pos rfl (Ev.pos (by omega) (Ev.bind0 (by rw [hw]; exact id_is w) ?_))
      have := refright_loop l hl t (i + 1) (okW w) ht
      simpa using this
    | false =>
      refine Ev.neg (by decide) ?_
      have := refright_loop l hl t (i + 1) false ht
      simpa using this
theorem refright_is (l : List Int) (hl : l.length ≤ 4000000000000) : Ev (fun k => haywainref10_Right.f k l) (rightP l) := by
  unfold haywainref10_Right.f rightP sizeP
  have go : ∀ b : Bool, Ev (fun k => haywainref10_Right.j0 k l b) (b && l.all okW) := fun b => Ev.step (fun k => haywainref10_Right.j0.eq_2 _ _ k) (refright_loop l hl l 0 b rfl)
  rw [Bool.and_comm]
  by_cases e : (l.length : Int) > 0
  · refine Ev.pos e ?_
    have e2 : decide ((l.length : Int) ≤ 6) = decide (l.length ≤ 6) := decide_eq_decide.mpr (by omega)
    rw [e2, decide_eq_true (by omega : 1 ≤ l.length), Bool.true_and]
    exact go _
  · refine Ev.neg e ?_
    rw [decide_eq_false (by omega : ¬ 1 ≤ l.length)]
    exact go _

/-! ### lists alike, or not -/
theorem sameq_loop (a b : List Int) (hl : a.length = b.length) (ha : a.length ≤ 1000) : ∀ (t s : List Int) (i : Nat), a.drop i = t → b.drop i = s → Ev (fun k => haywainref09_SameInts.l0 k a b (i : Int)) (decide (t = s))
  | [], s, i, h, h' => by
    have h1 := drop_end h
    have e : s = [] := by rw [← h', List.drop_eq_nil_iff]; omega
    subst e
    refine Ev.step (fun k => haywainref09_SameInts.l0.eq_2 _ _ _ k) ?_
    exact Ev.neg (by omega) (Ev.some rfl)
  | w :: t, [], i, h, h' => by
    have h1 := (drop_next h).1
    have h2 := drop_end h'
    omega
  | w :: t, v :: s, i, h, h' => by
    obtain ⟨h1, hw, ht⟩ := drop_next h
    obtain ⟨h2, hv, hs⟩ := drop_next h'
    refine Ev.step (fun k => haywainref09_SameInts.l0.eq_2 _ _ _ k) ?_
    refine Ev.pos (by omega) (Ev.pos (by omega) (Ev.pos (by omega) ?_))
    rw [hw, hv, nat_up h1 (by omega)]
    by_cases e : w = v
    · refine Ev.pos e ?_
      have ih := sameq_loop a b hl ha t s (i + 1) ht hs
      have e2 : (w :: t = v :: s) = (t = s) := by simp [e]
      simp only [e2]
      exact ih
    · refine Ev.neg e (Ev.some ?_)
      simp [e]
theorem sameq_is (a b : List Int) (hl : a.length = b.length) (ha : a.length ≤ 1000) : Ev (fun k => haywainref09_SameInts.f k a b) (decide (a = b)) := by
  unfold haywainref09_SameInts.f
  exact Ev.pos (by omega) (sameq_loop a b hl ha a b 0 rfl rfl)

/-! ### who may be members -/
def up : Int → List Int → Bool
  | _, [] => true
  | b, w :: t => decide (b < w) && (decide (w ≤ 99) && up w t)
def rest (l : List Int) : Bool := decide ((l.length : Int) ≥ 1) && decide ((l.length : Int) ≤ 5)
def rightB (l : List Int) : Bool := up 0 l && rest l
theorem ring_loop (l : List Int) (hl : l.length ≤ 4000000000000) : ∀ (t : List Int) (i : Nat) (b : Int), l.drop i = t → Ev (fun k => ring_Right.l0 k l b l (l.length : Int) (i : Int)) (up b t && rest l)
  | [], i, b, h => by
    have hi := drop_end h
    refine Ev.step (fun k => ring_Right.l0.eq_2 _ _ _ _ _ k) ?_
    refine Ev.neg (by omega) ?_
    simp only [up, Bool.true_and, rest]
    by_cases h1 : (l.length : Int) ≥ 1
    · exact Ev.pos h1 (Ev.some (by rw [decide_eq_true h1]; rfl))
    · exact Ev.neg h1 (Ev.some (by rw [decide_eq_false h1]; rfl))
  | w :: t, i, b, h => by
    obtain ⟨hi, hw, ht⟩ := drop_next h
    have ih := ring_loop l hl t (i + 1) w ht
    refine Ev.step (fun k => ring_Right.l0.eq_2 _ _ _ _ _ k) ?_
    refine Ev.pos (by omega) (Ev.pos (by omega) (Ev.pos (by omega) ?_))
    rw [hw, nat_up hi hl]
    simp only [up]
    by_cases h1 : w ≤ b
    · exact Ev.pos h1 (Ev.some (by rw [decide_eq_false (by omega : ¬ b < w)]; rfl))
    · refine Ev.neg h1 ?_
      rw [decide_eq_true (by omega : b < w), Bool.true_and]
      by_cases h2 : w > 99
      · exact Ev.pos h2 (Ev.some (by rw [decide_eq_false (by omega : ¬ w ≤ 99)]; rfl))
      · refine Ev.neg h2 ?_
        rw [decide_eq_true (by omega : w ≤ 99), Bool.true_and]
        exact ih
theorem ring_is (l : List Int) (hl : l.length ≤ 4000000000000) : Ev (fun k => ring_Right.f k l) (rightB l) := ring_loop l hl l 0 0 rfl
theorem rightB_iff {l : List Int} : rightB l = true ↔ up 0 l = true ∧ 1 ≤ l.length ∧ l.length ≤ 5 := by
  simp only [rightB, rest, Bool.and_eq_true, decide_eq_true_eq]
  exact ⟨fun ⟨a, b, c⟩ => ⟨a, by omega, by omega⟩, fun ⟨a, b, c⟩ => ⟨a, by omega, by omega⟩⟩
theorem up_mem : ∀ {l : List Int} {b : Int}, up b l = true → ∀ w ∈ l, b < w ∧ w ≤ 99
  | [], _, _, w, hw => by simp at hw
  | x :: t, b, h, w, hw => by
    simp only [up, Bool.and_eq_true, decide_eq_true_eq] at h
    rcases List.mem_cons.mp hw with rfl | hw
    · exact ⟨h.1, h.2.1⟩
    · have := up_mem h.2.2 w hw
      omega
theorem refring_loop (l : List Int) (hl : l.length ≤ 4000000000000) : ∀ (t : List Int) (i : Nat) (b : Int) (ok : Bool), l.drop i = t → (i = 0 ∧ b = 0 ∨ 0 < i ∧ b = rd l ((i : Int) - 1)) → (ok = true → 0 ≤ b) →
    Ev (fun k => haywainref09_Right.l0 k l ok (i : Int)) (ok && up b t)
  | [], i, b, ok, h, _, _ => by
    have hi := drop_end h
    refine Ev.step (fun k => haywainref09_Right.l0.eq_2 _ _ _ k) ?_
    exact Ev.neg (by omega) (Ev.some (by simp [up]))
  | w :: t, i, b, ok, h, hb, hok => by
    obtain ⟨hi, hw, ht⟩ := drop_next h
    have ih := fun ok' (h' : ok' = true → 0 ≤ w) => refring_loop l hl t (i + 1) w ok' ht (.inr ⟨by omega, by rw [← hw]; congr 1; omega⟩) h'
    refine Ev.step (fun k => haywainref09_Right.l0.eq_2 _ _ _ k) ?_
    refine Ev.pos (by omega) ?_
    rw [hw, nat_up hi hl]
    simp only [up]
    cases ok with
    | false => exact Ev.neg (by decide) (by simpa using ih false (by simp))
    | true =>
      have hb0 := hok rfl
      refine Ev.pos rfl (Ev.pos (by omega) ?_)
      rw [Bool.true_and]
      by_cases h1 : w ≥ 1
      · refine Ev.pos h1 ?_
        by_cases h2 : w ≤ 99
        · refine Ev.pos h2 ?_
          rw [decide_eq_true h2, Bool.true_and]
          by_cases h3 : (i : Int) = 0
          · refine Ev.pos h3 ?_
            rw [decide_eq_true (show b < w by rcases hb with hb | hb <;> omega)]
            exact ih true (by omega)
          · refine Ev.neg h3 ?_
            rw [w64 (n := (i : Int) - 1) (by omega) (by omega)]
            refine Ev.pos (by omega) (Ev.pos (by omega) ?_)
            have e : b = rd l ((i : Int) - 1) := by rcases hb with hb | hb <;> first | exact hb.2 | omega
            rw [← e]
            exact ih _ (by omega)
        · refine Ev.neg h2 ?_
          rw [decide_eq_false h2, Bool.false_and, Bool.and_false]
          simpa using ih false (by simp)
      · refine Ev.neg h1 ?_
        rw [decide_eq_false (show ¬ b < w by omega), Bool.false_and]
        simpa using ih false (by simp)
theorem refring_is (l : List Int) (hl : l.length ≤ 4000000000000) : Ev (fun k => haywainref09_Right.f k l) (rightB l) := by
  unfold haywainref09_Right.f
  have e : rightB l = ((decide ((l.length : Int) ≥ 1) && decide ((l.length : Int) ≤ 5)) && up 0 l) := by
    unfold rightB rest; rw [Bool.and_comm]
  rw [e]
  by_cases h : (l.length : Int) > 0
  · refine Ev.pos h (Ev.step (fun k => haywainref09_Right.j0.eq_2 _ _ k) ?_)
    rw [decide_eq_true (show (l.length : Int) ≥ 1 by omega), Bool.true_and]
    exact refring_loop l hl l 0 0 _ rfl (.inl ⟨rfl, rfl⟩) (by omega)
  · refine Ev.neg h (Ev.step (fun k => haywainref09_Right.j0.eq_2 _ _ k) ?_)
    rw [decide_eq_false (show ¬ (l.length : Int) ≥ 1 by omega), Bool.false_and]
    exact refring_loop l hl l 0 0 _ rfl (.inl ⟨rfl, rfl⟩) (by omega)

/-! ### loads -/
def inB (lo hi x : Int) : Bool := decide (lo ≤ x) && decide (x ≤ hi)
theorem inB_iff {lo hi x : Int} : inB lo hi x = true ↔ lo ≤ x ∧ x ≤ hi := by simp [inB]
theorem all_loop (l : List Int) (n lo hi : Int) (hl : l.length ≤ 4000000000000) : ∀ (t : List Int) (i : Nat), l.drop i = t → Ev (fun k => plan_all.l0 k l n lo hi l (l.length : Int) (i : Int)) (t.all (inB lo hi) && ((l.length : Int) == n))
  | [], i, h => by
    have hi := drop_end h
    refine Ev.step (fun k => plan_all.l0.eq_2 _ _ _ _ _ _ _ k) ?_
    exact Ev.neg (by omega) (Ev.some rfl)
  | w :: t, i, h => by
    obtain ⟨hi', hw, ht⟩ := drop_next h
    refine Ev.step (fun k => plan_all.l0.eq_2 _ _ _ _ _ _ _ k) ?_
    refine Ev.pos (by omega) (Ev.pos (by omega) (Ev.pos (by omega) ?_))
    rw [hw, nat_up hi' hl]
    simp only [List.all_cons, inB]
    by_cases e1 : w < lo
    · refine Ev.pos e1 (Ev.some ?_)
      rw [decide_eq_false (by omega : ¬ lo ≤ w)]; rfl
    refine Ev.neg e1 ?_
    rw [decide_eq_true (by omega : lo ≤ w)]
    by_cases e2 : w > hi
    · refine Ev.pos e2 (Ev.some ?_)
      rw [decide_eq_false (by omega : ¬ w ≤ hi)]; rfl
    refine Ev.neg e2 ?_
    rw [decide_eq_true (by omega : w ≤ hi)]
    exact all_loop l n lo hi hl t (i + 1) ht
theorem all_is (l : List Int) (n lo hi : Int) (hl : l.length ≤ 4000000000000) : Ev (fun k => plan_all.f k l n lo hi) (l.all (inB lo hi) && ((l.length : Int) == n)) := all_loop l n lo hi hl l 0 rfl
def fi (n : Int) : List Int → Nat
  | [] => 0
  | x :: t => if x = n then 0 else fi n t + 1
theorem fi_lt {n : Int} : ∀ {t : List Int}, n ∈ t → fi n t < t.length
  | x :: t, h => by
    simp only [fi]
    by_cases e : x = n
    · rw [if_pos e]; simp
    · rw [if_neg e]
      have := fi_lt ((List.mem_cons.mp h).resolve_left (Ne.symm e))
      simp only [List.length_cons]; omega
theorem find_loop (l : List Int) (n : Int) (hl : l.length ≤ 4000000000000) : ∀ (t : List Int) (i : Nat), l.drop i = t → Ev (fun k => plan_find.l0 k n l (l.length : Int) (i : Int)) (if n ∈ t then ((i + fi n t : Nat) : Int) else -1)
  | [], i, h => by
    have hi := drop_end h
    refine Ev.step (fun k => plan_find.l0.eq_2 _ _ _ _ k) ?_
    exact Ev.neg (by omega) (Ev.some (by simp))
  | w :: t, i, h => by
    obtain ⟨hi, hw, ht⟩ := drop_next h
    refine Ev.step (fun k => plan_find.l0.eq_2 _ _ _ _ k) ?_
    refine Ev.pos (by omega) (Ev.pos (by omega) (Ev.pos (by omega) ?_))
    rw [hw, nat_up hi hl]
    by_cases e : w = n
    · exact Ev.pos e (Ev.some (by simp [fi, e]))
    · refine Ev.neg e ?_
      have ih := find_loop l n hl t (i + 1) ht
      have e2 : (n ∈ w :: t) = (n ∈ t) := by simp [Ne.symm e]
      have e3 : i + fi n (w :: t) = i + 1 + fi n t := by simp only [fi, if_neg e]; omega
      rw [e3]
      simp only [e2]
      exact ih
theorem find_is (l : List Int) (n : Int) (hl : l.length ≤ 4000000000000) : Ev (fun k => plan_find.f k l n) (if n ∈ l then ((fi n l : Nat) : Int) else -1) := by
  have := find_loop l n hl l 0 rfl
  rw [Nat.zero_add] at this
  exact this
/-- The load of one member. -/
def ld (w sl : Int) : List Int → List Int → Int
  | o :: t, c :: cs => (if o = w then c * sl else 0) + ld w sl t cs
  | _, _ => 0
def ldL (o c : List Int) : List Int → List Int → List Int
  | w :: m, sl :: s => ld w sl o c :: ldL o c m s
  | _, _ => []
theorem ldL_len (o c : List Int) : ∀ {m s : List Int}, s.length = m.length → (ldL o c m s).length = m.length
  | [], _, _ => by simp [ldL]
  | _ :: _, [], h => by simp at h
  | w :: m, sl :: s, h => by
    simp only [ldL, List.length_cons]
    rw [ldL_len o c (by simpa using h)]
/-- Loads that stand, and what is added to them. -/
def addA (t cs : List Int) : List Int → List Int → List Int → List Int
  | w :: m, sl :: s, x :: out => (x + ld w sl t cs) :: addA t cs m s out
  | _, _, _ => []
theorem addA_nil : ∀ {m s out : List Int}, s.length = m.length → out.length = m.length → addA [] [] m s out = out
  | [], _, [], _, _ => by simp [addA]
  | [], _, _ :: _, _, h => by simp at h
  | _ :: _, [], _, h, _ => by simp at h
  | _ :: _, _ :: _, [], _, h => by simp at h
  | w :: m, sl :: s, x :: out, h1, h2 => by
    simp only [addA, ld, Int.add_zero]
    rw [addA_nil (by simpa using h1) (by simpa using h2)]
theorem addA_zero (o c : List Int) : ∀ {m s : List Int}, s.length = m.length → addA o c m s (List.replicate m.length 0) = ldL o c m s
  | [], _, _ => by simp [addA, ldL]
  | _ :: _, [], h => by simp at h
  | w :: m, sl :: s, h => by
    simp only [List.length_cons, List.replicate_succ, addA, ldL, Int.zero_add]
    rw [addA_zero o c (by simpa using h)]
theorem addA_skip {w : Int} {t cs : List Int} {c : Int} : ∀ {m s out : List Int}, w ∉ m → addA (w :: t) (c :: cs) m s out = addA t cs m s out
  | [], _, _, _ => by simp [addA]
  | _ :: _, [], _, _ => by simp [addA]
  | _ :: _, _ :: _, [], _ => by simp [addA]
  | x :: m, sl :: s, y :: out, h => by
    simp only [List.mem_cons, not_or] at h
    simp only [addA, ld, if_neg h.1, Int.zero_add]
    rw [addA_skip h.2]
theorem up_not : ∀ {m : List Int} {b : Int}, up b m = true → b ∉ m := by
  intro m b h hm
  have := up_mem h b hm
  omega
theorem rd_succ (x : Int) (l : List Int) (j : Nat) : rd (x :: l) ((j + 1 : Nat) : Int) = rd l (j : Int) := by simp [rd]
theorem rd_zero (x : Int) (l : List Int) : rd (x :: l) ((0 : Nat) : Int) = x := by simp [rd]
theorem step_add {w : Int} {t cs : List Int} {c : Int} : ∀ {m s out : List Int} {b : Int}, up b m = true → w ∈ m → s.length = m.length → out.length = m.length →
    addA (w :: t) (c :: cs) m s out = addA t cs m s (out.set (fi w m) (rd out (fi w m : Int) + c * rd s (fi w m : Int)))
  | [], _, _, _, _, h, _, _ => by simp at h
  | _ :: _, [], _, _, _, _, h, _ => by simp at h
  | _ :: _, _ :: _, [], _, _, _, _, h => by simp at h
  | x :: m, sl :: s, y :: out, b, hu, hw, h1, h2 => by
    simp only [up, Bool.and_eq_true, decide_eq_true_eq] at hu
    by_cases e : x = w
    · have hn : w ∉ m := by rw [← e]; exact up_not hu.2.2
      have e0 : fi w (x :: m) = 0 := by simp only [fi, if_pos e]
      rw [e0, rd_zero, rd_zero]
      simp only [List.set_cons_zero, addA, ld, if_pos e.symm]
      rw [addA_skip hn, Int.add_assoc]
    · have e0 : fi w (x :: m) = fi w m + 1 := by simp only [fi, if_neg e]
      have hm := (List.mem_cons.mp hw).resolve_left (Ne.symm e)
      rw [e0, rd_succ, rd_succ]
      simp only [List.set_cons_succ, addA, ld, if_neg (Ne.symm e), Int.zero_add]
      rw [step_add hu.2.2 hm (by simpa using h1) (by simpa using h2)]
theorem rd_mem {l : List Int} {j : Nat} (h : j < l.length) : rd l (j : Int) ∈ l := by rw [rd_at h]; exact List.getElem_mem _
theorem mul_bound {c s : Int} (hc : 0 ≤ c ∧ c ≤ 1000) (hs : 1 ≤ s ∧ s ≤ 10) : 0 ≤ c * s ∧ c * s ≤ 10000 :=
  ⟨Int.mul_nonneg hc.1 (by omega), by
    have h1 := Int.mul_le_mul_of_nonneg_right hc.2 (by omega : 0 ≤ s)
    have h2 := Int.mul_le_mul_of_nonneg_left hs.2 (by decide : (0 : Int) ≤ 1000)
    omega⟩
theorem loads_loop {o m c s : List Int} (ho : o.length ≤ 100) (hc : c.length = o.length) (hs : s.length = m.length) (hm : m.length ≤ 100) (hu : up 0 m = true) (hcb : ∀ x ∈ c, 0 ≤ x ∧ x ≤ 1000) (hsb : ∀ x ∈ s, 1 ≤ x ∧ x ≤ 10) :
    ∀ (t cs : List Int) (i : Nat) (out : List Int), o.drop i = t → c.drop i = cs → out.length = m.length → (∀ x ∈ out, 0 ≤ x ∧ x ≤ 10000 * i) →
    Ev (fun k => plan_Loads.l0 k m c s out o (o.length : Int) (i : Int)) (if (t.all fun w => decide (w ∈ m)) = true then (addA t cs m s out, 0) else ([], 4))
  | [], cs, i, out, h, h', hl, _ => by
    have hi := drop_end h
    have e : cs = [] := by rw [← h', List.drop_eq_nil_iff]; omega
    subst e
    refine Ev.step (fun k => plan_Loads.l0.eq_2 _ _ _ _ _ _ _ k) ?_
    refine Ev.neg (by omega) (Ev.some ?_)
    rw [if_pos (by rfl), addA_nil hs hl]
  | w :: t, [], i, out, h, h', hl, _ => by
    have h1 := (drop_next h).1
    have h2 := drop_end h'
    omega
  | w :: t, cp :: cs, i, out, h, h', hl, hb => by
    obtain ⟨hi, hw, ht⟩ := drop_next h
    obtain ⟨hi', hcp, hcs⟩ := drop_next h'
    refine Ev.step (fun k => plan_Loads.l0.eq_2 _ _ _ _ _ _ _ k) ?_
    refine Ev.pos (by omega) (Ev.pos (by omega) (Ev.pos (by omega) ?_))
    rw [hw]
    refine Ev.bind (find_is m w (by omega)) ?_
    by_cases hwm : w ∈ m
    · have hj := fi_lt hwm
      rw [if_pos hwm]
      refine Ev.neg (by omega) (Ev.pos (by omega) (Ev.pos (by omega) (Ev.pos (by omega) (Ev.pos (by omega) ?_))))
      have hcx := hcb cp (by rw [← hcp]; exact rd_mem hi')
      have hsx := hsb _ (rd_mem (l := s) (j := fi w m) (by omega))
      have hox := hb _ (rd_mem (l := out) (j := fi w m) (by omega))
      have hmb := mul_bound hcx hsx
      rw [hcp, w64 (n := cp * rd s (fi w m : Int)) (by omega) (by omega), w64 (n := rd out (fi w m : Int) + cp * rd s (fi w m : Int)) (by omega) (by omega), nat_up hi (by omega), Int.toNat_natCast]
      have ih := loads_loop ho hc hs hm hu hcb hsb t cs (i + 1) (out.set (fi w m) (rd out (fi w m : Int) + cp * rd s (fi w m : Int))) ht hcs (by rw [List.length_set]; exact hl) (by
        intro x hx
        rcases List.mem_or_eq_of_mem_set hx with q | q
        · have := hb x q; omega
        · subst q; omega)
      simp only [List.all_cons, decide_eq_true hwm, Bool.true_and]
      rw [step_add hu hwm hs hl]
      exact ih
    · rw [if_neg hwm]
      refine Ev.pos (by decide) (Ev.some ?_)
      rw [if_neg (by simp [hwm])]
def okL (o m c s : List Int) : Prop := rightP o = true ∧ rightB m = true ∧ (c.all (inB 0 1000) = true ∧ c.length = o.length) ∧ (s.all (inB 1 10) = true ∧ s.length = m.length)
instance (o m c s : List Int) : Decidable (okL o m c s) := by unfold okL; infer_instance
def inM (o m : List Int) : Bool := o.all fun w => decide (w ∈ m)
def loadsM (o m c s : List Int) : List Int × Int := if okL o m c s then (if inM o m = true then (ldL o c m s, 0) else ([], 4)) else ([], 1)
theorem all_pair {c : List Int} {n : Nat} {lo hi : Int} : (c.all (inB lo hi) && ((c.length : Int) == (n : Int))) = true ↔ c.all (inB lo hi) = true ∧ c.length = n := by
  rw [Bool.and_eq_true, beq_iff_eq]
  exact ⟨fun ⟨a, b⟩ => ⟨a, by omega⟩, fun ⟨a, b⟩ => ⟨a, by omega⟩⟩
theorem loads_is (o m c s : List Int) (ho : o.length ≤ 100) (hm : m.length ≤ 100) (hc : c.length ≤ 100) (hs : s.length ≤ 100) : Ev (fun k => plan_Loads.f k o m c s) (loadsM o m c s) := by
  unfold plan_Loads.f
  have no : ¬ okL o m c s → Ev (fun k => plan_Loads.j0 k o m c s true) (loadsM o m c s) := by
    intro h
    unfold loadsM
    rw [if_neg h]
    exact Ev.step (fun k => plan_Loads.j0.eq_2 _ _ _ _ _ k) (Ev.pos rfl (Ev.some rfl))
  refine Ev.bind (right_is o (by omega)) ?_
  by_cases h1 : rightP o = true
  rotate_left
  · exact Ev.neg h1 (no fun h => h1 h.1)
  refine Ev.pos h1 (Ev.bind (ring_is m (by omega)) ?_)
  by_cases h2 : rightB m = true
  rotate_left
  · exact Ev.neg h2 (no fun h => h2 h.2.1)
  refine Ev.pos h2 (Ev.bind (all_is c _ 0 1000 (by omega)) ?_)
  by_cases h3 : (c.all (inB 0 1000) && ((c.length : Int) == (o.length : Int))) = true
  rotate_left
  · exact Ev.neg h3 (no fun h => h3 (all_pair.mpr h.2.2.1))
  refine Ev.pos h3 (Ev.bind (all_is s _ 1 10 (by omega)) ?_)
  by_cases h4 : (s.all (inB 1 10) && ((s.length : Int) == (m.length : Int))) = true
  rotate_left
  · simp only [eq_false_of_ne_true h4, Bool.not_false]
    exact no fun h => h4 (all_pair.mpr h.2.2.2)
  simp only [h4, Bool.not_true]
  have hok : okL o m c s := ⟨h1, h2, all_pair.mp h3, all_pair.mp h4⟩
  unfold loadsM
  rw [if_pos hok]
  refine Ev.step (fun k => plan_Loads.j0.eq_2 _ _ _ _ _ k) (Ev.neg (by decide) (Ev.pos (by omega) (Ev.pos (by rw [Int.toNat_natCast]; omega) ?_)))
  rw [Int.toNat_natCast]
  have hcb : ∀ x ∈ c, 0 ≤ x ∧ x ≤ 1000 := fun x hx => inB_iff.mp (List.all_eq_true.mp hok.2.2.1.1 x hx)
  have hsb : ∀ x ∈ s, 1 ≤ x ∧ x ≤ 10 := fun x hx => inB_iff.mp (List.all_eq_true.mp hok.2.2.2.1 x hx)
  have := loads_loop ho hok.2.2.1.2 hok.2.2.2.2 hm (rightB_iff.mp h2).1 hcb hsb o c 0 (List.replicate m.length 0) rfl rfl (by simp) (by
    intro x hx
    have := List.eq_of_mem_replicate hx
    omega)
  rw [addA_zero o c hok.2.2.2.2] at this
  exact this

/-! ### the same, as the document says it -/
theorem has_loop (l : List Int) (n : Int) (hl : l.length ≤ 4000000000000) : ∀ (t : List Int) (i : Nat), l.drop i = t → Ev (fun k => haywainref09_Has.l0 k l n (i : Int)) (decide (n ∈ t))
  | [], i, h => by
    have hi := drop_end h
    refine Ev.step (fun k => haywainref09_Has.l0.eq_2 _ _ _ k) ?_
    exact Ev.neg (by omega) (Ev.some (by simp))
  | w :: t, i, h => by
    obtain ⟨hi, hw, ht⟩ := drop_next h
    refine Ev.step (fun k => haywainref09_Has.l0.eq_2 _ _ _ k) ?_
    refine Ev.pos (by omega) (Ev.pos (by omega) ?_)
    rw [hw, nat_up hi hl]
    by_cases e : w = n
    · exact Ev.pos e (Ev.some (by simp [e]))
    · refine Ev.neg e ?_
      have ih := has_loop l n hl t (i + 1) ht
      have e2 : (n ∈ w :: t) = (n ∈ t) := by simp [Ne.symm e]
      simp only [e2]
      exact ih
theorem has_is (l : List Int) (n : Int) (hl : l.length ≤ 4000000000000) : Ev (fun k => haywainref09_Has.f k l n) (decide (n ∈ l)) := has_loop l n hl l 0 rfl
theorem load_loop {o c : List Int} {w sl : Int} (ho : o.length ≤ 100) (hc : c.length = o.length) (hcb : ∀ x ∈ c, 0 ≤ x ∧ x ≤ 1000) (hs : 1 ≤ sl ∧ sl ≤ 10) : ∀ (t cs : List Int) (i : Nat) (n : Int), o.drop i = t → c.drop i = cs → 0 ≤ n → n ≤ 10000 * i →
    Ev (fun k => haywainref10_load.l0 k o w c sl n (i : Int)) (n + ld w sl t cs)
  | [], cs, i, n, h, _, _, _ => by
    have hi := drop_end h
    refine Ev.step (fun k => haywainref10_load.l0.eq_2 _ _ _ _ _ _ k) ?_
    exact Ev.neg (by omega) (Ev.some (by simp [ld]))
  | v :: t, [], i, n, h, h', _, _ => by
    have h1 := (drop_next h).1
    have h2 := drop_end h'
    omega
  | v :: t, cp :: cs, i, n, h, h', h0, hn => by
    obtain ⟨hi, hv, ht⟩ := drop_next h
    obtain ⟨hi', hcp, hcs⟩ := drop_next h'
    have hcx := hcb cp (by rw [← hcp]; exact rd_mem hi')
    have hmb := mul_bound hcx hs
    refine Ev.step (fun k => haywainref10_load.l0.eq_2 _ _ _ _ _ _ k) ?_
    refine Ev.pos (by omega) (Ev.pos (by omega) ?_)
    rw [hv, nat_up hi (by omega)]
    simp only [ld]
    by_cases e : v = w
    · refine Ev.pos e (Ev.pos (by omega) ?_)
      rw [if_pos e, hcp, w64 (n := cp * sl) (by omega) (by omega), w64 (n := n + cp * sl) (by omega) (by omega), ← Int.add_assoc]
      exact load_loop ho hc hcb hs t cs (i + 1) (n + cp * sl) ht hcs (by omega) (by omega)
    · refine Ev.neg e ?_
      rw [if_neg e, Int.zero_add]
      exact load_loop ho hc hcb hs t cs (i + 1) n ht hcs h0 (by omega)
section
variable {o m c s : List Int}
theorem ref3 (ho : o.length ≤ 100) (hc : c.length = o.length) (hs : s.length = m.length) (hm : m.length ≤ 100) (hcb : ∀ x ∈ c, 0 ≤ x ∧ x ≤ 1000) (hsb : ∀ x ∈ s, 1 ≤ x ∧ x ≤ 10) :
    ∀ (t ss : List Int) (i : Nat) (out : List Int), m.drop i = t → s.drop i = ss → out.length ≤ i → Ev (fun k => haywainref10_Loads.l3 k o m c s out (i : Int)) (out ++ ldL o c t ss, 0)
  | [], ss, i, out, h, _, _ => by
    have hi := drop_end h
    refine Ev.step (fun k => haywainref10_Loads.l3.eq_2 _ _ _ _ _ _ k) ?_
    exact Ev.neg (by omega) (Ev.some (by simp [ldL]))
  | w :: t, [], i, out, h, h', _ => by
    have h1 := (drop_next h).1
    have h2 := drop_end h'
    omega
  | w :: t, sl :: ss, i, out, h, h', hl => by
    obtain ⟨hi, hw, ht⟩ := drop_next h
    obtain ⟨hi', hsl, hss⟩ := drop_next h'
    have hsx := hsb sl (by rw [← hsl]; exact rd_mem hi')
    refine Ev.step (fun k => haywainref10_Loads.l3.eq_2 _ _ _ _ _ _ k) ?_
    refine Ev.pos (by omega) (Ev.pos (by omega) (Ev.pos (by omega) ?_))
    rw [hw, hsl, nat_up hi (by omega)]
    have hld := load_loop (w := w) ho hc hcb hsx o c 0 0 rfl rfl (by decide) (by decide)
    rw [Int.zero_add] at hld
    refine Ev.bind hld (Ev.pos (by omega) ?_)
    have := ref3 ho hc hs hm hcb hsb t ss (i + 1) (out ++ [ld w sl o c]) ht hss (by simp; omega)
    rw [List.append_assoc] at this
    exact this
theorem ref2 (ho : o.length ≤ 100) (hm : m.length ≤ 100) {r : List Int × Int} (next : Ev (fun k => haywainref10_Loads.l3 k o m c s [] 0) r) :
    ∀ (t : List Int) (i : Nat), o.drop i = t → Ev (fun k => haywainref10_Loads.l2 k o m c s (i : Int)) (if inM t m = true then r else ([], 4))
  | [], i, h => by
    have hi := drop_end h
    refine Ev.step (fun k => haywainref10_Loads.l2.eq_2 _ _ _ _ _ k) ?_
    rw [if_pos (by rfl)]
    exact Ev.neg (by omega) next
  | w :: t, i, h => by
    obtain ⟨hi, hw, ht⟩ := drop_next h
    refine Ev.step (fun k => haywainref10_Loads.l2.eq_2 _ _ _ _ _ k) ?_
    refine Ev.pos (by omega) (Ev.pos (by omega) ?_)
    rw [hw, nat_up hi (by omega)]
    refine Ev.bind (has_is m w (by omega)) ?_
    by_cases e : w ∈ m
    · have e2 : inM (w :: t) m = inM t m := by simp [inM, e]
      rw [e2]
      exact Ev.pos (decide_eq_true e) (ref2 ho hm next t (i + 1) ht)
    · have e2 : inM (w :: t) m = false := by simp [inM, e]
      rw [e2, if_neg (by decide)]
      exact Ev.neg (by rw [decide_eq_false e]; decide) (Ev.some rfl)
theorem ref1 (hs : s.length ≤ 100) {r : List Int × Int} : ∀ (t : List Int) (i : Nat), s.drop i = t → (t.all (inB 1 10) = true → Ev (fun k => haywainref10_Loads.l2 k o m c s 0) r) →
    Ev (fun k => haywainref10_Loads.l1 k o m c s (i : Int)) (if t.all (inB 1 10) = true then r else ([], 1))
  | [], i, h, next => by
    have hi := drop_end h
    refine Ev.step (fun k => haywainref10_Loads.l1.eq_2 _ _ _ _ _ k) ?_
    rw [if_pos (by rfl)]
    exact Ev.neg (by omega) (next rfl)
  | w :: t, i, h, next => by
    obtain ⟨hi, hw, ht⟩ := drop_next h
    refine Ev.step (fun k => haywainref10_Loads.l1.eq_2 _ _ _ _ _ k) ?_
    refine Ev.pos (by omega) (Ev.pos (by omega) ?_)
    rw [hw, nat_up hi (by omega)]
    by_cases e1 : w < 1
    · rw [if_neg (by simp [inB]; omega)]
      exact Ev.pos e1 (Ev.some rfl)
    refine Ev.neg e1 ?_
    by_cases e2 : w > 10
    · rw [if_neg (by simp [inB]; omega)]
      exact Ev.pos e2 (Ev.some rfl)
    refine Ev.neg e2 ?_
    have e3 : (w :: t).all (inB 1 10) = t.all (inB 1 10) := by rw [List.all_cons, inB_iff.mpr (by omega), Bool.true_and]
    rw [e3] at next ⊢
    exact ref1 hs t (i + 1) ht next
theorem ref0 (hc : c.length ≤ 100) {r : List Int × Int} : ∀ (t : List Int) (i : Nat), c.drop i = t → (t.all (inB 0 1000) = true → Ev (fun k => haywainref10_Loads.l1 k o m c s 0) r) →
    Ev (fun k => haywainref10_Loads.l0 k o m c s (i : Int)) (if t.all (inB 0 1000) = true then r else ([], 1))
  | [], i, h, next => by
    have hi := drop_end h
    refine Ev.step (fun k => haywainref10_Loads.l0.eq_2 _ _ _ _ _ k) ?_
    rw [if_pos (by rfl)]
    exact Ev.neg (by omega) (next rfl)
  | w :: t, i, h, next => by
    obtain ⟨hi, hw, ht⟩ := drop_next h
    refine Ev.step (fun k => haywainref10_Loads.l0.eq_2 _ _ _ _ _ k) ?_
    refine Ev.pos (by omega) (Ev.pos (by omega) ?_)
    rw [hw, nat_up hi (by omega)]
    by_cases e1 : w < 0
    · rw [if_neg (by simp [inB]; omega)]
      exact Ev.pos e1 (Ev.some rfl)
    refine Ev.neg e1 ?_
    by_cases e2 : w > 1000
    · rw [if_neg (by simp [inB]; omega)]
      exact Ev.pos e2 (Ev.some rfl)
    refine Ev.neg e2 ?_
    have e3 : (w :: t).all (inB 0 1000) = t.all (inB 0 1000) := by rw [List.all_cons, inB_iff.mpr (by omega), Bool.true_and]
    rw [e3] at next ⊢
    exact ref0 hc t (i + 1) ht next
end
theorem refloads_is (o m c s : List Int) (ho : o.length ≤ 100) (hm : m.length ≤ 100) (hc : c.length ≤ 100) (hs : s.length ≤ 100) : Ev (fun k => haywainref10_Loads.f k o m c s) (loadsM o m c s) := by
  unfold haywainref10_Loads.f
  have no : ¬ okL o m c s → Ev (fun k => haywainref10_Loads.j0 k o m c s true) (loadsM o m c s) := by
    intro h
    unfold loadsM
    rw [if_neg h]
    exact Ev.step (fun k => haywainref10_Loads.j0.eq_2 _ _ _ _ _ k) (Ev.pos rfl (Ev.some rfl))
  refine Ev.bind (refright_is o (by omega)) ?_
  by_cases h1 : rightP o = true
  rotate_left
  · exact Ev.neg h1 (no fun h => h1 h.1)
  refine Ev.pos h1 (Ev.bind (refring_is m (by omega)) ?_)
  by_cases h2 : rightB m = true
  rotate_left
  · exact Ev.neg h2 (no fun h => h2 h.2.1)
  refine Ev.pos h2 ?_
  by_cases h3 : (c.length : Int) = (o.length : Int)
  rotate_left
  · exact Ev.neg h3 (no fun h => h3 (by have := h.2.2.1.2; omega))
  refine Ev.pos h3 ?_
  by_cases h4 : s.length = m.length
  rotate_left
  · have e : ((s.length : Int) != (m.length : Int)) = true := by simp; omega
    simp only [e]
    exact no fun h => h4 h.2.2.2.2
  have e : ((s.length : Int) != (m.length : Int)) = false := by rw [h4]; simp
  simp only [e]
  refine Ev.step (fun k => haywainref10_Loads.j0.eq_2 _ _ _ _ _ k) (Ev.neg (by decide) ?_)
  have e2 : loadsM o m c s = if c.all (inB 0 1000) = true then (if s.all (inB 1 10) = true then (if inM o m = true then (ldL o c m s, 0) else ([], 4)) else ([], 1)) else ([], 1) := by
    unfold loadsM
    by_cases hcc : c.all (inB 0 1000) = true
    · rw [if_pos hcc]
      by_cases hss : s.all (inB 1 10) = true
      · rw [if_pos hss, if_pos ⟨h1, h2, ⟨hcc, by omega⟩, hss, h4⟩]
      · rw [if_neg hss, if_neg (fun h => hss h.2.2.2.1)]
    · rw [if_neg hcc, if_neg (fun h => hcc h.2.2.1.1)]
  rw [e2]
  refine ref0 hc c 0 rfl (fun hcc => ref1 hs s 0 rfl (fun hss => ?_))
  have hcb : ∀ x ∈ c, 0 ≤ x ∧ x ≤ 1000 := fun x hx => inB_iff.mp (List.all_eq_true.mp hcc x hx)
  have hsb : ∀ x ∈ s, 1 ≤ x ∧ x ≤ 10 := fun x hx => inB_iff.mp (List.all_eq_true.mp hss x hx)
  have := ref3 ho (by omega) h4 hm hcb hsb m s 0 [] rfl rfl (by simp)
  exact ref2 ho hm this o 0 rfl
theorem loadsM_len (o m c s : List Int) : (loadsM o m c s).1.length ≤ m.length := by
  unfold loadsM
  by_cases h : okL o m c s
  · rw [if_pos h]
    by_cases h2 : inM o m = true
    · rw [if_pos h2]
      exact Nat.le_of_eq (ldL_len o c h.2.2.2.2)
    · rw [if_neg h2]; simp
  · rw [if_neg h]; simp

/-! ### the greatest and the least load -/
def hi (l : List Int) : List Int → Nat → Nat → Nat
  | [], _, a => a
  | x :: t, i, a => if x > rd l (a : Int) then hi l t (i + 1) i else hi l t (i + 1) a
def lo (l : List Int) : List Int → Nat → Nat → Nat
  | [], _, a => a
  | x :: t, i, a => if x < rd l (a : Int) then lo l t (i + 1) i else lo l t (i + 1) a
theorem hi_lt {l : List Int} : ∀ {t : List Int} {i a : Nat}, l.drop i = t → a < l.length → hi l t i a < l.length
  | [], _, _, _, h => h
  | x :: t, i, a, hd, h => by
    obtain ⟨hi', _, ht⟩ := drop_next hd
    simp only [hi]
    split
    · exact hi_lt ht hi'
    · exact hi_lt ht h
theorem lo_lt {l : List Int} : ∀ {t : List Int} {i a : Nat}, l.drop i = t → a < l.length → lo l t i a < l.length
  | [], _, _, _, h => h
  | x :: t, i, a, hd, h => by
    obtain ⟨hi', _, ht⟩ := drop_next hd
    simp only [lo]
    split
    · exact lo_lt ht hi'
    · exact lo_lt ht h
theorem best34_loop (l : List Int) (hl : l.length ≤ 1000) : ∀ (t : List Int) (i a : Nat), l.drop i = t → a < l.length → Ev (fun k => plan_best_fn34.l0 k l (a : Int) l (l.length : Int) (i : Int)) (hi l t i a : Int)
  | [], i, a, hd, _ => by
    have h1 := drop_end hd
    refine Ev.step (fun k => plan_best_fn34.l0.eq_2 _ _ _ _ _ k) ?_
    exact Ev.neg (by omega) (Ev.some rfl)
  | x :: t, i, a, hd, ha => by
    obtain ⟨h1, hw, ht⟩ := drop_next hd
    refine Ev.step (fun k => plan_best_fn34.l0.eq_2 _ _ _ _ _ k) ?_
    refine Ev.pos (by omega) (Ev.pos (by omega) (Ev.pos (by omega) (Ev.pos (by omega) (Ev.pos (by omega) ?_))))
    rw [hw, nat_up h1 (by omega)]
    refine Ev.bind0 (show plan_Even_1.f x (rd l (a : Int)) = some (decide (x > rd l (a : Int))) from rfl) ?_
    simp only [hi]
    by_cases e : x > rd l (a : Int)
    · rw [if_pos e]; exact Ev.pos (decide_eq_true e) (best34_loop l hl t (i + 1) i ht h1)
    · rw [if_neg e]; exact Ev.neg (by rw [decide_eq_false e]; decide) (best34_loop l hl t (i + 1) a ht ha)
theorem best35_loop (l : List Int) (hl : l.length ≤ 1000) : ∀ (t : List Int) (i a : Nat), l.drop i = t → a < l.length → Ev (fun k => plan_best_fn35.l0 k l (a : Int) l (l.length : Int) (i : Int)) (lo l t i a : Int)
  | [], i, a, hd, _ => by
    have h1 := drop_end hd
    refine Ev.step (fun k => plan_best_fn35.l0.eq_2 _ _ _ _ _ k) ?_
    exact Ev.neg (by omega) (Ev.some rfl)
  | x :: t, i, a, hd, ha => by
    obtain ⟨h1, hw, ht⟩ := drop_next hd
    refine Ev.step (fun k => plan_best_fn35.l0.eq_2 _ _ _ _ _ k) ?_
    refine Ev.pos (by omega) (Ev.pos (by omega) (Ev.pos (by omega) (Ev.pos (by omega) (Ev.pos (by omega) ?_))))
    rw [hw, nat_up h1 (by omega)]
    refine Ev.bind0 (show plan_Even_2.f x (rd l (a : Int)) = some (decide (x < rd l (a : Int))) from rfl) ?_
    simp only [lo]
    by_cases e : x < rd l (a : Int)
    · rw [if_pos e]; exact Ev.pos (decide_eq_true e) (best35_loop l hl t (i + 1) i ht h1)
    · rw [if_neg e]; exact Ev.neg (by rw [decide_eq_false e]; decide) (best35_loop l hl t (i + 1) a ht ha)

/-! ### loads when one owner is another -/
theorem ld_set {w sl v : Int} : ∀ {O c : List Int} {p : Nat}, p < O.length → c.length = O.length →
    ld w sl (O.set p v) c = ld w sl O c - (if rd O (p : Int) = w then rd c (p : Int) * sl else 0) + (if v = w then rd c (p : Int) * sl else 0)
  | [], _, _, h, _ => by simp at h
  | _ :: _, [], _, _, h => by simp at h
  | x :: O, y :: c, 0, _, _ => by
    simp only [List.set_cons_zero, ld]
    rw [rd_zero, rd_zero]
    omega
  | x :: O, y :: c, p + 1, h, h' => by
    simp only [List.set_cons_succ, ld]
    rw [rd_succ, rd_succ, ld_set (by simpa using h) (by simpa using h')]
    omega
theorem rd_ldL (O c : List Int) : ∀ {m s : List Int} {j : Nat}, s.length = m.length → j < m.length → rd (ldL O c m s) (j : Int) = ld (rd m (j : Int)) (rd s (j : Int)) O c
  | [], _, _, _, h => by simp at h
  | _ :: _, [], _, h, _ => by simp at h
  | w :: m, sl :: s, 0, _, _ => by
    simp only [ldL]
    rw [rd_zero, rd_zero, rd_zero]
  | w :: m, sl :: s, j + 1, h, h' => by
    simp only [ldL]
    rw [rd_succ, rd_succ, rd_succ, rd_ldL O c (by simpa using h) (by simpa using h')]
theorem up_inj : ∀ {m : List Int} {b : Int} {i j : Nat}, up b m = true → i < m.length → j < m.length → rd m (i : Int) = rd m (j : Int) → i = j
  | [], _, _, _, _, h, _, _ => by simp at h
  | x :: m, b, 0, 0, _, _, _, _ => rfl
  | x :: m, b, 0, j + 1, hu, _, h, e => by
    simp only [up, Bool.and_eq_true, decide_eq_true_eq] at hu
    rw [rd_zero, rd_succ] at e
    have := up_mem hu.2.2 _ (rd_mem (l := m) (j := j) (by simpa using h))
    omega
  | x :: m, b, i + 1, 0, hu, h, _, e => by
    simp only [up, Bool.and_eq_true, decide_eq_true_eq] at hu
    rw [rd_zero, rd_succ] at e
    have := up_mem hu.2.2 _ (rd_mem (l := m) (j := i) (by simpa using h))
    omega
  | x :: m, b, i + 1, j + 1, hu, h, h', e => by
    simp only [up, Bool.and_eq_true, decide_eq_true_eq] at hu
    rw [rd_succ, rd_succ] at e
    rw [up_inj hu.2.2 (by simpa using h) (by simpa using h') e]
theorem ld_bound {w sl : Int} (hs : 1 ≤ sl ∧ sl ≤ 10) : ∀ {O c : List Int}, (∀ x ∈ c, 0 ≤ x ∧ x ≤ 1000) → 0 ≤ ld w sl O c ∧ ld w sl O c ≤ 10000 * O.length
  | [], _, _ => by simp [ld]
  | _ :: _, [], _ => by simp only [ld, List.length_cons]; omega
  | x :: O, y :: c, h => by
    have ih := ld_bound (w := w) hs (O := O) (c := c) (fun z hz => h z (by simp [hz]))
    have hb := mul_bound (h y (by simp)) hs
    simp only [ld, List.length_cons]
    split <;> omega
/-- What is known where loads are told. -/
structure Good (m c s O : List Int) : Prop where
  ok : okL O m c s
  inm : inM O m = true
namespace Good
variable {m c s O : List Int} (g : Good m c s O)
include g
theorem lo' : 1 ≤ O.length ∧ O.length ≤ 6 := (rightP_iff.mp g.ok.1).2
theorem hu : up 0 m = true := (rightB_iff.mp g.ok.2.1).1
theorem hm : 1 ≤ m.length ∧ m.length ≤ 5 := (rightB_iff.mp g.ok.2.1).2
theorem hc : c.length = O.length := g.ok.2.2.1.2
theorem hs : s.length = m.length := g.ok.2.2.2.2
theorem hcb : ∀ x ∈ c, 0 ≤ x ∧ x ≤ 1000 := fun x hx => inB_iff.mp (List.all_eq_true.mp g.ok.2.2.1.1 x hx)
theorem hsb : ∀ x ∈ s, 1 ≤ x ∧ x ≤ 10 := fun x hx => inB_iff.mp (List.all_eq_true.mp g.ok.2.2.2.1 x hx)
theorem loads : loadsM O m c s = (ldL O c m s, 0) := by unfold loadsM; rw [if_pos g.ok, if_pos g.inm]
theorem len : (ldL O c m s).length = m.length := ldL_len O c g.hs
theorem cp {q : Nat} (h : q < O.length) : 0 ≤ rd c (q : Int) ∧ rd c (q : Int) ≤ 1000 := g.hcb _ (rd_mem (by rw [g.hc]; exact h))
theorem sp {j : Nat} (h : j < m.length) : 1 ≤ rd s (j : Int) ∧ rd s (j : Int) ≤ 10 := g.hsb _ (rd_mem (by rw [g.hs]; exact h))
theorem lb {j : Nat} (h : j < m.length) : 0 ≤ rd (ldL O c m s) (j : Int) ∧ rd (ldL O c m s) (j : Int) ≤ 60000 := by
  rw [rd_ldL O c g.hs h]
  have := ld_bound (w := rd m (j : Int)) (g.sp h) (O := O) (c := c) g.hcb
  have := g.lo'
  omega
theorem set {p l : Nat} (hl : l < m.length) : Good m c s (O.set p (rd m (l : Int))) := by
  have hw := up_mem g.hu _ (rd_mem (l := m) (j := l) hl)
  have h1 := rightP_iff.mp g.ok.1
  refine ⟨⟨rightP_iff.mpr ⟨?_, by rw [List.length_set]; exact h1.2⟩, g.ok.2.1, ⟨g.ok.2.2.1.1, by rw [List.length_set]; exact g.hc⟩, g.ok.2.2.2⟩, ?_⟩
  · intro w hm
    rcases List.mem_or_eq_of_mem_set hm with q | q
    · exact h1.1 w q
    · subst q; omega
  · refine List.all_eq_true.mpr fun w hm => decide_eq_true ?_
    rcases List.mem_or_eq_of_mem_set hm with q | q
    · exact of_decide_eq_true (List.all_eq_true.mp g.inm w q)
    · subst q; exact rd_mem hl
/-- The loads behind a move. -/
theorem at_set {p h l : Nat} (hp : p < O.length) (hh : h < m.length) (hl : l < m.length) (hne : h ≠ l) (ho : rd O (p : Int) = rd m (h : Int)) {j : Nat} (hj : j < m.length) :
    rd (ldL (O.set p (rd m (l : Int))) c m s) (j : Int) = if j = l then rd (ldL O c m s) (j : Int) + rd c (p : Int) * rd s (l : Int) else if j = h then rd (ldL O c m s) (j : Int) - rd c (p : Int) * rd s (h : Int) else rd (ldL O c m s) (j : Int) := by
  rw [rd_ldL _ c g.hs hj, rd_ldL _ c g.hs hj, ld_set hp g.hc, ho]
  by_cases e1 : j = l
  · rw [if_pos e1, if_neg (fun e => hne ((up_inj g.hu hh hj e).trans e1)), if_pos (by rw [e1])]
    rw [e1]; omega
  · rw [if_neg e1, if_neg (fun e => e1 (up_inj g.hu hl hj e).symm)]
    by_cases e2 : j = h
    · rw [if_pos e2, if_pos (by rw [e2])]
      rw [e2]; omega
    · rw [if_neg e2, if_neg (fun e => e2 (up_inj g.hu hh hj e).symm)]; omega
theorem list_set {p h l : Nat} (hp : p < O.length) (hh : h < m.length) (hl : l < m.length) (hne : h ≠ l) (ho : rd O (p : Int) = rd m (h : Int)) :
    ((ldL O c m s).set h (rd (ldL O c m s) (h : Int) - rd c (p : Int) * rd s (h : Int))).set l (rd ((ldL O c m s).set h (rd (ldL O c m s) (h : Int) - rd c (p : Int) * rd s (h : Int))) (l : Int) + rd c (p : Int) * rd s (l : Int)) = ldL (O.set p (rd m (l : Int))) c m s := by
  have hlen := g.len
  have hlen2 := (g.set (p := p) hl).len
  have e0 : rd ((ldL O c m s).set h (rd (ldL O c m s) (h : Int) - rd c (p : Int) * rd s (h : Int))) (l : Int) = rd (ldL O c m s) (l : Int) := by
    rw [rd_at (by rw [List.length_set]; omega), List.getElem_set_ne hne]
    exact (rd_at (by omega)).symm
  rw [e0]
  refine List.ext_getElem (by rw [List.length_set, List.length_set, hlen, hlen2]) fun j h1 h2 => ?_
  have hj : j < m.length := by omega
  have := g.at_set hp hh hl hne ho hj
  rw [rd_at h2, rd_at (l := ldL O c m s) (by omega)] at this
  rw [this]
  by_cases e1 : j = l
  · subst e1
    rw [if_pos rfl, List.getElem_set_self, rd_at (by omega)]
  · rw [if_neg e1, List.getElem_set_ne (Ne.symm e1)]
    by_cases e2 : j = h
    · subst e2
      rw [if_pos rfl, List.getElem_set_self, rd_at (by omega)]
    · rw [if_neg e2, List.getElem_set_ne (Ne.symm e2)]
end Good
/-- What is tried: the best partition of the worker with the greatest load. -/
def pick (e : Bool) (mh Lh Ll sh sl : Int) : List Int → List Int → Nat → Int → Int → Int × Int
  | w :: t, c :: cs, q, p, least => if w = mh ∧ e = false then (if mx (Lh - c * sh) (Ll + c * sl) < least then pick e mh Lh Ll sh sl t cs (q + 1) (q : Int) (mx (Lh - c * sh) (Ll + c * sl)) else pick e mh Lh Ll sh sl t cs (q + 1) p least) else pick e mh Lh Ll sh sl t cs (q + 1) p least
  | _, _, _, p, least => (p, least)
theorem pick_spec {e : Bool} {mh Lh Ll sh sl : Int} {O c : List Int} : ∀ {t cs : List Int} {q : Nat} {p least : Int}, O.drop q = t → c.drop q = cs →
    pick e mh Lh Ll sh sl t cs q p least = (p, least) ∨ ∃ j : Nat, j < O.length ∧ rd O (j : Int) = mh ∧ e = false ∧ pick e mh Lh Ll sh sl t cs q p least = ((j : Int), mx (Lh - rd c (j : Int) * sh) (Ll + rd c (j : Int) * sl)) ∧ (pick e mh Lh Ll sh sl t cs q p least).2 < least
  | [], _, _, _, _, _, _ => .inl (by simp [pick])
  | _ :: _, [], _, _, _, _, _ => .inl (by simp [pick])
  | w :: t, y :: cs, q, p, least, h, h' => by
    obtain ⟨h1, hw, ht⟩ := drop_next h
    obtain ⟨h2, hy, hcs⟩ := drop_next h'
    simp only [pick]
    by_cases e1 : w = mh ∧ e = false
    · rw [if_pos e1]
      by_cases e2 : mx (Lh - y * sh) (Ll + y * sl) < least
      · rw [if_pos e2]
        rcases pick_spec (e := e) (mh := mh) (Lh := Lh) (Ll := Ll) (sh := sh) (sl := sl) (p := (q : Int)) (least := mx (Lh - y * sh) (Ll + y * sl)) ht hcs with x | ⟨j, a1, a2, a3, a4, a5⟩
        · exact .inr ⟨q, h1, hw.trans e1.1, e1.2, by rw [x, hy], by rw [x]; exact e2⟩
        · exact .inr ⟨j, a1, a2, a3, a4, by omega⟩
      · rw [if_neg e2]; exact pick_spec ht hcs
    · rw [if_neg e1]; exact pick_spec ht hcs
def hiL (m c s O : List Int) : Nat := hi (ldL O c m s) (ldL O c m s) 0 0
def loL (m c s O : List Int) : Nat := lo (ldL O c m s) (ldL O c m s) 0 0
def pickL (m c s O : List Int) : Int × Int := pick (hiL m c s O == loL m c s O) (rd m (hiL m c s O : Int)) (rd (ldL O c m s) (hiL m c s O : Int)) (rd (ldL O c m s) (loL m c s O : Int)) (rd s (hiL m c s O : Int)) (rd s (loL m c s O : Int)) O c 0 (-1) (rd (ldL O c m s) (hiL m c s O : Int))
/-- One move. -/
def onceM (m c s O : List Int) : Option (List Int) := if (pickL m c s O).1 < 0 then none else some (O.set (pickL m c s O).1.toNat (rd m (loL m c s O : Int)))
def evenM (m c s : List Int) : Nat → List Int → List Int
  | 0, O => O
  | n + 1, O => match onceM m c s O with
    | none => O
    | some O' => evenM m c s n O'
section
variable {m c s O : List Int}
theorem hiL_lt (g : Good m c s O) : hiL m c s O < m.length := by
  have := g.len
  have := g.hm
  have := hi_lt (l := ldL O c m s) (t := ldL O c m s) (i := 0) (a := 0) rfl (by omega)
  unfold hiL
  omega
theorem loL_lt (g : Good m c s O) : loL m c s O < m.length := by
  have := g.len
  have := g.hm
  have := lo_lt (l := ldL O c m s) (t := ldL O c m s) (i := 0) (a := 0) rfl (by omega)
  unfold loL
  omega
/-- What one move is. -/
theorem once_spec (_g : Good m c s O) : ((pickL m c s O).1 = -1 ∧ onceM m c s O = none) ∨ ∃ p : Nat, p < O.length ∧ rd O (p : Int) = rd m (hiL m c s O : Int) ∧ hiL m c s O ≠ loL m c s O ∧ (pickL m c s O).1 = (p : Int) ∧
    (pickL m c s O).2 = mx (rd (ldL O c m s) (hiL m c s O : Int) - rd c (p : Int) * rd s (hiL m c s O : Int)) (rd (ldL O c m s) (loL m c s O : Int) + rd c (p : Int) * rd s (loL m c s O : Int)) ∧
    (pickL m c s O).2 < rd (ldL O c m s) (hiL m c s O : Int) ∧ onceM m c s O = some (O.set p (rd m (loL m c s O : Int))) := by
  unfold onceM
  rcases pick_spec (O := O) (c := c) (e := hiL m c s O == loL m c s O) (mh := rd m (hiL m c s O : Int)) (Lh := rd (ldL O c m s) (hiL m c s O : Int)) (Ll := rd (ldL O c m s) (loL m c s O : Int)) (sh := rd s (hiL m c s O : Int)) (sl := rd s (loL m c s O : Int)) (t := O) (cs := c) (q := 0) (p := -1) (least := rd (ldL O c m s) (hiL m c s O : Int)) rfl rfl with x | ⟨j, a1, a2, a3, a4, a5⟩
  · have e : pickL m c s O = (-1, rd (ldL O c m s) (hiL m c s O : Int)) := x
    rw [e]
    exact .inl ⟨rfl, rfl⟩
  · have e : pickL m c s O = ((j : Int), mx (rd (ldL O c m s) (hiL m c s O : Int) - rd c (j : Int) * rd s (hiL m c s O : Int)) (rd (ldL O c m s) (loL m c s O : Int) + rd c (j : Int) * rd s (loL m c s O : Int))) := a4
    have e5 : (pickL m c s O).2 < rd (ldL O c m s) (hiL m c s O : Int) := a5
    refine .inr ⟨j, a1, a2, by simpa using a3, by rw [e], by rw [e], e5, ?_⟩
    rw [e]
    show (if (j : Int) < 0 then none else _) = _
    rw [if_neg (by omega)]
    rfl
theorem once_good (g : Good m c s O) {O' : List Int} (h : onceM m c s O = some O') : Good m c s O' ∧ O'.length = O.length := by
  rcases once_spec g with ⟨_, x⟩ | ⟨p, _, _, _, _, _, _, x⟩
  · rw [x] at h; cases h
  · rw [x] at h
    injection h with h
    subst h
    exact ⟨g.set (loL_lt g), by rw [List.length_set]⟩
theorem even_good : ∀ (n : Nat) {O : List Int}, Good m c s O → Good m c s (evenM m c s n O) ∧ (evenM m c s n O).length = O.length
  | 0, O, g => ⟨g, rfl⟩
  | n + 1, O, g => by
    simp only [evenM]
    cases h : onceM m c s O with
    | none => exact ⟨g, rfl⟩
    | some O' =>
      obtain ⟨g', hl⟩ := once_good g h
      have := even_good n g'
      exact ⟨this.1, this.2.trans hl⟩

/-! ### the walk of making even -/
theorem even_in (g : Good m c s O) {L : List Int} (hL : L = ldL O c m s) {h l : Nat} (hh : h < m.length) (hl : l < m.length) {n i : Int} {r : List Int × Int}
    (fin : ∀ p least, pick (h == l) (rd m (h : Int)) (rd L (h : Int)) (rd L (l : Int)) (rd s (h : Int)) (rd s (l : Int)) O c 0 (-1) (rd L (h : Int)) = (p, least) → Ev (fun k => plan_Even.l1 k m c s L O (h : Int) (l : Int) p least n i O (O.length : Int) (O.length : Int)) r) :
    ∀ (t cs : List Int) (q : Nat) (p least : Int), q ≤ O.length → O.drop q = t → c.drop q = cs → pick (h == l) (rd m (h : Int)) (rd L (h : Int)) (rd L (l : Int)) (rd s (h : Int)) (rd s (l : Int)) O c 0 (-1) (rd L (h : Int)) = pick (h == l) (rd m (h : Int)) (rd L (h : Int)) (rd L (l : Int)) (rd s (h : Int)) (rd s (l : Int)) t cs q p least →
    Ev (fun k => plan_Even.l1 k m c s L O (h : Int) (l : Int) p least n i O (O.length : Int) (q : Int)) r
  | [], cs, q, p, least, hq, hd, _, hp => by
    have h1 := drop_end hd
    have h0 : q = O.length := by omega
    simp only [pick] at hp
    rw [h0]
    exact fin p least hp
  | w :: t, [], q, p, least, _, hd, hd', _ => by
    have h1 := (drop_next hd).1
    have h2 := drop_end hd'
    have := g.hc
    omega
  | w :: t, y :: cs, q, p, least, _, hd, hd', hp => by
    obtain ⟨h1, hw, ht⟩ := drop_next hd
    obtain ⟨h2, hy, hcs⟩ := drop_next hd'
    have hlo := g.lo'
    have hms := g.hm
    have hss := g.hs
    have hlen : L.length = m.length := by rw [hL]; exact g.len
    refine Ev.step (fun k => plan_Even.l1.eq_2 _ _ _ _ _ _ _ _ _ _ _ _ _ _ k) ?_
    refine Ev.pos (by omega) (Ev.pos (by omega) (Ev.pos (by omega) (Ev.pos (by omega) (Ev.pos (by omega) ?_))))
    have next : ∀ p' least', pick (h == l) (rd m (h : Int)) (rd L (h : Int)) (rd L (l : Int)) (rd s (h : Int)) (rd s (l : Int)) O c 0 (-1) (rd L (h : Int)) = pick (h == l) (rd m (h : Int)) (rd L (h : Int)) (rd L (l : Int)) (rd s (h : Int)) (rd s (l : Int)) t cs (q + 1) p' least' →
        Ev (fun k => plan_Even.l1 k m c s L O (h : Int) (l : Int) p' least' n i O (O.length : Int) (wrap64 ((q : Int) + 1))) r := by
      intro p' least' hp'
      rw [nat_up h1 (by omega)]
      exact even_in g hL hh hl fin t cs (q + 1) p' least' (by omega) ht hcs hp'
    simp only [pick] at hp
    rw [hw]
    have skip : ¬ (w = rd m (h : Int) ∧ (h == l) = false) → Ev (fun k => plan_Even.j2 k m c s L O (h : Int) (l : Int) p least (q : Int) n i O (O.length : Int) (q : Int) true) r := by
      intro hn
      rw [if_neg hn] at hp
      exact Ev.step (fun k => plan_Even.j2.eq_2 _ _ _ _ _ _ _ _ _ _ _ _ _ _ _ _ k) (Ev.pos rfl (next _ _ hp))
    by_cases e1 : w = rd m (h : Int)
    · refine Ev.pos e1 ?_
      by_cases e2 : h = l
      · have e3 : ((h : Int) == (l : Int)) = true := by rw [e2]; simp
        rw [e3]
        exact skip (by simp [e2])
      · have e3 : ((h : Int) == (l : Int)) = false := by simp; omega
        have e4 : (h == l) = false := by simp [e2]
        rw [e3]
        rw [if_pos ⟨e1, e4⟩] at hp
        have b1 := g.cp h1
        have b2 := g.sp hh
        have b3 := g.sp hl
        have b4 := g.lb hh
        have b5 := g.lb hl
        rw [← hL] at b4 b5
        rw [hy] at b1
        have b6 := mul_bound b1 b2
        have b7 := mul_bound b1 b3
        refine Ev.step (fun k => plan_Even.j2.eq_2 _ _ _ _ _ _ _ _ _ _ _ _ _ _ _ _ k) (Ev.neg (by decide) ?_)
        refine Ev.pos (by omega) (Ev.pos (by omega) (Ev.pos (by omega) (Ev.pos (by omega) (Ev.pos (by omega) (Ev.pos (by omega) (Ev.pos (by omega) (Ev.pos (by omega) ?_)))))))
        rw [hy, w64 (n := y * rd s (h : Int)) (by omega) (by omega), w64 (n := y * rd s (l : Int)) (by omega) (by omega), w64 (n := rd L (h : Int) - y * rd s (h : Int)) (by omega) (by omega), w64 (n := rd L (l : Int) + y * rd s (l : Int)) (by omega) (by omega)]
        by_cases e5 : mx (rd L (h : Int) - y * rd s (h : Int)) (rd L (l : Int) + y * rd s (l : Int)) < least
        · rw [if_pos e5] at hp
          exact Ev.pos e5 (next _ _ hp)
        · rw [if_neg e5] at hp
          exact Ev.neg e5 (next _ _ hp)
    · exact Ev.neg e1 (skip (fun h => e1 h.1))
theorem even_out : ∀ (d : Nat) {O : List Int} (n i : Nat), Good m c s O → i + d = n → n ≤ 100 → Ev (fun k => plan_Even.l0 k m c s (ldL O c m s) O (n : Int) (i : Int)) (evenM m c s d O, 0)
  | 0, O, n, i, _, hi, _ => by
    refine Ev.step (fun k => plan_Even.l0.eq_2 _ _ _ _ _ _ _ k) ?_
    exact Ev.neg (by omega) (Ev.some rfl)
  | d + 1, O, n, i, g, hi', hn => by
    have hlen := g.len
    have hms := g.hm
    have hss := g.hs
    have hcc := g.hc
    have hh := hiL_lt g
    have hl := loL_lt g
    refine Ev.step (fun k => plan_Even.l0.eq_2 _ _ _ _ _ _ _ k) ?_
    refine Ev.pos (by omega) ?_
    refine Ev.bind (best34_loop (ldL O c m s) (by omega) (ldL O c m s) 0 0 rfl (by omega)) ?_
    refine Ev.bind (best35_loop (ldL O c m s) (by omega) (ldL O c m s) 0 0 rfl (by omega)) ?_
    change Ev (fun k => if 0 ≤ (hiL m c s O : Int) then (if (hiL m c s O : Int) < ((ldL O c m s).length : Int) then plan_Even.l1 k m c s (ldL O c m s) O (hiL m c s O : Int) (loL m c s O : Int) (-1) (rd (ldL O c m s) (hiL m c s O : Int)) (n : Int) (i : Int) O (O.length : Int) 0 else none) else none) _
    refine Ev.pos (by omega) (Ev.pos (by omega) ?_)
    refine even_in g rfl hh hl (fun p least hp => ?_) O c 0 (-1) _ (by omega) rfl rfl rfl
    refine Ev.step (fun k => plan_Even.l1.eq_2 _ _ _ _ _ _ _ _ _ _ _ _ _ _ k) (Ev.neg (by omega) ?_)
    have ep : pickL m c s O = (p, least) := hp
    simp only [evenM]
    rcases once_spec g with ⟨x1, x2⟩ | ⟨q, a1, a2, a3, a4, _, _, a7⟩
    · rw [ep] at x1
      rw [x2]
      exact Ev.pos (by have : p = -1 := x1; omega) (Ev.some rfl)
    · rw [ep] at a4
      have a4 : p = (q : Int) := a4
      subst a4
      have b1 := g.cp a1
      have b2 := g.sp hh
      have b3 := g.sp hl
      have b4 := g.lb hh
      have b5 := g.lb hl
      have b6 := mul_bound b1 b2
      have b7 := mul_bound b1 b3
      rw [a7]
      refine Ev.neg (by omega) (Ev.pos (by omega) (Ev.pos (by omega) (Ev.pos (by omega) (Ev.pos (by omega) (Ev.pos (by omega) ?_)))))
      rw [w64 (n := rd c (q : Int) * rd s (hiL m c s O : Int)) (by omega) (by omega), w64 (n := rd (ldL O c m s) (hiL m c s O : Int) - rd c (q : Int) * rd s (hiL m c s O : Int)) (by omega) (by omega)]
      refine Ev.bind0 rfl ?_
      refine Ev.pos (by omega) (Ev.pos (by omega) (Ev.pos (by omega) (Ev.pos (by omega) (Ev.pos (by omega) ?_))))
      have e0 : rd ((ldL O c m s).set (hiL m c s O : Int).toNat (rd (ldL O c m s) (hiL m c s O : Int) - rd c (q : Int) * rd s (hiL m c s O : Int))) (loL m c s O : Int) = rd (ldL O c m s) (loL m c s O : Int) := by
        rw [Int.toNat_natCast, rd_at (by rw [List.length_set]; omega), List.getElem_set_ne a3]
        exact (rd_at (by omega)).symm
      have e1 : wrap64 (rd ((ldL O c m s).set (hiL m c s O : Int).toNat (rd (ldL O c m s) (hiL m c s O : Int) - rd c (q : Int) * rd s (hiL m c s O : Int))) (loL m c s O : Int) + wrap64 (rd c (q : Int) * rd s (loL m c s O : Int))) = rd ((ldL O c m s).set (hiL m c s O : Int).toNat (rd (ldL O c m s) (hiL m c s O : Int) - rd c (q : Int) * rd s (hiL m c s O : Int))) (loL m c s O : Int) + rd c (q : Int) * rd s (loL m c s O : Int) := by
        rw [w64 (n := rd c (q : Int) * rd s (loL m c s O : Int)) (by omega) (by omega), e0, w64 (by omega) (by omega)]
      rw [e1]
      simp only [Int.toNat_natCast]
      rw [g.list_set a1 hh hl a3 a2]
      have g' := (once_good g a7).1
      rw [nat_up (n := n) (by omega) (by omega)]
      exact even_out d n (i + 1) g' (by omega) hn
end
def evenR (o m c s : List Int) : List Int × Int := if (loadsM o m c s).2 = 0 then (evenM m c s o.length o, 0) else ([], (loadsM o m c s).2)
theorem good_of {o m c s : List Int} (h : (loadsM o m c s).2 = 0) : Good m c s o := by
  unfold loadsM at h
  by_cases h1 : okL o m c s
  · rw [if_pos h1] at h
    by_cases h2 : inM o m = true
    · exact ⟨h1, h2⟩
    · rw [if_neg h2] at h; exact absurd h (by decide)
  · rw [if_neg h1] at h; exact absurd h (by decide)
theorem even_is (o m c s : List Int) (ho : o.length ≤ 100) (hm : m.length ≤ 100) (hc : c.length ≤ 100) (hs : s.length ≤ 100) : Ev (fun k => plan_Even.f k o m c s) (evenR o m c s) := by
  unfold plan_Even.f evenR
  refine Ev.bind (loads_is o m c s ho hm hc hs) ?_
  by_cases h : (loadsM o m c s).2 = 0
  · rw [if_pos h]
    have g := good_of h
    rw [g.loads]
    refine Ev.pos rfl (Ev.bind0 rfl (Ev.pos (by simp; omega) ?_))
    exact even_out o.length o.length 0 g (by omega) ho
  · rw [if_neg h]
    exact Ev.neg h (Ev.some rfl)

/-! ### one move, as the document says it -/
section
variable {m c s O : List Int}
theorem given_is {p : Nat} (v : Int) (hp : p < O.length) (hl : O.length ≤ 1000) : haywainref10_given.f O (p : Int) v = some (O.set p v) := by
  unfold haywainref10_given.f
  show (if ([] : List Int).length + O.length < 17592186044416 then _ else none) = _
  rw [if_pos (by simp; omega)]
  show (if 0 ≤ (p : Int) then (if (p : Int) < (([] ++ O : List Int).length : Int) then some (([] ++ O).set (p : Int).toNat v) else none) else none) = _
  rw [if_pos (by omega), if_pos (by simp; omega)]
  simp
theorem try_loads (g : Good m c s O) {q h l : Nat} (hq : q < O.length) (hh : h < m.length) (hl : l < m.length) (hne : h ≠ l) (ho : rd O (q : Int) = rd m (h : Int)) {L : List Int} (hL : L = ldL O c m s) :
    ∃ T : List Int, Ev (fun k => haywainref10_Loads.f k (O.set q (rd m (l : Int))) m c s) (T, 0) ∧ T.length = m.length ∧ rd T (h : Int) = rd L (h : Int) - rd c (q : Int) * rd s (h : Int) ∧ rd T (l : Int) = rd L (l : Int) + rd c (q : Int) * rd s (l : Int) := by
  have g' := g.set (p := q) hl
  have hlo := g'.lo'
  have hms := g.hm
  have hss := g.hs
  have hcc := g'.hc
  refine ⟨ldL (O.set q (rd m (l : Int))) c m s, ?_, g'.len, ?_, ?_⟩
  · have := refloads_is (O.set q (rd m (l : Int))) m c s (by omega) (by omega) (by omega) (by omega)
    rwa [g'.loads] at this
  · rw [g.at_set hq hh hl hne ho hh, if_neg hne, if_pos rfl, hL]
  · rw [g.at_set hq hh hl hne ho hl, if_pos rfl, hL]
theorem mx_ref (a b : Int) : (if b > a then b else a) = mx a b := rfl
theorem once_in (g : Good m c s O) {L : List Int} (hL : L = ldL O c m s) {h l : Nat} (hh : h < m.length) (hl : l < m.length) (hne : h ≠ l) {r : List Int × Int}
    (fin : ∀ p least, pick (h == l) (rd m (h : Int)) (rd L (h : Int)) (rd L (l : Int)) (rd s (h : Int)) (rd s (l : Int)) O c 0 (-1) (rd L (h : Int)) = (p, least) → Ev (fun k => haywainref10_Once.l1 k O m c s (h : Int) (l : Int) p least (O.length : Int)) r) :
    ∀ (t cs : List Int) (q : Nat) (p least : Int), q ≤ O.length → O.drop q = t → c.drop q = cs → pick (h == l) (rd m (h : Int)) (rd L (h : Int)) (rd L (l : Int)) (rd s (h : Int)) (rd s (l : Int)) O c 0 (-1) (rd L (h : Int)) = pick (h == l) (rd m (h : Int)) (rd L (h : Int)) (rd L (l : Int)) (rd s (h : Int)) (rd s (l : Int)) t cs q p least →
    Ev (fun k => haywainref10_Once.l1 k O m c s (h : Int) (l : Int) p least (q : Int)) r
  | [], cs, q, p, least, hq, hd, _, hp => by
    have h1 := drop_end hd
    have h0 : q = O.length := by omega
    simp only [pick] at hp
    rw [h0]
    exact fin p least hp
  | w :: t, [], q, p, least, _, hd, hd', _ => by
    have h1 := (drop_next hd).1
    have h2 := drop_end hd'
    have := g.hc
    omega
  | w :: t, y :: cs, q, p, least, _, hd, hd', hp => by
    obtain ⟨h1, hw, ht⟩ := drop_next hd
    obtain ⟨h2, hy, hcs⟩ := drop_next hd'
    have hlo := g.lo'
    have hms := g.hm
    have next : ∀ p' least', pick (h == l) (rd m (h : Int)) (rd L (h : Int)) (rd L (l : Int)) (rd s (h : Int)) (rd s (l : Int)) O c 0 (-1) (rd L (h : Int)) = pick (h == l) (rd m (h : Int)) (rd L (h : Int)) (rd L (l : Int)) (rd s (h : Int)) (rd s (l : Int)) t cs (q + 1) p' least' →
        Ev (fun k => haywainref10_Once.l1 k O m c s (h : Int) (l : Int) p' least' (wrap64 ((q : Int) + 1))) r := by
      intro p' least' hp'
      rw [nat_up h1 (by omega)]
      exact once_in g hL hh hl hne fin t cs (q + 1) p' least' (by omega) ht hcs hp'
    have e3 : ((h : Int) != (l : Int)) = true := by simp; omega
    have e4 : (h == l) = false := by simp [hne]
    simp only [pick] at hp
    refine Ev.step (fun k => haywainref10_Once.l1.eq_2 _ _ _ _ _ _ _ _ _ k) (Ev.pos (by omega) ?_)
    rw [e3]
    refine Ev.step (fun k => haywainref10_Once.j2.eq_2 _ _ _ _ _ _ _ _ _ _ k) (Ev.pos rfl ?_)
    refine Ev.pos (by omega) (Ev.pos (by omega) (Ev.pos (by omega) (Ev.pos (by omega) ?_)))
    rw [hw]
    by_cases e1 : w = rd m (h : Int)
    · rw [if_pos ⟨e1, e4⟩] at hp
      refine Ev.pos e1 (Ev.pos (by omega) (Ev.pos (by omega) (Ev.bind0 (given_is _ h1 (by omega)) ?_)))
      obtain ⟨T, hT, hlen, t1, t2⟩ := try_loads g h1 hh hl hne (hw.trans e1) hL
      rw [hy] at t1 t2
      refine Ev.bind hT (Ev.pos (by show (h : Int) < (T.length : Int); omega) (Ev.pos (by show (l : Int) < (T.length : Int); omega) ?_))
      rw [← t1, ← t2, ← mx_ref] at hp
      show Ev (fun k => if rd T (l : Int) > rd T (h : Int) then (if rd T (l : Int) < least then haywainref10_Once.l1 k O m c s (h : Int) (l : Int) (q : Int) (rd T (l : Int)) (wrap64 ((q : Int) + 1)) else haywainref10_Once.l1 k O m c s (h : Int) (l : Int) p least (wrap64 ((q : Int) + 1))) else (if rd T (h : Int) < least then haywainref10_Once.l1 k O m c s (h : Int) (l : Int) (q : Int) (rd T (h : Int)) (wrap64 ((q : Int) + 1)) else haywainref10_Once.l1 k O m c s (h : Int) (l : Int) p least (wrap64 ((q : Int) + 1)))) r
      by_cases e5 : rd T (l : Int) > rd T (h : Int)
      · rw [if_pos e5] at hp
        refine Ev.pos e5 ?_
        by_cases e6 : rd T (l : Int) < least
        · rw [if_pos e6] at hp; exact Ev.pos e6 (next _ _ hp)
        · rw [if_neg e6] at hp; exact Ev.neg e6 (next _ _ hp)
      · rw [if_neg e5] at hp
        refine Ev.neg e5 ?_
        by_cases e6 : rd T (h : Int) < least
        · rw [if_pos e6] at hp; exact Ev.pos e6 (next _ _ hp)
        · rw [if_neg e6] at hp; exact Ev.neg e6 (next _ _ hp)
    · rw [if_neg (fun h => e1 h.1)] at hp
      exact Ev.neg e1 (next _ _ hp)
theorem once_end {h l : Nat} (hl : l < m.length) (hO : O.length ≤ 1000) {p least : Int} (hp : p = -1 ∨ ∃ q : Nat, q < O.length ∧ p = (q : Int)) (i : Int) :
    Ev (fun k => haywainref10_Once.j2 k O m c s (h : Int) (l : Int) p least i false) ((if p < 0 then O else O.set p.toNat (rd m (l : Int))), 0) := by
  refine Ev.step (fun k => haywainref10_Once.j2.eq_2 _ _ _ _ _ _ _ _ _ _ k) (Ev.neg (by decide) ?_)
  by_cases e : p < 0
  · refine Ev.pos e (Ev.some ?_)
    rw [if_pos e]
  · refine Ev.neg e (Ev.pos (by omega) (Ev.pos (by omega) ?_))
    rw [if_neg e]
    rcases hp with x | ⟨q, hq, x⟩
    · omega
    · subst x
      exact Ev.bind0 (given_is _ hq hO) (Ev.some (by rw [Int.toNat_natCast]))
theorem once_mid (g : Good m c s O) : Ev (fun k => haywainref10_Once.l1 k O m c s (hiL m c s O : Int) (loL m c s O : Int) (-1) (rd (ldL O c m s) (hiL m c s O : Int)) 0) ((onceM m c s O).getD O, 0) := by
  have hh := hiL_lt g
  have hl := loL_lt g
  have hlo := g.lo'
  by_cases hne : hiL m c s O = loL m c s O
  · have e1 : ((hiL m c s O : Int) != (loL m c s O : Int)) = false := by rw [hne]; simp
    refine Ev.step (fun k => haywainref10_Once.l1.eq_2 _ _ _ _ _ _ _ _ _ k) (Ev.pos (by omega) ?_)
    rw [e1]
    have := once_end (m := m) (c := c) (s := s) (O := O) (h := hiL m c s O) (l := loL m c s O) hl (by omega) (p := -1) (least := rd (ldL O c m s) (hiL m c s O : Int)) (.inl rfl) 0
    rw [if_pos (by decide)] at this
    have e2 : onceM m c s O = none := by
      rcases once_spec g with x | ⟨p, _, _, x, _⟩
      · exact x.2
      · exact absurd hne x
    rw [e2]
    exact this
  · refine once_in g rfl hh hl hne (fun p least hp => ?_) O c 0 (-1) _ (by omega) rfl rfl rfl
    have ep : pickL m c s O = (p, least) := hp
    refine Ev.step (fun k => haywainref10_Once.l1.eq_2 _ _ _ _ _ _ _ _ _ k) (Ev.neg (by omega) ?_)
    rcases once_spec g with ⟨x1, x2⟩ | ⟨q, a1, a2, a3, a4, _, _, a7⟩
    · rw [ep] at x1
      have x1 : p = -1 := x1
      rw [x2]
      have := once_end (m := m) (c := c) (s := s) (O := O) (h := hiL m c s O) (l := loL m c s O) hl (by omega) (p := p) (least := least) (.inl x1) (O.length : Int)
      rw [if_pos (by omega)] at this
      exact this
    · rw [ep] at a4
      have a4 : p = (q : Int) := a4
      rw [a7]
      have := once_end (m := m) (c := c) (s := s) (O := O) (h := hiL m c s O) (l := loL m c s O) hl (by omega) (p := p) (least := least) (.inr ⟨q, a1, a4⟩) (O.length : Int)
      rw [if_neg (by omega), a4, Int.toNat_natCast] at this
      rw [a4]
      exact this
theorem once_scan (g : Good m c s O) {L : List Int} (hL : L = ldL O c m s) {r : List Int × Int} : ∀ (t : List Int) (i h l : Nat), L.drop i = t → h < L.length → l < L.length →
    Ev (fun k => haywainref10_Once.l1 k O m c s (hi L t i h : Int) (lo L t i l : Int) (-1) (rd L (hi L t i h : Int)) 0) r →
    Ev (fun k => haywainref10_Once.l0 k O m c s L (h : Int) (l : Int) (i : Int)) r
  | [], i, h, l, hd, hh, hl, next => by
    have h1 := drop_end hd
    refine Ev.step (fun k => haywainref10_Once.l0.eq_2 _ _ _ _ _ _ _ _ k) ?_
    exact Ev.neg (by omega) (Ev.pos (by omega) (Ev.pos (by omega) next))
  | x :: t, i, h, l, hd, hh, hl, next => by
    obtain ⟨h1, hw, ht⟩ := drop_next hd
    have hlen : L.length = m.length := by rw [hL]; exact g.len
    have hms := g.hm
    simp only [hi, lo] at next
    refine Ev.step (fun k => haywainref10_Once.l0.eq_2 _ _ _ _ _ _ _ _ k) ?_
    refine Ev.pos (by omega) (Ev.pos (by omega) (Ev.pos (by omega) (Ev.pos (by omega) ?_)))
    rw [hw, nat_up h1 (by omega)]
    by_cases e1 : x > rd L (h : Int)
    · rw [if_pos e1] at next
      refine Ev.pos e1 (Ev.pos (by omega) (Ev.pos (by omega) ?_))
      by_cases e2 : x < rd L (l : Int)
      · rw [if_pos e2] at next
        exact Ev.pos e2 (once_scan g hL t (i + 1) i i ht h1 h1 next)
      · rw [if_neg e2] at next
        exact Ev.neg e2 (once_scan g hL t (i + 1) i l ht h1 hl next)
    · rw [if_neg e1] at next
      refine Ev.neg e1 (Ev.pos (by omega) (Ev.pos (by omega) ?_))
      by_cases e2 : x < rd L (l : Int)
      · rw [if_pos e2] at next
        exact Ev.pos e2 (once_scan g hL t (i + 1) h i ht hh h1 next)
      · rw [if_neg e2] at next
        exact Ev.neg e2 (once_scan g hL t (i + 1) h l ht hh hl next)
theorem once_is (g : Good m c s O) : Ev (fun k => haywainref10_Once.f k O m c s) ((onceM m c s O).getD O, 0) := by
  have hlo := g.lo'
  have hms := g.hm
  have hss := g.hs
  have hcc := g.hc
  have hlen := g.len
  unfold haywainref10_Once.f
  have := refloads_is O m c s (by omega) (by omega) (by omega) (by omega)
  rw [g.loads] at this
  refine Ev.bind this (Ev.pos rfl ?_)
  exact once_scan g rfl (ldL O c m s) 0 0 0 rfl (by omega) (by omega) (once_mid g)
theorem once_ne (g : Good m c s O) {O' : List Int} (h : onceM m c s O = some O') : O' ≠ O := by
  rcases once_spec g with ⟨_, x⟩ | ⟨p, a1, a2, a3, _, _, _, x⟩
  · rw [x] at h; cases h
  · rw [x] at h
    injection h with h
    intro e
    have e2 : rd O' (p : Int) = rd O (p : Int) := by rw [e]
    rw [← h, rd_at (by rw [List.length_set]; exact a1), List.getElem_set_self, a2] at e2
    exact a3 (up_inj g.hu (hiL_lt g) (loL_lt g) e2.symm)
theorem refeven_out : ∀ (d : Nat) {O : List Int} (i : Nat), Good m c s O → i + d = O.length → Ev (fun k => haywainref10_Even.l0 k O m c s (i : Int)) (evenM m c s d O, 0)
  | 0, O, i, _, hi' => by
    refine Ev.step (fun k => haywainref10_Even.l0.eq_2 _ _ _ _ _ k) ?_
    exact Ev.neg (by omega) (Ev.some rfl)
  | d + 1, O, i, g, hi' => by
    have hlo := g.lo'
    refine Ev.step (fun k => haywainref10_Even.l0.eq_2 _ _ _ _ _ k) ?_
    refine Ev.pos (by omega) (Ev.bind (once_is g) ?_)
    simp only [evenM]
    cases h : onceM m c s O with
    | none =>
      refine Ev.bind (sameq_is O O rfl (by omega)) (Ev.pos (by simp) (Ev.some rfl))
    | some O' =>
      obtain ⟨g', hl⟩ := once_good g h
      refine Ev.bind (sameq_is O' O hl (by omega)) (Ev.neg (by simp [once_ne g h]) ?_)
      show Ev (fun k => haywainref10_Even.l0 k O' m c s (wrap64 ((i : Int) + 1))) _
      rw [nat_up (n := 1000) (by omega) (by omega)]
      exact refeven_out d (i + 1) g' (by omega)
end
theorem refeven_is (o m c s : List Int) (ho : o.length ≤ 100) (hm : m.length ≤ 100) (hc : c.length ≤ 100) (hs : s.length ≤ 100) : Ev (fun k => haywainref10_Even.f k o m c s) (evenR o m c s) := by
  unfold haywainref10_Even.f evenR
  refine Ev.bind (refloads_is o m c s ho hm hc hs) ?_
  by_cases h : (loadsM o m c s).2 = 0
  · rw [if_pos h]
    have g := good_of h
    have hlen := g.len
    have hms := g.hm
    rw [g.loads]
    refine Ev.pos rfl (Ev.neg (by show ¬ ((ldL o c m s).length : Int) = 0; omega) ?_)
    exact refeven_out o.length 0 g (by omega)
  · rw [if_neg h]
    exact Ev.neg h (Ev.some rfl)

def stepsA (m c s : List Int) : Nat → List Int → Nat → Nat
  | 0, _, i => i
  | d + 1, O, i => match onceM m c s O with
    | none => i
    | some O' => stepsA m c s d O' (i + 1)
theorem steps_out {m c s : List Int} : ∀ (d : Nat) {O : List Int} (i : Nat), Good m c s O → i + d = O.length → Ev (fun k => haywainlaw10_steps.l0 k O m c s (i : Int)) (stepsA m c s d O i : Int)
  | 0, O, i, _, hi' => by
    refine Ev.step (fun k => haywainlaw10_steps.l0.eq_2 _ _ _ _ _ k) ?_
    exact Ev.neg (by omega) (Ev.some rfl)
  | d + 1, O, i, g, hi' => by
    have hlo := g.lo'
    refine Ev.step (fun k => haywainlaw10_steps.l0.eq_2 _ _ _ _ _ k) ?_
    refine Ev.pos (by omega) (Ev.bind (once_is g) (Ev.pos rfl ?_))
    simp only [stepsA]
    cases h : onceM m c s O with
    | none =>
      refine Ev.bind (sameq_is O O rfl (by omega)) (Ev.pos (by simp) (Ev.some rfl))
    | some O' =>
      obtain ⟨g', hl⟩ := once_good g h
      refine Ev.bind (sameq_is O' O hl (by omega)) (Ev.neg (by simp [once_ne g h]) ?_)
      show Ev (fun k => haywainlaw10_steps.l0 k O' m c s (wrap64 ((i : Int) + 1))) _
      rw [nat_up (n := 1000) (by omega) (by omega)]
      exact steps_out d (i + 1) g' (by omega)
theorem steps_fix {m c s : List Int} : ∀ (d : Nat) {O : List Int} (i : Nat), stepsA m c s d O i < i + d → onceM m c s (evenM m c s d O) = none
  | 0, O, i, h => by simp only [stepsA] at h; omega
  | d + 1, O, i, h => by
    simp only [stepsA] at h
    simp only [evenM]
    cases e : onceM m c s O with
    | none => exact e
    | some O' =>
      rw [e] at h
      have h : stepsA m c s d O' (i + 1) < i + (d + 1) := h
      exact steps_fix d (i + 1) (by omega)
theorem even_fix {m c s O : List Int} (h : onceM m c s O = none) : ∀ n, evenM m c s n O = O
  | 0 => rfl
  | n + 1 => by simp only [evenM, h]
theorem PlanSteady : haywainlaw10_PlanSteady.Pure := by
  intro o m c s _ _ _ _ _ _ _ _ _ _ _ _
  refine Ev.rounds ?_
  unfold haywainlaw10_PlanSteady.f
  have yes : Ev (fun k => haywainlaw10_PlanSteady.j0 k o m c s true) true := Ev.step (fun k => haywainlaw10_PlanSteady.j0.eq_2 _ _ _ _ _ k) (Ev.pos rfl knows_so)
  refine Ev.bind0 (great_is o) ?_
  by_cases h1 : decide ((o.length : Int) > 50) = true
  · exact Ev.pos h1 yes
  refine Ev.neg h1 (Ev.bind0 (great_is m) ?_)
  by_cases h2 : decide ((m.length : Int) > 50) = true
  · exact Ev.pos h2 yes
  refine Ev.neg h2 (Ev.bind0 (great_is c) ?_)
  by_cases h3 : decide ((c.length : Int) > 50) = true
  · exact Ev.pos h3 yes
  refine Ev.neg h3 (Ev.bind0 (great_is s) ?_)
  by_cases h4 : decide ((s.length : Int) > 50) = true
  · simp only [h4]; exact yes
  simp only [eq_false_of_ne_true h4]
  simp only [decide_eq_true_eq] at h1 h2 h3 h4
  refine Ev.step (fun k => haywainlaw10_PlanSteady.j0.eq_2 _ _ _ _ _ k) (Ev.neg (by decide) ?_)
  refine Ev.bind (even_is o m c s (by omega) (by omega) (by omega) (by omega)) ?_
  by_cases h : (loadsM o m c s).2 = 0
  · have g := good_of h
    obtain ⟨g1, l1⟩ := even_good o.length g
    have e1 : evenR o m c s = (evenM m c s o.length o, 0) := by unfold evenR; rw [if_pos h]
    rw [e1]
    generalize hA : evenM m c s o.length o = A at g1 l1
    obtain ⟨g2, l2⟩ := even_good A.length g1
    have e2 : evenR A m c s = (evenM m c s A.length A, 0) := by unfold evenR; rw [if_pos (by rw [g1.loads])]
    generalize hB : evenM m c s A.length A = B at g2 l2 e2
    obtain ⟨g3, l3⟩ := even_good B.length g2
    have e3 : evenR B m c s = (evenM m c s B.length B, 0) := by unfold evenR; rw [if_pos (by rw [g2.loads])]
    generalize hC : evenM m c s B.length B = C at g3 l3 e3
    have i1 := even_is A m c s (by omega) (by omega) (by omega) (by omega)
    have i2 := even_is B m c s (by omega) (by omega) (by omega) (by omega)
    rw [e2] at i1
    rw [e3] at i2
    refine Ev.pos rfl (Ev.bind i1 (Ev.bind i2 (Ev.pos rfl (Ev.pos rfl ?_))))
    have e4 : ((A.length : Int) != (o.length : Int)) = false := by rw [l1]; simp
    show Ev (fun k => haywainlaw10_PlanSteady.j1 k o m c s A B C ((A.length : Int) != (o.length : Int))) true
    rw [e4]
    refine Ev.step (fun k => haywainlaw10_PlanSteady.j1.eq_2 _ _ _ _ _ _ _ _ k) (Ev.neg (by decide) ?_)
    refine Ev.bind (steps_out o.length 0 g (by omega)) ?_
    by_cases hs' : ((stepsA m c s o.length o 0 : Nat) : Int) < (o.length : Int)
    · refine Ev.pos hs' ?_
      have f1 : onceM m c s A = none := by rw [← hA]; exact steps_fix o.length 0 (by omega)
      have f2 : B = A := by rw [← hB]; exact even_fix f1 _
      have f3 : C = A := by rw [← hC, f2]; exact even_fix f1 _
      rw [f2, f3]
      have same := sameq_is A A rfl (by omega)
      exact Ev.bind same (Ev.pos (by simp) (Ev.bind same (Ev.pos (by simp) knows_so)))
    · exact Ev.neg hs' knows_so
  · have e1 : evenR o m c s = ([], (loadsM o m c s).2) := by unfold evenR; rw [if_neg h]
    rw [e1]
    exact Ev.neg h (Ev.pos rfl knows_so)

end Go.Proofs.Ytjlmlmacgopliaa.Pure
