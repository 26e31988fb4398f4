/- Each member's load is the document's, for all lists. No condition but the row's own (lists up to 50 are looked at). -/
import Derived.Test.YtjlmlmacgopliaaPPlanx14
namespace Go.Proofs.Ytjlmlmacgopliaa.Pure
open Go.RowKit Go.Proofs.Ytjlmlmacgopliaa.PPlan Go.Proofs.YtjlmlmacgopliaaW.PrintWords Go.Proofs.YtjlmlmacgopliaaW.PrintLast

/-! ### rounds: a function with enough rounds -/
theorem Ev.pos {α : Type} {c : Prop} [Decidable c] {f g : Nat → Option α} {r : α} (h : c) (k : Ev f r) : Ev (fun n => if c then f n else g n) r := by
  obtain ⟨K, k⟩ := k
  exact ⟨K, fun n hn => by simp only [if_pos h]; exact k n hn⟩
theorem Ev.neg {α : Type} {c : Prop} [Decidable c] {f g : Nat → Option α} {r : α} (h : ¬ c) (k : Ev g r) : Ev (fun n => if c then f n else g n) r := by
  obtain ⟨K, k⟩ := k
  exact ⟨K, fun n hn => by simp only [if_neg h]; exact k n hn⟩
theorem Ev.bind0 {α β : Type} {o : Option α} {f : Nat → α → Option β} {a : α} {r : β} (h : o = some a) (k : Ev (fun n => f n a) r) : Ev (fun n => o.bind (f n)) r := by
  subst h; exact k
theorem Ev.some {α : Type} {a r : α} (h : a = r) : Ev (fun _ => Option.some a) r := h ▸ Ev.now a

/-! ### numbers -/
theorem wf_u64 {a : Int} (hw : (Lit.int .u64 a).wf = true) : 0 ≤ a ∧ a < 18446744073709551616 := by
  simp only [Lit.wf, Bool.and_eq_true, decide_eq_true_eq] at hw
  have e0 : IntKind.u64.min = 0 := by decide
  have e1 : IntKind.u64.max = 18446744073709551615 := by decide
  rw [e0, e1] at hw
  omega
theorem wf_i64 {a : Int} (hw : (Lit.int .i64 a).wf = true) : -9223372036854775808 ≤ a ∧ a ≤ 9223372036854775807 := by
  simp only [Lit.wf, Bool.and_eq_true, decide_eq_true_eq] at hw
  have e0 : IntKind.i64.min = -9223372036854775808 := by decide
  have e1 : IntKind.i64.max = 9223372036854775807 := by decide
  rw [e0, e1] at hw
  omega
theorem w64 {n : Int} (h0 : -9223372036854775808 ≤ n) (h1 : n ≤ 9223372036854775807) : wrap64 n = n := by
  unfold wrap64
  omega
theorem knows_ok : Ev haywainlaw10_knows.f true := Ev.of haywainlaw10_knows.mono (k := 60) (by decide +kernel)
theorem knows_so : Ev (fun k => (haywainlaw10_knows.f k).bind fun t => some t) true := Ev.bind knows_ok (Ev.some rfl)

/-! ### lists -/
theorem rd_at {l : List Int} {i : Nat} (h : i < l.length) : rd l (i : Int) = l[i] := by
  unfold rd
  rw [Int.toNat_natCast, List.getD_eq_getElem?_getD, List.getElem?_eq_getElem h]
  rfl
theorem drop_end {α : Type} {l : List α} {i : Nat} (h : l.drop i = []) : l.length ≤ i := List.drop_eq_nil_iff.mp h
theorem drop_nextG {α : Type} {l : List α} {i : Nat} {w : α} {t : List α} (h : l.drop i = w :: t) : i < l.length ∧ l[i]? = some w ∧ l.drop (i + 1) = t := by
  have hi : i < l.length := by
    refine Nat.lt_of_not_le fun hn => ?_
    rw [List.drop_eq_nil_iff.mpr hn] at h
    exact absurd h (by simp)
  have h2 := List.drop_eq_getElem_cons hi
  rw [h2] at h
  injection h with ha hb
  exact ⟨hi, by rw [List.getElem?_eq_getElem hi, ha], hb⟩
theorem drop_next {l : List Int} {i : Nat} {w : Int} {t : List Int} (h : l.drop i = w :: t) : i < l.length ∧ rd l (i : Int) = w ∧ l.drop (i + 1) = t := by
  obtain ⟨hi, h2, h3⟩ := drop_nextG h
  refine ⟨hi, ?_, h3⟩
  unfold rd
  rw [Int.toNat_natCast, List.getD_eq_getElem?_getD, h2]
  rfl
theorem nat_up {i n : Nat} (h : i < n) (hn : n ≤ 4000000000000) : wrap64 ((i : Int) + 1) = ((i + 1 : Nat) : Int) := by
  rw [w64 (by omega) (by omega)]; omega

/-! ### owners that may be -/
def okW (w : Int) : Bool := decide (1 ≤ w) && decide (w ≤ 99)
theorem okW_iff {w : Int} : okW w = true ↔ 1 ≤ w ∧ w ≤ 99 := by simp [okW]
def sizeP (l : List Int) : Bool := decide (1 ≤ l.length) && decide (l.length ≤ 6)
def rightP (l : List Int) : Bool := l.all okW && sizeP l
theorem rightP_iff {l : List Int} : rightP l = true ↔ (∀ w ∈ l, 1 ≤ w ∧ w ≤ 99) ∧ 1 ≤ l.length ∧ l.length ≤ 6 := by
  simp [rightP, sizeP, okW, List.all_eq_true]
theorem right_loop (l : List Int) (hl : l.length ≤ 4000000000000) : ∀ (t : List Int) (i : Nat), l.drop i = t → Ev (fun k => plan_Right.l0 k l l (l.length : Int) (i : Int)) (t.all okW && sizeP l)
  | [], i, h => by
    have hi := drop_end h
    refine Ev.step (fun k => plan_Right.l0.eq_2 _ _ _ _ k) ?_
    refine Ev.neg (by omega) ?_
    unfold sizeP
    by_cases e : (l.length : Int) ≥ 1
    · refine Ev.pos e (Ev.some ?_)
      have e2 : decide ((l.length : Int) ≤ 6) = decide (l.length ≤ 6) := decide_eq_decide.mpr (by omega)
      rw [e2, decide_eq_true (by omega : 1 ≤ l.length)]; rfl
    · refine Ev.neg e (Ev.some ?_)
      rw [decide_eq_false (by omega : ¬ 1 ≤ l.length)]; simp
  | w :: t, i, h => by
    obtain ⟨hi, hw, ht⟩ := drop_next h
    refine Ev.step (fun k => plan_Right.l0.eq_2 _ _ _ _ k) ?_
    refine Ev.pos (by omega) (Ev.pos (by omega) (Ev.pos (by omega) ?_))
    rw [hw, nat_up hi hl]
    simp only [List.all_cons, okW]
    by_cases e1 : w < 1
    · refine Ev.pos e1 (Ev.some ?_)
      rw [decide_eq_false (by omega : ¬ 1 ≤ w)]; rfl
    refine Ev.neg e1 ?_
    rw [decide_eq_true (by omega : 1 ≤ w)]
    by_cases e2 : w > 99
    · refine Ev.pos e2 (Ev.some ?_)
      rw [decide_eq_false (by omega : ¬ w ≤ 99)]; rfl
    refine Ev.neg e2 ?_
    rw [decide_eq_true (by omega : w ≤ 99)]
    exact right_loop l hl t (i + 1) ht
theorem right_is (l : List Int) (hl : l.length ≤ 4000000000000) : Ev (fun k => plan_Right.f k l) (rightP l) := right_loop l hl l 0 rfl
theorem great_is (l : List Int) : haywainlaw10_great.f l = some (decide ((l.length : Int) > 50)) := rfl

/-! ### the same, as the document says it -/
theorem id_is (w : Int) : haywainref10_id.f w = some (okW w) := by
  unfold haywainref10_id.f okW
  by_cases e : w > 0
  · rw [if_pos e, decide_eq_true (by omega : 1 ≤ w)]; rfl
  · rw [if_neg e, decide_eq_false (by omega : ¬ 1 ≤ w)]; rfl
theorem refright_loop (l : List Int) (hl : l.length ≤ 4000000000000) : ∀ (t : List Int) (i : Nat) (b : Bool), l.drop i = t → Ev (fun k => haywainref10_Right.l0 k l b (i : Int)) (b && t.all okW)
  | [], i, b, h => by
    have hi := drop_end h
    refine Ev.step (fun k => haywainref10_Right.l0.eq_2 _ _ _ k) ?_
    exact Ev.neg (by omega) (Ev.some (by simp))
  | w :: t, i, b, h => by
    obtain ⟨hi, hw, ht⟩ := drop_next h
    refine Ev.step (fun k => haywainref10_Right.l0.eq_2 _ _ _ k) ?_
    refine Ev.pos (by omega) ?_
    rw [nat_up hi hl]
    cases b with
    | true =>
      refine Ev.pos rfl (Ev.pos (by omega) (Ev.bind0 (by rw [hw]; exact id_is w) ?_))
      have := refright_loop l hl t (i + 1) (okW w) ht
      simpa using this
    | false =>
      refine Ev.neg (by decide) ?_
      have := refright_loop l hl t (i + 1) false ht
      simpa using this
theorem refright_is (l : List Int) (hl : l.length ≤ 4000000000000) : Ev (fun k => haywainref10_Right.f k l) (rightP l) := by
  unfold haywainref10_Right.f rightP sizeP
  have go : ∀ b : Bool, Ev (fun k => haywainref10_Right.j0 k l b) (b && l.all okW) := fun b => Ev.step (fun k => haywainref10_Right.j0.eq_2 _ _ k) (refright_loop l hl l 0 b rfl)
  rw [Bool.and_comm]
  by_cases e : (l.length : Int) > 0
  · refine Ev.pos e ?_
    have e2 : decide ((l.length : Int) ≤ 6) = decide (l.length ≤ 6) := decide_eq_decide.mpr (by omega)
    rw [e2, decide_eq_true (by omega : 1 ≤ l.length), Bool.true_and]
    exact go _
  · refine Ev.neg e ?_
    rw [decide_eq_false (by omega : ¬ 1 ≤ l.length)]
    exact go _

/-! ### lists alike -/
theorem same_loop (a : List Int) (hl : a.length ≤ 4000000000000) : ∀ (d i : Nat), i + d = a.length → Ev (fun k => haywainref09_SameInts.l0 k a a (i : Int)) true
  | 0, i, h => by
    refine Ev.step (fun k => haywainref09_SameInts.l0.eq_2 _ _ _ k) ?_
    exact Ev.neg (by omega) (Ev.some rfl)
  | d + 1, i, h => by
    refine Ev.step (fun k => haywainref09_SameInts.l0.eq_2 _ _ _ k) ?_
    refine Ev.pos (by omega) (Ev.pos (by omega) (Ev.pos (by omega) (Ev.pos rfl ?_)))
    rw [nat_up (n := a.length) (by omega) hl]
    exact same_loop a hl d (i + 1) (by omega)
theorem same_self (a : List Int) (hl : a.length ≤ 4000000000000) : Ev (fun k => haywainref09_SameInts.f k a a) true := by
  unfold haywainref09_SameInts.f
  exact Ev.pos rfl (same_loop a hl a.length 0 (by omega))

/-! ### who may be members -/
def up : Int → List Int → Bool
  | _, [] => true
  | b, w :: t => decide (b < w) && (decide (w ≤ 99) && up w t)
def rest (l : List Int) : Bool := decide ((l.length : Int) ≥ 1) && decide ((l.length : Int) ≤ 5)
def rightB (l : List Int) : Bool := up 0 l && rest l
theorem ring_loop (l : List Int) (hl : l.length ≤ 4000000000000) : ∀ (t : List Int) (i : Nat) (b : Int), l.drop i = t → Ev (fun k => ring_Right.l0 k l b l (l.length : Int) (i : Int)) (up b t && rest l)
  | [], i, b, h => by
    have hi := drop_end h
    refine Ev.step (fun k => ring_Right.l0.eq_2 _ _ _ _ _ k) ?_
    refine Ev.neg (by omega) ?_
    simp only [up, Bool.true_and, rest]
    by_cases h1 : (l.length : Int) ≥ 1
    · exact Ev.pos h1 (Ev.some (by rw [decide_eq_true h1]; rfl))
    · exact Ev.neg h1 (Ev.some (by rw [decide_eq_false h1]; rfl))
  | w :: t, i, b, h => by
    obtain ⟨hi, hw, ht⟩ := drop_next h
    have ih := ring_loop l hl t (i + 1) w ht
    refine Ev.step (fun k => ring_Right.l0.eq_2 _ _ _ _ _ k) ?_
    refine Ev.pos (by omega) (Ev.pos (by omega) (Ev.pos (by omega) ?_))
    rw [hw, nat_up hi hl]
    simp only [up]
    by_cases h1 : w ≤ b
    · exact Ev.pos h1 (Ev.some (by rw [decide_eq_false (by omega : ¬ b < w)]; rfl))
    · refine Ev.neg h1 ?_
      rw [decide_eq_true (by omega : b < w), Bool.true_and]
      by_cases h2 : w > 99
      · exact Ev.pos h2 (Ev.some (by rw [decide_eq_false (by omega : ¬ w ≤ 99)]; rfl))
      · refine Ev.neg h2 ?_
        rw [decide_eq_true (by omega : w ≤ 99), Bool.true_and]
        exact ih
theorem ring_is (l : List Int) (hl : l.length ≤ 4000000000000) : Ev (fun k => ring_Right.f k l) (rightB l) := ring_loop l hl l 0 0 rfl
theorem rightB_iff {l : List Int} : rightB l = true ↔ up 0 l = true ∧ 1 ≤ l.length ∧ l.length ≤ 5 := by
  simp only [rightB, rest, Bool.and_eq_true, decide_eq_true_eq]
  exact ⟨fun ⟨a, b, c⟩ => ⟨a, by omega, by omega⟩, fun ⟨a, b, c⟩ => ⟨a, by omega, by omega⟩⟩
theorem up_mem : ∀ {l : List Int} {b : Int}, up b l = true → ∀ w ∈ l, b < w ∧ w ≤ 99
  | [], _, _, w, hw => by simp at hw
  | x :: t, b, h, w, hw => by
    simp only [up, Bool.and_eq_true, decide_eq_true_eq] at h
    rcases List.mem_cons.mp hw with rfl | hw
    · exact ⟨h.1, h.2.1⟩
    · have := up_mem h.2.2 w hw
      omega
theorem refring_loop (l : List Int) (hl : l.length ≤ 4000000000000) : ∀ (t : List Int) (i : Nat) (b : Int) (ok : Bool), l.drop i = t → (i = 0 ∧ b = 0 ∨ 0 < i ∧ b = rd l ((i : Int) - 1)) → (ok = true → 0 ≤ b) →
    Ev (fun k => haywainref09_Right.l0 k l ok (i : Int)) (ok && up b t)
  | [], i, b, ok, h, _, _ => by
    have hi := drop_end h
    refine Ev.step (fun k => haywainref09_Right.l0.eq_2 _ _ _ k) ?_
    exact Ev.neg (by omega) (Ev.some (by simp [up]))
  | w :: t, i, b, ok, h, hb, hok => by
    obtain ⟨hi, hw, ht⟩ := drop_next h
    have ih := fun ok' (h' : ok' = true → 0 ≤ w) => refring_loop l hl t (i + 1) w ok' ht (.inr ⟨by omega, by rw [← hw]; congr 1; omega⟩) h'
    refine Ev.step (fun k => haywainref09_Right.l0.eq_2 _ _ _ k) ?_
    refine Ev.pos (by omega) ?_
    rw [hw, nat_up hi hl]
    simp only [up]
    cases ok with
    | false => exact Ev.neg (by decide) (by simpa using ih false (by simp))
    | true =>
      have hb0 := hok rfl
      refine Ev.pos rfl (Ev.pos (by omega) ?_)
      rw [Bool.true_and]
      by_cases h1 : w ≥ 1
      · refine Ev.pos h1 ?_
        by_cases h2 : w ≤ 99
        · refine Ev.pos h2 ?_
          rw [decide_eq_true h2, Bool.true_and]
          by_cases h3 : (i : Int) = 0
          · refine Ev.pos h3 ?_
            rw [decide_eq_true (show b < w by rcases hb with hb | hb <;> omega)]
            exact ih true (by omega)
          · refine Ev.neg h3 ?_
            rw [w64 (n := (i : Int) - 1) (by omega) (by omega)]
            refine Ev.pos (by omega) (Ev.pos (by omega) ?_)
            have e : b = rd l ((i : Int) - 1) := by rcases hb with hb | hb <;> first | exact hb.2 | omega
            rw [← e]
            exact ih _ (by omega)
        · refine Ev.neg h2 ?_
          rw [decide_eq_false h2, Bool.false_and, Bool.and_false]
          simpa using ih false (by simp)
      · refine Ev.neg h1 ?_
        rw [decide_eq_false (show ¬ b < w by omega), Bool.false_and]
        simpa using ih false (by simp)
theorem refring_is (l : List Int) (hl : l.length ≤ 4000000000000) : Ev (fun k => haywainref09_Right.f k l) (rightB l) := by
  unfold haywainref09_Right.f
  have e : rightB l = ((decide ((l.length : Int) ≥ 1) && decide ((l.length : Int) ≤ 5)) && up 0 l) := by
    unfold rightB rest; rw [Bool.and_comm]
  rw [e]
  by_cases h : (l.length : Int) > 0
  · refine Ev.pos h (Ev.step (fun k => haywainref09_Right.j0.eq_2 _ _ k) ?_)
    rw [decide_eq_true (show (l.length : Int) ≥ 1 by omega), Bool.true_and]
    exact refring_loop l hl l 0 0 _ rfl (.inl ⟨rfl, rfl⟩) (by omega)
  · refine Ev.neg h (Ev.step (fun k => haywainref09_Right.j0.eq_2 _ _ k) ?_)
    rw [decide_eq_false (show ¬ (l.length : Int) ≥ 1 by omega), Bool.false_and]
    exact refring_loop l hl l 0 0 _ rfl (.inl ⟨rfl, rfl⟩) (by omega)

/-! ### loads -/
def inB (lo hi x : Int) : Bool := decide (lo ≤ x) && decide (x ≤ hi)
theorem inB_iff {lo hi x : Int} : inB lo hi x = true ↔ lo ≤ x ∧ x ≤ hi := by simp [inB]
theorem all_loop (l : List Int) (n lo hi : Int) (hl : l.length ≤ 4000000000000) : ∀ (t : List Int) (i : Nat), l.drop i = t → Ev (fun k => plan_all.l0 k l n lo hi l (l.length : Int) (i : Int)) (t.all (inB lo hi) && ((l.length : Int) == n))
  | [], i, h => by
    have hi := drop_end h
    refine Ev.step (fun k => plan_all.l0.eq_2 _ _ _ _ _ _ _ k) ?_
    exact Ev.neg (by omega) (Ev.some rfl)
  | w :: t, i, h => by
    obtain ⟨hi', hw, ht⟩ := drop_next h
    refine Ev.step (fun k => plan_all.l0.eq_2 _ _ _ _ _ _ _ k) ?_
    refine Ev.pos (by omega) (Ev.pos (by omega) (Ev.pos (by omega) ?_))
    rw [hw, nat_up hi' hl]
    simp only [List.all_cons, inB]
    by_cases e1 : w < lo
    · refine Ev.pos e1 (Ev.some ?_)
      rw [decide_eq_false (by omega : ¬ lo ≤ w)]; rfl
    refine Ev.neg e1 ?_
    rw [decide_eq_true (by omega : lo ≤ w)]
    by_cases e2 : w > hi
    · refine Ev.pos e2 (Ev.some ?_)
      rw [decide_eq_false (by omega : ¬ w ≤ hi)]; rfl
    refine Ev.neg e2 ?_
    rw [decide_eq_true (by omega : w ≤ hi)]
    exact all_loop l n lo hi hl t (i + 1) ht
theorem all_is (l : List Int) (n lo hi : Int) (hl : l.length ≤ 4000000000000) : Ev (fun k => plan_all.f k l n lo hi) (l.all (inB lo hi) && ((l.length : Int) == n)) := all_loop l n lo hi hl l 0 rfl
def fi (n : Int) : List Int → Nat
  | [] => 0
  | x :: t => if x = n then 0 else fi n t + 1
theorem fi_lt {n : Int} : ∀ {t : List Int}, n ∈ t → fi n t < t.length
  | x :: t, h => by
    simp only [fi]
    by_cases e : x = n
    · rw [if_pos e]; simp
    · rw [if_neg e]
      have := fi_lt ((List.mem_cons.mp h).resolve_left (Ne.symm e))
      simp only [List.length_cons]; omega
theorem find_loop (l : List Int) (n : Int) (hl : l.length ≤ 4000000000000) : ∀ (t : List Int) (i : Nat), l.drop i = t → Ev (fun k => plan_find.l0 k n l (l.length : Int) (i : Int)) (if n ∈ t then ((i + fi n t : Nat) : Int) else -1)
  | [], i, h => by
    have hi := drop_end h
    refine Ev.step (fun k => plan_find.l0.eq_2 _ _ _ _ k) ?_
    exact Ev.neg (by omega) (Ev.some (by simp))
  | w :: t, i, h => by
    obtain ⟨hi, hw, ht⟩ := drop_next h
    refine Ev.step (fun k => plan_find.l0.eq_2 _ _ _ _ k) ?_
    refine Ev.pos (by omega) (Ev.pos (by omega) (Ev.pos (by omega) ?_))
    rw [hw, nat_up hi hl]
    by_cases e : w = n
    · exact Ev.pos e (Ev.some (by simp [fi, e]))
    · refine Ev.neg e ?_
      have ih := find_loop l n hl t (i + 1) ht
      have e2 : (n ∈ w :: t) = (n ∈ t) := by simp [Ne.symm e]
      have e3 : i + fi n (w :: t) = i + 1 + fi n t := by simp only [fi, if_neg e]; omega
      rw [e3]
      simp only [e2]
      exact ih
theorem find_is (l : List Int) (n : Int) (hl : l.length ≤ 4000000000000) : Ev (fun k => plan_find.f k l n) (if n ∈ l then ((fi n l : Nat) : Int) else -1) := by
  have := find_loop l n hl l 0 rfl
  rw [Nat.zero_add] at this
  exact this
/-- The load of one member. -/
def ld (w sl : Int) : List Int → List Int → Int
  | o :: t, c :: cs => (if o = w then c * sl else 0) + ld w sl t cs
  | _, _ => 0
def ldL (o c : List Int) : List Int → List Int → List Int
  | w :: m, sl :: s => ld w sl o c :: ldL o c m s
  | _, _ => []
theorem ldL_len (o c : List Int) : ∀ {m s : List Int}, s.length = m.length → (ldL o c m s).length = m.length
  | [], _, _ => by simp [ldL]
  | _ :: _, [], h => by simp at h
  | w :: m, sl :: s, h => by
    simp only [ldL, List.length_cons]
    rw [ldL_len o c (by simpa using h)]
/-- Loads that stand, and what is added to them. -/
def addA (t cs : List Int) : List Int → List Int → List Int → List Int
  | w :: m, sl :: s, x :: out => (x + ld w sl t cs) :: addA t cs m s out
  | _, _, _ => []
theorem addA_nil : ∀ {m s out : List Int}, s.length = m.length → out.length = m.length → addA [] [] m s out = out
  | [], _, [], _, _ => by simp [addA]
  | [], _, _ :: _, _, h => by simp at h
  | _ :: _, [], _, h, _ => by simp at h
  | _ :: _, _ :: _, [], _, h => by simp at h
  | w :: m, sl :: s, x :: out, h1, h2 => by
    simp only [addA, ld, Int.add_zero]
    rw [addA_nil (by simpa using h1) (by simpa using h2)]
theorem addA_zero (o c : List Int) : ∀ {m s : List Int}, s.length = m.length → addA o c m s (List.replicate m.length 0) = ldL o c m s
  | [], _, _ => by simp [addA, ldL]
  | _ :: _, [], h => by simp at h
  | w :: m, sl :: s, h => by
    simp only [List.length_cons, List.replicate_succ, addA, ldL, Int.zero_add]
    rw [addA_zero o c (by simpa using h)]
theorem addA_skip {w : Int} {t cs : List Int} {c : Int} : ∀ {m s out : List Int}, w ∉ m → addA (w :: t) (c :: cs) m s out = addA t cs m s out
  | [], _, _, _ => by simp [addA]
  | _ :: _, [], _, _ => by simp [addA]
  | _ :: _, _ :: _, [], _ => by simp [addA]
  | x :: m, sl :: s, y :: out, h => by
    simp only [List.mem_cons, not_or] at h
    simp only [addA, ld, if_neg h.1, Int.zero_add]
    rw [addA_skip h.2]
theorem up_not : ∀ {m : List Int} {b : Int}, up b m = true → b ∉ m := by
  intro m b h hm
  have := up_mem h b hm
  omega
theorem rd_succ (x : Int) (l : List Int) (j : Nat) : rd (x :: l) ((j + 1 : Nat) : Int) = rd l (j : Int) := by simp [rd]
theorem rd_zero (x : Int) (l : List Int) : rd (x :: l) ((0 : Nat) : Int) = x := by simp [rd]
theorem step_add {w : Int} {t cs : List Int} {c : Int} : ∀ {m s out : List Int} {b : Int}, up b m = true → w ∈ m → s.length = m.length → out.length = m.length →
    addA (w :: t) (c :: cs) m s out = addA t cs m s (out.set (fi w m) (rd out (fi w m : Int) + c * rd s (fi w m : Int)))
  | [], _, _, _, _, h, _, _ => by simp at h
  | _ :: _, [], _, _, _, _, h, _ => by simp at h
  | _ :: _, _ :: _, [], _, _, _, _, h => by simp at h
  | x :: m, sl :: s, y :: out, b, hu, hw, h1, h2 => by
    simp only [up, Bool.and_eq_true, decide_eq_true_eq] at hu
    by_cases e : x = w
    · have hn : w ∉ m := by rw [← e]; exact up_not hu.2.2
      have e0 : fi w (x :: m) = 0 := by simp only [fi, if_pos e]
      rw [e0, rd_zero, rd_zero]
      simp only [List.set_cons_zero, addA, ld, if_pos e.symm]
      rw [addA_skip hn, Int.add_assoc]
    · have e0 : fi w (x :: m) = fi w m + 1 := by simp only [fi, if_neg e]
      have hm := (List.mem_cons.mp hw).resolve_left (Ne.symm e)
      rw [e0, rd_succ, rd_succ]
      simp only [List.set_cons_succ, addA, ld, if_neg (Ne.symm e), Int.zero_add]
      rw [step_add hu.2.2 hm (by simpa using h1) (by simpa using h2)]
theorem rd_mem {l : List Int} {j : Nat} (h : j < l.length) : rd l (j : Int) ∈ l := by rw [rd_at h]; exact List.getElem_mem _
theorem mul_bound {c s : Int} (hc : 0 ≤ c ∧ c ≤ 1000) (hs : 1 ≤ s ∧ s ≤ 10) : 0 ≤ c * s ∧ c * s ≤ 10000 :=
  ⟨Int.mul_nonneg hc.1 (by omega), by
    have h1 := Int.mul_le_mul_of_nonneg_right hc.2 (by omega : 0 ≤ s)
    have h2 := Int.mul_le_mul_of_nonneg_left hs.2 (by decide : (0 : Int) ≤ 1000)
    omega⟩
theorem loads_loop {o m c s : List Int} (ho : o.length ≤ 100) (hc : c.length = o.length) (hs : s.length = m.length) (hm : m.length ≤ 100) (hu : up 0 m = true) (hcb : ∀ x ∈ c, 0 ≤ x ∧ x ≤ 1000) (hsb : ∀ x ∈ s, 1 ≤ x ∧ x ≤ 10) :
    ∀ (t cs : List Int) (i : Nat) (out : List Int), o.drop i = t → c.drop i = cs → out.length = m.length → (∀ x ∈ out, 0 ≤ x ∧ x ≤ 10000 * i) →
    Ev (fun k => plan_Loads.l0 k m c s out o (o.length : Int) (i : Int)) (if (t.all fun w => decide (w ∈ m)) = true then (addA t cs m s out, 0) else ([], 4))
  | [], cs, i, out, h, h', hl, _ => by
    have hi := drop_end h
    have e : cs = [] := by rw [← h', List.drop_eq_nil_iff]; omega
    subst e
    refine Ev.step (fun k => plan_Loads.l0.eq_2 _ _ _ _ _ _ _ k) ?_
    refine Ev.neg (by omega) (Ev.some ?_)
    rw [if_pos (by rfl), addA_nil hs hl]
  | w :: t, [], i, out, h, h', hl, _ => by
    have h1 := (drop_next h).1
    have h2 := drop_end h'
    omega
  | w :: t, cp :: cs, i, out, h, h', hl, hb => by
    obtain ⟨hi, hw, ht⟩ := drop_next h
    obtain ⟨hi', hcp, hcs⟩ := drop_next h'
    refine Ev.step (fun k => plan_Loads.l0.eq_2 _ _ _ _ _ _ _ k) ?_
    refine Ev.pos (by omega) (Ev.pos (by omega) (Ev.pos (by omega) ?_))
    rw [hw]
    refine Ev.bind (find_is m w (by omega)) ?_
    by_cases hwm : w ∈ m
    · have hj := fi_lt hwm
      rw [if_pos hwm]
      refine Ev.neg (by omega) (Ev.pos (by omega) (Ev.pos (by omega) (Ev.pos (by omega) (Ev.pos (by omega) ?_))))
      have hcx := hcb cp (by rw [← hcp]; exact rd_mem hi')
      have hsx := hsb _ (rd_mem (l := s) (j := fi w m) (by omega))
      have hox := hb _ (rd_mem (l := out) (j := fi w m) (by omega))
      have hmb := mul_bound hcx hsx
      rw [hcp, w64 (n := cp * rd s (fi w m : Int)) (by omega) (by omega), w64 (n := rd out (fi w m : Int) + cp * rd s (fi w m : Int)) (by omega) (by omega), nat_up hi (by omega), Int.toNat_natCast]
      have ih := loads_loop ho hc hs hm hu hcb hsb t cs (i + 1) (out.set (fi w m) (rd out (fi w m : Int) + cp * rd s (fi w m : Int))) ht hcs (by rw [List.length_set]; exact hl) (by
        intro x hx
        rcases List.mem_or_eq_of_mem_set hx with q | q
        · have := hb x q; omega
        · subst q; omega)
      simp only [List.all_cons, decide_eq_true hwm, Bool.true_and]
      rw [step_add hu hwm hs hl]
      exact ih
    · rw [if_neg hwm]
      refine Ev.pos (by decide) (Ev.some ?_)
      rw [if_neg (by simp [hwm])]
def okL (o m c s : List Int) : Prop := rightP o = true ∧ rightB m = true ∧ (c.all (inB 0 1000) = true ∧ c.length = o.length) ∧ (s.all (inB 1 10) = true ∧ s.length = m.length)
instance (o m c s : List Int) : Decidable (okL o m c s) := by unfold okL; infer_instance
def inM (o m : List Int) : Bool := o.all fun w => decide (w ∈ m)
def loadsM (o m c s : List Int) : List Int × Int := if okL o m c s then (if inM o m = true then (ldL o c m s, 0) else ([], 4)) else ([], 1)
theorem all_pair {c : List Int} {n : Nat} {lo hi : Int} : (c.all (inB lo hi) && ((c.length : Int) == (n : Int))) = true ↔ c.all (inB lo hi) = true ∧ c.length = n := by
  rw [Bool.and_eq_true, beq_iff_eq]
  exact ⟨fun ⟨a, b⟩ => ⟨a, by omega⟩, fun ⟨a, b⟩ => ⟨a, by omega⟩⟩
theorem loads_is (o m c s : List Int) (ho : o.length ≤ 100) (hm : m.length ≤ 100) (hc : c.length ≤ 100) (hs : s.length ≤ 100) : Ev (fun k => plan_Loads.f k o m c s) (loadsM o m c s) := by
  unfold plan_Loads.f
  have no : ¬ okL o m c s → Ev (fun k => plan_Loads.j0 k o m c s true) (loadsM o m c s) := by
    intro h
    unfold loadsM
    rw [if_neg h]
    exact Ev.step (fun k => plan_Loads.j0.eq_2 _ _ _ _ _ k) (Ev.pos rfl (Ev.some rfl))
  refine Ev.bind (right_is o (by omega)) ?_
  by_cases h1 : rightP o = true
  rotate_left
  · exact Ev.neg h1 (no fun h => h1 h.1)
  refine Ev.pos h1 (Ev.bind (ring_is m (by omega)) ?_)
  by_cases h2 : rightB m = true
  rotate_left
  · exact Ev.neg h2 (no fun h => h2 h.2.1)
  refine Ev.pos h2 (Ev.bind (all_is c _ 0 1000 (by omega)) ?_)
  by_cases h3 : (c.all (inB 0 1000) && ((c.length : Int) == (o.length : Int))) = true
  rotate_left
  · exact Ev.neg h3 (no fun h => h3 (all_pair.mpr h.2.2.1))
  refine Ev.pos h3 (Ev.bind (all_is s _ 1 10 (by omega)) ?_)
  by_cases h4 : (s.all (inB 1 10) && ((s.length : Int) == (m.length : Int))) = true
  rotate_left
  · simp only [eq_false_of_ne_true h4, Bool.not_false]
    exact no fun h => h4 (all_pair.mpr h.2.2.2)
  simp only [h4, Bool.not_true]
  have hok : okL o m c s := ⟨h1, h2, all_pair.mp h3, all_pair.mp h4⟩
  unfold loadsM
  rw [if_pos hok]
  refine Ev.step (fun k => plan_Loads.j0.eq_2 _ _ _ _ _ k) (Ev.neg (by decide) (Ev.pos (by omega) (Ev.pos (by rw [Int.toNat_natCast]; omega) ?_)))
  rw [Int.toNat_natCast]
  have hcb : ∀ x ∈ c, 0 ≤ x ∧ x ≤ 1000 := fun x hx => inB_iff.mp (List.all_eq_true.mp hok.2.2.1.1 x hx)
  have hsb : ∀ x ∈ s, 1 ≤ x ∧ x ≤ 10 := fun x hx => inB_iff.mp (List.all_eq_true.mp hok.2.2.2.1 x hx)
  have := loads_loop ho hok.2.2.1.2 hok.2.2.2.2 hm (rightB_iff.mp h2).1 hcb hsb o c 0 (List.replicate m.length 0) rfl rfl (by simp) (by
    intro x hx
    have := List.eq_of_mem_replicate hx
    omega)
  rw [addA_zero o c hok.2.2.2.2] at this
  exact this

/-! ### the same, as the document says it -/
theorem has_loop (l : List Int) (n : Int) (hl : l.length ≤ 4000000000000) : ∀ (t : List Int) (i : Nat), l.drop i = t → Ev (fun k => haywainref09_Has.l0 k l n (i : Int)) (decide (n ∈ t))
  | [], i, h => by
    have hi := drop_end h
    refine Ev.step (fun k => haywainref09_Has.l0.eq_2 _ _ _ k) ?_
    exact Ev.neg (by omega) (Ev.some (by simp))
  | w :: t, i, h => by
    obtain ⟨hi, hw, ht⟩ := drop_next h
    refine Ev.step (fun k => haywainref09_Has.l0.eq_2 _ _ _ k) ?_
    refine Ev.pos (by omega) (Ev.pos (by omega) ?_)
    rw [hw, nat_up hi hl]
    by_cases e : w = n
    · exact Ev.pos e (Ev.some (by simp [e]))
    · refine Ev.neg e ?_
      have ih := has_loop l n hl t (i + 1) ht
      have e2 : (n ∈ w :: t) = (n ∈ t) := by simp [Ne.symm e]
      simp only [e2]
      exact ih
theorem has_is (l : List Int) (n : Int) (hl : l.length ≤ 4000000000000) : Ev (fun k => haywainref09_Has.f k l n) (decide (n ∈ l)) := has_loop l n hl l 0 rfl
theorem load_loop {o c : List Int} {w sl : Int} (ho : o.length ≤ 100) (hc : c.length = o.length) (hcb : ∀ x ∈ c, 0 ≤ x ∧ x ≤ 1000) (hs : 1 ≤ sl ∧ sl ≤ 10) : ∀ (t cs : List Int) (i : Nat) (n : Int), o.drop i = t → c.drop i = cs → 0 ≤ n → n ≤ 10000 * i →
    Ev (fun k => haywainref10_load.l0 k o w c sl n (i : Int)) (n + ld w sl t cs)
  | [], cs, i, n, h, _, _, _ => by
    have hi := drop_end h
    refine Ev.step (fun k => haywainref10_load.l0.eq_2 _ _ _ _ _ _ k) ?_
    exact Ev.neg (by omega) (Ev.some (by simp [ld]))
  | v :: t, [], i, n, h, h', _, _ => by
    have h1 := (drop_next h).1
    have h2 := drop_end h'
    omega
  | v :: t, cp :: cs, i, n, h, h', h0, hn => by
    obtain ⟨hi, hv, ht⟩ := drop_next h
    obtain ⟨hi', hcp, hcs⟩ := drop_next h'
    have hcx := hcb cp (by rw [← hcp]; exact rd_mem hi')
    have hmb := mul_bound hcx hs
    refine Ev.step (fun k => haywainref10_load.l0.eq_2 _ _ _ _ _ _ k) ?_
    refine Ev.pos (by omega) (Ev.pos (by omega) ?_)
    rw [hv, nat_up hi (by omega)]
    simp only [ld]
    by_cases e : v = w
    · refine Ev.pos e (Ev.pos (by omega) ?_)
      rw [if_pos e, hcp, w64 (n := cp * sl) (by omega) (by omega), w64 (n := n + cp * sl) (by omega) (by omega), ← Int.add_assoc]
      exact load_loop ho hc hcb hs t cs (i + 1) (n + cp * sl) ht hcs (by omega) (by omega)
    · refine Ev.neg e ?_
      rw [if_neg e, Int.zero_add]
      exact load_loop ho hc hcb hs t cs (i + 1) n ht hcs h0 (by omega)
section
variable {o m c s : List Int}
theorem ref3 (ho : o.length ≤ 100) (hc : c.length = o.length) (hs : s.length = m.length) (hm : m.length ≤ 100) (hcb : ∀ x ∈ c, 0 ≤ x ∧ x ≤ 1000) (hsb : ∀ x ∈ s, 1 ≤ x ∧ x ≤ 10) :
    ∀ (t ss : List Int) (i : Nat) (out : List Int), m.drop i = t → s.drop i = ss → out.length ≤ i → Ev (fun k => haywainref10_Loads.l3 k o m c s out (i : Int)) (out ++ ldL o c t ss, 0)
  | [], ss, i, out, h, _, _ => by
    have hi := drop_end h
    refine Ev.step (fun k => haywainref10_Loads.l3.eq_2 _ _ _ _ _ _ k) ?_
    exact Ev.neg (by omega) (Ev.some (by simp [ldL]))
  | w :: t, [], i, out, h, h', _ => by
    have h1 := (drop_next h).1
    have h2 := drop_end h'
    omega
  | w :: t, sl :: ss, i, out, h, h', hl => by
    obtain ⟨hi, hw, ht⟩ := drop_next h
    obtain ⟨hi', hsl, hss⟩ := drop_next h'
    have hsx := hsb sl (by rw [← hsl]; exact rd_mem hi')
    refine Ev.step (fun k => haywainref10_Loads.l3.eq_2 _ _ _ _ _ _ k) ?_
    refine Ev.pos (by omega) (Ev.pos (by omega) (Ev.pos (by omega) ?_))
    rw [hw, hsl, nat_up hi (by omega)]
    have hld := load_loop (w := w) ho hc hcb hsx o c 0 0 rfl rfl (by decide) (by decide)
    rw [Int.zero_add] at hld
    refine Ev.bind hld (Ev.pos (by omega) ?_)
    have := ref3 ho hc hs hm hcb hsb t ss (i + 1) (out ++ [ld w sl o c]) ht hss (by simp; omega)
    rw [List.append_assoc] at this
    exact this
theorem ref2 (ho : o.length ≤ 100) (hm : m.length ≤ 100) {r : List Int × Int} (next : Ev (fun k => haywainref10_Loads.l3 k o m c s [] 0) r) :
    ∀ (t : List Int) (i : Nat), o.drop i = t → Ev (fun k => haywainref10_Loads.l2 k o m c s (i : Int)) (if inM t m = true then r else ([], 4))
  | [], i, h => by
    have hi := drop_end h
    refine Ev.step (fun k => haywainref10_Loads.l2.eq_2 _ _ _ _ _ k) ?_
    rw [if_pos (by rfl)]
    exact Ev.neg (by omega) next
  | w :: t, i, h => by
    obtain ⟨hi, hw, ht⟩ := drop_next h
    refine Ev.step (fun k => haywainref10_Loads.l2.eq_2 _ _ _ _ _ k) ?_
    refine Ev.pos (by omega) (Ev.pos (by omega) ?_)
    rw [hw, nat_up hi (by omega)]
    refine Ev.bind (has_is m w (by omega)) ?_
    by_cases e : w ∈ m
    · have e2 : inM (w :: t) m = inM t m := by simp [inM, e]
      rw [e2]
      exact Ev.pos (decide_eq_true e) (ref2 ho hm next t (i + 1) ht)
    · have e2 : inM (w :: t) m = false := by simp [inM, e]
      rw [e2, if_neg (by decide)]
      exact Ev.neg (by rw [decide_eq_false e]; decide) (Ev.some rfl)
theorem ref1 (hs : s.length ≤ 100) {r : List Int × Int} : ∀ (t : List Int) (i : Nat), s.drop i = t → (t.all (inB 1 10) = true → Ev (fun k => haywainref10_Loads.l2 k o m c s 0) r) →
    Ev (fun k => haywainref10_Loads.l1 k o m c s (i : Int)) (if t.all (inB 1 10) = true then r else ([], 1))
  | [], i, h, next => by
    have hi := drop_end h
    refine Ev.step (fun k => haywainref10_Loads.l1.eq_2 _ _ _ _ _ k) ?_
    rw [if_pos (by rfl)]
    exact Ev.neg (by omega) (next rfl)
  | w :: t, i, h, next => by
    obtain ⟨hi, hw, ht⟩ := drop_next h
    refine Ev.step (fun k => haywainref10_Loads.l1.eq_2 _ _ _ _ _ k) ?_
    refine Ev.pos (by omega) (Ev.pos (by omega) ?_)
    rw [hw, nat_up hi (by omega)]
    by_cases e1 : w < 1
    · rw [if_neg (by simp [inB]; omega)]
      exact Ev.pos e1 (Ev.some rfl)
    refine Ev.neg e1 ?_
    by_cases e2 : w > 10
    · rw [if_neg (by simp [inB]; omega)]
      exact Ev.pos e2 (Ev.some rfl)
    refine Ev.neg e2 ?_
    have e3 : (w :: t).all (inB 1 10) = t.all (inB 1 10) := by rw [List.all_cons, inB_iff.mpr (by omega), Bool.true_and]
    rw [e3] at next ⊢
    exact ref1 hs t (i + 1) ht next
theorem ref0 (hc : c.length ≤ 100) {r : List Int × Int} : ∀ (t : List Int) (i : Nat), c.drop i = t → (t.all (inB 0 1000) = true → Ev (fun k => haywainref10_Loads.l1 k o m c s 0) r) →
    Ev (fun k => haywainref10_Loads.l0 k o m c s (i : Int)) (if t.all (inB 0 1000) = true then r else ([], 1))
  | [], i, h, next => by
    have hi := drop_end h
    refine Ev.step (fun k => haywainref10_Loads.l0.eq_2 _ _ _ _ _ k) ?_
    rw [if_pos (by rfl)]
    exact Ev.neg (by omega) (next rfl)
  | w :: t, i, h, next => by
    obtain ⟨hi, hw, ht⟩ := drop_next h
    refine Ev.step (fun k => haywainref10_Loads.l0.eq_2 _ _ _ _ _ k) ?_
    refine Ev.pos (by omega) (Ev.pos (by omega) ?_)
    rw [hw, nat_up hi (by omega)]
    by_cases e1 : w < 0
    · rw [if_neg (by simp [inB]; omega)]
      exact Ev.pos e1 (Ev.some rfl)
    refine Ev.neg e1 ?_
    by_cases e2 : w > 1000
    · rw [if_neg (by simp [inB]; omega)]
      exact Ev.pos e2 (Ev.some rfl)
    refine Ev.neg e2 ?_
    have e3 : (w :: t).all (inB 0 1000) = t.all (inB 0 1000) := by rw [List.all_cons, inB_iff.mpr (by omega), Bool.true_and]
    rw [e3] at next ⊢
    exact ref0 hc t (i + 1) ht next
end
theorem refloads_is (o m c s : List Int) (ho : o.length ≤ 100) (hm : m.length ≤ 100) (hc : c.length ≤ 100) (hs : s.length ≤ 100) : Ev (fun k => haywainref10_Loads.f k o m c s) (loadsM o m c s) := by
  unfold haywainref10_Loads.f
  have no : ¬ okL o m c s → Ev (fun k => haywainref10_Loads.j0 k o m c s true) (loadsM o m c s) := by
    intro h
    unfold loadsM
    rw [if_neg h]
    exact Ev.step (fun k => haywainref10_Loads.j0.eq_2 _ _ _ _ _ k) (Ev.pos rfl (Ev.some rfl))
  refine Ev.bind (refright_is o (by omega)) ?_
  by_cases h1 : rightP o = true
  rotate_left
  · exact Ev.neg h1 (no fun h => h1 h.1)
  refine Ev.pos h1 (Ev.bind (refring_is m (by omega)) ?_)
  by_cases h2 : rightB m = true
  rotate_left
  · exact Ev.neg h2 (no fun h => h2 h.2.1)
  refine Ev.pos h2 ?_
  by_cases h3 : (c.length : Int) = (o.length : Int)
  rotate_left
  · exact Ev.neg h3 (no fun h => h3 (by have := h.2.2.1.2; omega))
  refine Ev.pos h3 ?_
  by_cases h4 : s.length = m.length
  rotate_left
  · have e : ((s.length : Int) != (m.length : Int)) = true := by simp; omega
    simp only [e]
    exact no fun h => h4 h.2.2.2.2
  have e : ((s.length : Int) != (m.length : Int)) = false := by rw [h4]; simp
  simp only [e]
  refine Ev.step (fun k => haywainref10_Loads.j0.eq_2 _ _ _ _ _ k) (Ev.neg (by decide) ?_)
  have e2 : loadsM o m c s = if c.all (inB 0 1000) = true then (if s.all (inB 1 10) = true then (if inM o m = true then (ldL o c m s, 0) else ([], 4)) else ([], 1)) else ([], 1) := by
    unfold loadsM
    by_cases hcc : c.all (inB 0 1000) = true
    · rw [if_pos hcc]
      by_cases hss : s.all (inB 1 10) = true
      · rw [if_pos hss, if_pos ⟨h1, h2, ⟨hcc, by omega⟩, hss, h4⟩]
      · rw [if_neg hss, if_neg (fun h => hss h.2.2.2.1)]
    · rw [if_neg hcc, if_neg (fun h => hcc h.2.2.1.1)]
  rw [e2]
  refine ref0 hc c 0 rfl (fun hcc => ref1 hs s 0 rfl (fun hss => ?_))
  have hcb : ∀ x ∈ c, 0 ≤ x ∧ x ≤ 1000 := fun x hx => inB_iff.mp (List.all_eq_true.mp hcc x hx)
  have hsb : ∀ x ∈ s, 1 ≤ x ∧ x ≤ 10 := fun x hx => inB_iff.mp (List.all_eq_true.mp hss x hx)
  have := ref3 ho (by omega) h4 hm hcb hsb m s 0 [] rfl rfl (by simp)
  exact ref2 ho hm this o 0 rfl
theorem loadsM_len (o m c s : List Int) : (loadsM o m c s).1.length ≤ m.length := by
  unfold loadsM
  by_cases h : okL o m c s
  · rw [if_pos h]
    by_cases h2 : inM o m = true
    · rw [if_pos h2]
      exact Nat.le_of_eq (ldL_len o c h.2.2.2.2)
    · rw [if_neg h2]; simp
  · rw [if_neg h]; simp

theorem PlanLoads : haywainlaw10_PlanLoads.Pure := by
  intro o m c s _ _ _ _ _ _ _ _ _ _ _ _
  refine Ev.rounds ?_
  unfold haywainlaw10_PlanLoads.f
  have yes : Ev (fun k => haywainlaw10_PlanLoads.j0 k o m c s true) true := Ev.step (fun k => haywainlaw10_PlanLoads.j0.eq_2 _ _ _ _ _ k) (Ev.pos rfl knows_so)
  refine Ev.bind0 (great_is o) ?_
  by_cases h1 : decide ((o.length : Int) > 50) = true
  · exact Ev.pos h1 yes
  refine Ev.neg h1 (Ev.bind0 (great_is m) ?_)
  by_cases h2 : decide ((m.length : Int) > 50) = true
  · exact Ev.pos h2 yes
  refine Ev.neg h2 (Ev.bind0 (great_is c) ?_)
  by_cases h3 : decide ((c.length : Int) > 50) = true
  · exact Ev.pos h3 yes
  refine Ev.neg h3 (Ev.bind0 (great_is s) ?_)
  by_cases h4 : decide ((s.length : Int) > 50) = true
  · simp only [h4]; exact yes
  simp only [eq_false_of_ne_true h4]
  simp only [decide_eq_true_eq] at h1 h2 h3 h4
  refine Ev.step (fun k => haywainlaw10_PlanLoads.j0.eq_2 _ _ _ _ _ k) (Ev.neg (by decide) ?_)
  refine Ev.bind (loads_is o m c s (by omega) (by omega) (by omega) (by omega)) (Ev.bind (refloads_is o m c s (by omega) (by omega) (by omega) (by omega)) ?_)
  have := loadsM_len o m c s
  exact Ev.bind (same_self _ (by omega)) (Ev.pos rfl (Ev.pos rfl knows_so))

end Go.Proofs.Ytjlmlmacgopliaa.Pure
