/- At one epoch one worker says yes to a partition. No condition but the row's own (right tables are looked at). -/
import Derived.Test.YtaanojcdmojgbaaPRouteOnex8
namespace Go.Proofs.Ytaanojcdmojgbaa.Pure
open Go.RowKit Go.Proofs.Ytaanojcdmojgbaa.PRouteOne Go.Proofs.YtaanojcdmojgbaaW.PrintWords Go.Proofs.YtaanojcdmojgbaaW.PrintLast

/-! ### rounds: a function with enough rounds -/
theorem Ev.pos {α : Type} {c : Prop} [Decidable c] {f g : Nat → Option α} {r : α} (h : c) (k : Ev f r) : Ev (fun n => if c then f n else g n) r := by
  obtain ⟨K, k⟩ := k
  exact ⟨K, fun n hn => by simp only [if_pos h]; exact k n hn⟩
theorem Ev.neg {α : Type} {c : Prop} [Decidable c] {f g : Nat → Option α} {r : α} (h : ¬ c) (k : Ev g r) : Ev (fun n => if c then f n else g n) r := by
  obtain ⟨K, k⟩ := k
  exact ⟨K, fun n hn => by simp only [if_neg h]; exact k n hn⟩
theorem Ev.bind0 {α β : Type} {o : Option α} {f : Nat → α → Option β} {a : α} {r : β} (h : o = some a) (k : Ev (fun n => f n a) r) : Ev (fun n => o.bind (f n)) r := by
  subst h; exact k
theorem Ev.some {α : Type} {a r : α} (h : a = r) : Ev (fun _ => Option.some a) r := h ▸ Ev.now a

/-! ### numbers -/
theorem wf_u64 {a : Int} (hw : (Lit.int .u64 a).wf = true) : 0 ≤ a ∧ a < 18446744073709551616 := by
  simp only [Lit.wf, Bool.and_eq_true, decide_eq_true_eq] at hw
  have e0 : IntKind.u64.min = 0 := by decide
  have e1 : IntKind.u64.max = 18446744073709551615 := by decide
  rw [e0, e1] at hw
  omega
theorem wf_i64 {a : Int} (hw : (Lit.int .i64 a).wf = true) : -9223372036854775808 ≤ a ∧ a ≤ 9223372036854775807 := by
  simp only [Lit.wf, Bool.and_eq_true, decide_eq_true_eq] at hw
  have e0 : IntKind.i64.min = -9223372036854775808 := by decide
  have e1 : IntKind.i64.max = 9223372036854775807 := by decide
  rw [e0, e1] at hw
  omega
theorem w64 {n : Int} (h0 : -9223372036854775808 ≤ n) (h1 : n ≤ 9223372036854775807) : wrap64 n = n := by
  unfold wrap64
  omega

/-! ### lists -/
theorem drop_end {l : List Int} {i : Nat} (h : l.drop i = []) : l.length ≤ i := List.drop_eq_nil_iff.mp h
theorem drop_next {l : List Int} {i : Nat} {w : Int} {t : List Int} (h : l.drop i = w :: t) : i < l.length ∧ rd l (i : Int) = w ∧ l.drop (i + 1) = t := by
  have hi : i < l.length := by
    refine Nat.lt_of_not_le fun hn => ?_
    rw [List.drop_eq_nil_iff.mpr hn] at h
    exact absurd h (by simp)
  have h2 := List.drop_eq_getElem_cons hi
  rw [h2] at h
  injection h with ha hb
  refine ⟨hi, ?_, hb⟩
  unfold rd
  rw [Int.toNat_natCast, List.getD_eq_getElem?_getD, List.getElem?_eq_getElem hi]
  exact ha
theorem nat_up {i n : Nat} (h : i < n) (hn : n ≤ 4000000000000) : wrap64 ((i : Int) + 1) = ((i + 1 : Nat) : Int) := by
  rw [w64 (by omega) (by omega)]; omega
theorem knows_ok : Ev haywainlaw17_knows.f true := Ev.of haywainlaw17_knows.mono (k := 60) (by decide +kernel)
theorem rd_at {l : List Int} {i : Nat} (h : i < l.length) : rd l (i : Int) = l[i] := by
  unfold rd
  rw [Int.toNat_natCast, List.getD_eq_getElem?_getD, List.getElem?_eq_getElem h]
  rfl

/-! ### what is found -/
def findA (n : Int) : List Int → Nat → Int
  | [], _ => -1
  | x :: t, i => if x = n then (i : Int) else findA n t (i + 1)
theorem find_loop (l : List Int) (n : Int) (hl : l.length ≤ 4000000000000) : ∀ (t : List Int) (i : Nat), l.drop i = t → Ev (fun k => route_find.l0 k n l (l.length : Int) (i : Int)) (findA n t i)
  | [], i, h => by
    have hi := drop_end h
    refine Ev.step (fun k => route_find.l0.eq_2 _ _ _ _ k) ?_
    exact Ev.neg (by omega) (Ev.some rfl)
  | w :: t, i, h => by
    obtain ⟨hi, hw, ht⟩ := drop_next h
    refine Ev.step (fun k => route_find.l0.eq_2 _ _ _ _ k) ?_
    refine Ev.pos (by omega) (Ev.pos (by omega) (Ev.pos (by omega) ?_))
    rw [hw, nat_up hi hl]
    by_cases e : w = n
    · exact Ev.pos e (Ev.some (by simp [findA, e]))
    · refine Ev.neg e ?_
      have ih := find_loop l n hl t (i + 1) ht
      simp only [findA, if_neg e]
      exact ih
theorem find_is (l : List Int) (n : Int) (hl : l.length ≤ 4000000000000) : Ev (fun k => route_find.f k l n) (findA n l 0) := find_loop l n hl l 0 rfl
theorem findA_neg {n : Int} : ∀ {t : List Int} {i : Nat}, n ∉ t → findA n t i = -1
  | [], _, _ => rfl
  | x :: t, i, h => by
    simp only [List.mem_cons, not_or] at h
    simp only [findA, if_neg (Ne.symm h.1)]
    exact findA_neg h.2
theorem findA_pos {n : Int} : ∀ {t : List Int} {i : Nat}, n ∈ t → (i : Int) ≤ findA n t i
  | x :: t, i, h => by
    simp only [findA]
    by_cases e : x = n
    · rw [if_pos e]; exact Int.le_refl _
    · rw [if_neg e]
      have := findA_pos (i := i + 1) ((List.mem_cons.mp h).resolve_left (Ne.symm e))
      omega
theorem findA_lt {n : Int} {t : List Int} : (findA n t 0 < 0) ↔ n ∉ t := by
  constructor
  · intro h hn
    have := findA_pos (i := 0) hn
    omega
  · intro h
    rw [findA_neg h]; decide
/-- The number that stands beside a number. -/
def look (n : Int) : List Int → List Int → Int
  | i :: t, m :: s => if i = n then m else look n t s
  | _, _ => 0
theorem look_find {n : Int} {N : List Int} : ∀ {t s : List Int} {i : Nat}, N.drop i = s → t.length ≤ s.length → n ∈ t → ∃ j : Nat, findA n t i = (j : Int) ∧ j < N.length ∧ rd N (j : Int) = look n t s
  | x :: t, m :: s, i, hs, hl, hn => by
    obtain ⟨hi, hw, hs'⟩ := drop_next hs
    simp only [findA, look]
    by_cases e : x = n
    · rw [if_pos e, if_pos e]
      exact ⟨i, rfl, hi, hw⟩
    · rw [if_neg e, if_neg e]
      exact look_find hs' (by simpa using hl) ((List.mem_cons.mp hn).resolve_left (Ne.symm e))
  | _ :: _, [], _, _, hl, _ => by simp at hl
theorem look_none {n : Int} : ∀ {t s : List Int}, n ∉ t → look n t s = 0
  | [], _, _ => by simp [look]
  | _ :: _, [], _ => by simp [look]
  | x :: t, m :: s, h => by
    simp only [List.mem_cons, not_or] at h
    simp only [look, if_neg (Ne.symm h.1)]
    exact look_none h.2

/-! ### tables that may be -/
def ids : Int → List Int → List Int → Bool
  | _, [], _ => true
  | b, i :: t, n :: s => decide (b < i) && (decide (i ≤ 99) && (decide (1 ≤ n) && (decide (n ≤ 1099511627776) && ids i t s)))
  | _, _ :: _, [] => false
def head_ (e : Int) (O I N : List Int) : Bool := decide (0 ≤ e) && (decide (e ≤ 1099511627776) && (decide ((I.length : Int) ≤ 5) && (decide ((N.length : Int) = (I.length : Int)) && decide ((O.length : Int) ≤ 6))))
def rT (e : Int) (O I N : List Int) : Bool := head_ e O I N && (ids 0 I N && O.all fun w => decide (w ∈ I))
theorem right_own (e : Int) (O I N : List Int) (hO : O.length ≤ 4000000000000) (hI : I.length ≤ 4000000000000) : ∀ (t : List Int) (i : Nat), O.drop i = t →
    Ev (fun k => route_Right.l1 k O (O.length : Int) (i : Int) e O I N) (t.all fun w => decide (w ∈ I))
  | [], i, h => by
    have hi := drop_end h
    refine Ev.step (fun k => route_Right.l1.eq_2 _ _ _ _ _ _ _ k) ?_
    exact Ev.neg (by omega) (Ev.some rfl)
  | w :: t, i, h => by
    obtain ⟨hi, hw, ht⟩ := drop_next h
    refine Ev.step (fun k => route_Right.l1.eq_2 _ _ _ _ _ _ _ k) ?_
    refine Ev.pos (by omega) (Ev.pos (by omega) (Ev.pos (by omega) ?_))
    rw [hw, nat_up hi hO]
    refine Ev.bind (find_is I w hI) ?_
    by_cases e1 : w ∈ I
    · refine Ev.neg (fun h' => findA_lt.mp h' e1) ?_
      have ih := right_own e O I N hO hI t (i + 1) ht
      simp only [List.all_cons, decide_eq_true e1, Bool.true_and]
      exact ih
    · refine Ev.pos (findA_lt.mpr e1) (Ev.some ?_)
      simp only [List.all_cons, decide_eq_false e1, Bool.false_and]
theorem right_ids (e : Int) (O I N : List Int) (hO : O.length ≤ 4000000000000) (hI : I.length ≤ 4000000000000) (hN : N.length = I.length) : ∀ (t s : List Int) (i : Nat) (b : Int), I.drop i = t → N.drop i = s →
    Ev (fun k => route_Right.l0 k b I (I.length : Int) (i : Int) e O I N) (ids b t s && O.all fun w => decide (w ∈ I))
  | [], s, i, b, h, _ => by
    have hi := drop_end h
    refine Ev.step (fun k => route_Right.l0.eq_2 _ _ _ _ _ _ _ _ k) ?_
    refine Ev.neg (by omega) ?_
    simp only [ids, Bool.true_and]
    exact right_own e O I N hO hI O 0 rfl
  | w :: t, [], i, b, h, h' => by
    have h1 := (drop_next h).1
    have h2 := drop_end h'
    omega
  | w :: t, n :: s, i, b, h, h' => by
    obtain ⟨hi, hw, ht⟩ := drop_next h
    obtain ⟨hi', hn, hs⟩ := drop_next h'
    refine Ev.step (fun k => route_Right.l0.eq_2 _ _ _ _ _ _ _ _ k) ?_
    refine Ev.pos (by omega) (Ev.pos (by omega) (Ev.pos (by omega) ?_))
    rw [hw, nat_up hi hI]
    have ih := right_ids e O I N hO hI hN t s (i + 1) w ht hs
    simp only [ids]
    by_cases h1 : w ≤ b
    · refine Ev.pos h1 (Ev.some ?_)
      rw [decide_eq_false (by omega : ¬ b < w)]; rfl
    refine Ev.neg h1 ?_
    rw [decide_eq_true (by omega : b < w), Bool.true_and]
    by_cases h2 : w > 99
    · refine Ev.pos h2 (Ev.some ?_)
      rw [decide_eq_false (by omega : ¬ w ≤ 99)]; rfl
    refine Ev.neg h2 ?_
    rw [decide_eq_true (by omega : w ≤ 99), Bool.true_and]
    refine Ev.pos (by omega) ?_
    rw [hn]
    by_cases h3 : n < 1
    · refine Ev.pos h3 (Ev.some ?_)
      rw [decide_eq_false (by omega : ¬ 1 ≤ n)]; rfl
    refine Ev.neg h3 ?_
    rw [decide_eq_true (by omega : 1 ≤ n), Bool.true_and]
    by_cases h4 : n > 1099511627776
    · refine Ev.pos h4 (Ev.some ?_)
      rw [decide_eq_false (by omega : ¬ n ≤ 1099511627776)]; rfl
    refine Ev.neg h4 ?_
    rw [decide_eq_true (by omega : n ≤ 1099511627776), Bool.true_and]
    exact ih
theorem right_is (e : Int) (O I N : List Int) (hO : O.length ≤ 4000000000000) (hI : I.length ≤ 4000000000000) : Ev (fun k => route_Right.f k e O I N) (rT e O I N) := by
  unfold route_Right.f
  have no : Ev (fun k => route_Right.j0 k true e O I N) false := Ev.step (fun k => route_Right.j0.eq_2 _ _ _ _ _ k) (Ev.pos rfl (Ev.some rfl))
  unfold rT head_
  by_cases h1 : e < 0
  · rw [decide_eq_false (by omega : ¬ 0 ≤ e)]; exact Ev.pos h1 no
  refine Ev.neg h1 ?_
  rw [decide_eq_true (by omega : 0 ≤ e), Bool.true_and]
  by_cases h2 : e > 1099511627776
  · rw [decide_eq_false (by omega : ¬ e ≤ 1099511627776)]; exact Ev.pos h2 no
  refine Ev.neg h2 ?_
  rw [decide_eq_true (by omega : e ≤ 1099511627776), Bool.true_and]
  by_cases h3 : (I.length : Int) > 5
  · rw [decide_eq_false (by omega : ¬ (I.length : Int) ≤ 5)]; exact Ev.pos h3 no
  refine Ev.neg h3 ?_
  rw [decide_eq_true (by omega : (I.length : Int) ≤ 5), Bool.true_and]
  by_cases h4 : (N.length : Int) = (I.length : Int)
  · refine Ev.pos h4 ?_
    rw [decide_eq_true h4, Bool.true_and]
    by_cases h5 : (O.length : Int) > 6
    · rw [decide_eq_false (by omega : ¬ (O.length : Int) ≤ 6), decide_eq_true h5]; exact no
    rw [decide_eq_true (by omega : (O.length : Int) ≤ 6), decide_eq_false h5, Bool.true_and]
    refine Ev.step (fun k => route_Right.j0.eq_2 _ _ _ _ _ k) (Ev.neg (by decide) ?_)
    exact right_ids e O I N hO hI (by omega) I N 0 0 rfl rfl
  · rw [decide_eq_false h4]; exact Ev.neg h4 no
theorem rT_iff {e : Int} {O I N : List Int} : rT e O I N = true ↔ 0 ≤ e ∧ e ≤ 1099511627776 ∧ I.length ≤ 5 ∧ N.length = I.length ∧ O.length ≤ 6 ∧ ids 0 I N = true ∧ ∀ w ∈ O, w ∈ I := by
  simp only [rT, head_, Bool.and_eq_true, decide_eq_true_eq, List.all_eq_true]
  exact ⟨fun ⟨⟨a, b, c, d, e⟩, f, g⟩ => ⟨a, b, by omega, by omega, by omega, f, g⟩, fun ⟨a, b, c, d, e, f, g⟩ => ⟨⟨a, b, by omega, by omega, by omega⟩, f, g⟩⟩
/-- A table, or the zero one. -/
def good (e : Int) (O I N : List Int) : Int × List Int × List Int × List Int := if rT e O I N = true then (e, O, I, N) else (0, [], [], [])
theorem good_right (e : Int) (O I N : List Int) : rT (good e O I N).1 (good e O I N).2.1 (good e O I N).2.2.1 (good e O I N).2.2.2 = true := by
  unfold good
  by_cases h : rT e O I N = true
  · rw [if_pos h]; exact h
  · rw [if_neg h]; decide
theorem good_same {e : Int} {O I N : List Int} (h : rT e O I N = true) : good e O I N = (e, O, I, N) := by unfold good; rw [if_pos h]
theorem own_is (e : Int) (O I N : List Int) (hO : O.length ≤ 4000000000000) (hI : I.length ≤ 4000000000000) (hN : N.length ≤ 4000000000000) : Ev (fun k => route_own.f k e O I N) (good e O I N) := by
  unfold route_own.f good
  refine Ev.bind (right_is e O I N hO hI) ?_
  by_cases h : rT e O I N = true
  · refine Ev.pos h ?_
    rw [if_pos h]
    exact Ev.bind0 rfl (Ev.pos (by simp; omega) (Ev.bind0 rfl (Ev.pos (by simp; omega) (Ev.bind0 rfl (Ev.pos (by simp; omega) (Ev.some rfl))))))
  · refine Ev.neg h ?_
    rw [if_neg h]
    exact Ev.some rfl
theorem own_right {e : Int} {O I N : List Int} (h : rT e O I N = true) : Ev (fun k => route_own.f k e O I N) (e, O, I, N) := by
  obtain ⟨_, _, h1, h2, h3, _⟩ := rT_iff.mp h
  have := own_is e O I N (by omega) (by omega) (by omega)
  rwa [good_same h] at this

/-! ### a right table's answers -/
theorem inc_right {e : Int} {O I N : List Int} (h : rT e O I N = true) (id : Int) : Ev (fun k => route_Inc.f k e O I N id) (look id I N) := by
  obtain ⟨_, _, h1, h2, h3, _⟩ := rT_iff.mp h
  unfold route_Inc.f
  refine Ev.bind (own_right h) (Ev.bind (find_is I id (by omega)) ?_)
  by_cases hm : id ∈ I
  · obtain ⟨j, hj, hjN, hr⟩ := look_find (N := N) (s := N) (i := 0) rfl (by omega) hm
    rw [hj]
    exact Ev.neg (by omega) (Ev.pos (by omega) (Ev.pos (by show (j : Int) < (N.length : Int); omega) (Ev.some hr)))
  · exact Ev.pos (findA_lt.mpr hm) (Ev.some (look_none hm).symm)
theorem to_in {e : Int} {O I N : List Int} (h : rT e O I N = true) {p : Int} (h0 : 0 ≤ p) (h1 : p < O.length) : Ev (fun k => route_To.f k e O I N p) (rd O p, look (rd O p) I N, 0) := by
  unfold route_To.f
  refine Ev.bind (own_right h) (Ev.neg (by omega) (Ev.neg (by show ¬ p ≥ (O.length : Int); omega) (Ev.pos h0 (Ev.pos h1 (Ev.bind (inc_right h _) (Ev.some rfl))))))
theorem to_out {e : Int} {O I N : List Int} (h : rT e O I N = true) {p : Int} (hp : ¬ (0 ≤ p ∧ p < O.length)) : Ev (fun k => route_To.f k e O I N p) (0, 0, 4) := by
  unfold route_To.f
  refine Ev.bind (own_right h) ?_
  by_cases h0 : p < 0
  · exact Ev.pos h0 (Ev.some rfl)
  · exact Ev.neg h0 (Ev.pos (by show p ≥ (O.length : Int); omega) (Ev.some rfl))
/-- From any table to the right one. -/
theorem inc_is (e : Int) (O I N : List Int) (hO : O.length ≤ 4000000000000) (hI : I.length ≤ 4000000000000) (hN : N.length ≤ 4000000000000) (id : Int) : Ev (fun k => route_Inc.f k e O I N id) (look id (good e O I N).2.2.1 (good e O I N).2.2.2) := by
  have g := good_right e O I N
  unfold route_Inc.f
  refine Ev.bind (own_is e O I N hO hI hN) ?_
  generalize good e O I N = T at g
  obtain ⟨e', O', I', N'⟩ := T
  change rT e' O' I' N' = true at g
  obtain ⟨_, _, h1, h2, h3, _⟩ := rT_iff.mp g
  refine Ev.bind (find_is I' id (by omega)) ?_
  by_cases hm : id ∈ I'
  · obtain ⟨j, hj, hjN, hr⟩ := look_find (N := N') (s := N') (i := 0) rfl (by omega) hm
    rw [hj]
    exact Ev.neg (by omega) (Ev.pos (by omega) (Ev.pos (by show (j : Int) < (N'.length : Int); omega) (Ev.some hr)))
  · exact Ev.pos (findA_lt.mpr hm) (Ev.some (look_none hm).symm)
def toM (O I N : List Int) (p : Int) : Int × Int × Int := if 0 ≤ p ∧ p < O.length then (rd O p, look (rd O p) I N, 0) else (0, 0, 4)
theorem to_right {e : Int} {O I N : List Int} (h : rT e O I N = true) (p : Int) : Ev (fun k => route_To.f k e O I N p) (toM O I N p) := by
  unfold toM
  by_cases hp : 0 ≤ p ∧ p < O.length
  · rw [if_pos hp]; exact to_in h hp.1 hp.2
  · rw [if_neg hp]; exact to_out h hp
theorem to_is (e : Int) (O I N : List Int) (hO : O.length ≤ 4000000000000) (hI : I.length ≤ 4000000000000) (hN : N.length ≤ 4000000000000) (p : Int) : Ev (fun k => route_To.f k e O I N p) (toM (good e O I N).2.1 (good e O I N).2.2.1 (good e O I N).2.2.2 p) := by
  have g := good_right e O I N
  unfold route_To.f
  refine Ev.bind (own_is e O I N hO hI hN) ?_
  generalize good e O I N = T at g
  obtain ⟨e', O', I', N'⟩ := T
  change rT e' O' I' N' = true at g
  unfold toM
  show Ev (fun n => _) (if 0 ≤ p ∧ p < (O'.length : Int) then _ else _)
  by_cases h0 : p < 0
  · rw [if_neg (by omega)]; exact Ev.pos h0 (Ev.some rfl)
  by_cases h1 : p ≥ (O'.length : Int)
  · rw [if_neg (by omega)]; exact Ev.neg h0 (Ev.pos h1 (Ev.some rfl))
  · rw [if_pos (by omega)]
    exact Ev.neg h0 (Ev.neg h1 (Ev.pos (by omega) (Ev.pos (by show p < (O'.length : Int); omega) (Ev.bind (inc_right g _) (Ev.some rfl)))))
def mineA (n : Int) : List Int → Nat → List Int
  | [], _ => []
  | x :: t, i => if x = n then (i : Int) :: mineA n t (i + 1) else mineA n t (i + 1)
theorem mine_loop (O : List Int) (n : Int) (hO : O.length ≤ 4000000000000) : ∀ (t : List Int) (i : Nat) (out : List Int), O.drop i = t → out.length ≤ i →
    Ev (fun k => route_Mine.l0 k n out O (O.length : Int) (i : Int)) (out ++ mineA n t i)
  | [], i, out, h, _ => by
    have hi := drop_end h
    refine Ev.step (fun k => route_Mine.l0.eq_2 _ _ _ _ _ k) ?_
    exact Ev.neg (by omega) (Ev.some (by simp [mineA]))
  | w :: t, i, out, h, ho => by
    obtain ⟨hi, hw, ht⟩ := drop_next h
    refine Ev.step (fun k => route_Mine.l0.eq_2 _ _ _ _ _ k) ?_
    refine Ev.pos (by omega) (Ev.pos (by omega) (Ev.pos (by omega) ?_))
    rw [hw, nat_up hi hO]
    by_cases e : w = n
    · refine Ev.pos e (Ev.pos (by omega) ?_)
      have ih := mine_loop O n hO t (i + 1) (out ++ [(i : Int)]) ht (by simp; omega)
      simp only [mineA, if_pos e]
      rw [List.append_assoc] at ih
      exact ih
    · refine Ev.neg e ?_
      have ih := mine_loop O n hO t (i + 1) out ht (by omega)
      simp only [mineA, if_neg e]
      exact ih
theorem mine_is (e : Int) (O I N : List Int) (hO : O.length ≤ 4000000000000) (hI : I.length ≤ 4000000000000) (hN : N.length ≤ 4000000000000) (n : Int) : Ev (fun k => route_Mine.f k e O I N n) (mineA n (good e O I N).2.1 0) := by
  have g := good_right e O I N
  unfold route_Mine.f
  refine Ev.bind (own_is e O I N hO hI hN) ?_
  generalize good e O I N = T at g
  obtain ⟨e', O', I', N'⟩ := T
  change rT e' O' I' N' = true at g
  obtain ⟨_, _, h1, h2, h3, _⟩ := rT_iff.mp g
  simpa using mine_loop O' n (by omega) O' 0 [] rfl (by simp)
theorem great_is (e : Int) (O I N : List Int) : haywainlaw17_great.f e O I N = some (decide ((O.length : Int) > 50) || (decide ((I.length : Int) > 50) || decide ((N.length : Int) > 50))) := by
  unfold haywainlaw17_great.f
  by_cases h1 : (O.length : Int) > 50
  · rw [if_pos h1, decide_eq_true h1]; rfl
  rw [if_neg h1, decide_eq_false h1, Bool.false_or]
  by_cases h2 : (I.length : Int) > 50
  · rw [if_pos h2, decide_eq_true h2]; rfl
  rw [if_neg h2, decide_eq_false h2, Bool.false_or]

/-! ### the reference's table that may be -/
theorem has_loop (l : List Int) (n : Int) (hl : l.length ≤ 4000000000000) : ∀ (t : List Int) (i : Nat), l.drop i = t → Ev (fun k => haywainref09_Has.l0 k l n (i : Int)) (decide (n ∈ t))
  | [], i, h => by
    have hi := drop_end h
    refine Ev.step (fun k => haywainref09_Has.l0.eq_2 _ _ _ k) ?_
    exact Ev.neg (by omega) (Ev.some (by simp))
  | w :: t, i, h => by
    obtain ⟨hi, hw, ht⟩ := drop_next h
    refine Ev.step (fun k => haywainref09_Has.l0.eq_2 _ _ _ k) ?_
    refine Ev.pos (by omega) (Ev.pos (by omega) ?_)
    rw [hw, nat_up hi hl]
    by_cases e : w = n
    · exact Ev.pos e (Ev.some (by simp [e]))
    · refine Ev.neg e ?_
      have ih := has_loop l n hl t (i + 1) ht
      have e2 : (n ∈ w :: t) = (n ∈ t) := by simp [Ne.symm e]
      simp only [e2]
      exact ih
theorem has_is (l : List Int) (n : Int) (hl : l.length ≤ 4000000000000) : Ev (fun k => haywainref09_Has.f k l n) (decide (n ∈ l)) := has_loop l n hl l 0 rfl
theorem ref_own (e : Int) (O I N : List Int) (hO : O.length ≤ 4000000000000) (hI : I.length ≤ 4000000000000) : ∀ (t : List Int) (i : Nat), O.drop i = t →
    Ev (fun k => haywainref17_Right.l1 k (i : Int) e O I N) (t.all fun w => decide (w ∈ I))
  | [], i, h => by
    have hi := drop_end h
    refine Ev.step (fun k => haywainref17_Right.l1.eq_2 _ _ _ _ _ k) ?_
    exact Ev.neg (by omega) (Ev.some rfl)
  | w :: t, i, h => by
    obtain ⟨hi, hw, ht⟩ := drop_next h
    refine Ev.step (fun k => haywainref17_Right.l1.eq_2 _ _ _ _ _ k) ?_
    refine Ev.pos (by omega) (Ev.pos (by omega) ?_)
    rw [hw, nat_up hi hO]
    refine Ev.bind (has_is I w hI) ?_
    by_cases e1 : w ∈ I
    · refine Ev.pos (decide_eq_true e1) ?_
      have ih := ref_own e O I N hO hI t (i + 1) ht
      simp only [List.all_cons, decide_eq_true e1, Bool.true_and]
      exact ih
    · refine Ev.neg (by rw [decide_eq_false e1]; decide) (Ev.some ?_)
      simp only [List.all_cons, decide_eq_false e1, Bool.false_and]
theorem ref_ids (e : Int) (O I N : List Int) (hO : O.length ≤ 4000000000000) (hI : I.length ≤ 4000000000000) (hN : N.length = I.length) : ∀ (t s : List Int) (i : Nat) (b : Int), I.drop i = t → N.drop i = s →
    0 ≤ b → (i = 0 → b = 0) → (0 < i → rd I ((i - 1 : Nat) : Int) = b) →
    Ev (fun k => haywainref17_Right.l0 k (i : Int) e O I N) (ids b t s && O.all fun w => decide (w ∈ I))
  | [], s, i, b, h, _, _, _, _ => by
    have hi := drop_end h
    refine Ev.step (fun k => haywainref17_Right.l0.eq_2 _ _ _ _ _ k) ?_
    refine Ev.neg (by omega) ?_
    simp only [ids, Bool.true_and]
    exact ref_own e O I N hO hI O 0 rfl
  | w :: t, [], i, b, h, h', _, _, _ => by
    have h1 := (drop_next h).1
    have h2 := drop_end h'
    omega
  | w :: t, n :: s, i, b, h, h', b0, b1, b2 => by
    obtain ⟨hi, hw, ht⟩ := drop_next h
    obtain ⟨hi', hn, hs⟩ := drop_next h'
    refine Ev.step (fun k => haywainref17_Right.l0.eq_2 _ _ _ _ _ k) ?_
    refine Ev.pos (by omega) (Ev.pos (by omega) ?_)
    rw [hw, nat_up hi hI]
    simp only [ids]
    by_cases h1 : w < 1
    · refine Ev.pos h1 (Ev.some ?_)
      rw [decide_eq_false (by omega : ¬ b < w)]; rfl
    refine Ev.neg h1 ?_
    by_cases h2 : w > 99
    · refine Ev.pos h2 (Ev.some ?_)
      rw [decide_eq_false (by omega : ¬ w ≤ 99)]; simp
    refine Ev.neg h2 (Ev.pos (by omega) ?_)
    rw [hn]
    by_cases h3 : n < 1
    · refine Ev.pos h3 (Ev.some ?_)
      rw [decide_eq_false (by omega : ¬ 1 ≤ n)]; simp
    refine Ev.neg h3 ?_
    by_cases h4 : n > 1099511627776
    · refine Ev.pos h4 (Ev.some ?_)
      rw [decide_eq_false (by omega : ¬ n ≤ 1099511627776)]; simp
    refine Ev.neg h4 ?_
    rw [decide_eq_true (by omega : w ≤ 99), decide_eq_true (by omega : 1 ≤ n), decide_eq_true (by omega : n ≤ 1099511627776)]
    simp only [Bool.true_and]
    have ih := ref_ids e O I N hO hI hN t s (i + 1) w ht hs (by omega) (by omega) (fun _ => by simpa using hw)
    by_cases h5 : 0 < i
    · have e1 : wrap64 ((i : Int) - 1) = ((i - 1 : Nat) : Int) := by rw [w64 (by omega) (by omega)]; omega
      refine Ev.pos (by omega) (Ev.pos (by omega) (Ev.pos (by omega) ?_))
      rw [e1, b2 h5]
      by_cases h6 : b ≥ w
      · refine Ev.pos h6 (Ev.some ?_)
        rw [decide_eq_false (by omega : ¬ b < w)]; rfl
      · refine Ev.neg h6 ?_
        rw [decide_eq_true (by omega : b < w), Bool.true_and]
        exact ih
    · have := b1 (by omega)
      refine Ev.neg (by omega) ?_
      rw [decide_eq_true (by omega : b < w), Bool.true_and]
      exact ih
theorem refright_is (e : Int) (O I N : List Int) (hO : O.length ≤ 4000000000000) (hI : I.length ≤ 4000000000000) : Ev (fun k => haywainref17_Right.f k e O I N) (rT e O I N) := by
  unfold haywainref17_Right.f
  have no : Ev (fun k => haywainref17_Right.j0 k true e O I N) false := Ev.step (fun k => haywainref17_Right.j0.eq_2 _ _ _ _ _ k) (Ev.pos rfl (Ev.some rfl))
  unfold rT head_
  by_cases h1 : e < 0
  · rw [decide_eq_false (by omega : ¬ 0 ≤ e)]; exact Ev.pos h1 no
  refine Ev.neg h1 ?_
  rw [decide_eq_true (by omega : 0 ≤ e), Bool.true_and]
  by_cases h2 : e > 1099511627776
  · rw [decide_eq_false (by omega : ¬ e ≤ 1099511627776)]; exact Ev.pos h2 no
  refine Ev.neg h2 ?_
  rw [decide_eq_true (by omega : e ≤ 1099511627776), Bool.true_and]
  by_cases h3 : (I.length : Int) > 5
  · rw [decide_eq_false (by omega : ¬ (I.length : Int) ≤ 5)]; exact Ev.pos h3 no
  refine Ev.neg h3 ?_
  rw [decide_eq_true (by omega : (I.length : Int) ≤ 5), Bool.true_and]
  by_cases h4 : (N.length : Int) = (I.length : Int)
  · refine Ev.pos h4 ?_
    rw [decide_eq_true h4, Bool.true_and]
    by_cases h5 : (O.length : Int) > 6
    · rw [decide_eq_false (by omega : ¬ (O.length : Int) ≤ 6), decide_eq_true h5]; exact no
    rw [decide_eq_true (by omega : (O.length : Int) ≤ 6), decide_eq_false h5, Bool.true_and]
    refine Ev.step (fun k => haywainref17_Right.j0.eq_2 _ _ _ _ _ k) (Ev.neg (by decide) ?_)
    exact ref_ids e O I N hO hI (by omega) I N 0 0 rfl rfl (by decide) (fun _ => rfl) (fun h => absurd h (by decide))
  · rw [decide_eq_false h4]; exact Ev.neg h4 no
theorem as_is (e : Int) (O I N : List Int) : haywainlaw17_as.f e O I N = some (e, O, I, N) := rfl

/-! ### what is said to a caller -/
def sayM (e : Int) (O : List Int) (id g p : Int) : Int × Int := if g > e then (2, 0) else if g < e then (3, 0) else if 0 ≤ p ∧ p < O.length then (if rd O p = id then (1, 0) else (4, rd O p)) else (3, 0)
theorem say_right {e : Int} {O I N : List Int} (h : rT e O I N = true) (id g p : Int) : Ev (fun k => (route_To.f k e O I N p).bind fun b => (if g > e then (some (2, 0)) else (if g < e then (route_Say.j0 k id b.1 true) else (route_Say.j0 k id b.1 (b.2.2 != 0))))) (sayM e O id g p) := by
  refine Ev.bind (to_right h p) ?_
  unfold sayM
  by_cases h1 : g > e
  · rw [if_pos h1]; exact Ev.pos h1 (Ev.some rfl)
  rw [if_neg h1]
  refine Ev.neg h1 ?_
  by_cases h2 : g < e
  · rw [if_pos h2]
    exact Ev.pos h2 (Ev.step (fun k => route_Say.j0.eq_2 _ _ _ k) (Ev.pos rfl (Ev.some rfl)))
  rw [if_neg h2]
  refine Ev.neg h2 ?_
  unfold toM
  by_cases h3 : 0 ≤ p ∧ p < O.length
  · rw [if_pos h3, if_pos h3]
    refine Ev.step (fun k => route_Say.j0.eq_2 _ _ _ k) (Ev.neg (by simp) ?_)
    by_cases h4 : rd O p = id
    · refine Ev.pos h4 (Ev.some ?_); rw [if_pos h4]
    · refine Ev.neg h4 (Ev.some ?_); rw [if_neg h4]
  · rw [if_neg h3, if_neg h3]
    exact Ev.step (fun k => route_Say.j0.eq_2 _ _ _ k) (Ev.pos (by decide) (Ev.some rfl))
theorem say_is (e : Int) (O I N : List Int) (hO : O.length ≤ 4000000000000) (hI : I.length ≤ 4000000000000) (hN : N.length ≤ 4000000000000) (id a p : Int) : Ev (fun k => route_Say.f k e O I N id a p) (sayM (good e O I N).1 (good e O I N).2.1 id a p) := by
  have g := good_right e O I N
  unfold route_Say.f
  refine Ev.bind (own_is e O I N hO hI hN) ?_
  generalize good e O I N = T at g
  obtain ⟨e', O', I', N'⟩ := T
  change rT e' O' I' N' = true at g
  exact say_right g id a p

/-! ### how often -/
def cntA (o : Int) : List Int → Nat
  | [] => 0
  | x :: t => (if x = o then 1 else 0) + cntA o t
theorem ids_lt : ∀ {t s : List Int} {b : Int}, ids b t s = true → ∀ w ∈ t, b < w
  | [], _, _, _ => by simp
  | i :: t, [], _, h => by simp [ids] at h
  | i :: t, n :: s, b, h => by
    simp only [ids, Bool.and_eq_true, decide_eq_true_eq] at h
    intro w hw
    rcases List.mem_cons.mp hw with e | e
    · subst e; exact h.1
    · have := ids_lt h.2.2.2.2 w e
      omega
theorem cnt_none {o : Int} : ∀ {t : List Int}, o ∉ t → cntA o t = 0
  | [], _ => rfl
  | x :: t, h => by
    simp only [List.mem_cons, not_or] at h
    simp only [cntA, if_neg (Ne.symm h.1), Nat.zero_add]
    exact cnt_none h.2
theorem cnt_one {o : Int} : ∀ {t s : List Int} {b : Int}, ids b t s = true → o ∈ t → cntA o t = 1
  | [], _, _, _, h => by simp at h
  | i :: t, [], _, h, _ => by simp [ids] at h
  | i :: t, n :: s, b, h, ho => by
    simp only [ids, Bool.and_eq_true, decide_eq_true_eq] at h
    have hlt := ids_lt h.2.2.2.2
    simp only [cntA]
    by_cases e : i = o
    · subst e
      rw [if_pos rfl, cnt_none (fun hm => absurd (hlt _ hm) (by omega))]
    · rw [if_neg e, Nat.zero_add]
      exact cnt_one h.2.2.2.2 ((List.mem_cons.mp ho).resolve_left (Ne.symm e))

/-! ### small tables -/
theorem great_no {O I N : List Int} (h : ¬ (decide ((O.length : Int) > 50) || (decide ((I.length : Int) > 50) || decide ((N.length : Int) > 50))) = true) : O.length ≤ 50 ∧ I.length ≤ 50 ∧ N.length ≤ 50 := by
  simp only [Bool.or_eq_true, decide_eq_true_eq, not_or] at h
  omega
theorem knows_so : Ev (fun k => (haywainlaw17_knows.f k).bind fun t => some t) true := Ev.bind knows_ok (Ev.some rfl)

theorem sayR {e : Int} {O I N : List Int} (h : rT e O I N = true) (id a p : Int) : Ev (fun k => route_Say.f k e O I N id a p) (sayM e O id a p) := by
  obtain ⟨_, _, h1, h2, h3, _⟩ := rT_iff.mp h
  have := say_is e O I N (by omega) (by omega) (by omega) id a p
  rwa [good_same h] at this
theorem say_now {e : Int} {O : List Int} {id p : Int} (h : 0 ≤ p ∧ p < O.length) : sayM e O id e p = if rd O p = id then (1, 0) else (4, rd O p) := by
  unfold sayM
  rw [if_neg (by omega), if_neg (by omega), if_pos h]
theorem one_loop {e : Int} {O I N : List Int} (h : rT e O I N = true) {p a : Int} (hp : 0 ≤ p ∧ p < O.length) : ∀ (t : List Int) (i c : Nat), I.drop i = t → c ≤ i → c + cntA (rd O p) t = 1 →
    Ev (fun k => haywainlaw17_RouteOne.l0 k p a (c : Int) (i : Int) e O I N) true
  | [], i, c, hd, _, hc => by
    have hi := drop_end hd
    simp only [cntA] at hc
    refine Ev.step (fun k => haywainlaw17_RouteOne.l0.eq_2 _ _ _ _ _ _ _ _ k) ?_
    exact Ev.neg (by omega) (Ev.pos (by omega) knows_so)
  | w :: t, i, c, hd, hci, hc => by
    obtain ⟨hi, hw, ht⟩ := drop_next hd
    obtain ⟨_, _, h1, _⟩ := rT_iff.mp h
    simp only [cntA] at hc
    have next : Ev (fun k => haywainlaw17_RouteOne.j2 k p a (c : Int) (i : Int) (sayM e O w e p).1 (sayM e O w e p).2 false e O I N) true := by
      refine Ev.step (fun k => haywainlaw17_RouteOne.j2.eq_2 _ _ _ _ _ _ _ _ _ _ _ k) (Ev.neg (by decide) ?_)
      rw [say_now hp]
      by_cases e1 : rd O p = w
      · rw [if_pos e1.symm] at hc
        rw [if_pos e1]
        refine Ev.pos rfl ?_
        rw [nat_up hi (by omega), nat_up (n := 100) (by omega) (by omega)]
        exact one_loop h hp t (i + 1) (c + 1) ht (by omega) (by omega)
      · rw [if_neg (Ne.symm e1)] at hc
        rw [if_neg e1]
        refine Ev.neg (by show ¬ (4 : Int) = 1; decide) (Ev.bind (sayR h _ _ _) (Ev.pos rfl ?_))
        rw [say_now hp, if_pos rfl, nat_up hi (by omega)]
        exact Ev.pos rfl (one_loop h hp t (i + 1) c ht (by omega) (by omega))
    refine Ev.step (fun k => haywainlaw17_RouteOne.l0.eq_2 _ _ _ _ _ _ _ _ k) ?_
    refine Ev.pos (by omega) (Ev.pos (by omega) ?_)
    rw [hw]
    refine Ev.bind (sayR h w e p) (Ev.bind (sayR h w a p) ?_)
    by_cases a1 : a < e
    · refine Ev.pos a1 (Ev.pos ?_ (Ev.neg (by omega) next))
      unfold sayM
      rw [if_neg (by omega), if_pos a1]
    refine Ev.neg a1 ?_
    by_cases a2 : a > e
    · refine Ev.pos a2 ?_
      have e2 : (sayM e O w a p).1 = 2 := by
        unfold sayM
        rw [if_pos a2]
      rw [e2]
      exact next
    · exact Ev.neg a2 next
theorem RouteOne : haywainlaw17_RouteOne.Pure := by
  intro e O I N p a _ _ _ _ _ _
  have yes : Ev (fun k => haywainlaw17_RouteOne.j0 k p a true e O I N) true := Ev.step (fun k => haywainlaw17_RouteOne.j0.eq_2 _ _ _ _ _ _ _ k) (Ev.pos rfl knows_so)
  have main : Ev (fun k => haywainlaw17_RouteOne.f k e O I N p a) true := by
    unfold haywainlaw17_RouteOne.f
    refine Ev.bind0 (great_is e O I N) ?_
    by_cases hg : (decide ((O.length : Int) > 50) || (decide ((I.length : Int) > 50) || decide ((N.length : Int) > 50))) = true
    · exact Ev.pos hg yes
    obtain ⟨hO, hI, hN⟩ := great_no hg
    refine Ev.neg hg ?_
    refine Ev.bind0 (as_is e O I N) ?_
    refine Ev.bind (refright_is e O I N (by omega) (by omega)) ?_
    by_cases h : rT e O I N = true
    · refine Ev.pos h ?_
      by_cases p0 : p < 0
      · exact Ev.pos p0 yes
      refine Ev.neg p0 ?_
      by_cases p1 : p ≥ (O.length : Int)
      · rw [decide_eq_true p1]; exact yes
      rw [decide_eq_false p1]
      refine Ev.step (fun k => haywainlaw17_RouteOne.j0.eq_2 _ _ _ _ _ _ _ k) (Ev.neg (by decide) ?_)
      obtain ⟨_, _, _, _, _, h5, h6⟩ := rT_iff.mp h
      have hm : rd O p ∈ O := by
        have e1 : p = ((p.toNat : Nat) : Int) := by omega
        rw [e1, rd_at (by omega)]
        exact List.getElem_mem _
      exact one_loop h (by omega) I 0 0 rfl (by omega) (by rw [cnt_one h5 (h6 _ hm)])
    · exact Ev.neg h yes
  exact main.rounds

end Go.Proofs.Ytaanojcdmojgbaa.Pure
