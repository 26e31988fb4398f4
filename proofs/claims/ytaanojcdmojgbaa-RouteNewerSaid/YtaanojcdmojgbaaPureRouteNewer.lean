/- The newer one of two tables is told as the document says, and of three the same epoch in whatever order they come, for every table. No condition but the row's own (tables with lists up to 50 are looked at). -/
import Derived.Test.YtaanojcdmojgbaaPRouteNx8
namespace Go.Proofs.Ytaanojcdmojgbaa.Pure
open Go.RowKit Go.Proofs.Ytaanojcdmojgbaa.PRouteN Go.Proofs.YtaanojcdmojgbaaW.PrintWords Go.Proofs.YtaanojcdmojgbaaW.PrintLast

/-! ### rounds: a function with enough rounds -/
theorem Ev.pos {α : Type} {c : Prop} [Decidable c] {f g : Nat → Option α} {r : α} (h : c) (k : Ev f r) : Ev (fun n => if c then f n else g n) r := by
  obtain ⟨K, k⟩ := k
  exact ⟨K, fun n hn => by simp only [if_pos h]; exact k n hn⟩
theorem Ev.neg {α : Type} {c : Prop} [Decidable c] {f g : Nat → Option α} {r : α} (h : ¬ c) (k : Ev g r) : Ev (fun n => if c then f n else g n) r := by
  obtain ⟨K, k⟩ := k
  exact ⟨K, fun n hn => by simp only [if_neg h]; exact k n hn⟩
theorem Ev.bind0 {α β : Type} {o : Option α} {f : Nat → α → Option β} {a : α} {r : β} (h : o = some a) (k : Ev (fun n => f n a) r) : Ev (fun n => o.bind (f n)) r := by
  subst h; exact k
theorem Ev.some {α : Type} {a r : α} (h : a = r) : Ev (fun _ => Option.some a) r := h ▸ Ev.now a

/-! ### numbers -/
theorem wf_u64 {a : Int} (hw : (Lit.int .u64 a).wf = true) : 0 ≤ a ∧ a < 18446744073709551616 := by
  simp only [Lit.wf, Bool.and_eq_true, decide_eq_true_eq] at hw
  have e0 : IntKind.u64.min = 0 := by decide
  have e1 : IntKind.u64.max = 18446744073709551615 := by decide
  rw [e0, e1] at hw
  omega
theorem wf_i64 {a : Int} (hw : (Lit.int .i64 a).wf = true) : -9223372036854775808 ≤ a ∧ a ≤ 9223372036854775807 := by
  simp only [Lit.wf, Bool.and_eq_true, decide_eq_true_eq] at hw
  have e0 : IntKind.i64.min = -9223372036854775808 := by decide
  have e1 : IntKind.i64.max = 9223372036854775807 := by decide
  rw [e0, e1] at hw
  omega
theorem w64 {n : Int} (h0 : -9223372036854775808 ≤ n) (h1 : n ≤ 9223372036854775807) : wrap64 n = n := by
  unfold wrap64
  omega

/-! ### lists -/
theorem drop_end {l : List Int} {i : Nat} (h : l.drop i = []) : l.length ≤ i := List.drop_eq_nil_iff.mp h
theorem drop_next {l : List Int} {i : Nat} {w : Int} {t : List Int} (h : l.drop i = w :: t) : i < l.length ∧ rd l (i : Int) = w ∧ l.drop (i + 1) = t := by
  have hi : i < l.length := by
    refine Nat.lt_of_not_le fun hn => ?_
    rw [List.drop_eq_nil_iff.mpr hn] at h
    exact absurd h (by simp)
  have h2 := List.drop_eq_getElem_cons hi
  rw [h2] at h
  injection h with ha hb
  refine ⟨hi, ?_, hb⟩
  unfold rd
  rw [Int.toNat_natCast, List.getD_eq_getElem?_getD, List.getElem?_eq_getElem hi]
  exact ha
theorem nat_up {i n : Nat} (h : i < n) (hn : n ≤ 4000000000000) : wrap64 ((i : Int) + 1) = ((i + 1 : Nat) : Int) := by
  rw [w64 (by omega) (by omega)]; omega
theorem knows_ok : Ev haywainlaw17_knows.f true := Ev.of haywainlaw17_knows.mono (k := 60) (by decide +kernel)
theorem rd_at {l : List Int} {i : Nat} (h : i < l.length) : rd l (i : Int) = l[i] := by
  unfold rd
  rw [Int.toNat_natCast, List.getD_eq_getElem?_getD, List.getElem?_eq_getElem h]
  rfl

/-! ### what is found -/
def findA (n : Int) : List Int → Nat → Int
  | [], _ => -1
  | x :: t, i => if x = n then (i : Int) else findA n t (i + 1)
theorem find_loop (l : List Int) (n : Int) (hl : l.length ≤ 4000000000000) : ∀ (t : List Int) (i : Nat), l.drop i = t → Ev (fun k => route_find.l0 k n l (l.length : Int) (i : Int)) (findA n t i)
  | [], i, h => by
    have hi := drop_end h
    refine Ev.step (fun k => route_find.l0.eq_2 _ _ _ _ k) ?_
    exact Ev.neg (by omega) (Ev.some rfl)
  | w :: t, i, h => by
    obtain ⟨hi, hw, ht⟩ := drop_next h
    refine Ev.step (fun k => route_find.l0.eq_2 _ _ _ _ k) ?_
    refine Ev.pos (by omega) (Ev.pos (by omega) (Ev.pos (by omega) ?_))
    rw [hw, nat_up hi hl]
    by_cases e : w = n
    · exact Ev.pos e (Ev.some (by simp [findA, e]))
    · refine Ev.neg e ?_
      have ih := find_loop l n hl t (i + 1) ht
      simp only [findA, if_neg e]
      exact ih
theorem find_is (l : List Int) (n : Int) (hl : l.length ≤ 4000000000000) : Ev (fun k => route_find.f k l n) (findA n l 0) := find_loop l n hl l 0 rfl
theorem findA_neg {n : Int} : ∀ {t : List Int} {i : Nat}, n ∉ t → findA n t i = -1
  | [], _, _ => rfl
  | x :: t, i, h => by
    simp only [List.mem_cons, not_or] at h
    simp only [findA, if_neg (Ne.symm h.1)]
    exact findA_neg h.2
theorem findA_pos {n : Int} : ∀ {t : List Int} {i : Nat}, n ∈ t → (i : Int) ≤ findA n t i
  | x :: t, i, h => by
    simp only [findA]
    by_cases e : x = n
    · rw [if_pos e]; exact Int.le_refl _
    · rw [if_neg e]
      have := findA_pos (i := i + 1) ((List.mem_cons.mp h).resolve_left (Ne.symm e))
      omega
theorem findA_lt {n : Int} {t : List Int} : (findA n t 0 < 0) ↔ n ∉ t := by
  constructor
  · intro h hn
    have := findA_pos (i := 0) hn
    omega
  · intro h
    rw [findA_neg h]; decide
/-- The number that stands beside a number. -/
def look (n : Int) : List Int → List Int → Int
  | i :: t, m :: s => if i = n then m else look n t s
  | _, _ => 0
theorem look_find {n : Int} {N : List Int} : ∀ {t s : List Int} {i : Nat}, N.drop i = s → t.length ≤ s.length → n ∈ t → ∃ j : Nat, findA n t i = (j : Int) ∧ j < N.length ∧ rd N (j : Int) = look n t s
  | x :: t, m :: s, i, hs, hl, hn => by
    obtain ⟨hi, hw, hs'⟩ := drop_next hs
    simp only [findA, look]
    by_cases e : x = n
    · rw [if_pos e, if_pos e]
      exact ⟨i, rfl, hi, hw⟩
    · rw [if_neg e, if_neg e]
      exact look_find hs' (by simpa using hl) ((List.mem_cons.mp hn).resolve_left (Ne.symm e))
  | _ :: _, [], _, _, hl, _ => by simp at hl
theorem look_none {n : Int} : ∀ {t s : List Int}, n ∉ t → look n t s = 0
  | [], _, _ => by simp [look]
  | _ :: _, [], _ => by simp [look]
  | x :: t, m :: s, h => by
    simp only [List.mem_cons, not_or] at h
    simp only [look, if_neg (Ne.symm h.1)]
    exact look_none h.2

/-! ### tables that may be -/
def ids : Int → List Int → List Int → Bool
  | _, [], _ => true
  | b, i :: t, n :: s => decide (b < i) && (decide (i ≤ 99) && (decide (1 ≤ n) && (decide (n ≤ 1099511627776) && ids i t s)))
  | _, _ :: _, [] => false
def head_ (e : Int) (O I N : List Int) : Bool := decide (0 ≤ e) && (decide (e ≤ 1099511627776) && (decide ((I.length : Int) ≤ 5) && (decide ((N.length : Int) = (I.length : Int)) && decide ((O.length : Int) ≤ 6))))
def rT (e : Int) (O I N : List Int) : Bool := head_ e O I N && (ids 0 I N && O.all fun w => decide (w ∈ I))
theorem right_own (e : Int) (O I N : List Int) (hO : O.length ≤ 4000000000000) (hI : I.length ≤ 4000000000000) : ∀ (t : List Int) (i : Nat), O.drop i = t →
    Ev (fun k => route_Right.l1 k O (O.length : Int) (i : Int) e O I N) (t.all fun w => decide (w ∈ I))
  | [], i, h => by
    have hi := drop_end h
    refine Ev.step (fun k => route_Right.l1.eq_2 _ _ _ _ _ _ _ k) ?_
    exact Ev.neg (by omega) (Ev.some rfl)
  | w :: t, i, h => by
    obtain ⟨hi, hw, ht⟩ := drop_next h
    refine Ev.step (fun k => route_Right.l1.eq_2 _ _ _ _ _ _ _ k) ?_
    refine Ev.pos (by omega) (Ev.pos (by omega) (Ev.pos (by omega) ?_))
    rw [hw, nat_up hi hO]
    refine Ev.bind (find_is I w hI) ?_
    by_cases e1 : w ∈ I
    · refine Ev.neg (fun h' => findA_lt.mp h' e1) ?_
      have ih := right_own e O I N hO hI t (i + 1) ht
      simp only [List.all_cons, decide_eq_true e1, Bool.true_and]
      exact ih
    · refine Ev.pos (findA_lt.mpr e1) (Ev.some ?_)
      simp only [List.all_cons, decide_eq_false e1, Bool.false_and]
theorem right_ids (e : Int) (O I N : List Int) (hO : O.length ≤ 4000000000000) (hI : I.length ≤ 4000000000000) (hN : N.length = I.length) : ∀ (t s : List Int) (i : Nat) (b : Int), I.drop i = t → N.drop i = s →
    Ev (fun k => route_Right.l0 k b I (I.length : Int) (i : Int) e O I N) (ids b t s && O.all fun w => decide (w ∈ I))
  | [], s, i, b, h, _ => by
    have hi := drop_end h
    refine Ev.step (fun k => route_Right.l0.eq_2 _ _ _ _ _ _ _ _ k) ?_
    refine Ev.neg (by omega) ?_
    simp only [ids, Bool.true_and]
    exact right_own e O I N hO hI O 0 rfl
  | w :: t, [], i, b, h, h' => by
    have h1 := (drop_next h).1
    have h2 := drop_end h'
    omega
  | w :: t, n :: s, i, b, h, h' => by
    obtain ⟨hi, hw, ht⟩ := drop_next h
    obtain ⟨hi', hn, hs⟩ := drop_next h'
    refine Ev.step (fun k => route_Right.l0.eq_2 _ _ _ _ _ _ _ _ k) ?_
    refine Ev.pos (by omega) (Ev.pos (by omega) (Ev.pos (by omega) ?_))
    rw [hw, nat_up hi hI]
    have ih := right_ids e O I N hO hI hN t s (i + 1) w ht hs
    simp only [ids]
    by_cases h1 : w ≤ b
    · refine Ev.pos h1 (Ev.some ?_)
      rw [decide_eq_false (by omega : ¬ b < w)]; rfl
    refine Ev.neg h1 ?_
    rw [decide_eq_true (by omega : b < w), Bool.true_and]
    by_cases h2 : w > 99
    · refine Ev.pos h2 (Ev.some ?_)
      rw [decide_eq_false (by omega : ¬ w ≤ 99)]; rfl
    refine Ev.neg h2 ?_
    rw [decide_eq_true (by omega : w ≤ 99), Bool.true_and]
    refine Ev.pos (by omega) ?_
    rw [hn]
    by_cases h3 : n < 1
    · refine Ev.pos h3 (Ev.some ?_)
      rw [decide_eq_false (by omega : ¬ 1 ≤ n)]; rfl
    refine Ev.neg h3 ?_
    rw [decide_eq_true (by omega : 1 ≤ n), Bool.true_and]
    by_cases h4 : n > 1099511627776
    · refine Ev.pos h4 (Ev.some ?_)
      rw [decide_eq_false (by omega : ¬ n ≤ 1099511627776)]; rfl
    refine Ev.neg h4 ?_
    rw [decide_eq_true (by omega : n ≤ 1099511627776), Bool.true_and]
    exact ih
theorem right_is (e : Int) (O I N : List Int) (hO : O.length ≤ 4000000000000) (hI : I.length ≤ 4000000000000) : Ev (fun k => route_Right.f k e O I N) (rT e O I N) := by
  unfold route_Right.f
  have no : Ev (fun k => route_Right.j0 k true e O I N) false := Ev.step (fun k => route_Right.j0.eq_2 _ _ _ _ _ k) (Ev.pos rfl (Ev.some rfl))
  unfold rT head_
  by_cases h1 : e < 0
  · rw [decide_eq_false (by omega : ¬ 0 ≤ e)]; exact Ev.pos h1 no
  refine Ev.neg h1 ?_
  rw [decide_eq_true (by omega : 0 ≤ e), Bool.true_and]
  by_cases h2 : e > 1099511627776
  · rw [decide_eq_false (by omega : ¬ e ≤ 1099511627776)]; exact Ev.pos h2 no
  refine Ev.neg h2 ?_
  rw [decide_eq_true (by omega : e ≤ 1099511627776), Bool.true_and]
  by_cases h3 : (I.length : Int) > 5
  · rw [decide_eq_false (by omega : ¬ (I.length : Int) ≤ 5)]; exact Ev.pos h3 no
  refine Ev.neg h3 ?_
  rw [decide_eq_true (by omega : (I.length : Int) ≤ 5), Bool.true_and]
  by_cases h4 : (N.length : Int) = (I.length : Int)
  · refine Ev.pos h4 ?_
    rw [decide_eq_true h4, Bool.true_and]
    by_cases h5 : (O.length : Int) > 6
    · rw [decide_eq_false (by omega : ¬ (O.length : Int) ≤ 6), decide_eq_true h5]; exact no
    rw [decide_eq_true (by omega : (O.length : Int) ≤ 6), decide_eq_false h5, Bool.true_and]
    refine Ev.step (fun k => route_Right.j0.eq_2 _ _ _ _ _ k) (Ev.neg (by decide) ?_)
    exact right_ids e O I N hO hI (by omega) I N 0 0 rfl rfl
  · rw [decide_eq_false h4]; exact Ev.neg h4 no
theorem rT_iff {e : Int} {O I N : List Int} : rT e O I N = true ↔ 0 ≤ e ∧ e ≤ 1099511627776 ∧ I.length ≤ 5 ∧ N.length = I.length ∧ O.length ≤ 6 ∧ ids 0 I N = true ∧ ∀ w ∈ O, w ∈ I := by
  simp only [rT, head_, Bool.and_eq_true, decide_eq_true_eq, List.all_eq_true]
  exact ⟨fun ⟨⟨a, b, c, d, e⟩, f, g⟩ => ⟨a, b, by omega, by omega, by omega, f, g⟩, fun ⟨a, b, c, d, e, f, g⟩ => ⟨⟨a, b, by omega, by omega, by omega⟩, f, g⟩⟩
/-- A table, or the zero one. -/
def good (e : Int) (O I N : List Int) : Int × List Int × List Int × List Int := if rT e O I N = true then (e, O, I, N) else (0, [], [], [])
theorem good_right (e : Int) (O I N : List Int) : rT (good e O I N).1 (good e O I N).2.1 (good e O I N).2.2.1 (good e O I N).2.2.2 = true := by
  unfold good
  by_cases h : rT e O I N = true
  · rw [if_pos h]; exact h
  · rw [if_neg h]; decide
theorem good_same {e : Int} {O I N : List Int} (h : rT e O I N = true) : good e O I N = (e, O, I, N) := by unfold good; rw [if_pos h]
theorem own_is (e : Int) (O I N : List Int) (hO : O.length ≤ 4000000000000) (hI : I.length ≤ 4000000000000) (hN : N.length ≤ 4000000000000) : Ev (fun k => route_own.f k e O I N) (good e O I N) := by
  unfold route_own.f good
  refine Ev.bind (right_is e O I N hO hI) ?_
  by_cases h : rT e O I N = true
  · refine Ev.pos h ?_
    rw [if_pos h]
    exact Ev.bind0 rfl (Ev.pos (by simp; omega) (Ev.bind0 rfl (Ev.pos (by simp; omega) (Ev.bind0 rfl (Ev.pos (by simp; omega) (Ev.some rfl))))))
  · refine Ev.neg h ?_
    rw [if_neg h]
    exact Ev.some rfl
theorem own_right {e : Int} {O I N : List Int} (h : rT e O I N = true) : Ev (fun k => route_own.f k e O I N) (e, O, I, N) := by
  obtain ⟨_, _, h1, h2, h3, _⟩ := rT_iff.mp h
  have := own_is e O I N (by omega) (by omega) (by omega)
  rwa [good_same h] at this

/-! ### a right table's answers -/
theorem inc_right {e : Int} {O I N : List Int} (h : rT e O I N = true) (id : Int) : Ev (fun k => route_Inc.f k e O I N id) (look id I N) := by
  obtain ⟨_, _, h1, h2, h3, _⟩ := rT_iff.mp h
  unfold route_Inc.f
  refine Ev.bind (own_right h) (Ev.bind (find_is I id (by omega)) ?_)
  by_cases hm : id ∈ I
  · obtain ⟨j, hj, hjN, hr⟩ := look_find (N := N) (s := N) (i := 0) rfl (by omega) hm
    rw [hj]
    exact Ev.neg (by omega) (Ev.pos (by omega) (Ev.pos (by show (j : Int) < (N.length : Int); omega) (Ev.some hr)))
  · exact Ev.pos (findA_lt.mpr hm) (Ev.some (look_none hm).symm)
theorem to_in {e : Int} {O I N : List Int} (h : rT e O I N = true) {p : Int} (h0 : 0 ≤ p) (h1 : p < O.length) : Ev (fun k => route_To.f k e O I N p) (rd O p, look (rd O p) I N, 0) := by
  unfold route_To.f
  refine Ev.bind (own_right h) (Ev.neg (by omega) (Ev.neg (by show ¬ p ≥ (O.length : Int); omega) (Ev.pos h0 (Ev.pos h1 (Ev.bind (inc_right h _) (Ev.some rfl))))))
theorem to_out {e : Int} {O I N : List Int} (h : rT e O I N = true) {p : Int} (hp : ¬ (0 ≤ p ∧ p < O.length)) : Ev (fun k => route_To.f k e O I N p) (0, 0, 4) := by
  unfold route_To.f
  refine Ev.bind (own_right h) ?_
  by_cases h0 : p < 0
  · exact Ev.pos h0 (Ev.some rfl)
  · exact Ev.neg h0 (Ev.pos (by show p ≥ (O.length : Int); omega) (Ev.some rfl))
/-- From any table to the right one. -/
theorem inc_is (e : Int) (O I N : List Int) (hO : O.length ≤ 4000000000000) (hI : I.length ≤ 4000000000000) (hN : N.length ≤ 4000000000000) (id : Int) : Ev (fun k => route_Inc.f k e O I N id) (look id (good e O I N).2.2.1 (good e O I N).2.2.2) := by
  have g := good_right e O I N
  unfold route_Inc.f
  refine Ev.bind (own_is e O I N hO hI hN) ?_
  generalize good e O I N = T at g
  obtain ⟨e', O', I', N'⟩ := T
  change rT e' O' I' N' = true at g
  obtain ⟨_, _, h1, h2, h3, _⟩ := rT_iff.mp g
  refine Ev.bind (find_is I' id (by omega)) ?_
  by_cases hm : id ∈ I'
  · obtain ⟨j, hj, hjN, hr⟩ := look_find (N := N') (s := N') (i := 0) rfl (by omega) hm
    rw [hj]
    exact Ev.neg (by omega) (Ev.pos (by omega) (Ev.pos (by show (j : Int) < (N'.length : Int); omega) (Ev.some hr)))
  · exact Ev.pos (findA_lt.mpr hm) (Ev.some (look_none hm).symm)
def toM (O I N : List Int) (p : Int) : Int × Int × Int := if 0 ≤ p ∧ p < O.length then (rd O p, look (rd O p) I N, 0) else (0, 0, 4)
theorem to_right {e : Int} {O I N : List Int} (h : rT e O I N = true) (p : Int) : Ev (fun k => route_To.f k e O I N p) (toM O I N p) := by
  unfold toM
  by_cases hp : 0 ≤ p ∧ p < O.length
  · rw [if_pos hp]; exact to_in h hp.1 hp.2
  · rw [if_neg hp]; exact to_out h hp
theorem to_is (e : Int) (O I N : List Int) (hO : O.length ≤ 4000000000000) (hI : I.length ≤ 4000000000000) (hN : N.length ≤ 4000000000000) (p : Int) : Ev (fun k => route_To.f k e O I N p) (toM (good e O I N).2.1 (good e O I N).2.2.1 (good e O I N).2.2.2 p) := by
  have g := good_right e O I N
  unfold route_To.f
  refine Ev.bind (own_is e O I N hO hI hN) ?_
  generalize good e O I N = T at g
  obtain ⟨e', O', I', N'⟩ := T
  change rT e' O' I' N' = true at g
  unfold toM
  show Ev (fun n => _) (if 0 ≤ p ∧ p < (O'.length : Int) then _ else _)
  by_cases h0 : p < 0
  · rw [if_neg (by omega)]; exact Ev.pos h0 (Ev.some rfl)
  by_cases h1 : p ≥ (O'.length : Int)
  · rw [if_neg (by omega)]; exact Ev.neg h0 (Ev.pos h1 (Ev.some rfl))
  · rw [if_pos (by omega)]
    exact Ev.neg h0 (Ev.neg h1 (Ev.pos (by omega) (Ev.pos (by show p < (O'.length : Int); omega) (Ev.bind (inc_right g _) (Ev.some rfl)))))
def mineA (n : Int) : List Int → Nat → List Int
  | [], _ => []
  | x :: t, i => if x = n then (i : Int) :: mineA n t (i + 1) else mineA n t (i + 1)
theorem mine_loop (O : List Int) (n : Int) (hO : O.length ≤ 4000000000000) : ∀ (t : List Int) (i : Nat) (out : List Int), O.drop i = t → out.length ≤ i →
    Ev (fun k => route_Mine.l0 k n out O (O.length : Int) (i : Int)) (out ++ mineA n t i)
  | [], i, out, h, _ => by
    have hi := drop_end h
    refine Ev.step (fun k => route_Mine.l0.eq_2 _ _ _ _ _ k) ?_
    exact Ev.neg (by omega) (Ev.some (by simp [mineA]))
  | w :: t, i, out, h, ho => by
    obtain ⟨hi, hw, ht⟩ := drop_next h
    refine Ev.step (fun k => route_Mine.l0.eq_2 _ _ _ _ _ k) ?_
    refine Ev.pos (by omega) (Ev.pos (by omega) (Ev.pos (by omega) ?_))
    rw [hw, nat_up hi hO]
    by_cases e : w = n
    · refine Ev.pos e (Ev.pos (by omega) ?_)
      have ih := mine_loop O n hO t (i + 1) (out ++ [(i : Int)]) ht (by simp; omega)
      simp only [mineA, if_pos e]
      rw [List.append_assoc] at ih
      exact ih
    · refine Ev.neg e ?_
      have ih := mine_loop O n hO t (i + 1) out ht (by omega)
      simp only [mineA, if_neg e]
      exact ih
theorem mine_is (e : Int) (O I N : List Int) (hO : O.length ≤ 4000000000000) (hI : I.length ≤ 4000000000000) (hN : N.length ≤ 4000000000000) (n : Int) : Ev (fun k => route_Mine.f k e O I N n) (mineA n (good e O I N).2.1 0) := by
  have g := good_right e O I N
  unfold route_Mine.f
  refine Ev.bind (own_is e O I N hO hI hN) ?_
  generalize good e O I N = T at g
  obtain ⟨e', O', I', N'⟩ := T
  change rT e' O' I' N' = true at g
  obtain ⟨_, _, h1, h2, h3, _⟩ := rT_iff.mp g
  simpa using mine_loop O' n (by omega) O' 0 [] rfl (by simp)
theorem great_is (e : Int) (O I N : List Int) : haywainlaw17_great.f e O I N = some (decide ((O.length : Int) > 50) || (decide ((I.length : Int) > 50) || decide ((N.length : Int) > 50))) := by
  unfold haywainlaw17_great.f
  by_cases h1 : (O.length : Int) > 50
  · rw [if_pos h1, decide_eq_true h1]; rfl
  rw [if_neg h1, decide_eq_false h1, Bool.false_or]
  by_cases h2 : (I.length : Int) > 50
  · rw [if_pos h2, decide_eq_true h2]; rfl
  rw [if_neg h2, decide_eq_false h2, Bool.false_or]

/-! ### lists alike -/
theorem same_loop (a : List Int) (hl : a.length ≤ 4000000000000) : ∀ (d i : Nat), i + d = a.length → Ev (fun k => haywainref09_SameInts.l0 k a a (i : Int)) true
  | 0, i, h => by
    refine Ev.step (fun k => haywainref09_SameInts.l0.eq_2 _ _ _ k) ?_
    exact Ev.neg (by omega) (Ev.some rfl)
  | d + 1, i, h => by
    refine Ev.step (fun k => haywainref09_SameInts.l0.eq_2 _ _ _ k) ?_
    refine Ev.pos (by omega) (Ev.pos (by omega) (Ev.pos (by omega) (Ev.pos rfl ?_)))
    rw [nat_up (n := a.length) (by omega) hl]
    exact same_loop a hl d (i + 1) (by omega)
theorem same_self (a : List Int) (hl : a.length ≤ 4000000000000) : Ev (fun k => haywainref09_SameInts.f k a a) true := by
  unfold haywainref09_SameInts.f
  exact Ev.pos rfl (same_loop a hl a.length 0 (by omega))

/-! ### the reference's table that may be -/
theorem has_loop (l : List Int) (n : Int) (hl : l.length ≤ 4000000000000) : ∀ (t : List Int) (i : Nat), l.drop i = t → Ev (fun k => haywainref09_Has.l0 k l n (i : Int)) (decide (n ∈ t))
  | [], i, h => by
    have hi := drop_end h
    refine Ev.step (fun k => haywainref09_Has.l0.eq_2 _ _ _ k) ?_
    exact Ev.neg (by omega) (Ev.some (by simp))
  | w :: t, i, h => by
    obtain ⟨hi, hw, ht⟩ := drop_next h
    refine Ev.step (fun k => haywainref09_Has.l0.eq_2 _ _ _ k) ?_
    refine Ev.pos (by omega) (Ev.pos (by omega) ?_)
    rw [hw, nat_up hi hl]
    by_cases e : w = n
    · exact Ev.pos e (Ev.some (by simp [e]))
    · refine Ev.neg e ?_
      have ih := has_loop l n hl t (i + 1) ht
      have e2 : (n ∈ w :: t) = (n ∈ t) := by simp [Ne.symm e]
      simp only [e2]
      exact ih
theorem has_is (l : List Int) (n : Int) (hl : l.length ≤ 4000000000000) : Ev (fun k => haywainref09_Has.f k l n) (decide (n ∈ l)) := has_loop l n hl l 0 rfl
theorem ref_own (e : Int) (O I N : List Int) (hO : O.length ≤ 4000000000000) (hI : I.length ≤ 4000000000000) : ∀ (t : List Int) (i : Nat), O.drop i = t →
    Ev (fun k => haywainref17_Right.l1 k (i : Int) e O I N) (t.all fun w => decide (w ∈ I))
  | [], i, h => by
    have hi := drop_end h
    refine Ev.step (fun k => haywainref17_Right.l1.eq_2 _ _ _ _ _ k) ?_
    exact Ev.neg (by omega) (Ev.some rfl)
  | w :: t, i, h => by
    obtain ⟨hi, hw, ht⟩ := drop_next h
    refine Ev.step (fun k => haywainref17_Right.l1.eq_2 _ _ _ _ _ k) ?_
    refine Ev.pos (by omega) (Ev.pos (by omega) ?_)
    rw [hw, nat_up hi hO]
    refine Ev.bind (has_is I w hI) ?_
    by_cases e1 : w ∈ I
    · refine Ev.pos (decide_eq_true e1) ?_
      have ih := ref_own e O I N hO hI t (i + 1) ht
      simp only [List.all_cons, decide_eq_true e1, Bool.true_and]
      exact ih
    · refine Ev.neg (by rw [decide_eq_false e1]; decide) (Ev.some ?_)
      simp only [List.all_cons, decide_eq_false e1, Bool.false_and]
theorem ref_ids (e : Int) (O I N : List Int) (hO : O.length ≤ 4000000000000) (hI : I.length ≤ 4000000000000) (hN : N.length = I.length) : ∀ (t s : List Int) (i : Nat) (b : Int), I.drop i = t → N.drop i = s →
    0 ≤ b → (i = 0 → b = 0) → (0 < i → rd I ((i - 1 : Nat) : Int) = b) →
    Ev (fun k => haywainref17_Right.l0 k (i : Int) e O I N) (ids b t s && O.all fun w => decide (w ∈ I))
  | [], s, i, b, h, _, _, _, _ => by
    have hi := drop_end h
    refine Ev.step (fun k => haywainref17_Right.l0.eq_2 _ _ _ _ _ k) ?_
    refine Ev.neg (by omega) ?_
    simp only [ids, Bool.true_and]
    exact ref_own e O I N hO hI O 0 rfl
  | w :: t, [], i, b, h, h', _, _, _ => by
    have h1 := (drop_next h).1
    have h2 := drop_end h'
    omega
  | w :: t, n :: s, i, b, h, h', b0, b1, b2 => by
    obtain ⟨hi, hw, ht⟩ := drop_next h
    obtain ⟨hi', hn, hs⟩ := drop_next h'
    refine Ev.step (fun k => haywainref17_Right.l0.eq_2 _ _ _ _ _ k) ?_
    refine Ev.pos (by omega) (Ev.pos (by omega) ?_)
    rw [hw, nat_up hi hI]
    simp only [ids]
    by_cases h1 : w < 1
    · refine Ev.pos h1 (Ev.some ?_)
      rw [decide_eq_false (by omega : ¬ b < w)]; rfl
    refine Ev.neg h1 ?_
    by_cases h2 : w > 99
    · refine Ev.pos h2 (Ev.some ?_)
      rw [decide_eq_false (by omega : ¬ w ≤ 99)]; simp
    refine Ev.neg h2 (Ev.pos (by omega) ?_)
    rw [hn]
    by_cases h3 : n < 1
    · refine Ev.pos h3 (Ev.some ?_)
      rw [decide_eq_false (by omega : ¬ 1 ≤ n)]; simp
    refine Ev.neg h3 ?_
    by_cases h4 : n > 1099511627776
    · refine Ev.pos h4 (Ev.some ?_)
      rw [decide_eq_false (by omega : ¬ n ≤ 1099511627776)]; simp
    refine Ev.neg h4 ?_
    rw [decide_eq_true (by omega : w ≤ 99), decide_eq_true (by omega : 1 ≤ n), decide_eq_true (by omega : n ≤ 1099511627776)]
    simp only [Bool.true_and]
    have ih := ref_ids e O I N hO hI hN t s (i + 1) w ht hs (by omega) (by omega) (fun _ => by simpa using hw)
    by_cases h5 : 0 < i
    · have e1 : wrap64 ((i : Int) - 1) = ((i - 1 : Nat) : Int) := by rw [w64 (by omega) (by omega)]; omega
      refine Ev.pos (by omega) (Ev.pos (by omega) (Ev.pos (by omega) ?_))
      rw [e1, b2 h5]
      by_cases h6 : b ≥ w
      · refine Ev.pos h6 (Ev.some ?_)
        rw [decide_eq_false (by omega : ¬ b < w)]; rfl
      · refine Ev.neg h6 ?_
        rw [decide_eq_true (by omega : b < w), Bool.true_and]
        exact ih
    · have := b1 (by omega)
      refine Ev.neg (by omega) ?_
      rw [decide_eq_true (by omega : b < w), Bool.true_and]
      exact ih
theorem refright_is (e : Int) (O I N : List Int) (hO : O.length ≤ 4000000000000) (hI : I.length ≤ 4000000000000) : Ev (fun k => haywainref17_Right.f k e O I N) (rT e O I N) := by
  unfold haywainref17_Right.f
  have no : Ev (fun k => haywainref17_Right.j0 k true e O I N) false := Ev.step (fun k => haywainref17_Right.j0.eq_2 _ _ _ _ _ k) (Ev.pos rfl (Ev.some rfl))
  unfold rT head_
  by_cases h1 : e < 0
  · rw [decide_eq_false (by omega : ¬ 0 ≤ e)]; exact Ev.pos h1 no
  refine Ev.neg h1 ?_
  rw [decide_eq_true (by omega : 0 ≤ e), Bool.true_and]
  by_cases h2 : e > 1099511627776
  · rw [decide_eq_false (by omega : ¬ e ≤ 1099511627776)]; exact Ev.pos h2 no
  refine Ev.neg h2 ?_
  rw [decide_eq_true (by omega : e ≤ 1099511627776), Bool.true_and]
  by_cases h3 : (I.length : Int) > 5
  · rw [decide_eq_false (by omega : ¬ (I.length : Int) ≤ 5)]; exact Ev.pos h3 no
  refine Ev.neg h3 ?_
  rw [decide_eq_true (by omega : (I.length : Int) ≤ 5), Bool.true_and]
  by_cases h4 : (N.length : Int) = (I.length : Int)
  · refine Ev.pos h4 ?_
    rw [decide_eq_true h4, Bool.true_and]
    by_cases h5 : (O.length : Int) > 6
    · rw [decide_eq_false (by omega : ¬ (O.length : Int) ≤ 6), decide_eq_true h5]; exact no
    rw [decide_eq_true (by omega : (O.length : Int) ≤ 6), decide_eq_false h5, Bool.true_and]
    refine Ev.step (fun k => haywainref17_Right.j0.eq_2 _ _ _ _ _ k) (Ev.neg (by decide) ?_)
    exact ref_ids e O I N hO hI (by omega) I N 0 0 rfl rfl (by decide) (fun _ => rfl) (fun h => absurd h (by decide))
  · rw [decide_eq_false h4]; exact Ev.neg h4 no
theorem as_is (e : Int) (O I N : List Int) : haywainlaw17_as.f e O I N = some (e, O, I, N) := rfl
theorem refgood_is (e : Int) (O I N : List Int) (hO : O.length ≤ 4000000000000) (hI : I.length ≤ 4000000000000) : Ev (fun k => haywainref17_Good.f k e O I N) (good e O I N) := by
  unfold haywainref17_Good.f good
  refine Ev.bind (refright_is e O I N hO hI) ?_
  by_cases h : rT e O I N = true
  · refine Ev.pos h (Ev.some ?_); rw [if_pos h]
  · refine Ev.neg h (Ev.some ?_); rw [if_neg h]

/-! ### small tables -/
theorem great_no {O I N : List Int} (h : ¬ (decide ((O.length : Int) > 50) || (decide ((I.length : Int) > 50) || decide ((N.length : Int) > 50))) = true) : O.length ≤ 50 ∧ I.length ≤ 50 ∧ N.length ≤ 50 := by
  simp only [Bool.or_eq_true, decide_eq_true_eq, not_or] at h
  omega
theorem knows_so : Ev (fun k => (haywainlaw17_knows.f k).bind fun t => some t) true := Ev.bind knows_ok (Ev.some rfl)

/-! ### the law -/
abbrev Tab := Int × List Int × List Int × List Int
def rTt (T : Tab) : Bool := rT T.1 T.2.1 T.2.2.1 T.2.2.2
def newM (T U : Tab) : Tab := if U.1 > T.1 then U else T
theorem newM_right {T U : Tab} (hT : rTt T = true) (hU : rTt U = true) : rTt (newM T U) = true := by
  unfold newM
  by_cases h : U.1 > T.1
  · rw [if_pos h]; exact hU
  · rw [if_neg h]; exact hT
theorem newM_fst (T U : Tab) : T.1 ≤ (newM T U).1 ∧ U.1 ≤ (newM T U).1 ∧ ((newM T U).1 = T.1 ∨ (newM T U).1 = U.1) := by
  unfold newM
  by_cases h : U.1 > T.1
  · rw [if_pos h]; omega
  · rw [if_neg h]; omega
theorem rTt_len {T : Tab} (h : rTt T = true) : T.2.1.length ≤ 6 ∧ T.2.2.1.length ≤ 5 ∧ T.2.2.2.length ≤ 5 := by
  have := rT_iff.mp h
  omega
theorem goodT {T : Tab} (h : rTt T = true) : good T.1 T.2.1 T.2.2.1 T.2.2.2 = T := good_same h
theorem newer_is (e : Int) (O I N : List Int) (e' : Int) (O' I' N' : List Int) (hO : O.length ≤ 1000) (hI : I.length ≤ 1000) (hN : N.length ≤ 1000) (hO' : O'.length ≤ 1000) (hI' : I'.length ≤ 1000) (hN' : N'.length ≤ 1000) :
    Ev (fun k => route_Newer.f k e O I N e' O' I' N') (newM (good e O I N) (good e' O' I' N')) := by
  unfold route_Newer.f newM
  refine Ev.bind (own_is e O I N (by omega) (by omega) (by omega)) (Ev.bind (own_is e' O' I' N' (by omega) (by omega) (by omega)) ?_)
  by_cases h : (good e' O' I' N').1 > (good e O I N).1
  · refine Ev.pos h (Ev.some ?_)
    rw [if_pos h]
  · refine Ev.neg h (Ev.some ?_)
    rw [if_neg h]
theorem newer_T {T U : Tab} (hT : rTt T = true) (e' : Int) (O' I' N' : List Int) (hO' : O'.length ≤ 1000) (hI' : I'.length ≤ 1000) (hN' : N'.length ≤ 1000) (h : good e' O' I' N' = U) :
    Ev (fun k => route_Newer.f k T.1 T.2.1 T.2.2.1 T.2.2.2 e' O' I' N') (newM T U) := by
  have hl := rTt_len hT
  have g := newer_is T.1 T.2.1 T.2.2.1 T.2.2.2 e' O' I' N' (by omega) (by omega) (by omega) hO' hI' hN'
  rw [goodT hT, h] at g
  exact g
theorem same_T {T : Tab} (h : rTt T = true) : Ev (fun k => haywainref17_Same.f k T.1 T.2.1 T.2.2.1 T.2.2.2 T.1 T.2.1 T.2.2.1 T.2.2.2) true := by
  have hl := rTt_len h
  unfold haywainref17_Same.f
  exact Ev.pos rfl (Ev.bind (same_self _ (by omega)) (Ev.pos rfl (Ev.bind (same_self _ (by omega)) (Ev.pos rfl (Ev.bind (same_self _ (by omega)) (Ev.some rfl))))))
theorem newer_end (e0 : Int) (O0 I0 N0 : List Int) (e1 : Int) (O1 I1 N1 : List Int) (e2 : Int) (O2 I2 N2 : List Int) (h0 : O0.length ≤ 50 ∧ I0.length ≤ 50 ∧ N0.length ≤ 50) (h1 : O1.length ≤ 50 ∧ I1.length ≤ 50 ∧ N1.length ≤ 50) (h2 : O2.length ≤ 50 ∧ I2.length ≤ 50 ∧ N2.length ≤ 50)
    {W : Tab} (hW : newM (good e0 O0 I0 N0) (good e1 O1 I1 N1) = W) : Ev (fun k => haywainlaw17_RouteNewer.j1 k e0 O0 I0 N0 e1 O1 I1 N1 e2 O2 I2 N2 W.1 W.2.1 W.2.2.1 W.2.2.2) true := by
  refine Ev.step (fun k => haywainlaw17_RouteNewer.j1.eq_2 _ _ _ _ _ _ _ _ _ _ _ _ _ _ _ _ k) ?_
  have r0 : rTt (good e0 O0 I0 N0) = true := good_right e0 O0 I0 N0
  have r1 : rTt (good e1 O1 I1 N1) = true := good_right e1 O1 I1 N1
  have r2 : rTt (good e2 O2 I2 N2) = true := good_right e2 O2 I2 N2
  have rW : rTt W = true := hW ▸ newM_right r0 r1
  have a := newer_is e0 O0 I0 N0 e1 O1 I1 N1 (by omega) (by omega) (by omega) (by omega) (by omega) (by omega)
  rw [hW] at a
  have v := newer_is e2 O2 I2 N2 e1 O1 I1 N1 (by omega) (by omega) (by omega) (by omega) (by omega) (by omega)
  have f0 := newM_fst (good e0 O0 I0 N0) (good e1 O1 I1 N1)
  have f1 := newM_fst (good e2 O2 I2 N2) (good e1 O1 I1 N1)
  rw [hW] at f0
  have r3 := newM_right r2 r1
  generalize hV : newM (good e2 O2 I2 N2) (good e1 O1 I1 N1) = V at v f1 r3
  have f2 := newM_fst W (good e2 O2 I2 N2)
  have f3 := newM_fst V (good e0 O0 I0 N0)
  refine Ev.bind a (Ev.bind (newer_T rW e2 O2 I2 N2 (by omega) (by omega) (by omega) rfl) ?_)
  refine Ev.bind v (Ev.bind (newer_T r3 e0 O0 I0 N0 (by omega) (by omega) (by omega) rfl) ?_)
  refine Ev.bind0 (as_is _ _ _ _) (Ev.bind (same_T rW) (Ev.pos rfl ?_))
  exact Ev.pos (by omega) (Ev.pos (by omega) knows_so)
theorem RouteNewer : haywainlaw17_RouteNewer.Pure := by
  intro e0 O0 I0 N0 e1 O1 I1 N1 e2 O2 I2 N2 _ _ _ _ _ _ _ _ _ _ _ _
  refine Ev.rounds ?_
  unfold haywainlaw17_RouteNewer.f
  have yes : Ev (fun k => haywainlaw17_RouteNewer.j0 k true e0 O0 I0 N0 e1 O1 I1 N1 e2 O2 I2 N2) true := Ev.step (fun k => haywainlaw17_RouteNewer.j0.eq_2 _ _ _ _ _ _ _ _ _ _ _ _ _ k) (Ev.pos rfl knows_so)
  refine Ev.bind0 (great_is e0 O0 I0 N0) ?_
  by_cases g0 : (decide ((O0.length : Int) > 50) || (decide ((I0.length : Int) > 50) || decide ((N0.length : Int) > 50))) = true
  · exact Ev.pos g0 yes
  have h0 := great_no g0
  refine Ev.neg g0 (Ev.bind0 (great_is e1 O1 I1 N1) ?_)
  by_cases g1 : (decide ((O1.length : Int) > 50) || (decide ((I1.length : Int) > 50) || decide ((N1.length : Int) > 50))) = true
  · exact Ev.pos g1 yes
  have h1 := great_no g1
  refine Ev.neg g1 (Ev.bind0 (great_is e2 O2 I2 N2) ?_)
  by_cases g2 : (decide ((O2.length : Int) > 50) || (decide ((I2.length : Int) > 50) || decide ((N2.length : Int) > 50))) = true
  · rw [g2]; exact yes
  have h2 := great_no g2
  rw [eq_false_of_ne_true g2]
  refine Ev.step (fun k => haywainlaw17_RouteNewer.j0.eq_2 _ _ _ _ _ _ _ _ _ _ _ _ _ k) (Ev.neg (by decide) ?_)
  refine Ev.bind0 (as_is e0 O0 I0 N0) (Ev.bind (refgood_is e0 O0 I0 N0 (by omega) (by omega)) (Ev.bind0 (as_is e1 O1 I1 N1) (Ev.bind (refgood_is e1 O1 I1 N1 (by omega) (by omega)) ?_)))
  by_cases h : (good e1 O1 I1 N1).1 > (good e0 O0 I0 N0).1
  · refine Ev.pos h (Ev.bind0 (as_is e1 O1 I1 N1) (Ev.bind (refgood_is e1 O1 I1 N1 (by omega) (by omega)) ?_))
    exact newer_end e0 O0 I0 N0 e1 O1 I1 N1 e2 O2 I2 N2 h0 h1 h2 (if_pos h)
  · refine Ev.neg h ?_
    exact newer_end e0 O0 I0 N0 e1 O1 I1 N1 e2 O2 I2 N2 h0 h1 h2 (if_neg h)

end Go.Proofs.Ytaanojcdmojgbaa.Pure
