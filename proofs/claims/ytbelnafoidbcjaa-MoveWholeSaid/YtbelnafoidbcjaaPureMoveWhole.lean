/- A handoff to which all that goes has come, in whatever order, is done, and the next epoch begins, and ahead of the last one it can not be, for every number, all owners and every order. No condition but the row's own (up to 50 owners are looked at). -/
import Derived.Test.YtbelnafoidbcjaaPMoveWx6
namespace Go.Proofs.Ytbelnafoidbcjaa.Pure
open Go.RowKit Go.Proofs.Ytbelnafoidbcjaa.PMoveW Go.Proofs.YtbelnafoidbcjaaW.PrintWords Go.Proofs.YtbelnafoidbcjaaW.PrintLast

/-! ### rounds: a function with enough rounds -/
theorem Ev.pos {α : Type} {c : Prop} [Decidable c] {f g : Nat → Option α} {r : α} (h : c) (k : Ev f r) : Ev (fun n => if c then f n else g n) r := by
  obtain ⟨K, k⟩ := k
  exact ⟨K, fun n hn => by simp only [if_pos h]; exact k n hn⟩
theorem Ev.neg {α : Type} {c : Prop} [Decidable c] {f g : Nat → Option α} {r : α} (h : ¬ c) (k : Ev g r) : Ev (fun n => if c then f n else g n) r := by
  obtain ⟨K, k⟩ := k
  exact ⟨K, fun n hn => by simp only [if_neg h]; exact k n hn⟩
theorem Ev.bind0 {α β : Type} {o : Option α} {f : Nat → α → Option β} {a : α} {r : β} (h : o = some a) (k : Ev (fun n => f n a) r) : Ev (fun n => o.bind (f n)) r := by
  subst h; exact k
theorem Ev.some {α : Type} {a r : α} (h : a = r) : Ev (fun _ => Option.some a) r := h ▸ Ev.now a

/-! ### numbers -/
theorem wf_u64 {a : Int} (hw : (Lit.int .u64 a).wf = true) : 0 ≤ a ∧ a < 18446744073709551616 := by
  simp only [Lit.wf, Bool.and_eq_true, decide_eq_true_eq] at hw
  have e0 : IntKind.u64.min = 0 := by decide
  have e1 : IntKind.u64.max = 18446744073709551615 := by decide
  rw [e0, e1] at hw
  omega
theorem wf_i64 {a : Int} (hw : (Lit.int .i64 a).wf = true) : -9223372036854775808 ≤ a ∧ a ≤ 9223372036854775807 := by
  simp only [Lit.wf, Bool.and_eq_true, decide_eq_true_eq] at hw
  have e0 : IntKind.i64.min = -9223372036854775808 := by decide
  have e1 : IntKind.i64.max = 9223372036854775807 := by decide
  rw [e0, e1] at hw
  omega
theorem w64 {n : Int} (h0 : -9223372036854775808 ≤ n) (h1 : n ≤ 9223372036854775807) : wrap64 n = n := by
  unfold wrap64
  omega
theorem knows_ok : Ev haywainlaw18_knows.f true := Ev.of haywainlaw18_knows.mono (k := 60) (by decide +kernel)
theorem knows_so : Ev (fun k => (haywainlaw18_knows.f k).bind fun t => some t) true := Ev.bind knows_ok (Ev.some rfl)

/-! ### lists -/
theorem rd_at {l : List Int} {i : Nat} (h : i < l.length) : rd l (i : Int) = l[i] := by
  unfold rd
  rw [Int.toNat_natCast, List.getD_eq_getElem?_getD, List.getElem?_eq_getElem h]
  rfl
theorem drop_end {α : Type} {l : List α} {i : Nat} (h : l.drop i = []) : l.length ≤ i := List.drop_eq_nil_iff.mp h
theorem drop_nextG {α : Type} {l : List α} {i : Nat} {w : α} {t : List α} (h : l.drop i = w :: t) : i < l.length ∧ l[i]? = some w ∧ l.drop (i + 1) = t := by
  have hi : i < l.length := by
    refine Nat.lt_of_not_le fun hn => ?_
    rw [List.drop_eq_nil_iff.mpr hn] at h
    exact absurd h (by simp)
  have h2 := List.drop_eq_getElem_cons hi
  rw [h2] at h
  injection h with ha hb
  exact ⟨hi, by rw [List.getElem?_eq_getElem hi, ha], hb⟩
theorem drop_next {l : List Int} {i : Nat} {w : Int} {t : List Int} (h : l.drop i = w :: t) : i < l.length ∧ rd l (i : Int) = w ∧ l.drop (i + 1) = t := by
  obtain ⟨hi, h2, h3⟩ := drop_nextG h
  refine ⟨hi, ?_, h3⟩
  unfold rd
  rw [Int.toNat_natCast, List.getD_eq_getElem?_getD, h2]
  rfl
theorem nat_up {i n : Nat} (h : i < n) (hn : n ≤ 4000000000000) : wrap64 ((i : Int) + 1) = ((i + 1 : Nat) : Int) := by
  rw [w64 (by omega) (by omega)]; omega

/-! ### owners that may be -/
def okW (w : Int) : Bool := decide (1 ≤ w) && decide (w ≤ 99)
theorem okW_iff {w : Int} : okW w = true ↔ 1 ≤ w ∧ w ≤ 99 := by simp [okW]
def sizeP (l : List Int) : Bool := decide (1 ≤ l.length) && decide (l.length ≤ 6)
def rightP (l : List Int) : Bool := l.all okW && sizeP l
theorem rightP_iff {l : List Int} : rightP l = true ↔ (∀ w ∈ l, 1 ≤ w ∧ w ≤ 99) ∧ 1 ≤ l.length ∧ l.length ≤ 6 := by
  simp [rightP, sizeP, okW, List.all_eq_true]
theorem right_loop (l : List Int) (hl : l.length ≤ 4000000000000) : ∀ (t : List Int) (i : Nat), l.drop i = t → Ev (fun k => plan_Right.l0 k l l (l.length : Int) (i : Int)) (t.all okW && sizeP l)
  | [], i, h => by
    have hi := drop_end h
    refine Ev.step (fun k => plan_Right.l0.eq_2 _ _ _ _ k) ?_
    refine Ev.neg (by omega) ?_
    unfold sizeP
    by_cases e : (l.length : Int) ≥ 1
    · refine Ev.pos e (Ev.some ?_)
      have e2 : decide ((l.length : Int) ≤ 6) = decide (l.length ≤ 6) := decide_eq_decide.mpr (by omega)
      rw [e2, decide_eq_true (by omega : 1 ≤ l.length)]; rfl
    · refine Ev.neg e (Ev.some ?_)
      rw [decide_eq_false (by omega : ¬ 1 ≤ l.length)]; simp
  | w :: t, i, h => by
    obtain ⟨hi, hw, ht⟩ := drop_next h
    refine Ev.step (fun k => plan_Right.l0.eq_2 _ _ _ _ k) ?_
    refine Ev.pos (by omega) (Ev.pos (by omega) (Ev.pos (by omega) ?_))
    rw [hw, nat_up hi hl]
    simp only [List.all_cons, okW]
    by_cases e1 : w < 1
    · refine Ev.pos e1 (Ev.some ?_)
      rw [decide_eq_false (by omega : ¬ 1 ≤ w)]; rfl
    refine Ev.neg e1 ?_
    rw [decide_eq_true (by omega : 1 ≤ w)]
    by_cases e2 : w > 99
    · refine Ev.pos e2 (Ev.some ?_)
      rw [decide_eq_false (by omega : ¬ w ≤ 99)]; rfl
    refine Ev.neg e2 ?_
    rw [decide_eq_true (by omega : w ≤ 99)]
    exact right_loop l hl t (i + 1) ht
theorem right_is (l : List Int) (hl : l.length ≤ 4000000000000) : Ev (fun k => plan_Right.f k l) (rightP l) := right_loop l hl l 0 rfl

/-! ### what goes where -/
def mk59 (m : Int × Int × Int) : S59 := ⟨m.1, m.2.1, m.2.2⟩
theorem rd59 {ms : List (Int × Int × Int)} {i : Nat} {m : Int × Int × Int} (h : ms[i]? = some m) : rd_T59 (ms.map mk59) (i : Int) = mk59 m := by
  unfold rd_T59
  rw [Int.toNat_natCast, List.getD_eq_getElem?_getD, List.getElem?_map, h]
  rfl
def mvs : List Int → List Int → Nat → List (Int × Int × Int)
  | o :: t, f :: s, i => if f = o then mvs t s (i + 1) else ((i : Int), o, f) :: mvs t s (i + 1)
  | _, _, _ => []
theorem moves_loop (o f : List Int) (hl : o.length ≤ 100) (hf : f.length = o.length) : ∀ (t s : List Int) (i : Nat) (out : List S59), o.drop i = t → f.drop i = s → out.length ≤ i →
    Ev (fun k => plan_Moves.l0 k f out o (o.length : Int) (i : Int)) (out ++ (mvs t s i).map mk59, 0)
  | [], s, i, out, h, _, _ => by
    have hi := drop_end h
    refine Ev.step (fun k => plan_Moves.l0.eq_2 _ _ _ _ _ k) ?_
    exact Ev.neg (by omega) (Ev.some (by simp [mvs]))
  | w :: t, [], i, out, h, h', _ => by
    have h1 := (drop_next h).1
    have h2 := drop_end h'
    omega
  | w :: t, v :: s, i, out, h, h', ho => by
    obtain ⟨hi, hw, ht⟩ := drop_next h
    obtain ⟨hi', hv, hs⟩ := drop_next h'
    refine Ev.step (fun k => plan_Moves.l0.eq_2 _ _ _ _ _ k) ?_
    refine Ev.pos (by omega) (Ev.pos (by omega) (Ev.pos (by omega) (Ev.pos (by omega) ?_)))
    rw [hw, hv, nat_up hi (by omega)]
    by_cases e : v = w
    · refine Ev.pos e ?_
      simp only [mvs, if_pos e]
      exact moves_loop o f hl hf t s (i + 1) out ht hs (by omega)
    · refine Ev.neg e (Ev.pos (by omega) ?_)
      simp only [mvs, if_neg e]
      have := moves_loop o f hl hf t s (i + 1) (out ++ [⟨(i : Int), w, v⟩]) ht hs (by simp; omega)
      rw [List.append_assoc] at this
      exact this
def movesM (o f : List Int) : List (Int × Int × Int) × Int := if rightP o = true ∧ rightP f = true ∧ o.length = f.length then (mvs o f 0, 0) else ([], 1)
theorem moves_is (o f : List Int) (ho : o.length ≤ 100) (hf : f.length ≤ 100) : Ev (fun k => plan_Moves.f k o f) ((movesM o f).1.map mk59, (movesM o f).2) := by
  unfold plan_Moves.f
  have no : ¬ (rightP o = true ∧ rightP f = true ∧ o.length = f.length) → Ev (fun k => plan_Moves.j0 k o f true) ((movesM o f).1.map mk59, (movesM o f).2) := by
    intro h
    unfold movesM
    rw [if_neg h]
    exact Ev.step (fun k => plan_Moves.j0.eq_2 _ _ _ k) (Ev.pos rfl (Ev.some rfl))
  refine Ev.bind (right_is o (by omega)) ?_
  by_cases h1 : rightP o = true
  · refine Ev.pos h1 (Ev.bind (right_is f (by omega)) ?_)
    by_cases h2 : rightP f = true
    · refine Ev.pos h2 ?_
      by_cases h3 : o.length = f.length
      · unfold movesM
        rw [if_pos ⟨h1, h2, h3⟩]
        have e : ((o.length : Int) != (f.length : Int)) = false := by rw [h3]; simp
        simp only [e]
        refine Ev.step (fun k => plan_Moves.j0.eq_2 _ _ _ k) (Ev.neg (by decide) ?_)
        exact moves_loop o f ho h3.symm o f 0 [] rfl rfl (by simp)
      · have e : ((o.length : Int) != (f.length : Int)) = true := by simp; omega
        simp only [e]
        exact no (fun h => h3 h.2.2)
    · exact Ev.neg h2 (no (fun h => h2 h.2.1))
  · exact Ev.neg h1 (no (fun h => h1 h.1))
theorem mvs_len : ∀ (o f : List Int) (i : Nat), (mvs o f i).length ≤ o.length
  | [], _, _ => by simp [mvs]
  | _ :: _, [], _ => by simp [mvs]
  | o :: t, f :: s, i => by
    have := mvs_len t s (i + 1)
    simp only [mvs]
    split
    · simp only [List.length_cons]; omega
    · simp only [List.length_cons]; omega
theorem movesM_len (o f : List Int) : (movesM o f).1.length ≤ o.length := by
  unfold movesM
  split
  · exact mvs_len o f 0
  · simp

/-! ### is a number there -/
theorem in_loop (l : List Int) (n : Int) (hl : l.length ≤ 4000000000000) : ∀ (t : List Int) (i : Nat), l.drop i = t → Ev (fun k => move_has.l0 k n l (l.length : Int) (i : Int)) (decide (n ∈ t))
  | [], i, h => by
    have hi := drop_end h
    refine Ev.step (fun k => move_has.l0.eq_2 _ _ _ _ k) ?_
    exact Ev.neg (by omega) (Ev.some (by simp))
  | w :: t, i, h => by
    obtain ⟨hi, hw, ht⟩ := drop_next h
    refine Ev.step (fun k => move_has.l0.eq_2 _ _ _ _ k) ?_
    refine Ev.pos (by omega) (Ev.pos (by omega) (Ev.pos (by omega) ?_))
    rw [hw, nat_up hi hl]
    by_cases e : w = n
    · exact Ev.pos e (Ev.some (by simp [e]))
    · refine Ev.neg e ?_
      have ih := in_loop l n hl t (i + 1) ht
      have e2 : (n ∈ w :: t) = (n ∈ t) := by simp [Ne.symm e]
      simp only [e2]
      exact ih
theorem in_is (l : List Int) (n : Int) (hl : l.length ≤ 4000000000000) : Ev (fun k => move_in.f k l n) (decide (n ∈ l)) := in_loop l n hl l 0 rfl

/-! ### partitions that go -/
def goesL (o f : List Int) : List Int := (mvs o f 0).map (·.1)
theorem goes_loop (ms : List (Int × Int × Int)) (hm : ms.length ≤ 1000) : ∀ (t : List (Int × Int × Int)) (i : Nat) (out : List Int), ms.drop i = t → out.length ≤ i → Ev (fun k => move_goes.l0 k out (ms.map mk59) ((ms.map mk59).length : Int) (i : Int)) (out ++ t.map (·.1))
  | [], i, out, h, _ => by
    have hi := drop_end h
    refine Ev.step (fun k => move_goes.l0.eq_2 _ _ _ _ k) ?_
    exact Ev.neg (by rw [List.length_map]; omega) (Ev.some (by simp))
  | m :: t, i, out, h, ho => by
    obtain ⟨hi, hw, ht⟩ := drop_nextG h
    refine Ev.step (fun k => move_goes.l0.eq_2 _ _ _ _ k) ?_
    refine Ev.pos (by rw [List.length_map]; omega) (Ev.pos (by omega) (Ev.pos (by rw [List.length_map]; omega) (Ev.pos (by omega) ?_)))
    rw [rd59 hw, nat_up hi (by omega)]
    have := goes_loop ms hm t (i + 1) (out ++ [m.1]) ht (by simp; omega)
    rw [List.append_assoc] at this
    exact this
theorem goes_is (e : Int) (o f g : List Int) (en : Int) (ho : o.length ≤ 100) (hf : f.length ≤ 100) : Ev (fun k => move_goes.f k e o f g en) ((movesM o f).1.map (·.1)) := by
  unfold move_goes.f
  have hl := movesM_len o f
  exact Ev.bind (moves_is o f ho hf) (goes_loop _ (by omega) _ 0 [] rfl (by simp))
theorem mvs_mem {p : Int} : ∀ {o f : List Int} {i : Nat}, p ∈ (mvs o f i).map (·.1) ↔ ∃ j : Nat, j < o.length ∧ j < f.length ∧ p = ((i + j : Nat) : Int) ∧ rd o (j : Int) ≠ rd f (j : Int)
  | [], _, _ => by simp [mvs]
  | _ :: _, [], _ => by simp [mvs]
  | x :: o, y :: f, i => by
    have ih := mvs_mem (p := p) (o := o) (f := f) (i := i + 1)
    have up : ∀ j : Nat, rd (x :: o) ((j + 1 : Nat) : Int) = rd o (j : Int) ∧ rd (y :: f) ((j + 1 : Nat) : Int) = rd f (j : Int) := fun j => ⟨by simp [rd], by simp [rd]⟩
    have zero : rd (x :: o) ((0 : Nat) : Int) = x ∧ rd (y :: f) ((0 : Nat) : Int) = y := ⟨by simp [rd], by simp [rd]⟩
    have tail : (∃ j : Nat, j < o.length ∧ j < f.length ∧ p = ((i + 1 + j : Nat) : Int) ∧ rd o (j : Int) ≠ rd f (j : Int)) ↔ ∃ j : Nat, 0 < j ∧ j < (x :: o).length ∧ j < (y :: f).length ∧ p = ((i + j : Nat) : Int) ∧ rd (x :: o) (j : Int) ≠ rd (y :: f) (j : Int) := by
      constructor
      · rintro ⟨j, a, b, c, d⟩
        exact ⟨j + 1, by omega, by simpa using a, by simpa using b, by rw [c]; omega, by rw [(up j).1, (up j).2]; exact d⟩
      · rintro ⟨j, z, a, b, c, d⟩
        obtain ⟨j, rfl⟩ : ∃ q, j = q + 1 := ⟨j - 1, by omega⟩
        rw [(up j).1, (up j).2] at d
        exact ⟨j, by simpa using a, by simpa using b, by rw [c]; omega, d⟩
    simp only [mvs]
    by_cases e : y = x
    · rw [if_pos e, ih, tail]
      constructor
      · rintro ⟨j, _, h⟩; exact ⟨j, h⟩
      · rintro ⟨j, a, b, c, d⟩
        refine ⟨j, Nat.pos_of_ne_zero fun z => d ?_, a, b, c, d⟩
        subst z
        rw [zero.1, zero.2, e]
    · rw [if_neg e, List.map_cons, List.mem_cons, ih, tail]
      constructor
      · rintro (h | ⟨j, _, h⟩)
        · exact ⟨0, by simp, by simp, by rw [h]; simp, by rw [zero.1, zero.2]; exact Ne.symm e⟩
        · exact ⟨j, h⟩
      · rintro ⟨j, a, b, c, d⟩
        by_cases z : j = 0
        · subst z
          exact .inl (by rw [c]; simp)
        · exact .inr ⟨j, by omega, a, b, c, d⟩
theorem goesL_mem {p : Int} {o f : List Int} (h : o.length = f.length) : p ∈ goesL o f ↔ 0 ≤ p ∧ p < o.length ∧ rd o p ≠ rd f p := by
  unfold goesL
  rw [mvs_mem]
  constructor
  · rintro ⟨j, a, _, c, d⟩
    have c' : p = (j : Int) := by omega
    subst c'
    exact ⟨by omega, by omega, d⟩
  · rintro ⟨a, b, d⟩
    have e : p = ((p.toNat : Nat) : Int) := by omega
    refine ⟨p.toNat, by omega, by omega, by omega, ?_⟩
    rw [← e]; exact d
theorem mvs_asc : ∀ {o f : List Int} {i : Nat}, ((mvs o f i).map (·.1)).Pairwise (· < ·)
  | [], _, _ => by simp [mvs]
  | _ :: _, [], _ => by simp [mvs]
  | x :: o, y :: f, i => by
    simp only [mvs]
    by_cases e : y = x
    · rw [if_pos e]; exact mvs_asc
    · rw [if_neg e, List.map_cons]
      refine List.Pairwise.cons (fun p hp => ?_) mvs_asc
      obtain ⟨j, _, _, c, _⟩ := mvs_mem.mp hp
      show (i : Int) < p
      omega
/-- Two lists that rise. -/
theorem asc_len : ∀ {A B : List Int}, A.Pairwise (· < ·) → B.Pairwise (· < ·) → (∀ p ∈ A, p ∈ B) → A.length ≤ B.length ∧ (A.length = B.length → A = B)
  | [], [], _, _, _ => ⟨Nat.le_refl _, fun _ => rfl⟩
  | [], _ :: _, _, _, _ => ⟨by simp, fun h => by simp at h⟩
  | a :: A, [], _, _, h => by have := h a (by simp); simp at this
  | a :: A, b :: B, ha, hb, h => by
    have ha' := List.pairwise_cons.mp ha
    have hb' := List.pairwise_cons.mp hb
    by_cases e : a = b
    · have sub : ∀ p ∈ A, p ∈ B := fun p hp => by
        have h1 := h p (by simp [hp])
        have h2 := ha'.1 p hp
        rcases List.mem_cons.mp h1 with q | q
        · omega
        · exact q
      obtain ⟨i1, i2⟩ := asc_len ha'.2 hb'.2 sub
      refine ⟨by simpa using i1, fun hl => ?_⟩
      rw [e, i2 (by simpa using hl)]
    · have hab : a ∈ B := (List.mem_cons.mp (h a (by simp))).resolve_left e
      have hlt := hb'.1 a hab
      have sub : ∀ p ∈ a :: A, p ∈ B := fun p hp => by
        have h1 := h p hp
        rcases List.mem_cons.mp h1 with q | q
        · rcases List.mem_cons.mp hp with r | r
          · rw [r]; exact hab
          · have := ha'.1 p r
            omega
        · exact q
      obtain ⟨i1, _⟩ := asc_len ha hb'.2 sub
      refine ⟨by simp only [List.length_cons] at i1 ⊢; omega, fun hl => ?_⟩
      simp only [List.length_cons] at i1 hl
      omega

/-! ### handoffs that may be -/
def gotOk (A : List Int) : Int → List Int → Bool
  | _, [] => true
  | b, p :: t => decide (b < p) && (decide (p ∈ A) && gotOk A p t)
def headP (e : Int) (o f : List Int) (en : Int) : Prop := 1 ≤ e ∧ e < 1099511627776 ∧ 0 ≤ en ∧ en ≤ 2 ∧ rightP o = true ∧ rightP f = true ∧ o.length = f.length
instance (e : Int) (o f : List Int) (en : Int) : Decidable (headP e o f en) := by unfold headP; infer_instance
def endB (o f g : List Int) (en : Int) : Bool := if en = 1 then (g.length : Int) == ((goesL o f).length : Int) else true
def rightH (e : Int) (o f g : List Int) (en : Int) : Bool := if headP e o f en then gotOk (goesL o f) (-1) g && endB o f g en else false
theorem got_loop {e : Int} {o f g : List Int} {en : Int} (hA : (goesL o f).length ≤ 1000) (hg : g.length ≤ 1000) : ∀ (t : List Int) (i : Nat) (b : Int), g.drop i = t → Ev (fun k => move_Right.l0 k (goesL o f) b g (g.length : Int) (i : Int) e o f g en) (gotOk (goesL o f) b t && endB o f g en)
  | [], i, b, h => by
    have hi := drop_end h
    refine Ev.step (fun k => move_Right.l0.eq_2 _ _ _ _ _ _ _ _ _ _ k) ?_
    refine Ev.neg (by omega) ?_
    simp only [gotOk, Bool.true_and, endB]
    by_cases e1 : en = 1
    · refine Ev.pos e1 (Ev.some ?_); rw [if_pos e1]
    · refine Ev.neg e1 (Ev.some ?_); rw [if_neg e1]
  | p :: t, i, b, h => by
    obtain ⟨hi, hw, ht⟩ := drop_next h
    refine Ev.step (fun k => move_Right.l0.eq_2 _ _ _ _ _ _ _ _ _ _ k) ?_
    refine Ev.pos (by omega) (Ev.pos (by omega) (Ev.pos (by omega) ?_))
    rw [hw, nat_up hi (by omega)]
    simp only [gotOk]
    by_cases e1 : p ≤ b
    · refine Ev.pos e1 (Ev.some ?_)
      rw [decide_eq_false (by omega : ¬ b < p)]; rfl
    refine Ev.neg e1 (Ev.bind (in_is _ p (by omega)) ?_)
    rw [decide_eq_true (by omega : b < p)]
    by_cases e2 : p ∈ goesL o f
    · rw [decide_eq_true e2]
      exact Ev.pos rfl (got_loop hA hg t (i + 1) p ht)
    · rw [decide_eq_false e2]
      exact Ev.neg (by decide) (Ev.some rfl)
theorem right_is' (e : Int) (o f g : List Int) (en : Int) (ho : o.length ≤ 100) (hf : f.length ≤ 100) (hg : g.length ≤ 1000) : Ev (fun k => move_Right.f k e o f g en) (rightH e o f g en) := by
  unfold move_Right.f
  have no : ¬ headP e o f en → Ev (fun k => move_Right.j0 k true e o f g en) (rightH e o f g en) := by
    intro h
    unfold rightH
    rw [if_neg h]
    exact Ev.step (fun k => move_Right.j0.eq_2 _ _ _ _ _ _ k) (Ev.pos rfl (Ev.some rfl))
  by_cases h1 : e < 1
  · exact Ev.pos h1 (no fun h => by have := h.1; omega)
  refine Ev.neg h1 ?_
  by_cases h2 : e ≥ 1099511627776
  · exact Ev.pos h2 (no fun h => by have := h.2.1; omega)
  refine Ev.neg h2 ?_
  by_cases h3 : en < 0
  · exact Ev.pos h3 (no fun h => by have := h.2.2.1; omega)
  refine Ev.neg h3 ?_
  by_cases h4 : en > 2
  · rw [decide_eq_true h4]; exact no fun h => by have := h.2.2.2.1; omega
  rw [decide_eq_false h4]
  refine Ev.step (fun k => move_Right.j0.eq_2 _ _ _ _ _ _ k) (Ev.neg (by decide) (Ev.bind (moves_is o f ho hf) ?_))
  by_cases hr : rightP o = true ∧ rightP f = true ∧ o.length = f.length
  · have em : movesM o f = (mvs o f 0, 0) := by unfold movesM; rw [if_pos hr]
    have hp : headP e o f en := ⟨by omega, by omega, by omega, by omega, hr⟩
    have gi := goes_is e o f g en ho hf
    have hlen := mvs_len o f 0
    rw [em] at gi ⊢
    refine Ev.pos rfl (Ev.bind gi ?_)
    unfold rightH
    rw [if_pos hp]
    exact got_loop (by unfold goesL; rw [List.length_map]; omega) hg g 0 (-1) rfl
  · have em : movesM o f = ([], 1) := by unfold movesM; rw [if_neg hr]
    rw [em]
    refine Ev.neg (by decide) (Ev.some ?_)
    unfold rightH
    rw [if_neg (fun h => hr h.2.2.2.2)]

/-! ### a handoff, step by step -/
theorem rightH_head {e : Int} {o f g : List Int} {en : Int} (h : rightH e o f g en = true) : headP e o f en := by
  unfold rightH at h
  by_cases h1 : headP e o f en
  · exact h1
  · rw [if_neg h1] at h; cases h
theorem gotOk_of {A : List Int} : ∀ {t : List Int} {b : Int}, t.Pairwise (· < ·) → (∀ p ∈ t, b < p ∧ p ∈ A) → gotOk A b t = true
  | [], _, _, _ => rfl
  | p :: t, b, h, hm => by
    obtain ⟨h1, h2⟩ := List.pairwise_cons.mp h
    obtain ⟨m1, m2⟩ := hm p (List.mem_cons_self ..)
    simp only [gotOk, decide_eq_true m1, decide_eq_true m2, Bool.true_and]
    exact gotOk_of h2 fun q hq => ⟨h1 q hq, (hm q (List.mem_cons_of_mem _ hq)).2⟩
theorem goesL_asc (o f : List Int) : (goesL o f).Pairwise (· < ·) := mvs_asc
theorem goesL_len (o f : List Int) : (goesL o f).length ≤ o.length := by
  unfold goesL
  rw [List.length_map]
  exact mvs_len o f 0
/-- What has come: what goes but what is left. -/
def gotM (o f left : List Int) : List Int := (goesL o f).filter (fun q => decide (q ∉ left))
theorem gotM_len (o f left : List Int) : (gotM o f left).length ≤ (goesL o f).length := List.length_filter_le _ _
theorem gotM_mem {o f left : List Int} {q : Int} : q ∈ gotM o f left ↔ q ∈ goesL o f ∧ q ∉ left := by
  unfold gotM
  rw [List.mem_filter, decide_eq_true_iff]
theorem gotM_right {e : Int} {o f : List Int} (hd : headP e o f 0) (left : List Int) : rightH e o f (gotM o f left) 0 = true := by
  unfold rightH endB
  rw [if_pos hd, if_neg (by decide), Bool.and_true]
  refine gotOk_of ((goesL_asc o f).filter _) fun p hp => ?_
  have hp2 := (gotM_mem.mp hp).1
  exact ⟨by have := (goesL_mem hd.2.2.2.2.2.2).mp hp2; omega, hp2⟩
theorem own_is (e : Int) (o f g : List Int) (en : Int) (ho : o.length ≤ 1000) (hf : f.length ≤ 1000) (hg : g.length ≤ 1000) : move_own.f e o f g en = some (e, o, f, g, en) := by
  unfold move_own.f
  simp only [Option.bind_some, List.length_nil, List.nil_append]
  rw [if_pos (by omega), if_pos (by omega), if_pos (by omega)]
theorem goes_right {e : Int} {o f : List Int} (hd : headP e o f 0) (g : List Int) (ho : o.length ≤ 100) (hf : f.length ≤ 100) : Ev (fun k => move_goes.f k e o f g 0) (goesL o f) := by
  have h := goes_is e o f g 0 ho hf
  unfold movesM at h
  rw [if_pos hd.2.2.2.2] at h
  exact h
theorem commit_is {e : Int} {o f : List Int} (hd : headP e o f 0) (left : List Int) (ho : o.length ≤ 50) (hf : f.length ≤ 50) :
    Ev (fun k => move_Commit.f k e o f (gotM o f left) 0) (if (gotM o f left).length = (goesL o f).length then (e, o, f, gotM o f left, 1, wrap64 (e + 1), 0) else (e, o, f, gotM o f left, 0, 0, 6)) := by
  have h1 := goesL_len o f
  have h2 := gotM_len o f left
  have hr := gotM_right hd left
  have ri := right_is' e o f (gotM o f left) 0 (by omega) (by omega) (by omega)
  rw [hr] at ri
  have full : Ev (fun k => move_Full.f k e o f (gotM o f left) 0) (((gotM o f left).length : Int) == ((goesL o f).length : Int)) := by
    unfold move_Full.f
    exact Ev.bind ri (Ev.pos rfl (Ev.bind (goes_right hd _ (by omega) (by omega)) (Ev.some rfl)))
  unfold move_Commit.f
  refine Ev.bind ri (Ev.pos rfl (Ev.bind0 (own_is e o f _ 0 (by omega) (by omega) (by omega)) (Ev.pos rfl (Ev.bind full ?_))))
  by_cases h : (gotM o f left).length = (goesL o f).length
  · refine Ev.pos (by rw [h]; simp) (Ev.some ?_)
    rw [if_pos h]
  · refine Ev.neg (by simp; omega) (Ev.some ?_)
    rw [if_neg h]
theorem came_loop {e : Int} {o f g : List Int} (p : Int) (A : List Int) (hA : A.length ≤ 1000) (hg : g.length ≤ 1000) : ∀ (t : List Int) (i : Nat) (out : List Int), A.drop i = t → out.length ≤ i →
    Ev (fun k => move_Came.l0 k p out A (A.length : Int) (i : Int) e o f g 0) (e, o, f, out ++ t.filter (fun q => decide (q = p ∨ q ∈ g)), 0, 0)
  | [], i, out, h, _ => by
    have hi := drop_end h
    refine Ev.step (fun k => move_Came.l0.eq_2 _ _ _ _ _ _ _ _ _ _ k) ?_
    exact Ev.neg (by omega) (Ev.some (by simp))
  | x :: t, i, out, h, ha => by
    obtain ⟨hi, hw, ht⟩ := drop_next h
    refine Ev.step (fun k => move_Came.l0.eq_2 _ _ _ _ _ _ _ _ _ _ k) ?_
    refine Ev.pos (by omega) (Ev.pos (by omega) (Ev.pos (by omega) ?_))
    rw [hw, nat_up hi (by omega)]
    have ih1 := came_loop (e := e) (o := o) (f := f) p A hA hg t (i + 1) (out ++ [x]) ht (by simp only [List.length_append, List.length_cons, List.length_nil]; omega)
    rw [List.append_assoc] at ih1
    by_cases h1 : x = p
    · refine Ev.pos h1 (Ev.pos (by omega) ?_)
      rw [List.filter_cons_of_pos (by simp [h1])]
      exact ih1
    · refine Ev.neg h1 (Ev.bind (in_is g x (by omega)) ?_)
      by_cases h2 : x ∈ g
      · refine Ev.pos (decide_eq_true h2) (Ev.pos (by omega) ?_)
        rw [List.filter_cons_of_pos (by simp [h2])]
        exact ih1
      · refine Ev.neg (by rw [decide_eq_false h2]; decide) ?_
        rw [List.filter_cons_of_neg (by simp [h1, h2])]
        exact came_loop p A hA hg t (i + 1) out ht (by omega)
theorem came_is {e : Int} {o f : List Int} (hd : headP e o f 0) (left : List Int) (ho : o.length ≤ 50) (hf : f.length ≤ 50) {p : Int} (hp : p ∈ left) (hp2 : p ∈ goesL o f) {left2 : List Int} (h2 : ∀ q, q ∈ left2 ↔ q ∈ left ∧ q ≠ p) :
    Ev (fun k => move_Came.f k e o f (gotM o f left) 0 e p) (e, o, f, gotM o f left2, 0, 0) := by
  have h1 := goesL_len o f
  have h3 := gotM_len o f left
  have hr := gotM_right hd left
  have ri := right_is' e o f (gotM o f left) 0 (by omega) (by omega) (by omega)
  rw [hr] at ri
  have gi := goes_right hd (gotM o f left) (by omega) (by omega)
  have hn : p ∉ gotM o f left := fun h => (gotM_mem.mp h).2 hp
  unfold move_Came.f
  refine Ev.bind ri (Ev.pos rfl (Ev.bind0 (own_is e o f _ 0 (by omega) (by omega) (by omega)) (Ev.pos rfl (Ev.pos rfl (Ev.bind gi ?_)))))
  refine Ev.bind (in_is (goesL o f) p (by omega)) (Ev.pos (decide_eq_true hp2) ?_)
  refine Ev.bind (in_is (gotM o f left) p (by omega)) (Ev.neg (by rw [decide_eq_false hn]; decide) (Ev.bind gi ?_))
  have cl := came_loop (e := e) (o := o) (f := f) (g := gotM o f left) p (goesL o f) (by omega) (by omega) (goesL o f) 0 [] rfl (by simp)
  have eq : (goesL o f).filter (fun q => decide (q = p ∨ q ∈ gotM o f left)) = gotM o f left2 := by
    unfold gotM
    refine List.filter_congr fun q hq => ?_
    refine decide_eq_decide.mpr ?_
    rw [h2 q, List.mem_filter, decide_eq_true_iff]
    constructor
    · rintro (h | ⟨_, h⟩) ⟨a, b⟩
      · exact b h
      · exact h a
    · intro h
      by_cases e1 : q = p
      · exact Or.inl e1
      · exact Or.inr ⟨hq, fun h5 => h ⟨h5, e1⟩⟩
  rw [eq] at cl
  exact cl
theorem u64_w (x : Int) : 0 ≤ IntKind.u64.wrap x ∧ IntKind.u64.wrap x < 18446744073709551616 := by
  rw [IntKind.wrap_u64]
  omega
theorem u64_len {n : Nat} (h : n ≤ 1000) : IntKind.u64.wrap (n : Int) = (n : Int) := by
  rw [IntKind.wrap_u64]
  omega
/-- A place among those that are left. -/
theorem pick_is (x : Int) {n : Nat} (h0 : 0 < n) (h : n ≤ 1000) : ∃ j : Nat, wrap64 (Int.tmod (IntKind.u64.wrap x) (IntKind.u64.wrap (n : Int))) = (j : Int) ∧ j < n := by
  rw [u64_len h]
  have hx := u64_w x
  have h1 : 0 ≤ Int.tmod (IntKind.u64.wrap x) (n : Int) := Int.tmod_nonneg _ hx.1
  have h2 : Int.tmod (IntKind.u64.wrap x) (n : Int) < (n : Int) := Int.tmod_lt_of_pos _ (by omega)
  generalize Int.tmod (IntKind.u64.wrap x) (n : Int) = m at h1 h2
  exact ⟨m.toNat, by rw [w64 (by omega) (by omega)]; omega, by omega⟩
theorem less_mem {A B : List Int} {p : Int} (h : (A ++ p :: B).Nodup) (q : Int) : q ∈ A ++ B ↔ q ∈ A ++ p :: B ∧ q ≠ p := by
  rw [List.nodup_append] at h
  obtain ⟨h1, h2, h3⟩ := h
  rw [List.nodup_cons] at h2
  constructor
  · intro hq
    rcases List.mem_append.mp hq with hq | hq
    · exact ⟨List.mem_append_left _ hq, h3 q hq p (List.mem_cons_self ..)⟩
    · exact ⟨List.mem_append_right _ (List.mem_cons_of_mem _ hq), fun e => h2.1 (e ▸ hq)⟩
  · rintro ⟨hq, hn⟩
    rcases List.mem_append.mp hq with hq | hq
    · exact List.mem_append_left _ hq
    · rcases List.mem_cons.mp hq with rfl | hq
      · exact absurd rfl hn
      · exact List.mem_append_right _ hq
theorem whole_loop {e : Int} {o f : List Int} (picks : List Int) (hd : headP e o f 0) (ho : o.length ≤ 50) (hf : f.length ≤ 50) : ∀ (d i : Nat) (left : List Int), left.length = d → i + d ≤ 1000 → left.Nodup → (∀ q ∈ left, q ∈ goesL o f) →
    Ev (fun k => haywainlaw18_MoveWhole.l1 k e picks left (i : Int) e o f (gotM o f left) 0) true
  | 0, i, left, hlen, _, _, _ => by
    have hn : left = [] := List.length_eq_zero_iff.mp hlen
    subst hn
    have cm := commit_is hd [] ho hf
    have e1 : (gotM o f []).length = (goesL o f).length := by
      unfold gotM
      rw [List.filter_eq_self.mpr (fun q _ => by simp)]
    rw [if_pos e1] at cm
    refine Ev.step (fun k => haywainlaw18_MoveWhole.l1.eq_2 _ _ _ _ _ _ _ _ _ k) (Ev.neg (by simp) ?_)
    exact Ev.bind cm (Ev.pos rfl (Ev.pos rfl (Ev.pos rfl knows_so)))
  | d + 1, i, left, hlen, hi, hnd, hm => by
    have cm := commit_is hd left ho hf
    have e1 : (gotM o f left).length ≠ (goesL o f).length := by
      intro h
      unfold gotM at h
      rw [List.length_filter_eq_length_iff] at h
      cases left with
      | nil => simp at hlen
      | cons p t =>
        have := h p (hm p (List.mem_cons_self ..))
        simp at this
    rw [if_neg e1] at cm
    have next : ∀ j : Nat, j < left.length → ∃ p A B, left.take j = A ∧ left.drop (j + 1) = B ∧ rd left (j : Int) = p ∧ Ev (fun k => move_Came.f k e o f (gotM o f left) 0 e p) (e, o, f, gotM o f (A ++ B), 0, 0) ∧ Ev (fun k => haywainlaw18_MoveWhole.l1 k e picks (A ++ B) ((i + 1 : Nat) : Int) e o f (gotM o f (A ++ B)) 0) true ∧ A.length + B.length = d := by
      intro j hj
      have hdr := List.drop_eq_getElem_cons hj
      obtain ⟨_, hw, _⟩ := drop_next hdr
      have hsp : left.take j ++ left[j] :: left.drop (j + 1) = left := by rw [← hdr, List.take_append_drop]
      have hnd2 : (left.take j ++ left[j] :: left.drop (j + 1)).Nodup := by rw [hsp]; exact hnd
      have hmem := less_mem hnd2
      rw [hsp] at hmem
      have hl1 : (left.take j).length = j := by rw [List.length_take]; omega
      have hl2 : (left.drop (j + 1)).length = left.length - (j + 1) := List.length_drop
      refine ⟨left[j], _, _, rfl, rfl, hw, came_is hd left ho hf (List.getElem_mem hj) (hm _ (List.getElem_mem hj)) hmem, ?_, by omega⟩
      refine whole_loop picks hd ho hf d (i + 1) _ (by rw [List.length_append]; omega) (by omega) ?_ fun q hq => hm q ((hmem q).mp hq).1
      rw [List.nodup_append] at hnd2 ⊢
      exact ⟨hnd2.1, (List.nodup_cons.mp hnd2.2.1).2, fun a ha b hb => hnd2.2.2 a ha b (List.mem_cons_of_mem _ hb)⟩
    refine Ev.step (fun k => haywainlaw18_MoveWhole.l1.eq_2 _ _ _ _ _ _ _ _ _ k) (Ev.pos (by omega) (Ev.bind cm (Ev.pos rfl ?_)))
    by_cases h1 : (i : Int) < (picks.length : Int)
    · refine Ev.pos h1 (Ev.pos (by omega) ?_)
      refine Ev.neg (by rw [u64_len (by omega)]; omega) ?_
      obtain ⟨j, hj, hlt⟩ := pick_is (rd picks (i : Int)) (n := left.length) (by omega) (by omega)
      obtain ⟨p, A, B, rA, rB, rp, came, ih, hab⟩ := next j hlt
      simp only [hj]
      rw [rp, nat_up (n := left.length) hlt (by omega), nat_up (n := 1000) (i := i) (by omega) (by omega), Int.toNat_natCast, Int.toNat_natCast, rA, rB]
      refine Ev.pos (by omega) (Ev.pos (by omega) (Ev.bind came (Ev.pos rfl (Ev.bind0 rfl (Ev.pos (by omega) (Ev.bind0 rfl (Ev.pos (by rw [List.length_nil]; omega) (Ev.bind0 rfl (Ev.pos (by omega) (Ev.pos (by omega) (Ev.bind0 rfl (Ev.pos (by rw [List.nil_append]; omega) ?_))))))))))))
      rw [List.nil_append]
      exact ih
    · obtain ⟨p, A, B, rA, rB, rp, came, ih, hab⟩ := next 0 (by omega)
      refine Ev.neg h1 (Ev.pos (by omega) ?_)
      have rp' : rd left 0 = p := rp
      have rB' : left.drop ((0 + 1 : Int).toNat) = B := rB
      rw [rp', nat_up (n := 1000) (i := i) (by omega) (by omega), rA, rB']
      refine Ev.bind came (Ev.pos rfl (Ev.bind0 rfl (Ev.pos (by omega) (Ev.bind0 rfl (Ev.pos (by rw [List.length_nil]; omega) (Ev.bind0 rfl (Ev.pos (by omega) (Ev.pos (by omega) (Ev.bind0 rfl (Ev.pos (by rw [List.nil_append]; omega) ?_))))))))))
      rw [List.nil_append]
      exact ih
theorem left_loop {e : Int} {o f : List Int} (picks : List Int) (ho : o.length ≤ 50) (hl : o.length = f.length) (fin : Ev (fun k => haywainlaw18_MoveWhole.l1 k e picks (goesL o f) 0 e o f [] 0) true) : ∀ (t s : List Int) (i : Nat) (a : List Int), o.drop i = t → f.drop i = s → a.length ≤ i → a ++ (mvs t s i).map (·.1) = goesL o f →
    Ev (fun k => haywainlaw18_MoveWhole.l0 k e o f picks a (i : Int) e o f [] 0) true
  | [], s, i, a, h, h', _, hg => by
    have hi := drop_end h
    have hm : mvs [] s i = [] := by cases s <;> rfl
    rw [hm, List.map_nil, List.append_nil] at hg
    subst hg
    exact Ev.step (fun k => haywainlaw18_MoveWhole.l0.eq_2 _ _ _ _ _ _ _ _ _ _ _ k) (Ev.neg (by omega) fin)
  | x :: t, [], i, a, h, h', _, _ => by
    have h1 := (drop_next h).1
    have h2 := drop_end h'
    omega
  | x :: t, y :: s, i, a, h, h', ha, hg => by
    obtain ⟨hi, hw, ht⟩ := drop_next h
    obtain ⟨hi', hw', hs⟩ := drop_next h'
    refine Ev.step (fun k => haywainlaw18_MoveWhole.l0.eq_2 _ _ _ _ _ _ _ _ _ _ _ k) (Ev.pos (by omega) (Ev.pos (by omega) (Ev.pos (by omega) ?_)))
    rw [hw, hw', nat_up (n := o.length) hi (by omega)]
    by_cases e1 : x = y
    · refine Ev.pos e1 ?_
      have hm : mvs (x :: t) (y :: s) i = mvs t s (i + 1) := by
        rw [mvs, if_pos e1.symm]
      rw [hm] at hg
      exact left_loop picks ho hl fin t s (i + 1) a ht hs (by omega) hg
    · refine Ev.neg e1 (Ev.pos (by omega) ?_)
      have hm : mvs (x :: t) (y :: s) i = ((i : Int), x, y) :: mvs t s (i + 1) := by
        rw [mvs, if_neg (fun h => e1 h.symm)]
      rw [hm, List.map_cons] at hg
      exact left_loop picks ho hl fin t s (i + 1) (a ++ [(i : Int)]) ht hs (by simp only [List.length_append, List.length_cons, List.length_nil]; omega) (by rw [List.append_assoc]; exact hg)
theorem MoveWhole : haywainlaw18_MoveWhole.Pure := by
  intro e o f picks _ _ _ _ _ _ _ _ _ _
  refine Ev.rounds ?_
  unfold haywainlaw18_MoveWhole.f
  have yes : Ev (fun k => haywainlaw18_MoveWhole.j0 k e o f picks true) true := Ev.step (fun k => haywainlaw18_MoveWhole.j0.eq_2 _ _ _ _ _ k) (Ev.pos rfl knows_so)
  by_cases h1 : (o.length : Int) > 50
  · exact Ev.pos h1 yes
  refine Ev.neg h1 ?_
  by_cases h2 : (f.length : Int) > 50
  · rw [decide_eq_true h2]; exact yes
  rw [decide_eq_false h2]
  refine Ev.step (fun k => haywainlaw18_MoveWhole.j0.eq_2 _ _ _ _ _ k) (Ev.neg (by decide) ?_)
  have ri := right_is' e o f [] 0 (by omega) (by omega) (by simp)
  by_cases hr : rightH e o f [] 0 = true
  · have hd := rightH_head hr
    have a1 : Ev (fun k => move_Begin.f k e o f) (e, o, f, [], 0, 0) := by
      unfold move_Begin.f
      exact Ev.bind ri (Ev.pos hr (Ev.bind0 (own_is e o f [] 0 (by omega) (by omega) (by simp)) (Ev.some rfl)))
    refine Ev.bind a1 (Ev.pos rfl ?_)
    have hgl := goesL_len o f
    have w := whole_loop picks hd (by omega) (by omega) (goesL o f).length 0 (goesL o f) rfl (by omega) ((goesL_asc o f).imp (fun h => by omega)) (fun q hq => hq)
    have e2 : gotM o f (goesL o f) = [] := by
      unfold gotM
      rw [List.filter_eq_nil_iff]
      intro q hq
      simp [hq]
    rw [e2] at w
    exact left_loop picks (by omega) hd.2.2.2.2.2.2 w o f 0 [] rfl rfl (by simp) rfl
  · have a1 : Ev (fun k => move_Begin.f k e o f) (0, [], [], [], 0, 1) := by
      unfold move_Begin.f
      exact Ev.bind ri (Ev.neg hr (Ev.some rfl))
    exact Ev.bind a1 (Ev.neg (show ¬ (1 : Int) = 0 by decide) knows_so)

end Go.Proofs.Ytbelnafoidbcjaa.Pure
