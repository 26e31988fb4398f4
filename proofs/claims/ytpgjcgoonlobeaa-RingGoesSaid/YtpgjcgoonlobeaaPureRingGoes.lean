/- When a worker goes, the partitions that are not its own stay. No condition but the row's own. -/
import Derived.Test.YtpgjcgoonlobeaaQRingGoes
namespace Go.Proofs.Ytpgjcgoonlobeaa.Pure
open Go.RowKit Go.Proofs.Ytpgjcgoonlobeaa.PRingGoes Go.Proofs.YtpgjcgoonlobeaaW.PrintWords Go.Proofs.YtpgjcgoonlobeaaW.PrintLast

/-! ### rounds: a function with enough rounds -/
theorem Ev.pos {α : Type} {c : Prop} [Decidable c] {f g : Nat → Option α} {r : α} (h : c) (k : Ev f r) : Ev (fun n => if c then f n else g n) r := by
  obtain ⟨K, k⟩ := k
  exact ⟨K, fun n hn => by simp only [if_pos h]; exact k n hn⟩
theorem Ev.neg {α : Type} {c : Prop} [Decidable c] {f g : Nat → Option α} {r : α} (h : ¬ c) (k : Ev g r) : Ev (fun n => if c then f n else g n) r := by
  obtain ⟨K, k⟩ := k
  exact ⟨K, fun n hn => by simp only [if_neg h]; exact k n hn⟩
theorem Ev.bind0 {α β : Type} {o : Option α} {f : Nat → α → Option β} {a : α} {r : β} (h : o = some a) (k : Ev (fun n => f n a) r) : Ev (fun n => o.bind (f n)) r := by
  subst h; exact k
theorem Ev.some {α : Type} {a r : α} (h : a = r) : Ev (fun _ => Option.some a) r := h ▸ Ev.now a

/-! ### numbers -/
theorem wf_u64 {a : Int} (hw : (Lit.int .u64 a).wf = true) : 0 ≤ a ∧ a < 18446744073709551616 := by
  simp only [Lit.wf, Bool.and_eq_true, decide_eq_true_eq] at hw
  have e0 : IntKind.u64.min = 0 := by decide
  have e1 : IntKind.u64.max = 18446744073709551615 := by decide
  rw [e0, e1] at hw
  omega
theorem wf_i64 {a : Int} (hw : (Lit.int .i64 a).wf = true) : -9223372036854775808 ≤ a ∧ a ≤ 9223372036854775807 := by
  simp only [Lit.wf, Bool.and_eq_true, decide_eq_true_eq] at hw
  have e0 : IntKind.i64.min = -9223372036854775808 := by decide
  have e1 : IntKind.i64.max = 9223372036854775807 := by decide
  rw [e0, e1] at hw
  omega
theorem w64 {n : Int} (h0 : -9223372036854775808 ≤ n) (h1 : n ≤ 9223372036854775807) : wrap64 n = n := by
  unfold wrap64
  omega
theorem u64_id {x : Int} (h0 : 0 ≤ x) (h1 : x < 18446744073709551616) : IntKind.u64.wrap x = x := by
  simp only [IntKind.wrap, IntKind.bits, IntKind.signed]
  simp
  omega
theorem u64_in (x : Int) : 0 ≤ IntKind.u64.wrap x ∧ IntKind.u64.wrap x < 18446744073709551616 := by
  simp only [IntKind.wrap, IntKind.bits, IntKind.signed]
  simp
  omega
theorem bits_in (x y : Int) : 0 ≤ Go.bits .xor .u64 x y ∧ Go.bits .xor .u64 x y < 18446744073709551616 := u64_in _
theorem mix_some (x : Int) : ∃ m, ring_Mix.f x = some m ∧ 0 ≤ m ∧ m < 18446744073709551616 := ⟨_, rfl, (bits_in _ _).1, (bits_in _ _).2⟩
theorem knows_ok : Ev haywainlaw09_knows.f true := Ev.of haywainlaw09_knows.mono (k := 60) (by decide +kernel)
theorem place_in {w i : Int} (hw : 1 ≤ w) (hw1 : w ≤ 99) (hi : 0 ≤ i) (hi1 : i < 8) : ∃ m, ring_Mix.f (1000 * w + i) = some m ∧ ring_Place.f w i = some (m / 4294967296 % 4294967296) ∧ 0 ≤ m ∧ m < 18446744073709551616 := by
  obtain ⟨m, hm, h0, h1⟩ := mix_some (1000 * w + i)
  refine ⟨m, hm, ?_, h0, h1⟩
  unfold ring_Place.f
  rw [if_neg (by omega), if_neg (by omega), if_neg (by omega), if_neg (by omega), w64 (n := w * 1000) (by omega) (by omega), w64 (by omega) (by omega), u64_id (by omega) (by omega), Int.mul_comm, hm]
  rfl
theorem place_out {w i : Int} (h : ¬ (1 ≤ w ∧ w ≤ 99 ∧ 0 ≤ i ∧ i < 8)) : ring_Place.f w i = some 0 := by
  unfold ring_Place.f
  by_cases h1 : w < 1
  · rw [if_pos h1]
  rw [if_neg h1]
  by_cases h2 : w > 99
  · rw [if_pos h2]
  rw [if_neg h2]
  by_cases h3 : i < 0
  · rw [if_pos h3]
  rw [if_neg h3, if_pos (by omega)]
theorem place_some (w i : Int) : ∃ m, ring_Place.f w i = some m ∧ 0 ≤ m ∧ m < 4294967296 := by
  by_cases h : 1 ≤ w ∧ w ≤ 99 ∧ 0 ≤ i ∧ i < 8
  · obtain ⟨m, _, h1, _⟩ := place_in h.1 h.2.1 h.2.2.1 h.2.2.2
    exact ⟨_, h1, by omega, by omega⟩
  · exact ⟨0, place_out h, by omega, by omega⟩
theorem key_in {p : Int} (h0 : 0 ≤ p) (h1 : p < 6) : ∃ m, ring_Mix.f (1000000 + p) = some m ∧ ring_Key.f p = some (m / 4294967296 % 4294967296) ∧ 0 ≤ m ∧ m < 18446744073709551616 := by
  obtain ⟨m, hm, g0, g1⟩ := mix_some (1000000 + p)
  refine ⟨m, hm, ?_, g0, g1⟩
  unfold ring_Key.f
  rw [if_neg (by omega), if_neg (by omega), w64 (by omega) (by omega), u64_id (by omega) (by omega), hm]
  rfl
theorem key_out {p : Int} (h : ¬ (0 ≤ p ∧ p < 6)) : ring_Key.f p = some 0 := by
  unfold ring_Key.f
  by_cases h1 : p < 0
  · rw [if_pos h1]
  rw [if_neg h1, if_pos (by omega)]
theorem key_some (p : Int) : ∃ m, ring_Key.f p = some m ∧ 0 ≤ m ∧ m < 4294967296 := by
  by_cases h : 0 ≤ p ∧ p < 6
  · obtain ⟨m, _, h1, _⟩ := key_in h.1 h.2
    exact ⟨_, h1, by omega, by omega⟩
  · exact ⟨0, key_out h, by omega, by omega⟩

/-! ### lists -/
theorem drop_end {l : List Int} {i : Nat} (h : l.drop i = []) : l.length ≤ i := List.drop_eq_nil_iff.mp h
theorem drop_next {l : List Int} {i : Nat} {w : Int} {t : List Int} (h : l.drop i = w :: t) : i < l.length ∧ rd l (i : Int) = w ∧ l.drop (i + 1) = t := by
  have hi : i < l.length := by
    refine Nat.lt_of_not_le fun hn => ?_
    rw [List.drop_eq_nil_iff.mpr hn] at h
    exact absurd h (by simp)
  have h2 := List.drop_eq_getElem_cons hi
  rw [h2] at h
  injection h with ha hb
  refine ⟨hi, ?_, hb⟩
  unfold rd
  rw [Int.toNat_natCast, List.getD_eq_getElem?_getD, List.getElem?_eq_getElem hi]
  exact ha
theorem nat_up {i n : Nat} (h : i < n) (hn : n ≤ 4000000000000) : wrap64 ((i : Int) + 1) = ((i + 1 : Nat) : Int) := by
  rw [w64 (by omega) (by omega)]; omega

/-! ### who may be members -/
def up : Int → List Int → Bool
  | _, [] => true
  | b, w :: t => decide (b < w) && (decide (w ≤ 99) && up w t)
def rest (l : List Int) : Bool := decide ((l.length : Int) ≥ 1) && decide ((l.length : Int) ≤ 5)
def rightB (l : List Int) : Bool := up 0 l && rest l
theorem right_loop (l : List Int) (hl : l.length ≤ 4000000000000) : ∀ (t : List Int) (i : Nat) (b : Int), l.drop i = t → Ev (fun k => ring_Right.l0 k l b l (l.length : Int) (i : Int)) (up b t && rest l)
  | [], i, b, h => by
    have hi := drop_end h
    refine Ev.step (fun k => ring_Right.l0.eq_2 _ _ _ _ _ k) ?_
    refine Ev.neg (by omega) ?_
    simp only [up, Bool.true_and, rest]
    by_cases h1 : (l.length : Int) ≥ 1
    · exact Ev.pos h1 (Ev.some (by rw [decide_eq_true h1]; rfl))
    · exact Ev.neg h1 (Ev.some (by rw [decide_eq_false h1]; rfl))
  | w :: t, i, b, h => by
    obtain ⟨hi, hw, ht⟩ := drop_next h
    have ih := right_loop l hl t (i + 1) w ht
    refine Ev.step (fun k => ring_Right.l0.eq_2 _ _ _ _ _ k) ?_
    refine Ev.pos (by omega) (Ev.pos (by omega) (Ev.pos (by omega) ?_))
    rw [hw, nat_up hi hl]
    simp only [up]
    by_cases h1 : w ≤ b
    · exact Ev.pos h1 (Ev.some (by rw [decide_eq_false (by omega : ¬ b < w)]; rfl))
    · refine Ev.neg h1 ?_
      rw [decide_eq_true (by omega : b < w), Bool.true_and]
      by_cases h2 : w > 99
      · exact Ev.pos h2 (Ev.some (by rw [decide_eq_false (by omega : ¬ w ≤ 99)]; rfl))
      · refine Ev.neg h2 ?_
        rw [decide_eq_true (by omega : w ≤ 99), Bool.true_and]
        exact ih
theorem right_is (l : List Int) (hl : l.length ≤ 4000000000000) : Ev (fun k => ring_Right.f k l) (rightB l) := right_loop l hl l 0 0 rfl
theorem rightB_iff {l : List Int} : rightB l = true ↔ up 0 l = true ∧ 1 ≤ l.length ∧ l.length ≤ 5 := by
  simp only [rightB, rest, Bool.and_eq_true, decide_eq_true_eq]
  exact ⟨fun ⟨a, b, c⟩ => ⟨a, by omega, by omega⟩, fun ⟨a, b, c⟩ => ⟨a, by omega, by omega⟩⟩
theorem up_mem : ∀ {l : List Int} {b : Int}, up b l = true → ∀ w ∈ l, b < w ∧ w ≤ 99
  | [], _, _, w, hw => by simp at hw
  | x :: t, b, h, w, hw => by
    simp only [up, Bool.and_eq_true, decide_eq_true_eq] at h
    rcases List.mem_cons.mp hw with rfl | hw
    · exact ⟨h.1, h.2.1⟩
    · have := up_mem h.2.2 w hw
      omega

/-! ### who owns: the nearest place, going round -/
def pl (w i : Int) : Int := (ring_Place.f w i).getD 0
theorem pl_is (w i : Int) : ring_Place.f w i = some (pl w i) := by
  obtain ⟨m, h, _⟩ := place_some w i
  simp [pl, h]
theorem pl_in (w i : Int) : 0 ≤ pl w i ∧ pl w i < 4294967296 := by
  obtain ⟨m, h, h0, h1⟩ := place_some w i
  simp only [pl, h, Option.getD_some]
  exact ⟨h0, h1⟩
def ky (p : Int) : Int := (ring_Key.f p).getD 0
theorem ky_is (p : Int) : ring_Key.f p = some (ky p) := by
  obtain ⟨m, h, _⟩ := key_some p
  simp [ky, h]
theorem ky_in (p : Int) : 0 ≤ ky p ∧ ky p < 4294967296 := by
  obtain ⟨m, h, h0, h1⟩ := key_some p
  simp only [ky, h, Option.getD_some]
  exact ⟨h0, h1⟩
/-- The places of a worker from the i-th on, n of them, with their worker. -/
def cw (w : Int) : Int → Nat → List (Int × Int)
  | _, 0 => []
  | i, n + 1 => (pl w i, w) :: cw w (i + 1) n
def cands (l : List Int) : List (Int × Int) := l.flatMap fun w => cw w 0 8
def isAhead (s t : Int × Int) : Bool := decide (s.1 < t.1) || (decide (s.1 = t.1) && decide (s.2 < t.2))
def pick (o : Int) (best c : Int × Int) : Int × Int :=
  if c.1 ≥ o then (if (best.1 == 0 && (best.2 == 0)) = true then c else (if isAhead c best = true then c else best)) else best
theorem ahead_is (a b c d : Int) : ring_spot_ahead.f a b c d = some (isAhead (a, b) (c, d)) := by
  unfold ring_spot_ahead.f isAhead
  by_cases h : a < c
  · rw [if_pos h, decide_eq_true h]; rfl
  · rw [if_neg h, decide_eq_false h, Bool.false_or]
    by_cases h1 : a = c
    · rw [if_pos h1, decide_eq_true h1]; rfl
    · rw [if_neg h1, decide_eq_false h1]; rfl
theorem first_inner (o w : Int) (l : List Int) (j : Int) (r : Int × Int) : ∀ (n : Nat) (i : Int) (s : Int × Int), 0 ≤ i → i + n = 8 →
    Ev (fun k => ring_first.l0 k o l (l.length : Int) (wrap64 (j + 1)) ((cw w i n).foldl (pick o) s).1 ((cw w i n).foldl (pick o) s).2) r →
    Ev (fun k => ring_first.l1 k o w l (l.length : Int) j i s.1 s.2) r
  | 0, i, s, h0, h8, h => by
    refine Ev.step (fun k => ring_first.l1.eq_2 _ _ _ _ _ _ _ _ k) ?_
    exact Ev.neg (by omega) h
  | n + 1, i, s, h0, h8, h => by
    have ih := fun s' => first_inner o w l j r n (i + 1) s' (by omega) (by omega)
    refine Ev.step (fun k => ring_first.l1.eq_2 _ _ _ _ _ _ _ _ k) ?_
    refine Ev.pos (by omega) (Ev.bind0 (pl_is w i) ?_)
    rw [w64 (n := i + 1) (by omega) (by omega)]
    simp only [cw, List.foldl_cons] at h
    have h' := ih _ h
    unfold pick at h'
    by_cases h1 : pl w i ≥ o
    · refine Ev.pos h1 ?_
      rw [if_pos h1] at h'
      by_cases h2 : (s.1 == 0 && (s.2 == 0)) = true
      · refine Ev.pos h2 ?_
        rw [if_pos h2] at h'
        exact h'
      · refine Ev.neg h2 ?_
        rw [if_neg h2] at h'
        refine Ev.bind0 (ahead_is _ _ _ _) ?_
        by_cases h3 : isAhead (pl w i, w) s = true
        · refine Ev.pos h3 ?_
          rw [if_pos h3] at h'
          exact h'
        · refine Ev.neg h3 ?_
          rw [if_neg h3] at h'
          exact h'
    · refine Ev.neg h1 ?_
      rw [if_neg h1] at h'
      exact h'
theorem first_loop (o : Int) (l : List Int) (hl : l.length ≤ 4000000000000) : ∀ (t : List Int) (i : Nat) (s : Int × Int), l.drop i = t →
    Ev (fun k => ring_first.l0 k o l (l.length : Int) (i : Int) s.1 s.2) ((cands t).foldl (pick o) s)
  | [], i, s, h => by
    have hi := drop_end h
    refine Ev.step (fun k => ring_first.l0.eq_2 _ _ _ _ _ _ k) ?_
    exact Ev.neg (by omega) (Ev.some rfl)
  | w :: t, i, s, h => by
    obtain ⟨hi, hw, ht⟩ := drop_next h
    refine Ev.step (fun k => ring_first.l0.eq_2 _ _ _ _ _ _ k) ?_
    refine Ev.pos (by omega) (Ev.pos (by omega) (Ev.pos (by omega) ?_))
    rw [hw]
    refine first_inner o w l i _ 8 0 s (by omega) (by omega) ?_
    rw [nat_up hi hl]
    have e : cands (w :: t) = cw w 0 8 ++ cands t := by simp [cands]
    rw [e, List.foldl_append]
    exact first_loop o l hl t (i + 1) _ ht
def firstM (l : List Int) (o : Int) : Int × Int := (cands l).foldl (pick o) (0, 0)
theorem first_is (l : List Int) (o : Int) (hl : l.length ≤ 4000000000000) : Ev (fun k => ring_first.f k l o) (firstM l o) := first_loop o l hl l 0 (0, 0) rfl
def ownerM (l : List Int) (p : Int) : Int := if (firstM l (ky p)).1 == 0 && ((firstM l (ky p)).2 == 0) then (firstM l 0).2 else (firstM l (ky p)).2
theorem owner_ok (l : List Int) (p : Int) (hl : l.length ≤ 4000000000000) (hr : rightB l = true) (h0 : 0 ≤ p) (h1 : p < 6) : Ev (fun k => ring_Owner.f k l p) (ownerM l p, 0) := by
  unfold ring_Owner.f
  refine Ev.bind (right_is l hl) (Ev.pos hr (Ev.neg (by omega) ?_))
  refine Ev.step (fun k => ring_Owner.j0.eq_2 _ _ _ k) ?_
  refine Ev.neg (by simp; omega) ?_
  refine Ev.bind0 (ky_is p) (Ev.bind (first_is l (ky p) hl) ?_)
  unfold ownerM
  by_cases h : ((firstM l (ky p)).1 == 0 && ((firstM l (ky p)).2 == 0)) = true
  · refine Ev.pos h (Ev.bind (first_is l 0 hl) (Ev.some ?_))
    rw [if_pos h]
  · refine Ev.neg h (Ev.some ?_)
    rw [if_neg h]
theorem owner_no (l : List Int) (p : Int) (hl : l.length ≤ 4000000000000) (h : ¬ (rightB l = true ∧ 0 ≤ p ∧ p < 6)) : Ev (fun k => ring_Owner.f k l p) (0, 1) := by
  unfold ring_Owner.f
  refine Ev.bind (right_is l hl) ?_
  by_cases hr : rightB l = true
  · refine Ev.pos hr ?_
    by_cases h0 : p < 0
    · refine Ev.pos h0 (Ev.step (fun k => ring_Owner.j0.eq_2 _ _ _ k) ?_)
      exact Ev.pos rfl (Ev.some rfl)
    · refine Ev.neg h0 (Ev.step (fun k => ring_Owner.j0.eq_2 _ _ _ k) ?_)
      exact Ev.pos (decide_eq_true (Classical.byContradiction fun hn => h ⟨hr, by omega, by omega⟩)) (Ev.some rfl)
  · refine Ev.neg hr (Ev.step (fun k => ring_Owner.j0.eq_2 _ _ _ k) ?_)
    exact Ev.pos rfl (Ev.some rfl)
def ownersM (l : List Int) (n : Nat) : List Int := (List.range n).map fun p : Nat => ownerM l (p : Int)
theorem owners_loop (l : List Int) (hl : l.length ≤ 4000000000000) (hr : rightB l = true) (q : Int) (h1 : q ≤ 6) : ∀ (d i : Nat), (i : Int) + d = q →
    Ev (fun k => ring_Owners.l0 k l (ownersM l i) q (i : Int)) (ownersM l q.toNat, 0)
  | 0, i, h => by
    refine Ev.step (fun k => ring_Owners.l0.eq_2 _ _ _ _ k) ?_
    refine Ev.neg (by omega) (Ev.some ?_)
    rw [show q.toNat = i by omega]
  | d + 1, i, h => by
    refine Ev.step (fun k => ring_Owners.l0.eq_2 _ _ _ _ k) ?_
    refine Ev.pos (by omega) (Ev.bind (owner_ok l i hl hr (by omega) (by omega)) (Ev.pos ?_ ?_))
    · simp only [ownersM, List.length_map, List.length_range]; omega
    · rw [w64 (n := (i : Int) + 1) (by omega) (by omega), show ((i : Int) + 1) = ((i + 1 : Nat) : Int) by omega]
      have e : ownersM l i ++ [ownerM l i] = ownersM l (i + 1) := by simp [ownersM, List.range_succ]
      rw [e]
      exact owners_loop l hl hr q h1 d (i + 1) (by omega)
theorem owners_ok (l : List Int) (q : Int) (hl : l.length ≤ 4000000000000) (hr : rightB l = true) (h0 : 1 ≤ q) (h1 : q ≤ 6) : Ev (fun k => ring_Owners.f k l q) (ownersM l q.toNat, 0) := by
  unfold ring_Owners.f
  refine Ev.bind (right_is l hl) (Ev.pos hr (Ev.neg (by omega) ?_))
  refine Ev.step (fun k => ring_Owners.j0.eq_2 _ _ _ k) ?_
  refine Ev.neg (by simp; omega) ?_
  exact owners_loop l hl hr q h1 q.toNat 0 (by omega)
theorem owners_no (l : List Int) (q : Int) (hl : l.length ≤ 4000000000000) (h : ¬ (rightB l = true ∧ 1 ≤ q ∧ q ≤ 6)) : Ev (fun k => ring_Owners.f k l q) ([], 1) := by
  unfold ring_Owners.f
  refine Ev.bind (right_is l hl) ?_
  by_cases hr : rightB l = true
  · refine Ev.pos hr ?_
    by_cases h0 : q < 1
    · refine Ev.pos h0 (Ev.step (fun k => ring_Owners.j0.eq_2 _ _ _ k) ?_)
      exact Ev.pos rfl (Ev.some rfl)
    · refine Ev.neg h0 (Ev.step (fun k => ring_Owners.j0.eq_2 _ _ _ k) ?_)
      exact Ev.pos (decide_eq_true (Classical.byContradiction fun hn => h ⟨hr, by omega, by omega⟩)) (Ev.some rfl)
  · refine Ev.neg hr (Ev.step (fun k => ring_Owners.j0.eq_2 _ _ _ k) ?_)
    exact Ev.pos rfl (Ev.some rfl)

/-! ### what an owner is -/
def dist (o a : Int) : Int := (a - o) % 4294967296
/-- The nearest place, and of places alike the least worker. -/
def IsOwner (l : List Int) (o w : Int) : Prop := ∃ a, (a, w) ∈ cands l ∧ ∀ c ∈ cands l, dist o a < dist o c.1 ∨ dist o a = dist o c.1 ∧ w ≤ c.2
theorem IsOwner.one {l : List Int} {o w w' : Int} (h : IsOwner l o w) (h' : IsOwner l o w') : w = w' := by
  obtain ⟨a, ha, h⟩ := h
  obtain ⟨b, hb, h'⟩ := h'
  have h1 := h _ hb
  have h2 := h' _ ha
  simp only at h1 h2
  omega
theorem mem_cw {w : Int} {c : Int × Int} : ∀ {n : Nat} {i : Int}, c ∈ cw w i n → c.2 = w ∧ 0 ≤ c.1 ∧ c.1 < 4294967296
  | 0, _, h => by simp [cw] at h
  | n + 1, i, h => by
    rcases List.mem_cons.mp h with rfl | h
    · exact ⟨rfl, pl_in w i⟩
    · exact mem_cw h
theorem mem_cands {l : List Int} {c : Int × Int} (h : c ∈ cands l) : c.2 ∈ l ∧ 0 ≤ c.1 ∧ c.1 < 4294967296 := by
  obtain ⟨w, hw, hc⟩ := List.mem_flatMap.mp h
  obtain ⟨h1, h2⟩ := mem_cw hc
  exact ⟨h1 ▸ hw, h2⟩
theorem cands_sub {l m : List Int} (h : ∀ w ∈ l, w ∈ m) {c : Int × Int} (hc : c ∈ cands l) : c ∈ cands m := by
  obtain ⟨w, hw, hc⟩ := List.mem_flatMap.mp hc
  exact List.mem_flatMap.mpr ⟨w, h w hw, hc⟩
theorem cands_of {l : List Int} {c : Int × Int} (hc : c ∈ cands l) {m : List Int} (h : c.2 ∈ m) : c ∈ cands m := by
  obtain ⟨w, hw, hc⟩ := List.mem_flatMap.mp hc
  exact List.mem_flatMap.mpr ⟨w, (mem_cw hc).1 ▸ h, hc⟩
theorem IsOwner.mem {l : List Int} {o w : Int} (h : IsOwner l o w) : w ∈ l := by
  obtain ⟨a, ha, _⟩ := h
  exact (mem_cands ha).1
/-- Of more members the same one, if it is among the less. -/
theorem IsOwner.less {l m : List Int} {o w : Int} (h : IsOwner m o w) (hw : w ∈ l) (hs : ∀ x ∈ l, x ∈ m) : IsOwner l o w := by
  obtain ⟨a, ha, h⟩ := h
  exact ⟨a, cands_of ha hw, fun c hc => h c (cands_sub hs hc)⟩
/-- What the fold over places tells: nothing (no place), or the first place from o on. -/
def Picked (o : Int) (seen : List (Int × Int)) (s : Int × Int) : Prop :=
  (s = (0, 0) ∧ ∀ c ∈ seen, ¬ c.1 ≥ o) ∨ (s ∈ seen ∧ s.2 ≠ 0 ∧ s.1 ≥ o ∧ ∀ c ∈ seen, c.1 ≥ o → s.1 < c.1 ∨ s.1 = c.1 ∧ s.2 ≤ c.2)
theorem Picked.step {o : Int} {seen : List (Int × Int)} {s c : Int × Int} (h : Picked o seen s) (hc : c.2 ≠ 0) : Picked o (seen ++ [c]) (pick o s c) := by
  unfold pick
  by_cases h1 : c.1 ≥ o
  · rw [if_pos h1]
    rcases h with ⟨rfl, h⟩ | ⟨hs, hs0, hso, h⟩
    · rw [if_pos (by decide)]
      refine .inr ⟨by simp, hc, h1, fun d hd hdo => ?_⟩
      rcases List.mem_append.mp hd with hd | hd
      · exact absurd hdo (h d hd)
      · rw [List.mem_singleton.mp hd]; exact .inr ⟨rfl, Int.le_refl _⟩
    · rw [if_neg (by simp [hs0])]
      by_cases h2 : isAhead c s = true
      · rw [if_pos h2]
        simp only [isAhead, Bool.or_eq_true, Bool.and_eq_true, decide_eq_true_eq] at h2
        refine .inr ⟨by simp, hc, h1, fun d hd hdo => ?_⟩
        rcases List.mem_append.mp hd with hd | hd
        · have := h d hd hdo
          omega
        · rw [List.mem_singleton.mp hd]; exact .inr ⟨rfl, Int.le_refl _⟩
      · rw [if_neg h2]
        simp only [isAhead, Bool.or_eq_true, Bool.and_eq_true, decide_eq_true_eq] at h2
        refine .inr ⟨by simp [hs], hs0, hso, fun d hd hdo => ?_⟩
        rcases List.mem_append.mp hd with hd | hd
        · exact h d hd hdo
        · rw [List.mem_singleton.mp hd]
          omega
  · rw [if_neg h1]
    rcases h with ⟨rfl, h⟩ | ⟨hs, hs0, hso, h⟩
    · refine .inl ⟨rfl, fun d hd => ?_⟩
      rcases List.mem_append.mp hd with hd | hd
      · exact h d hd
      · rw [List.mem_singleton.mp hd]; exact h1
    · refine .inr ⟨by simp [hs], hs0, hso, fun d hd hdo => ?_⟩
      rcases List.mem_append.mp hd with hd | hd
      · exact h d hd hdo
      · rw [List.mem_singleton.mp hd] at hdo; exact absurd hdo h1
theorem Picked.fold {o : Int} : ∀ {cs seen : List (Int × Int)} {s : Int × Int}, Picked o seen s → (∀ c ∈ cs, c.2 ≠ 0) → Picked o (seen ++ cs) (cs.foldl (pick o) s)
  | [], seen, s, h, _ => by simpa using h
  | c :: cs, seen, s, h, hc => by
    have := Picked.fold (cs := cs) (h.step (hc c (by simp))) (fun d hd => hc d (by simp [hd]))
    simpa using this
theorem picked {l : List Int} (hl : ∀ w ∈ l, 0 < w) (o : Int) : Picked o (cands l) (firstM l o) := by
  have h0 : Picked o [] (0, 0) := .inl ⟨rfl, fun c hc => by simp at hc⟩
  have := Picked.fold (cs := cands l) h0 fun c hc => by
    have := hl _ (mem_cands hc).1
    omega
  simpa [firstM] using this
theorem owner_spec {l : List Int} (hl : ∀ w ∈ l, 0 < w) (hne : l ≠ []) {p : Int} : IsOwner l (ky p) (ownerM l p) := by
  have hk := ky_in p
  obtain ⟨w0, hw0⟩ := List.exists_mem_of_ne_nil l hne
  have hc0 : (pl w0 0, w0) ∈ cands l := List.mem_flatMap.mpr ⟨w0, hw0, by simp [cw]⟩
  unfold ownerM
  have P1 := picked hl (ky p)
  have P2 := picked hl 0
  generalize firstM l (ky p) = s at P1
  generalize firstM l 0 = s' at P2
  obtain ⟨a, w⟩ := s
  obtain ⟨a', w'⟩ := s'
  rcases P1 with ⟨e, h⟩ | ⟨hs, hs0, hso, h⟩
  · rw [e, if_pos (by decide)]
    rcases P2 with ⟨e', h'⟩ | ⟨hs', _, _, h'⟩
    · exact absurd (pl_in w0 0).1 (h' _ hc0)
    · refine ⟨a', hs', fun c hc => ?_⟩
      have h1 := mem_cands hc
      have h2 := mem_cands hs'
      have h3 := h _ hc
      have h4 := h _ hs'
      have h5 := h' _ hc h1.2.1
      simp only at h2 h4 h5
      unfold dist
      omega
  · simp only at hs0
    rw [if_neg (by simp [hs0])]
    refine ⟨a, hs, fun c hc => ?_⟩
    have h1 := mem_cands hc
    have h2 := mem_cands hs
    have h5 := h _ hc
    simp only at h2 h5 hso
    unfold dist
    by_cases h6 : c.1 ≥ ky p
    · have := h5 h6
      omega
    · omega

/-! ### members that are made -/
theorem has_loop (l : List Int) (n : Int) (hl : l.length ≤ 4000000000000) : ∀ (t : List Int) (i : Nat), l.drop i = t → Ev (fun k => haywainref09_Has.l0 k l n (i : Int)) (decide (n ∈ t))
  | [], i, h => by
    have hi := drop_end h
    refine Ev.step (fun k => haywainref09_Has.l0.eq_2 _ _ _ k) ?_
    exact Ev.neg (by omega) (Ev.some rfl)
  | w :: t, i, h => by
    obtain ⟨hi, hw, ht⟩ := drop_next h
    refine Ev.step (fun k => haywainref09_Has.l0.eq_2 _ _ _ k) ?_
    refine Ev.pos (by omega) (Ev.pos (by omega) ?_)
    rw [hw, nat_up hi hl]
    by_cases e : w = n
    · exact Ev.pos e (Ev.some (by simp [e]))
    · refine Ev.neg e ?_
      have ih := has_loop l n hl t (i + 1) ht
      have e2 : decide (n ∈ w :: t) = decide (n ∈ t) := by simp [Ne.symm e]
      rw [e2]; exact ih
theorem has_is (l : List Int) (n : Int) (hl : l.length ≤ 4000000000000) : Ev (fun k => haywainref09_Has.f k l n) (decide (n ∈ l)) := has_loop l n hl l 0 rfl
def seg : Int → Nat → List Int
  | _, 0 => []
  | w, n + 1 => w :: seg (w + 1) n
theorem mem_seg {x : Int} : ∀ {n : Nat} {w : Int}, x ∈ seg w n ↔ w ≤ x ∧ x < w + n
  | 0, w => by
    have : ¬ (w ≤ x ∧ x < w + ((0 : Nat) : Int)) := by omega
    simp only [seg, List.not_mem_nil, this]
  | n + 1, w => by
    simp only [seg, List.mem_cons, mem_seg (n := n) (w := w + 1)]
    omega
def madeM (l : List Int) (q : Nat) : List Int := ((seg 1 99).filter fun w => decide (w ∈ l)).take q
theorem made_loop (l : List Int) (hl : l.length ≤ 4000000000000) (q : Nat) (hq : q ≤ 1000) : ∀ (m : Nat) (w : Int) (out : List Int), 1 ≤ w → w + m = 100 → out.length ≤ q →
    Ev (fun k => haywainlaw09_made.l0 k l (q : Int) out w) (out ++ ((seg w m).filter fun w => decide (w ∈ l)).take (q - out.length))
  | 0, w, out, h0, h, ho => by
    refine Ev.step (fun k => haywainlaw09_made.l0.eq_2 _ _ _ _ k) ?_
    refine Ev.neg (by omega) (Ev.step (fun k => haywainlaw09_made.j1.eq_2 _ _ _ _ _ k) ?_)
    exact Ev.neg (by decide) (Ev.some (by simp [seg]))
  | m + 1, w, out, h0, h, ho => by
    have ih := fun out' ho' => made_loop l hl q hq m (w + 1) out' (by omega) (by omega) ho'
    refine Ev.step (fun k => haywainlaw09_made.l0.eq_2 _ _ _ _ k) ?_
    refine Ev.pos (by omega) (Ev.step (fun k => haywainlaw09_made.j1.eq_2 _ _ _ _ _ k) ?_)
    by_cases h1 : (out.length : Int) < q
    · refine Ev.pos (decide_eq_true h1) (Ev.bind (has_is l w hl) ?_)
      rw [w64 (n := w + 1) (by omega) (by omega)]
      by_cases h2 : w ∈ l
      · refine Ev.pos (decide_eq_true h2) (Ev.pos (by omega) ?_)
        have e : out ++ ((seg w (m + 1)).filter fun w => decide (w ∈ l)).take (q - out.length) = (out ++ [w]) ++ ((seg (w + 1) m).filter fun w => decide (w ∈ l)).take (q - (out ++ [w]).length) := by
          rw [show q - out.length = (q - (out ++ [w]).length) + 1 by simp; omega]
          simp [seg, h2]
        rw [e]
        exact ih _ (by simp; omega)
      · refine Ev.neg (by simp [h2]) ?_
        have e : (seg w (m + 1)).filter (fun w => decide (w ∈ l)) = (seg (w + 1) m).filter fun w => decide (w ∈ l) := by simp [seg, h2]
        rw [e]
        exact ih _ ho
    · refine Ev.neg (by simp; omega) (Ev.some ?_)
      rw [show q - out.length = 0 by omega]; simp
theorem made_is (l : List Int) (hl : l.length ≤ 4000000000000) (q : Nat) (hq : q ≤ 1000) : Ev (fun k => haywainlaw09_made.f k l (q : Int)) (madeM l q) := by
  have := made_loop l hl q hq 99 1 [] (by omega) (by omega) (by simp)
  simpa [madeM, haywainlaw09_made.f] using this
theorem up_filter (f : Int → Bool) : ∀ (n : Nat) (w b : Int), b < w → w + n ≤ 100 → up b ((seg w n).filter f) = true
  | 0, w, b, _, _ => by simp [seg, up]
  | n + 1, w, b, hb, hw => by
    simp only [seg, List.filter_cons]
    split
    · simp only [up, Bool.and_eq_true, decide_eq_true_eq]
      exact ⟨hb, by omega, up_filter f n (w + 1) w (by omega) (by omega)⟩
    · exact up_filter f n (w + 1) b (by omega) (by omega)
theorem up_take : ∀ (q : Nat) (l : List Int) (b : Int), up b l = true → up b (l.take q) = true
  | 0, l, b, h => by simp [up]
  | q + 1, [], b, h => by simp [up]
  | q + 1, w :: t, b, h => by
    simp only [up, List.take_succ_cons, Bool.and_eq_true, decide_eq_true_eq] at h ⊢
    exact ⟨h.1, h.2.1, up_take q t w h.2.2⟩
theorem made_up (l : List Int) (q : Nat) : up 0 (madeM l q) = true := up_take _ _ _ (up_filter _ 99 1 0 (by omega) (by omega))
theorem made_len (l : List Int) (q : Nat) : (madeM l q).length ≤ q := by simp only [madeM, List.length_take]; omega
theorem made_right {l : List Int} {q : Nat} (hq : q ≤ 5) (h : madeM l q ≠ []) : rightB (madeM l q) = true :=
  rightB_iff.mpr ⟨made_up l q, List.length_pos_iff.mpr h, Nat.le_trans (made_len l q) hq⟩
theorem up_pos {l : List Int} (h : up 0 l = true) : ∀ w ∈ l, 0 < w := fun w hw => (up_mem h w hw).1
theorem owners_get (l : List Int) {n i : Nat} (h : i < n) : rd (ownersM l n) (i : Int) = ownerM l i := by
  unfold rd ownersM
  rw [Int.toNat_natCast, List.getD_eq_getElem?_getD]
  simp [h]
theorem owners_len (l : List Int) (n : Nat) : (ownersM l n).length = n := by simp [ownersM]

theorem goes_loop (m a b : List Int) (c : Nat) (hc : c < m.length) (w : Int) (hw : rd m (c : Int) = w) (hb : ∀ i : Nat, i < 6 → ownerM a i = w ∨ ownerM b i = ownerM a i) : ∀ (d i : Nat), i + d = 6 → Ev (fun k => haywainlaw09_RingGoes.l0 k m (c : Int) (ownersM a 6) (ownersM b 6) (i : Int)) true
  | 0, i, h => by
    refine Ev.step (fun k => haywainlaw09_RingGoes.l0.eq_2 _ _ _ _ _ k) ?_
    exact Ev.neg (by rw [owners_len]; omega) (Ev.bind knows_ok (Ev.some rfl))
  | d + 1, i, h => by
    refine Ev.step (fun k => haywainlaw09_RingGoes.l0.eq_2 _ _ _ _ _ k) ?_
    refine Ev.pos (by rw [owners_len]; omega) (Ev.pos (by omega) (Ev.pos (by omega) (Ev.pos (by omega) ?_)))
    rw [owners_get a (show i < 6 by omega), owners_get b (show i < 6 by omega), hw, nat_up (n := 6) (by omega) (by omega)]
    have ih := goes_loop m a b c hc w hw hb d (i + 1) (by omega)
    by_cases e : ownerM a i = w
    · exact Ev.pos e ih
    · exact Ev.neg e (Ev.pos (by rw [owners_len]; omega) (Ev.pos ((hb i (by omega)).resolve_left e) ih))
theorem up_drop_one : ∀ {l : List Int} {b : Int} (c : Nat), up b l = true → up b (l.take c ++ l.drop (c + 1)) = true
  | [], _, c, _ => by simp [up]
  | x :: t, b, 0, h => by
    simp only [up, Bool.and_eq_true, decide_eq_true_eq] at h
    have : ∀ {t : List Int} {x b : Int}, b < x → up x t = true → up b t = true := by
      intro t x b hb h
      cases t with
      | nil => rfl
      | cons y t => simp only [up, Bool.and_eq_true, decide_eq_true_eq] at h ⊢; exact ⟨by omega, h.2⟩
    simpa using this h.1 h.2.2
  | x :: t, b, c + 1, h => by
    simp only [up, Bool.and_eq_true, decide_eq_true_eq] at h
    simp only [List.take_succ_cons, List.drop_succ_cons, List.cons_append, up, Bool.and_eq_true, decide_eq_true_eq]
    exact ⟨h.1, h.2.1, up_drop_one c h.2.2⟩
theorem RingGoes : haywainlaw09_RingGoes.Pure := by
  intro l at_ _ _ _ hat
  refine Ev.rounds ?_
  unfold haywainlaw09_RingGoes.f
  by_cases hbig : (l.length : Int) > 100
  · exact Ev.pos hbig (Ev.bind knows_ok (Ev.some rfl))
  refine Ev.neg hbig (Ev.bind (made_is l (by omega) 5 (by omega)) ?_)
  have hlen := made_len l 5
  have hup := made_up l 5
  have hR := made_right (l := l) (q := 5) (by omega)
  generalize madeM l 5 = m at hlen hup hR
  by_cases h2 : (m.length : Int) < 2
  · exact Ev.pos h2 (Ev.bind knows_ok (Ev.some rfl))
  refine Ev.neg h2 ?_
  have hne : m ≠ [] := by rintro rfl; simp at h2
  rw [u64_id (x := (m.length : Int)) (by omega) (by omega)]
  have hu := u64_in at_
  rw [Int.tmod_eq_emod_of_nonneg hu.1, w64 (n := IntKind.u64.wrap at_ % (m.length : Int)) (by have := Int.emod_nonneg (IntKind.u64.wrap at_) (b := (m.length : Int)) (by omega); omega) (by have := Int.emod_lt_of_pos (IntKind.u64.wrap at_) (b := (m.length : Int)) (by omega); omega)]
  obtain ⟨c, hc, hcm⟩ : ∃ c : Nat, IntKind.u64.wrap at_ % (m.length : Int) = (c : Int) ∧ c < m.length := by
    have h0 := Int.emod_nonneg (IntKind.u64.wrap at_) (b := (m.length : Int)) (by omega)
    have h1 := Int.emod_lt_of_pos (IntKind.u64.wrap at_) (b := (m.length : Int)) (by omega)
    exact ⟨(IntKind.u64.wrap at_ % (m.length : Int)).toNat, by omega, by omega⟩
  rw [hc, nat_up hcm (by omega)]
  refine Ev.neg (by omega) (Ev.bind0 rfl (Ev.pos (by omega) (Ev.pos (by omega) (Ev.bind0 rfl (Ev.pos (by simp; omega) (Ev.bind0 rfl ?_))))))
  refine Ev.pos (by omega) (Ev.pos (by omega) (Ev.bind0 rfl (Ev.pos (by simp; omega) ?_)))
  rw [List.nil_append, Int.toNat_natCast, Int.toNat_natCast]
  have hlu := up_drop_one c hup
  have hll : (m.take c ++ m.drop (c + 1)).length = m.length - 1 := by simp; omega
  have hlm : ∀ x, x ∈ m.take c ++ m.drop (c + 1) → x ∈ m := fun x hx => by
    rcases List.mem_append.mp hx with hx | hx
    · exact List.mem_of_mem_take hx
    · exact List.mem_of_mem_drop hx
  have hml : ∀ x ∈ m, x = rd m (c : Int) ∨ x ∈ m.take c ++ m.drop (c + 1) := fun x hx => by
    have e : m = m.take c ++ m[c] :: m.drop (c + 1) := by
      have h3 := List.drop_eq_getElem_cons hcm
      rw [← h3, List.take_append_drop]
    rw [e] at hx
    have hr : rd m (c : Int) = m[c] := by
      unfold rd
      rw [Int.toNat_natCast, List.getD_eq_getElem?_getD, List.getElem?_eq_getElem hcm]
      rfl
    rcases List.mem_append.mp hx with hx | hx
    · exact .inr (List.mem_append.mpr (.inl hx))
    · rcases List.mem_cons.mp hx with hx | hx
      · exact .inl (hx.trans hr.symm)
      · exact .inr (List.mem_append.mpr (.inr hx))
  generalize m.take c ++ m.drop (c + 1) = b at hlu hll hlm hml
  have hbne : b ≠ [] := by rintro rfl; simp at hll; omega
  have hbR : rightB b = true := rightB_iff.mpr ⟨hlu, by omega, by omega⟩
  refine Ev.bind (owners_ok m 6 (by omega) (hR hne) (by omega) (by omega)) (Ev.bind (owners_ok b 6 (by omega) hbR (by omega) (by omega)) ?_)
  refine Ev.pos rfl (Ev.pos rfl (Ev.pos (by rw [owners_len]; rfl) ?_))
  refine Ev.step (fun k => haywainlaw09_RingGoes.j0.eq_2 _ _ _ _ _ k) (Ev.neg (by rw [owners_len]; decide) ?_)
  refine goes_loop m m b c hcm _ rfl (fun i hi => ?_) 6 0 (by omega)
  have ho := owner_spec (up_pos hup) hne (p := (i : Int))
  rcases hml _ ho.mem with h | h
  · exact .inl h
  · exact .inr ((owner_spec (up_pos hlu) hbne).one (ho.less h hlm))

end Go.Proofs.Ytpgjcgoonlobeaa.Pure
