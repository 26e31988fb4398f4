/- A map from int to int that a call makes, writes and reads: how it is carried, and what it holds. Plain theorems. -/
import Derived.Maps.OwnSet
import Derived.Test.YtgfaejkgkhdihaaWWords
namespace Go.Proofs.YtgfaejkgkhdihaaW.PrintWords
open Go.RowKit Go.Maps
namespace Mp
theorem at_ {H : Type} {P : Program} {k : TypeId} {R : Value → Option (DataW H × List MemPlace)} {b n : Nat} {D : DataW H} {w w1 : World} (h : w.ownsMap P k R b n D) (e : w1.heap[b]? = w.heap[b]?) : w1.ownsMap P k R b n D := by
  obtain ⟨es, clock, hb, r⟩ := h
  exact ⟨es, clock, e.trans hb, r⟩
theorem below_ {H : Type} {P : Program} {k : TypeId} {R : Value → Option (DataW H × List MemPlace)} {b n : Nat} {D : DataW H} {w w1 : World} (h : w.ownsMap P k R b n D) (hb : Below w.heap.size w w1) : w1.ownsMap P k R b n D := at_ h (hb.block b h.lt)
def D (l : List (Int × Int)) : DataW Unit := l.foldl (fun D m => D.put (.int .i64 m.1) (.lit (.int .i64 m.2))) (.map [])
def last (l : List (Int × Int)) (a : Int) : Int := l.foldl (fun c m => if m.1 = a then m.2 else c) 0
theorem D_snoc (l : List (Int × Int)) (m : Int × Int) : D (l ++ [m]) = (D l).put (.int .i64 m.1) (.lit (.int .i64 m.2)) := by
  unfold D
  rw [List.foldl_append]
  rfl
theorem last_snoc (l : List (Int × Int)) (m : Int × Int) (a : Int) : last (l ++ [m]) a = if m.1 = a then m.2 else last l a := by
  unfold last
  rw [List.foldl_append]
  rfl
theorem key (a : Int) : WideAt.IsKeyLit (.int .i64 a) := by simp [WideAt.IsKeyLit]
theorem map_ (l : List (Int × Int)) : IsMap (D l) := by
  unfold D
  suffices h : ∀ (l : List (Int × Int)) (D : DataW Unit), IsMap D → IsMap (l.foldl (fun D m => D.put (.int .i64 m.1) (.lit (.int .i64 m.2))) D) from h l _ isMap_empty
  intro l
  induction l with
  | nil => intro D h; exact h
  | cons m t ih => intro D h; exact ih _ (h.put _ _)
theorem has_ (a : Int) (l : List (Int × Int)) : has (D l) (.int .i64 a) = l.any (fun m => m.1 == a) := by
  suffices h : ∀ r : List (Int × Int), has (D r.reverse) (.int .i64 a) = r.reverse.any (fun m => m.1 == a) by
    have := h l.reverse
    rwa [List.reverse_reverse] at this
  intro r
  induction r with
  | nil => rfl
  | cons m t ih =>
    rw [List.reverse_cons, D_snoc, List.any_append]
    by_cases e : m.1 = a
    · subst e
      rw [has_put_same (map_ _) (key _)]
      simp
    · rw [has_put_other (fun h => e (by injection h with _ h; exact h.symm)), ih]
      simp [e]
theorem atKey_ (a : Int) (z : DataW Unit) (l : List (Int × Int)) (h : l.any (fun m => m.1 == a) = true) : (D l).atKey (.int .i64 a) z = .lit (.int .i64 (last l a)) := by
  suffices g : ∀ r : List (Int × Int), r.reverse.any (fun m => m.1 == a) = true → (D r.reverse).atKey (.int .i64 a) z = .lit (.int .i64 (last r.reverse a)) by
    have := g l.reverse
    rw [List.reverse_reverse] at this
    exact this h
  intro r
  induction r with
  | nil => intro h; simp at h
  | cons m t ih =>
    intro h
    rw [List.reverse_cons] at h
    rw [List.reverse_cons, D_snoc, last_snoc]
    by_cases e : m.1 = a
    · subst e
      rw [atKey_put_same (map_ _) (key _), if_pos rfl]
    · rw [atKey_put_other (fun h => e (by injection h with _ h; exact h.symm)), if_neg e]
      refine ih ?_
      rw [List.any_append] at h
      simpa [e] using h
end Mp
end Go.Proofs.YtgfaejkgkhdihaaW.PrintWords
