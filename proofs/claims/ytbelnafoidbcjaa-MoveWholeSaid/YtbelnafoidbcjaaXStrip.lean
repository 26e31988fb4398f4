/- Draws and new blocks ahead of a world, struck by one word: short forms of steps that a printed walk says often. Plain theorems. -/
import Derived.Test.YtbelnafoidbcjaaWMore
import Derived.Test.YtbelnafoidbcjaaWN
import Derived.Test.YtbelnafoidbcjaaWApart
namespace Go.Proofs.YtbelnafoidbcjaaW.PrintWords
open Go.RowKit
@[reducible] def nB (k : Nat) (v : Value) : Prop := some k ≠ v.ownBlock
theorem sa {α : Type} (l : List α) (i : Nat) (a : α) : l.toArray.setIfInBounds i a = (l.set i a).toArray := by simp
theorem sz {α : Type} {x a : α} {xs : List α} : (x :: xs).set 0 a = a :: xs := rfl
theorem ss {α : Type} {x a : α} {xs : List α} {n : Nat} : (x :: xs).set (n + 1) a = x :: xs.set n a := rfl
theorem ak {p : Prop} (h : p) : Aside0 p := ⟨h⟩
theorem bS {w w0 : World} {g i : Nat} {u : Value} (h : Below w.heap.size w w0) (hg : Aside0 (w.heap.size ≤ g)) : Below w.heap.size w (w0.setCell ⟨g, i, none⟩ u) := below_set h hg.out
inductive StripR : World → World → Prop
  | refl (w : World) : StripR w w
  | drewN {w w0 : World} (n : Nat) : StripR w w0 → StripR (w.drewN n) w0
  | drew {w w0 : World} : StripR w w0 → StripR w.drew w0
  | alloc {w w0 : World} (o : Obj) : StripR w w0 → StripR (w.alloc o) w0
class Strip (w1 : World) (w0 : outParam World) : Prop where
  r : StripR w1 w0
instance stripRefl (w : World) : Strip w w := ⟨.refl w⟩
instance stripDrewN (w w0 : World) (n : Nat) [s : Strip w w0] : Strip (w.drewN n) w0 := ⟨.drewN n s.r⟩
instance stripDrew (w w0 : World) [s : Strip w w0] : Strip w.drew w0 := ⟨.drew s.r⟩
instance stripAlloc (w w0 : World) (o : Obj) [s : Strip w w0] : Strip (w.alloc o) w0 := ⟨.alloc o s.r⟩
theorem BL {w1 w0 : World} {g : Nat} {o : Obj} [s : Strip w1 w0] (h : w0.heap[g]? = some o) : w1.heap[g]? = some o := by
  obtain ⟨r⟩ := s
  induction r with
  | refl => exact h
  | drewN n _ ih => exact blk_drewN (ih h) n
  | drew _ ih => exact blk_drew (ih h)
  | alloc o _ ih => exact blk_alloc (ih h) o
theorem BW {w w1 w0 : World} [s : Strip w1 w0] (h : Below w.heap.size w w0) : Below w.heap.size w w1 := by
  obtain ⟨r⟩ := s
  induction r with
  | refl => exact h
  | drewN n _ ih => exact pw_below_drewN (ih h) n
  | drew _ ih => exact below_drew1 (ih h)
  | alloc o _ ih => exact below_alloc (ih h) o
theorem bb {w w1 w0 : World} {g : Nat} {o : Obj} [s : Strip w w0] (hb : Below w.heap.size w w1) (h : w0.heap[g]? = some o) : w1.heap[g]? = some o := blk_below (@BL w w0 g o s h) hb
inductive StripGR (g : Nat) : World → World → Prop
  | refl (w : World) : StripGR g w w
  | drewN {w w0 : World} (n : Nat) : StripGR g w w0 → StripGR g (w.drewN n) w0
  | drew {w w0 : World} : StripGR g w w0 → StripGR g w.drew w0
  | alloc {w w0 : World} (o : Obj) : StripGR g w w0 → StripGR g (w.alloc o) w0
  | set {w w0 : World} (i : Nat) (u : Value) : StripGR g w w0 → StripGR g (w.setCell ⟨g, i, none⟩ u) w0
class StripG (g : Nat) (w1 : World) (w0 : outParam World) : Prop where
  r : StripGR g w1 w0
instance stripGRefl (g : Nat) (w : World) : StripG g w w := ⟨.refl w⟩
instance stripGDrewN (g : Nat) (w w0 : World) (n : Nat) [s : StripG g w w0] : StripG g (w.drewN n) w0 := ⟨.drewN n s.r⟩
instance stripGDrew (g : Nat) (w w0 : World) [s : StripG g w w0] : StripG g w.drew w0 := ⟨.drew s.r⟩
instance stripGAlloc (g : Nat) (w w0 : World) (o : Obj) [s : StripG g w w0] : StripG g (w.alloc o) w0 := ⟨.alloc o s.r⟩
instance stripGSet (g : Nat) (w w0 : World) (i : Nat) (u : Value) [s : StripG g w w0] : StripG g (w.setCell ⟨g, i, none⟩ u) w0 := ⟨.set i u s.r⟩
theorem BS {w w1 w0 : World} {g i : Nat} {u : Value} [s : Strip w1 (w0.setCell ⟨g, i, none⟩ u)] (h : Below w.heap.size w w0) (hg : Aside0 (w.heap.size ≤ g)) : Below w.heap.size w w1 := @BW w w1 (w0.setCell ⟨g, i, none⟩ u) s (below_set h hg.out)
theorem BF {g g' : Nat} {w1 w0 : World} {t : TypeId} {cs : Array Value} [s : StripG g' w1 w0] (hn : g ≠ g') (h : w0.heap[g]? = some (.cells cs t (0, 0))) : w1.heap[g]? = some (.cells cs t (0, 0)) := by
  obtain ⟨r⟩ := s
  induction r with
  | refl => exact h
  | drewN n _ ih => exact blk_drewN (ih h) n
  | drew _ ih => exact blk_drew (ih h)
  | alloc o _ ih => exact blk_alloc (ih h) o
  | set i u _ ih => exact blk_far (ih h) hn u
inductive StripCR (g : Nat) : World → World → Prop
  | refl (w : World) : StripCR g w w
  | set {w w0 : World} (i : Nat) (u : Value) : StripCR g w w0 → StripCR g (w.setCell ⟨g, i, none⟩ u) w0
class StripC (g : Nat) (w1 : World) (w0 : outParam World) : Prop where
  r : StripCR g w1 w0
instance stripCRefl (g : Nat) (w : World) : StripC g w w := ⟨.refl w⟩
instance stripCSet (g : Nat) (w w0 : World) (i : Nat) (u : Value) [s : StripC g w w0] : StripC g (w.setCell ⟨g, i, none⟩ u) w0 := ⟨.set i u s.r⟩
theorem CF {g g' q : Nat} {w1 w0 : World} {x : Option Value} [s : StripC g' w1 w0] (hn : g ≠ g') (h : w0.cell? ⟨g, q, none⟩ = x) : w1.cell? ⟨g, q, none⟩ = x := by
  obtain ⟨r⟩ := s
  induction r with
  | refl => exact h
  | set i u _ ih => exact (cell_far (p := ⟨g', i, none⟩) (a := ⟨g, q, none⟩) hn u).trans (ih h)
namespace Kd
section
variable {α : Type} {d : Kd α} {e base : Nat} {ok : Nat → Prop} {v : Value} {xs : List α} {w1 w0 : World}
theorem RL [s : Strip w1 w0] (h : d.R e w0 base ok v xs) : d.R e w1 base ok v xs := by
  obtain ⟨r⟩ := s
  induction r with
  | refl => exact h
  | drewN n _ ih => exact R_drewN (ih h) n
  | drew _ ih => exact R_drew (ih h)
  | alloc o _ ih => exact R_alloc (ih h) o
theorem VL [s : Strip w1 w0] (h : V d e w0 base ok v xs) : V d e w1 base ok v xs := by
  obtain ⟨r⟩ := s
  induction r with
  | refl => exact h
  | drewN n _ ih => exact V_drewN (ih h) n
  | drew _ ih => exact V_drew (ih h)
  | alloc o _ ih => exact V_alloc (ih h) o
theorem NL [s : Strip w1 w0] (h : N d e w0 base ok v xs) : N d e w1 base ok v xs := by
  obtain ⟨r⟩ := s
  induction r with
  | refl => exact h
  | drewN n _ ih => exact N_drewN (ih h) n
  | drew _ ih => exact N_drew (ih h)
  | alloc o _ ih => exact N_alloc (ih h) o
theorem SL [s : Strip w1 w0] (h : S d e w0 base ok v xs) : S d e w1 base ok v xs := by
  obtain ⟨r⟩ := s
  induction r with
  | refl => exact h
  | drewN n _ ih => exact S_drewN (ih h) n
  | drew _ ih => exact S_drew (ih h)
  | alloc o _ ih => exact S_alloc (ih h) o
theorem QL [s : Strip w1 w0] (h : d.Q e w0 base ok v xs) : d.Q e w1 base ok v xs := by
  obtain ⟨r⟩ := s
  induction r with
  | refl => exact h
  | drewN n _ ih => exact Q_drewN (ih h) n
  | drew _ ih => exact Q_drew (ih h)
  | alloc o _ ih => exact Q_alloc (ih h) o
theorem RG {g : Nat} [s : StripG g w1 w0] (h : d.R e w0 base (fun k => ok k ∧ k ≠ g) v xs) : d.R e w1 base ok v xs := by
  refine R_mono (show d.R e w1 base (fun k => ok k ∧ k ≠ g) v xs from ?_) (fun _ h_ => h_.1)
  obtain ⟨r⟩ := s
  induction r with
  | refl => exact h
  | drewN n _ ih => exact R_drewN (ih h) n
  | drew _ ih => exact R_drew (ih h)
  | alloc o _ ih => exact R_alloc (ih h) o
  | set i u _ ih => exact R_far (p := ⟨g, i, none⟩) (ih h) (fun _ hk => hk.2) u
theorem VG {g : Nat} [s : StripG g w1 w0] (h : V d e w0 base (fun k => ok k ∧ k ≠ g) v xs) : V d e w1 base ok v xs := by
  refine V_mono (show V d e w1 base (fun k => ok k ∧ k ≠ g) v xs from ?_) (fun _ h_ => h_.1)
  obtain ⟨r⟩ := s
  induction r with
  | refl => exact h
  | drewN n _ ih => exact V_drewN (ih h) n
  | drew _ ih => exact V_drew (ih h)
  | alloc o _ ih => exact V_alloc (ih h) o
  | set i u _ ih => exact V_far (p := ⟨g, i, none⟩) (ih h) (fun _ hk => hk.2) u
theorem RF {g : Nat} [s : StripG g w1 w0] (h : d.R e w0 base ok v xs) (hg : ∀ k, ok k → k ≠ g) : d.R e w1 base ok v xs := by
  obtain ⟨r⟩ := s
  induction r with
  | refl => exact h
  | drewN n _ ih => exact R_drewN (ih h) n
  | drew _ ih => exact R_drew (ih h)
  | alloc o _ ih => exact R_alloc (ih h) o
  | set i u _ ih => exact R_far (p := ⟨g, i, none⟩) (ih h) hg u
theorem VF {g : Nat} [s : StripG g w1 w0] (h : V d e w0 base ok v xs) (hg : ∀ k, ok k → k ≠ g) : V d e w1 base ok v xs := by
  obtain ⟨r⟩ := s
  induction r with
  | refl => exact h
  | drewN n _ ih => exact V_drewN (ih h) n
  | drew _ ih => exact V_drew (ih h)
  | alloc o _ ih => exact V_alloc (ih h) o
  | set i u _ ih => exact V_far (p := ⟨g, i, none⟩) (ih h) hg u
end
end Kd
end Go.Proofs.YtbelnafoidbcjaaW.PrintWords
