/- An argument that reads as data holds a value of its kind: whole numbers, bools, strings, slices and structs of these, to any depth. No condition but the row's own on sizes. -/
import Derived.Deep.Slices
import Derived.SizedLaws
import Derived.ChangeArms
import Derived.RowKit
import Derived.Test.YtaanojcdmojgbaaWWords
set_option linter.unusedVariables false
namespace Go.Proofs.Ytaanojcdmojgbaa.Open
open Go.ChangeShapes Go.WideShapes Go.RowKit Go.Deep Go.Proofs.YtaanojcdmojgbaaW.PrintWords

/-- What reads as data of type t, within its weights, is of kind d, and ok. -/
def Opens {α : Type} (P : Program) (t : TypeId) (d : Kd α) (ok : α → Prop) : Prop :=
  ∀ (H : Type) (enc : TypeId × Value → H) (w : World) (base : Nat) (spare : Nat → Bool) (held : Bool) (fuel : Nat) (cs : List Value) (x : DataW H × List MemPlace),
    DataW.trod enc P w base spare held fuel t cs = some x → (∀ n ∈ x.1.weights P t, n ≤ reachBytes) → ∃ a : α, d.K w a cs ∧ ok a

theorem opens_int {P : Program} {t : TypeId} {k : IntKind} (ht : P.underlying t = some (.int k)) : Opens P t (Kd.int k) (fun a => (Lit.int k a).wf = true) := by
  intro H enc w base spare held fuel cs x h _
  obtain ⟨n, rfl, rfl, hw⟩ := DataW.trod_int ht h
  exact ⟨n, rfl, hw⟩
theorem opens_bool {P : Program} {t : TypeId} (ht : P.underlying t = some .bool) : Opens P t Kd.bool (fun _ => True) := by
  intro H enc w base spare held fuel cs x h _
  obtain ⟨n, rfl, rfl⟩ := DataW.trod_bool ht h
  exact ⟨n, rfl, trivial⟩
theorem opens_string {P : Program} {t : TypeId} (ht : P.underlying t = some .string) : Opens P t Kd.string (fun s => s.size ≤ 140737488351232) := by
  intro H enc w base spare held fuel cs x h hz
  obtain ⟨s, rfl, rfl, hs⟩ := DataW.trod_string ht h
  refine ⟨s, rfl, ?_⟩
  have := hz s.data.toList.length (by simp [DataW.weights])
  simpa [reachBytes] using this
theorem weightsAll_mem {H : Type} {P : Program} {e : TypeId} : ∀ {l : List (DataW H)} {d : DataW H}, d ∈ l → ∀ n ∈ d.weights P e, n ∈ DataW.weightsAll P e l
  | d0 :: r, d, h, n, hn => by
    simp only [DataW.weightsAll, List.mem_append]
    rcases List.mem_cons.1 h with rfl | h
    · exact .inl hn
    · exact .inr (weightsAll_mem h n hn)
theorem opens_slice {α : Type} {P : Program} {t e : TypeId} {d : Kd α} {ok : α → Prop} {B : Nat} (ht : P.underlying t = some (.slice e)) (hc : P.cellsOf e = d.sz) (hB : P.bytesOf e = B) (he : Opens P e d ok) :
    Opens P t (Kd.slice e d) (fun l => l.length ≤ maxLen ∧ l.length * B ≤ 140737488351232 ∧ ∀ a ∈ l, ok a) := by
  intro H enc w base spare held fuel cs x h hz
  rcases open_slice ht h with ⟨rfl, rfl⟩ | ⟨a, len, cap, m, n, D, Pl, rfl, hb, hl, hm, hmm, rfl, hi⟩
  · exact ⟨[], ⟨none, 0, rfl, Nat.le_refl _, rfl, by simp, fun hn => absurd hn (by simp)⟩, by simp, by simp, by simp⟩
  have hlm : len ≤ m := by rw [hmm]; split <;> omega
  have hE : ∀ i, i < len → ∃ a' : α, (∃ cs', d.K w a' cs' ∧ ∀ j u, cs'[j]? = some u → w.cell? (a.add (i * d.sz + j)) = some u) ∧ ok a' := by
    intro i hil
    obtain ⟨cs', hcs, htr⟩ := hi i (by omega)
    obtain ⟨a', hK, hok⟩ := he H enc w base spare held n cs' _ htr fun k hk => by
      refine hz k ?_
      simp only [DataW.weights, ht, List.mem_cons, List.mem_append]
      refine .inr (.inl (weightsAll_mem (List.mem_map.2 ⟨i, List.mem_range.2 hil, rfl⟩) k hk))
    rw [hc] at hcs
    obtain ⟨_, hlen, hat⟩ := World.cells?_some hcs
    refine ⟨a', ⟨cs', hK, fun j u hj => ?_⟩, hok⟩
    have hjl : j < cs'.length := (List.getElem?_eq_some_iff.1 hj).1
    have := hat j (by omega)
    rw [← Go.Deep.add_add, this, hj]
  classical
  rcases Nat.eq_zero_or_pos len with rfl | hpos
  · exact ⟨[], ⟨some a, cap, rfl, by simp, rfl, by simp, fun hn => absurd hn (by simp)⟩, by simp, by simp, by simp⟩
  obtain ⟨a0, _⟩ := hE 0 hpos
  have : Inhabited α := ⟨a0⟩
  obtain ⟨V, hV⟩ := choose_lt hE
  refine ⟨(List.range len).map V, ⟨some a, cap, by simp, by simpa using hl, ?_⟩, by simp; omega, ?_, ?_⟩
  · refine ⟨by simp, by simp only [maxLen] at hm; simp; omega, fun _ => ⟨a, rfl, fun j p hj => ?_⟩⟩
    rw [List.getElem?_map] at hj
    obtain ⟨i, hij, rfl⟩ := Option.map_eq_some_iff.1 hj
    obtain ⟨hjl, hji⟩ := List.getElem?_eq_some_iff.1 hij
    simp at hjl hji
    subst hji
    obtain ⟨⟨cs', hK, hcell⟩, _⟩ := hV j hjl
    exact ⟨cs', d.K_len hK, hK, hcell⟩
  · have := hz _ (by simp only [DataW.weights, ht]; exact List.mem_cons_self ..)
    rw [hB] at this
    simp only [List.length_map, List.length_range] at this ⊢
    exact Nat.le_trans (Nat.mul_le_mul_right _ (Nat.le_add_right _ _)) (by simpa [reachBytes] using this)
  · intro a' ha'
    obtain ⟨i, hi', rfl⟩ := List.mem_map.1 ha'
    exact (hV i (List.mem_range.1 hi')).2

/-- What the fields from off on read as, together. -/
def OpensF {α : Type} (P : Program) (fs : List Field) (off : Nat) (d : Kd α) (ok : α → Prop) : Prop :=
  ∀ (H : Type) (enc : TypeId × Value → H) (w : World) (base : Nat) (spare : Nat → Bool) (held : Bool) (fuel : Nat) (cs : List Value) (ys : List (DataW H × List MemPlace)),
    ys.length = fs.length → (∀ (i : Nat) (f : Field), fs[i]? = some f → DataW.trod enc P w base spare held fuel f.type ((cs.drop f.offset).take (P.cellsOf f.type)) = ys[i]?) →
    cs.length = off + d.sz → (∀ n ∈ DataW.weightsEach P (fs.map (·.type)) (ys.map (·.1)), n ≤ reachBytes) → ∃ a : α, d.K w a (cs.drop off) ∧ ok a
theorem opensF_one {α : Type} {P : Program} {f : Field} {d : Kd α} {ok : α → Prop} {off : Nat} (ho : f.offset = off) (hc : P.cellsOf f.type = d.sz) (h : Opens P f.type d ok) : OpensF P [f] off d ok := by
  intro H enc w base spare held fuel cs ys hl hf hlen hz
  match ys, hl with
  | [y], _ =>
    have h0 := hf 0 f rfl
    rw [ho, hc, List.take_of_length_le (by simp; omega)] at h0
    exact h H enc w base spare held fuel _ y h0 fun n hn => hz n (by simpa [DataW.weightsEach] using hn)
theorem opensF_cons {α β : Type} {P : Program} {f : Field} {fs : List Field} {d : Kd α} {d' : Kd β} {ok : α → Prop} {ok' : β → Prop} {off off' : Nat} (ho : f.offset = off) (hc : P.cellsOf f.type = d.sz) (h : Opens P f.type d ok) (h' : OpensF P fs off' d' ok') (he : off' = off + d.sz) :
    OpensF P (f :: fs) off (Kd.pair d d') (fun x => ok x.1 ∧ ok' x.2) := by
  intro H enc w base spare held fuel cs ys hl hf hlen hz
  match ys, hl with
  | y :: ys, hl =>
    have hl' : cs.length = off + (d.sz + d'.sz) := hlen
    have h0 := hf 0 f rfl
    rw [ho, hc] at h0
    obtain ⟨a, hK, hok⟩ := h H enc w base spare held fuel _ y h0 fun n hn => hz n (by simp only [List.map_cons, DataW.weightsEach, List.mem_append]; exact .inl hn)
    obtain ⟨b, hK', hok'⟩ := h' H enc w base spare held fuel cs ys (by simpa using hl) (fun i g hg => by simpa using hf (i + 1) g (by simpa using hg)) (by omega) fun n hn => hz n (by simp only [List.map_cons, DataW.weightsEach, List.mem_append]; exact .inr hn)
    refine ⟨(a, b), ⟨(cs.drop off).take d.sz, cs.drop off', ?_, hK, hK'⟩, hok, hok'⟩
    rw [he, ← List.drop_drop, List.take_append_drop]
theorem opens_struct {α : Type} {P : Program} {t : TypeId} {fs : Array Field} {d : Kd α} {ok : α → Prop} (ht : P.underlying t = some (.struct fs)) (hc : P.cellsOf t = d.sz) (h : OpensF P fs.toList 0 d ok) : Opens P t d ok := by
  intro H enc w base spare held fuel cs x hx hz
  obtain ⟨xs, n, _, rfl, hl, hlen, hf⟩ := DataW.trod_struct ht hx
  refine h H enc w base spare held n cs xs (by simpa using hlen) (fun i f hfi => hf i f (by simpa using hfi)) (by omega) fun k hk => hz k ?_
  simp only [DataW.weights, ht]
  exact hk
theorem opens_iso {α β : Type} {P : Program} {t : TypeId} {d : Kd α} {ok : α → Prop} {f : β → α} (h : Opens P t d ok) (g : α → β) (hg : ∀ a, f (g a) = a) : Opens P t (Kd.iso d f) (fun b => ok (f b)) := by
  intro H enc w base spare held fuel cs x hx hz
  obtain ⟨a, hK, hok⟩ := h H enc w base spare held fuel cs x hx hz
  exact ⟨g a, by show d.K w (f (g a)) cs; rw [hg]; exact hK, by show ok (f (g a)); rw [hg]; exact hok⟩
theorem opens_weak {α : Type} {P : Program} {t : TypeId} {d : Kd α} {ok ok' : α → Prop} (h : Opens P t d ok) (hw : ∀ a, ok a → ok' a) : Opens P t d ok' := by
  intro H enc w base spare held fuel cs x hx hz
  obtain ⟨a, hK, hok⟩ := h H enc w base spare held fuel cs x hx hz
  exact ⟨a, hK, hw a hok⟩
end Go.Proofs.Ytaanojcdmojgbaa.Open
