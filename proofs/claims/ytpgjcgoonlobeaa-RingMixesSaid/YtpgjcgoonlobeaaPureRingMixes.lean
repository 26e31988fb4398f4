/- What ring.Mix answers is what the document says, for every number of 64 bits without a sign. No condition. -/
import Derived.Test.YtpgjcgoonlobeaaPRingMixesx3
namespace Go.Proofs.Ytpgjcgoonlobeaa.Pure
open Go.RowKit Go.Proofs.Ytpgjcgoonlobeaa.PRingMixes Go.Proofs.YtpgjcgoonlobeaaW.PrintWords Go.Proofs.YtpgjcgoonlobeaaW.PrintLast

/-! ### rounds: a function with enough rounds -/
theorem Ev.pos {α : Type} {c : Prop} [Decidable c] {f g : Nat → Option α} {r : α} (h : c) (k : Ev f r) : Ev (fun n => if c then f n else g n) r := by
  obtain ⟨K, k⟩ := k
  exact ⟨K, fun n hn => by simp only [if_pos h]; exact k n hn⟩
theorem Ev.neg {α : Type} {c : Prop} [Decidable c] {f g : Nat → Option α} {r : α} (h : ¬ c) (k : Ev g r) : Ev (fun n => if c then f n else g n) r := by
  obtain ⟨K, k⟩ := k
  exact ⟨K, fun n hn => by simp only [if_neg h]; exact k n hn⟩
theorem Ev.bind0 {α β : Type} {o : Option α} {f : Nat → α → Option β} {a : α} {r : β} (h : o = some a) (k : Ev (fun n => f n a) r) : Ev (fun n => o.bind (f n)) r := by
  subst h; exact k
theorem Ev.some {α : Type} {a r : α} (h : a = r) : Ev (fun _ => Option.some a) r := h ▸ Ev.now a

/-! ### numbers -/
theorem wf_u64 {a : Int} (hw : (Lit.int .u64 a).wf = true) : 0 ≤ a ∧ a < 18446744073709551616 := by
  simp only [Lit.wf, Bool.and_eq_true, decide_eq_true_eq] at hw
  have e0 : IntKind.u64.min = 0 := by decide
  have e1 : IntKind.u64.max = 18446744073709551615 := by decide
  rw [e0, e1] at hw
  omega
theorem wf_i64 {a : Int} (hw : (Lit.int .i64 a).wf = true) : -9223372036854775808 ≤ a ∧ a ≤ 9223372036854775807 := by
  simp only [Lit.wf, Bool.and_eq_true, decide_eq_true_eq] at hw
  have e0 : IntKind.i64.min = -9223372036854775808 := by decide
  have e1 : IntKind.i64.max = 9223372036854775807 := by decide
  rw [e0, e1] at hw
  omega
theorem w64 {n : Int} (h0 : -9223372036854775808 ≤ n) (h1 : n ≤ 9223372036854775807) : wrap64 n = n := by
  unfold wrap64
  omega
theorem u64_id {x : Int} (h0 : 0 ≤ x) (h1 : x < 18446744073709551616) : IntKind.u64.wrap x = x := by
  simp only [IntKind.wrap, IntKind.bits, IntKind.signed]
  simp
  omega
theorem u64_in (x : Int) : 0 ≤ IntKind.u64.wrap x ∧ IntKind.u64.wrap x < 18446744073709551616 := by
  simp only [IntKind.wrap, IntKind.bits, IntKind.signed]
  simp
  omega
theorem bits_in (x y : Int) : 0 ≤ Go.bits .xor .u64 x y ∧ Go.bits .xor .u64 x y < 18446744073709551616 := u64_in _
theorem mix_some (x : Int) : ∃ m, ring_Mix.f x = some m ∧ 0 ≤ m ∧ m < 18446744073709551616 := ⟨_, rfl, (bits_in _ _).1, (bits_in _ _).2⟩
theorem knows_ok : Ev haywainlaw09_knows.f true := Ev.of haywainlaw09_knows.mono (k := 60) (by decide +kernel)
theorem u64_div {x : Int} (c : Int) (h0 : 0 ≤ x) (h1 : x < 18446744073709551616) (hc : 0 < c) : IntKind.u64.wrap (Int.tdiv x c) = x / c := by
  rw [Int.tdiv_eq_ediv_of_nonneg h0]
  refine u64_id (Int.ediv_nonneg h0 (by omega)) (Int.lt_of_le_of_lt (Int.ediv_le_self _ h0) h1)
theorem mix_eq {x : Int} (h0 : 0 ≤ x) (h1 : x < 18446744073709551616) : haywainref09_Mix.f x = ring_Mix.f x := by
  unfold ring_Mix.f haywainref09_Mix.f
  rw [u64_div _ h0 h1 (by decide)]
  rw [u64_div _ (u64_in _).1 (u64_in _).2 (by decide)]
  rw [u64_div _ (u64_in _).1 (u64_in _).2 (by decide)]
theorem RingMixes : haywainlaw09_RingMixes.Pure := by
  intro a hw
  obtain ⟨h0, h1⟩ := wf_u64 hw
  refine Ev.rounds ?_
  unfold haywainlaw09_RingMixes.f
  obtain ⟨m, hm, _⟩ := mix_some a
  refine Ev.bind0 hm ?_
  refine Ev.bind0 ((mix_eq h0 h1).trans hm) ?_
  refine Ev.pos rfl ?_
  exact Ev.bind knows_ok (Ev.now true)

end Go.Proofs.Ytpgjcgoonlobeaa.Pure
