/- Places and keys of the ring are what the document says, for all numbers. No condition. -/
import Derived.Test.YtpgjcgoonlobeaaPRingPlacesx3
namespace Go.Proofs.Ytpgjcgoonlobeaa.Pure
open Go.RowKit Go.Proofs.Ytpgjcgoonlobeaa.PRingPlaces Go.Proofs.YtpgjcgoonlobeaaW.PrintWords Go.Proofs.YtpgjcgoonlobeaaW.PrintLast

/-! ### rounds: a function with enough rounds -/
theorem Ev.pos {α : Type} {c : Prop} [Decidable c] {f g : Nat → Option α} {r : α} (h : c) (k : Ev f r) : Ev (fun n => if c then f n else g n) r := by
  obtain ⟨K, k⟩ := k
  exact ⟨K, fun n hn => by simp only [if_pos h]; exact k n hn⟩
theorem Ev.neg {α : Type} {c : Prop} [Decidable c] {f g : Nat → Option α} {r : α} (h : ¬ c) (k : Ev g r) : Ev (fun n => if c then f n else g n) r := by
  obtain ⟨K, k⟩ := k
  exact ⟨K, fun n hn => by simp only [if_neg h]; exact k n hn⟩
theorem Ev.bind0 {α β : Type} {o : Option α} {f : Nat → α → Option β} {a : α} {r : β} (h : o = some a) (k : Ev (fun n => f n a) r) : Ev (fun n => o.bind (f n)) r := by
  subst h; exact k
theorem Ev.some {α : Type} {a r : α} (h : a = r) : Ev (fun _ => Option.some a) r := h ▸ Ev.now a

/-! ### numbers -/
theorem wf_u64 {a : Int} (hw : (Lit.int .u64 a).wf = true) : 0 ≤ a ∧ a < 18446744073709551616 := by
  simp only [Lit.wf, Bool.and_eq_true, decide_eq_true_eq] at hw
  have e0 : IntKind.u64.min = 0 := by decide
  have e1 : IntKind.u64.max = 18446744073709551615 := by decide
  rw [e0, e1] at hw
  omega
theorem wf_i64 {a : Int} (hw : (Lit.int .i64 a).wf = true) : -9223372036854775808 ≤ a ∧ a ≤ 9223372036854775807 := by
  simp only [Lit.wf, Bool.and_eq_true, decide_eq_true_eq] at hw
  have e0 : IntKind.i64.min = -9223372036854775808 := by decide
  have e1 : IntKind.i64.max = 9223372036854775807 := by decide
  rw [e0, e1] at hw
  omega
theorem w64 {n : Int} (h0 : -9223372036854775808 ≤ n) (h1 : n ≤ 9223372036854775807) : wrap64 n = n := by
  unfold wrap64
  omega
theorem u64_id {x : Int} (h0 : 0 ≤ x) (h1 : x < 18446744073709551616) : IntKind.u64.wrap x = x := by
  simp only [IntKind.wrap, IntKind.bits, IntKind.signed]
  simp
  omega
theorem u64_in (x : Int) : 0 ≤ IntKind.u64.wrap x ∧ IntKind.u64.wrap x < 18446744073709551616 := by
  simp only [IntKind.wrap, IntKind.bits, IntKind.signed]
  simp
  omega
theorem bits_in (x y : Int) : 0 ≤ Go.bits .xor .u64 x y ∧ Go.bits .xor .u64 x y < 18446744073709551616 := u64_in _
theorem mix_some (x : Int) : ∃ m, ring_Mix.f x = some m ∧ 0 ≤ m ∧ m < 18446744073709551616 := ⟨_, rfl, (bits_in _ _).1, (bits_in _ _).2⟩
theorem knows_ok : Ev haywainlaw09_knows.f true := Ev.of haywainlaw09_knows.mono (k := 60) (by decide +kernel)
theorem u64_div {x : Int} (c : Int) (h0 : 0 ≤ x) (h1 : x < 18446744073709551616) (hc : 0 < c) : IntKind.u64.wrap (Int.tdiv x c) = x / c := by
  rw [Int.tdiv_eq_ediv_of_nonneg h0]
  refine u64_id (Int.ediv_nonneg h0 (by omega)) (Int.lt_of_le_of_lt (Int.ediv_le_self _ h0) h1)
theorem mix_eq {x : Int} (h0 : 0 ≤ x) (h1 : x < 18446744073709551616) : haywainref09_Mix.f x = ring_Mix.f x := by
  unfold ring_Mix.f haywainref09_Mix.f
  rw [u64_div _ h0 h1 (by decide)]
  rw [u64_div _ (u64_in _).1 (u64_in _).2 (by decide)]
  rw [u64_div _ (u64_in _).1 (u64_in _).2 (by decide)]
theorem place_in {w i : Int} (hw : 1 ≤ w) (hw1 : w ≤ 99) (hi : 0 ≤ i) (hi1 : i < 8) : ∃ m, ring_Mix.f (1000 * w + i) = some m ∧ ring_Place.f w i = some (m / 4294967296 % 4294967296) ∧ 0 ≤ m ∧ m < 18446744073709551616 := by
  obtain ⟨m, hm, h0, h1⟩ := mix_some (1000 * w + i)
  refine ⟨m, hm, ?_, h0, h1⟩
  unfold ring_Place.f
  rw [if_neg (by omega), if_neg (by omega), if_neg (by omega), if_neg (by omega), w64 (n := w * 1000) (by omega) (by omega), w64 (by omega) (by omega), u64_id (by omega) (by omega), Int.mul_comm, hm]
  rfl
theorem place_out {w i : Int} (h : ¬ (1 ≤ w ∧ w ≤ 99 ∧ 0 ≤ i ∧ i < 8)) : ring_Place.f w i = some 0 := by
  unfold ring_Place.f
  by_cases h1 : w < 1
  · rw [if_pos h1]
  rw [if_neg h1]
  by_cases h2 : w > 99
  · rw [if_pos h2]
  rw [if_neg h2]
  by_cases h3 : i < 0
  · rw [if_pos h3]
  rw [if_neg h3, if_pos (by omega)]
theorem place_some (w i : Int) : ∃ m, ring_Place.f w i = some m ∧ 0 ≤ m ∧ m < 4294967296 := by
  by_cases h : 1 ≤ w ∧ w ≤ 99 ∧ 0 ≤ i ∧ i < 8
  · obtain ⟨m, _, h1, _⟩ := place_in h.1 h.2.1 h.2.2.1 h.2.2.2
    exact ⟨_, h1, by omega, by omega⟩
  · exact ⟨0, place_out h, by omega, by omega⟩
theorem key_in {p : Int} (h0 : 0 ≤ p) (h1 : p < 6) : ∃ m, ring_Mix.f (1000000 + p) = some m ∧ ring_Key.f p = some (m / 4294967296 % 4294967296) ∧ 0 ≤ m ∧ m < 18446744073709551616 := by
  obtain ⟨m, hm, g0, g1⟩ := mix_some (1000000 + p)
  refine ⟨m, hm, ?_, g0, g1⟩
  unfold ring_Key.f
  rw [if_neg (by omega), if_neg (by omega), w64 (by omega) (by omega), u64_id (by omega) (by omega), hm]
  rfl
theorem key_out {p : Int} (h : ¬ (0 ≤ p ∧ p < 6)) : ring_Key.f p = some 0 := by
  unfold ring_Key.f
  by_cases h1 : p < 0
  · rw [if_pos h1]
  rw [if_neg h1, if_pos (by omega)]
theorem key_some (p : Int) : ∃ m, ring_Key.f p = some m ∧ 0 ≤ m ∧ m < 4294967296 := by
  by_cases h : 0 ≤ p ∧ p < 6
  · obtain ⟨m, _, h1, _⟩ := key_in h.1 h.2
    exact ⟨_, h1, by omega, by omega⟩
  · exact ⟨0, key_out h, by omega, by omega⟩
theorem place_eq (w i : Int) : haywainref09_Place.f w i = ring_Place.f w i := by
  by_cases h : 1 ≤ w ∧ w ≤ 99 ∧ 0 ≤ i ∧ i < 8
  · obtain ⟨m, hm, hp, h0, h1⟩ := place_in h.1 h.2.1 h.2.2.1 h.2.2.2
    rw [hp]
    unfold haywainref09_Place.f
    rw [if_pos (by omega), if_pos (by omega), if_pos (by omega), if_pos (by omega), w64 (n := 1000 * w) (by omega) (by omega), w64 (by omega) (by omega), u64_id (by omega) (by omega), mix_eq (by omega) (by omega), hm]
    simp only [Option.bind_some]
    rw [u64_div _ h0 h1 (by decide)]
  · rw [place_out h]
    unfold haywainref09_Place.f
    by_cases h1 : w ≥ 1
    · rw [if_pos h1]
      by_cases h2 : w ≤ 99
      · rw [if_pos h2]
        by_cases h3 : i ≥ 0
        · rw [if_pos h3, if_neg (by omega)]
        · rw [if_neg h3]
      · rw [if_neg h2]
    · rw [if_neg h1]
theorem key_eq (p : Int) : haywainref09_Key.f p = ring_Key.f p := by
  by_cases h : 0 ≤ p ∧ p < 6
  · obtain ⟨m, hm, hp, h0, h1⟩ := key_in h.1 h.2
    rw [hp]
    unfold haywainref09_Key.f
    rw [if_pos (by omega), if_pos (by omega), w64 (by omega) (by omega), u64_id (by omega) (by omega), mix_eq (by omega) (by omega), hm]
    simp only [Option.bind_some]
    rw [u64_div _ h0 h1 (by decide)]
  · rw [key_out h]
    unfold haywainref09_Key.f
    by_cases h1 : p ≥ 0
    · rw [if_pos h1, if_neg (by omega)]
    · rw [if_neg h1]
theorem RingPlaces : haywainlaw09_RingPlaces.Pure := by
  intro a b c _ _ _
  refine Ev.rounds ?_
  unfold haywainlaw09_RingPlaces.f
  obtain ⟨m, hm, _⟩ := place_some a b
  obtain ⟨q, hq, _⟩ := key_some c
  refine Ev.bind0 hm ?_
  refine Ev.bind0 ((place_eq a b).trans hm) ?_
  refine Ev.pos rfl ?_
  refine Ev.bind0 hq ?_
  refine Ev.bind0 ((key_eq c).trans hq) ?_
  refine Ev.pos rfl ?_
  exact Ev.bind knows_ok (Ev.now true)

end Go.Proofs.Ytpgjcgoonlobeaa.Pure
