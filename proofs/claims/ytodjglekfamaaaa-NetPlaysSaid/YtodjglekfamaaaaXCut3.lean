/- append(xs[:i:i], xs[i+1:]...) over a row of the call's own: what comes of it is read without the i-th element, and lies in the row or in new memory. No condition but room. -/
import Derived.ArgAppend
import Derived.Test.YtodjglekfamaaaaWMore
set_option linter.unusedVariables false
namespace Go.Proofs.Ytodjglekfamaaaa.Cut3
open Go.RowKit Go.Proofs.YtodjglekfamaaaaW.PrintWords

section
variable {P : Program}
theorem cut_to3 (t e : TypeId) (kh km : IntKind) {i : TypeInfo} (ht : P.underlying t = some (.slice e)) (hi : P.info? e = some i) (A : Option Addr) (n c : Nat) (j : Int) (h0 : 0 ≤ j) (hm : j ≤ n) (hc : n ≤ c) :
    ∀ W : World, (Instr.slice t (.slice A n c) none (some (.int kh j)) (some (.int km j))).run P W = .ok (.slice A j.toNat j.toNat) W := by
  intro W
  have hel : P.elem t = e := by simp [Program.elem, ht]
  have ha : (A.map fun x => x.add 0) = A := by cases A <;> simp [Addr.add]
  have b1 : (Instr.sliceBound (.int km j) c .slice3Acap).run P W = .ok j.toNat W := run_sliceBound (P := P) W km j c .slice3Acap h0 (by omega)
  have b2 : (Instr.sliceBound (.int kh j) j.toNat .slice3B).run P W = .ok j.toNat W := run_sliceBound (P := P) W kh j j.toNat .slice3B h0 (by omega)
  simp [Instr.slice, run_underlying ht, Instr.sliceBounds, b1, b2, sizeOf, typeInfo, hi, Result.andThen, ha]
end
section
variable {P : Program} {α : Type} {e base : Nat}
theorem cut3_run (d : Kd α) {W : World} (base : Nat) (t ty e : TypeId) (i : TypeInfo) (z : Value) (bytes : Nat) (ht : P.underlying t = some (.slice e)) (hi : P.info? e = some i) (hz : i.zero = some z) (hsz : i.size = d.sz) (hby : i.bytes = bytes) (hzs : z.cells.size = d.sz) (hs0 : 0 < d.sz)
    (hE : d.E = []) (hM : ∀ (W W' : World) (b b' : Nat) (ok ok' : Nat → Prop) (x : α) (cs : List Value), d.M W b ok x cs → d.M W' b' ok' x cs)
    {g n c k : Nat} {xs : List α} {ok : Nat → Prop} (HO : d.R e W base ok (.slice (some ⟨g, 0, none⟩) n c) xs) (hk : k < n) {A : Option Addr} (hA : A = if c = k + 1 then some ⟨g, 0, none⟩ else (some (⟨g, 0, none⟩ : Addr)).map (·.add ((k + 1) * d.sz))) (c2 : Nat) (hl : n * bytes ≤ 140737488355328) :
    ∃ v1 w1, (Builtin.append_ #[t, t] ty #[.slice (some ⟨g, 0, none⟩) k k, .slice A (n - (k + 1)) c2]).run P W = .ok v1 w1 ∧ Kd.V d e w1 base (fun q => q = g ∨ W.heap.size ≤ q) v1 (xs.eraseIdx k) ∧ W.grownBy w1 none := by
  obtain ⟨hn, hnc, _⟩ := Kd.R_reads' HO
  have HT := Kd.R_tight hE HO
  obtain ⟨hok, inner, hown, hr⟩ := HO
  have hin : inner.length = n * d.sz := by rw [hr.1, hn]
  rcases hown.2 with ⟨hv, _⟩ | ⟨g', cap', cur, hv, hb, hh, _, hcm, hcs, htake⟩
  · cases hv
  injection hv with ha _ hc
  injection ha with ha
  injection ha with hg
  subst hg; subst hc
  rw [← hn] at htake
  obtain ⟨news, hnews⟩ : ∃ news, news = inner.drop ((k + 1) * d.sz) := ⟨_, rfl⟩
  have hnl : news.length = (n - (k + 1)) * d.sz := by rw [hnews, List.length_drop, hin, Nat.sub_mul]
  have hle : (k + 1) * d.sz ≤ n * d.sz := Nat.mul_le_mul_right _ hk
  have hkk : k * d.sz ≤ n * d.sz := Nat.mul_le_mul_right _ (Nat.le_of_lt hk)
  have hcur : ∀ q, q < n * d.sz → cur.toList[q]? = inner[q]? := by
    intro q hq
    rw [← htake, List.getElem?_take, if_pos hq]
  obtain ⟨a, rfl, hcell⟩ : ∃ a, A = some a ∧ ∀ j u, news[j]? = some u → W.cell? (a.add j) = some u := by
    by_cases hck : c = k + 1
    · rw [if_pos hck] at hA
      refine ⟨_, hA, fun j u hu => ?_⟩
      have h0 : news = [] := List.eq_nil_of_length_eq_zero (by rw [hnl, show n - (k + 1) = 0 by omega, Nat.zero_mul])
      rw [h0] at hu
      simp at hu
    · rw [if_neg hck, Option.map_some] at hA
      refine ⟨_, hA, fun j u hu => ?_⟩
      have hj : j < news.length := (List.getElem?_eq_some_iff.1 hu).1
      have hnl' : news.length = n * d.sz - (k + 1) * d.sz := by rw [hnl, Nat.sub_mul]
      rw [Go.Proofs.YtodjglekfamaaaaW.PrintWords.add_add, add_at, cell_of_row W g _ cur e (0, 0) hh, ← Array.getElem?_toList]
      rw [hnews, List.getElem?_drop] at hu
      rw [← hu, Nat.zero_add]
      exact hcur _ (by omega)
  have hone : ∀ u ∈ news, u.oneCell' = true := by
    intro u hu
    have hu' : u ∈ inner := by rw [hnews] at hu; exact List.mem_of_mem_drop hu
    obtain ⟨q, hq, rfl⟩ := List.mem_iff_getElem.1 hu'
    have hql : q / d.sz < xs.length := by
      rw [Nat.div_lt_iff_lt_mul hs0, ← hr.1]
      exact hq
    refine d.K_one (d.K_of_M (hr.2 (q / d.sz) _ (List.getElem?_eq_getElem hql))) _ ?_
    rw [List.mem_iff_getElem?]
    refine ⟨q % d.sz, ?_⟩
    rw [List.getElem?_take, if_pos (Nat.mod_lt _ hs0), List.getElem?_drop, Nat.mul_comm, Nat.div_add_mod, List.getElem?_eq_getElem hq]
  have hel : (xs.eraseIdx k).length = n - 1 := by rw [List.length_eraseIdx_of_lt (by omega), hn]
  by_cases hm : n = k + 1
  · have h0 : news = [] := List.eq_nil_of_length_eq_zero (by rw [hnl, show n - (k + 1) = 0 by omega, Nat.zero_mul])
    have hrun := run_append_room_cells (P := P) (w := W) t ty e i ht hi g 0 k k a (n - (k + 1)) c2 news (by rw [hnl, hsz]) hcell hone (by omega) (fun j hj => by rw [h0] at hj; simp at hj) (fun j hj => by rw [h0] at hj; simp at hj)
    rw [h0, show n - (k + 1) = 0 by omega, Nat.add_zero] at hrun
    have hx : xs.eraseIdx k = xs.take k := by
      rw [List.eraseIdx_eq_take_drop_succ, List.drop_eq_nil_of_le (by omega), List.append_nil]
    have hxl : (xs.take k).length = k := by rw [List.length_take]; omega
    refine ⟨_, W, by rw [show n - (k + 1) = 0 by omega]; exact hrun, ?_, ⟨rfl, rfl, rfl, Nat.le_refl _, fun _ _ _ => rfl⟩⟩
    rw [hx]
    have hF : Kd.F d W (fun q => q = g ∨ W.heap.size ≤ q) (some ⟨g, 0, none⟩) xs.length xs := by
      rw [← hn]
      exact Kd.F_mono (Kd.R_F HT) (fun q hq => .inl (by simpa [Value.ownBlock] using hq))
    have := Kd.V_mk (e := e) (base := base) (c := k) (by rw [hxl]; exact Nat.le_refl _) (Kd.F_take hF (m := k) (by omega))
    rw [hxl] at this
    exact this
  · have holds : ∀ j u, (inner.take (k * d.sz))[j]? = some u → W.cell? ((⟨g, 0, none⟩ : Addr).add j) = some u := by
      intro j u hu
      have hj : j < (inner.take (k * d.sz)).length := (List.getElem?_eq_some_iff.1 hu).1
      rw [List.length_take] at hj
      rw [List.getElem?_take, if_pos (by omega)] at hu
      rw [add_at, cell_of_row W g _ cur e (0, 0) hh, ← Array.getElem?_toList, Nat.zero_add, ← hu]
      exact hcur _ (by omega)
    obtain ⟨v1, w1, hrun, ho, hg⟩ := run_append_arg_grows (P := P) W t ty e i z d.sz bytes ht hi hz hsz hby hzs hs0 ⟨g, 0, none⟩ k k (inner.take (k * d.sz)) (by rw [List.length_take]; omega) holds a (n - (k + 1)) c2 news hnl hcell (by omega)
      (by have : n ≤ maxLen := by omega
          omega) (Nat.le_trans (Nat.mul_le_mul_right _ (by omega)) hl)
    refine ⟨v1, w1, hrun, ?_, hg⟩
    refine Kd.R_V (base := W.heap.size) ⟨?_, inner.take (k * d.sz) ++ news, ?_, ?_⟩
    · intro q hq
      refine .inr ?_
      exact own_base ho q hq
    · rw [hel, show n - 1 = k + (n - (k + 1)) by omega]; exact ho
    · rw [List.eraseIdx_eq_take_drop_succ]
      subst hnews
      exact Kd.reps_append ((Kd.reps_take hr (by omega)).imp_ (fun p q hp => hM _ _ _ _ _ _ _ _ hp)) ((Kd.reps_drop hr).imp_ (fun p q hp => hM _ _ _ _ _ _ _ _ hp))
end
section
variable {P : Program} {ops : Array Oper} {rest : List Oper} {o : Oper} {a : Act} {Q : Exit → Act → World → Prop} {Kc : Act → World → Prop} {α : Type}
theorem cut3_step (d : Kd α) {w0 W : World} (base : Nat) (hw : Region.wanted o (yielded ops a.tmps) = true) (s x : Operand) (t e : TypeId) (z : Value) (bytes : Nat) (ho : o.op = .call { callee := .builtin .append, args := #[s, x], argTypes := #[t, t] })
    (ht : P.underlying t = some (.slice e)) (hinfo : (P.info? e).map (fun i => (i.zero, i.size, i.bytes)) = some (some z, d.sz, bytes)) (hzs : z.cells.size = d.sz) (hs0 : 0 < d.sz)
    (hE : d.E = []) (hM : ∀ (W W' : World) (b b' : Nat) (ok ok' : Nat → Prop) (x : α) (cs : List Value), d.M W b ok x cs → d.M W' b' ok' x cs)
    {g n c k m c2 : Nat} {A : Option Addr} {xs : List α} {ok : Nat → Prop}
    (hs : a.eval s = .slice (some ⟨g, 0, none⟩) k k) (hx : a.eval x = .slice A m c2) (hA : A = if c = k + 1 then some ⟨g, 0, none⟩ else (some (⟨g, 0, none⟩ : Addr)).map (·.add ((k + 1) * d.sz))) (hm : m = n - (k + 1))
    (HO : d.R e W base ok (.slice (some ⟨g, 0, none⟩) n c) xs) (hk : k < n) (hl : n * bytes ≤ 140737488355328) (HB : Below base w0 W) (hbase : base ≤ W.heap.size)
    (h : ∀ v1 w1, Kd.V d e w1 base (fun q => q = g ∨ W.heap.size ≤ q) v1 (xs.eraseIdx k) → Below base w0 w1 → W.grownBy w1 none → Kc (a.put o.dst v1) w1) :
    if Region.wanted o (yielded ops a.tmps) = true then Oper.wp P o a W Kc Q else Kc (a.put o.dst undef) W := by
  obtain ⟨i0, hi, hi2⟩ := Option.map_eq_some_iff.1 hinfo
  simp only [Prod.mk.injEq] at hi2
  obtain ⟨hz, hsz, hby⟩ := hi2
  subst hm
  obtain ⟨v1, w1, hr, h1, h2⟩ := cut3_run (P := P) d base t o.type e i0 z bytes ht hi hz hsz hby hzs hs0 hE hM HO hk hA c2 hl
  rw [if_pos hw]
  unfold Oper.wp execOp
  simp only [ho, resolve, invoke, builtin, Sem.run_bind, Sem.run_pure, Result.andThen_ok, List.map_toArray, List.map_cons, List.map_nil, hs, hx, hr]
  exact h v1 w1 h1 (HB.grown h2 hbase (fun k hk => by cases hk)) h2
end
end Go.Proofs.Ytodjglekfamaaaa.Cut3
