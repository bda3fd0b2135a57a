/- From a row's reading ('trod') of an argument to the printed walks' words: whatever reads as data of type t has the cells of a value of kind d. -/
import Derived.Test.YtojnknpgnohegaaDoorX
import Derived.ChangeArms
import Derived.DataReads
import Derived.WideShapes
namespace Go.Proofs.YtojnknpgnohegaaDoorW.PrintWords
open Go.RowKit Go.WideShapes

def Opens {α : Type} (P : Program) (w : World) (t : TypeId) (d : Kd α) (good : α → Prop) : Prop :=
  P.cellsOf t = d.sz ∧ ∀ (H : Type) (enc : TypeId × Value → H) (spare : Nat → Bool) (held : Bool) (fuel : Nat) (cs : List Value) (x : DataW H × List MemPlace),
    DataW.trod enc P w 0 spare held fuel t cs = some x → ∃ y, d.K w y cs ∧ good y
section
variable {P : Program} {w : World} {t e : TypeId}
theorem Opens.int {k : IntKind} (ht : P.underlying t = some (.int k)) (hc : P.cellsOf t = 1) : Opens P w t (Kd.int k) (fun n => (Lit.int k n).wf = true) :=
  ⟨hc, fun _ _ _ _ _ _ _ h => by
    obtain ⟨m, rfl, _, hw⟩ := DataW.trod_int ht h
    exact ⟨m, rfl, hw⟩⟩
theorem Opens.bool (ht : P.underlying t = some .bool) (hc : P.cellsOf t = 1) : Opens P w t Kd.bool (fun _ => True) :=
  ⟨hc, fun _ _ _ _ _ _ _ h => by
    obtain ⟨m, rfl, _⟩ := DataW.trod_bool ht h
    exact ⟨m, rfl, trivial⟩⟩
theorem Opens.string (ht : P.underlying t = some .string) (hc : P.cellsOf t = 1) : Opens P w t Kd.string (fun s => s.size ≤ maxLen) :=
  ⟨hc, fun _ _ _ _ _ _ _ h => by
    obtain ⟨m, rfl, _, hm⟩ := DataW.trod_string ht h
    exact ⟨m, rfl, hm⟩⟩
theorem list_of_each {α : Type} {Q : Nat → α → Prop} : ∀ n : Nat, (∀ i, i < n → ∃ y, Q i y) → ∃ xs : List α, xs.length = n ∧ ∀ i y, xs[i]? = some y → Q i y
  | 0, _ => ⟨[], rfl, fun i y h => by simp at h⟩
  | n + 1, h => by
    obtain ⟨xs, hl, hx⟩ := list_of_each n (fun i hi => h i (by omega))
    obtain ⟨y, hy⟩ := h n (by omega)
    refine ⟨xs ++ [y], by simp [hl], fun i z hz => ?_⟩
    rcases Nat.lt_or_ge i xs.length with hi | hi
    · rw [List.getElem?_append_left hi] at hz
      exact hx i z hz
    · have : i = n := by
        have := (List.getElem?_eq_some_iff.1 hz).1
        simp at this
        omega
      subst this
      have hz' : y = z := by simpa [hl] using hz
      exact hz' ▸ hy
theorem Opens.slice {α : Type} {d : Kd α} {good : α → Prop} (ht : P.underlying t = some (.slice e)) (hc : P.cellsOf t = 1) (he : Opens P w e d good) :
    Opens P w t (Kd.slice e d) (fun xs => xs.length ≤ 9223372036854775807 ∧ ∀ x ∈ xs, good x) :=
  ⟨hc, fun H enc spare held fuel cs x h => by
    rcases DataW.trod_slice ht h with ⟨rfl, _⟩ | ⟨a, len, cap, elems, rest, n, _, rfl, _, _, hl, hm, hlen, hel, _, _⟩
    · exact ⟨[], ⟨none, 0, rfl, Nat.le_refl _, Kd.C_nil _ _⟩, by simp, by simp⟩
    · have each : ∀ i, i < len → ∃ y, good y ∧ ∃ c, c.length = d.sz ∧ d.K w y c ∧ ∀ j u, c[j]? = some u → w.cell? (a.add (i * d.sz + j)) = some u := by
        intro i hi
        have h1 := hel i hi
        rw [List.getElem?_eq_getElem (by omega), Option.bind_eq_some_iff] at h1
        obtain ⟨c, hc1, hc2⟩ := h1
        obtain ⟨y, hK, hg⟩ := he.2 H enc spare held n c _ hc2
        obtain ⟨_, hcl, hcc⟩ := World.cells?_some hc1
        refine ⟨y, hg, c, hcl.trans he.1, hK, fun j u hj => ?_⟩
        have hj' := (List.getElem?_eq_some_iff.1 hj).1
        have h2 := hcc j (by omega)
        rw [add_add, he.1] at h2
        rw [h2, hj]
      obtain ⟨xs, hxl, hxs⟩ := list_of_each len each
      have hmax : len ≤ 9223372036854775807 := by simp only [maxLen] at hm; omega
      refine ⟨xs, ⟨some a, cap, by rw [hxl], by omega, rfl, by rw [hxl]; exact hmax, fun _ => ⟨a, rfl, fun j p hj => (hxs j p hj).2⟩⟩, by rw [hxl]; exact hmax, fun x hx => ?_⟩
      obtain ⟨j, hj, rfl⟩ := List.getElem_of_mem hx
      exact (hxs j _ (List.getElem?_eq_getElem hj)).1⟩
theorem Opens.struct2 {α β γ : Type} {d0 : Kd α} {d1 : Kd β} {g0 : α → Prop} {g1 : β → Prop} {f0 f1 : Field} (f : γ → α × β) (mk : α → β → γ) (hf : ∀ x y, f (mk x y) = (x, y))
    (ht : P.underlying t = some (.struct #[f0, f1])) (hc : P.cellsOf t = d0.sz + d1.sz) (o0 : f0.offset = 0) (o1 : f1.offset = d0.sz)
    (h0 : Opens P w f0.type d0 g0) (h1 : Opens P w f1.type d1 g1) : Opens P w t (Kd.iso (Kd.pair d0 d1) f) (fun x => g0 (f x).1 ∧ g1 (f x).2) :=
  ⟨hc, fun H enc spare held fuel cs x h => by
    obtain ⟨xs, n, _, _, hl, hlen, hfs⟩ := DataW.trod_struct ht h
    match xs, hlen with
    | [y0, y1], _ =>
      have q0 := hfs 0 f0 rfl
      have q1 := hfs 1 f1 rfl
      obtain ⟨a0, k0, w0⟩ := h0.2 H enc spare held n _ _ q0
      obtain ⟨a1, k1, w1⟩ := h1.2 H enc spare held n _ _ q1
      rw [o0, h0.1, List.drop_zero] at k0
      rw [o1, h1.1] at k1
      have hl2 : (cs.drop d0.sz).length = d1.sz := by rw [List.length_drop]; omega
      rw [List.take_of_length_le (by omega)] at k1
      refine ⟨mk a0 a1, ⟨cs.take d0.sz, cs.drop d0.sz, (List.take_append_drop _ _).symm, ?_, ?_⟩, ?_, ?_⟩
      · rw [hf]; exact k0
      · rw [hf]; exact k1
      · rw [hf]; exact w0
      · rw [hf]; exact w1⟩
theorem Opens.struct3 {α β γ δ : Type} {d0 : Kd α} {d1 : Kd β} {d2 : Kd γ} {g0 : α → Prop} {g1 : β → Prop} {g2 : γ → Prop} {f0 f1 f2 : Field} (f : δ → α × β × γ) (mk : α → β → γ → δ) (hf : ∀ x y z, f (mk x y z) = (x, y, z))
    (ht : P.underlying t = some (.struct #[f0, f1, f2])) (hc : P.cellsOf t = d0.sz + (d1.sz + d2.sz)) (o0 : f0.offset = 0) (o1 : f1.offset = d0.sz) (o2 : f2.offset = d0.sz + d1.sz)
    (h0 : Opens P w f0.type d0 g0) (h1 : Opens P w f1.type d1 g1) (h2 : Opens P w f2.type d2 g2) :
    Opens P w t (Kd.iso (Kd.pair d0 (Kd.pair d1 d2)) f) (fun x => g0 (f x).1 ∧ g1 (f x).2.1 ∧ g2 (f x).2.2) :=
  ⟨hc, fun H enc spare held fuel cs x h => by
    obtain ⟨xs, n, _, _, hl, hlen, hfs⟩ := DataW.trod_struct ht h
    match xs, hlen with
    | [y0, y1, y2], _ =>
      have q0 := hfs 0 f0 rfl
      have q1 := hfs 1 f1 rfl
      have q2 := hfs 2 f2 rfl
      obtain ⟨a0, k0, w0⟩ := h0.2 H enc spare held n _ _ q0
      obtain ⟨a1, k1, w1⟩ := h1.2 H enc spare held n _ _ q1
      obtain ⟨a2, k2, w2⟩ := h2.2 H enc spare held n _ _ q2
      rw [o0, h0.1, List.drop_zero] at k0
      rw [o1, h1.1] at k1
      rw [o2, h2.1] at k2
      have hl2 : (cs.drop (d0.sz + d1.sz)).length = d2.sz := by rw [List.length_drop]; omega
      rw [List.take_of_length_le (by omega)] at k2
      have e2 : cs.drop d0.sz = (cs.drop d0.sz).take d1.sz ++ cs.drop (d0.sz + d1.sz) := by
        rw [← List.drop_drop]
        exact (List.take_append_drop _ _).symm
      refine ⟨mk a0 a1 a2, ⟨cs.take d0.sz, cs.drop d0.sz, (List.take_append_drop _ _).symm, ?_, (cs.drop d0.sz).take d1.sz, cs.drop (d0.sz + d1.sz), e2, ?_, ?_⟩, ?_, ?_, ?_⟩
      · rw [hf]; exact k0
      · rw [hf]; exact k1
      · rw [hf]; exact k2
      · rw [hf]; exact w0
      · rw [hf]; exact w1
      · rw [hf]; exact w2⟩
variable {H : Type} {enc : TypeId × Value → H} {spare : Nat → Bool} {held : Bool} {r : Reach} {b0 : Nat} {v : Value} {dd : DataW H} {ps : List MemPlace}
theorem agg_of {α : Type} {k : Kd α} {good : α → Prop} {fs : Array Field} (hs : P.underlying t = some (.struct fs)) (hv : Value.okWide P w r b0 t v) (h : DataW.Trod enc P w 0 spare held t v dd ps) (ho : Opens P w t k good) :
    ∃ y cs, v = .agg cs.toArray ∧ k.K w y cs ∧ good y := by
  obtain ⟨cs, rfl, _⟩ := okWide_struct hs hv
  obtain ⟨fuel, hf⟩ := h
  obtain ⟨y, hK, hg⟩ := ho.2 H enc spare held fuel _ _ hf
  exact ⟨y, cs.toList, by simp, hK, hg⟩
theorem slice_of {α : Type} {k : Kd α} {good : α → Prop} (ht : P.underlying t = some (.slice e)) (hv : Value.okWide P w r b0 t v) (h : DataW.Trod enc P w 0 spare held t v dd ps) (hc : P.cellsOf t = 1) (ho : Opens P w e k good) :
    ∃ (xs : List α) (A : Option Addr) (c : Nat), v = .slice A xs.length c ∧ xs.length ≤ c ∧ k.C w A xs.length xs ∧ xs.length ≤ 9223372036854775807 ∧ ∀ x ∈ xs, good x := by
  obtain ⟨a, len, cap, rfl⟩ := okWide_slice ht hv
  obtain ⟨fuel, hf⟩ := h
  obtain ⟨y, ⟨A, c, hcs, hl, hC⟩, hg⟩ := (Opens.slice ht hc ho).2 H enc spare held fuel _ _ hf
  have hcs' : [Value.slice a len cap] = [.slice A y.length c] := hcs
  injection hcs' with hcs'
  exact ⟨y, A, c, hcs', hl, hC, hg.1, hg.2⟩
theorem string_of (ht : P.underlying t = some .string) (hv : Value.okWide P w r b0 t v) (h : DataW.Trod enc P w 0 spare held t v dd ps) : ∃ s : ByteArray, v = .string s ∧ s.size ≤ maxLen := by
  obtain ⟨s, rfl⟩ := okWide_string ht hv
  obtain ⟨fuel, hf⟩ := h
  obtain ⟨s', hcs, _, hm⟩ := DataW.trod_string ht hf
  have hcs' : [Value.string s] = [.string s'] := hcs
  injection hcs' with hcs'
  injection hcs' with hcs'
  exact ⟨s, rfl, hcs' ▸ hm⟩
end
end Go.Proofs.YtojnknpgnohegaaDoorW.PrintWords
