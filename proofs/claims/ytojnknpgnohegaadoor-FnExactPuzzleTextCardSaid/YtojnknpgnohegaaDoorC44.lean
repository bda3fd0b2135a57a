/- laws.FnExactPuzzleText: for every input it returns true and leaves its argument as it was, where the listed package-level variables of Go's library hold what the program's text lays in them. -/
import Derived.ChangeArms
import Derived.DataReads
import Derived.WideShapes
import Derived.Laws.BitsLemmas
import Derived.Test.YtojnknpgnohegaaDoorC43
section
namespace Go.Proofs.YtojnknpgnohegaaDoorW.PrintWords
open Go.RowKit Go.WideShapes
def Opens {α : Type} (P : Program) (w : World) (t : TypeId) (d : Kd α) (good : α → Prop) : Prop :=
  P.cellsOf t = d.sz ∧ ∀ (H : Type) (enc : TypeId × Value → H) (spare : Nat → Bool) (held : Bool) (fuel : Nat) (cs : List Value) (x : DataW H × List MemPlace),
    DataW.trod enc P w 0 spare held fuel t cs = some x → ∃ y, d.K w y cs ∧ good y
section
variable {P : Program} {w : World} {t e : TypeId}
theorem Opens.int {k : IntKind} (ht : P.underlying t = some (.int k)) (hc : P.cellsOf t = 1) : Opens P w t (Kd.int k) (fun n => (Lit.int k n).wf = true) :=
  ⟨hc, fun _ _ _ _ _ _ _ h => by
    obtain ⟨m, rfl, _, hw⟩ := DataW.trod_int ht h
    exact ⟨m, rfl, hw⟩⟩
theorem Opens.bool (ht : P.underlying t = some .bool) (hc : P.cellsOf t = 1) : Opens P w t Kd.bool (fun _ => True) :=
  ⟨hc, fun _ _ _ _ _ _ _ h => by
    obtain ⟨m, rfl, _⟩ := DataW.trod_bool ht h
    exact ⟨m, rfl, trivial⟩⟩
theorem Opens.string (ht : P.underlying t = some .string) (hc : P.cellsOf t = 1) : Opens P w t Kd.string (fun s => s.size ≤ maxLen) :=
  ⟨hc, fun _ _ _ _ _ _ _ h => by
    obtain ⟨m, rfl, _, hm⟩ := DataW.trod_string ht h
    exact ⟨m, rfl, hm⟩⟩
theorem list_of_each {α : Type} {Q : Nat → α → Prop} : ∀ n : Nat, (∀ i, i < n → ∃ y, Q i y) → ∃ xs : List α, xs.length = n ∧ ∀ i y, xs[i]? = some y → Q i y
  | 0, _ => ⟨[], rfl, fun i y h => by simp at h⟩
  | n + 1, h => by
    obtain ⟨xs, hl, hx⟩ := list_of_each n (fun i hi => h i (by omega))
    obtain ⟨y, hy⟩ := h n (by omega)
    refine ⟨xs ++ [y], by simp [hl], fun i z hz => ?_⟩
    rcases Nat.lt_or_ge i xs.length with hi | hi
    · rw [List.getElem?_append_left hi] at hz
      exact hx i z hz
    · have : i = n := by
        have := (List.getElem?_eq_some_iff.1 hz).1
        simp at this
        omega
      subst this
      have hz' : y = z := by simpa [hl] using hz
      exact hz' ▸ hy
theorem Opens.slice {α : Type} {d : Kd α} {good : α → Prop} (ht : P.underlying t = some (.slice e)) (hc : P.cellsOf t = 1) (he : Opens P w e d good) :
    Opens P w t (Kd.slice e d) (fun xs => xs.length ≤ 9223372036854775807 ∧ ∀ x ∈ xs, good x) :=
  ⟨hc, fun H enc spare held fuel cs x h => by
    rcases DataW.trod_slice ht h with ⟨rfl, _⟩ | ⟨a, len, cap, elems, rest, n, _, rfl, _, _, hl, hm, hlen, hel, _, _⟩
    · exact ⟨[], ⟨none, 0, rfl, Nat.le_refl _, Kd.C_nil _ _⟩, by simp, by simp⟩
    · have each : ∀ i, i < len → ∃ y, good y ∧ ∃ c, c.length = d.sz ∧ d.K w y c ∧ ∀ j u, c[j]? = some u → w.cell? (a.add (i * d.sz + j)) = some u := by
        intro i hi
        have h1 := hel i hi
        rw [List.getElem?_eq_getElem (by omega), Option.bind_eq_some_iff] at h1
        obtain ⟨c, hc1, hc2⟩ := h1
        obtain ⟨y, hK, hg⟩ := he.2 H enc spare held n c _ hc2
        obtain ⟨_, hcl, hcc⟩ := World.cells?_some hc1
        refine ⟨y, hg, c, hcl.trans he.1, hK, fun j u hj => ?_⟩
        have hj' := (List.getElem?_eq_some_iff.1 hj).1
        have h2 := hcc j (by omega)
        rw [add_add, he.1] at h2
        rw [h2, hj]
      obtain ⟨xs, hxl, hxs⟩ := list_of_each len each
      have hmax : len ≤ 9223372036854775807 := by simp only [maxLen] at hm; omega
      refine ⟨xs, ⟨some a, cap, by rw [hxl], by omega, rfl, by rw [hxl]; exact hmax, fun _ => ⟨a, rfl, fun j p hj => (hxs j p hj).2⟩⟩, by rw [hxl]; exact hmax, fun x hx => ?_⟩
      obtain ⟨j, hj, rfl⟩ := List.getElem_of_mem hx
      exact (hxs j _ (List.getElem?_eq_getElem hj)).1⟩
theorem Opens.struct3 {α β γ δ : Type} {d0 : Kd α} {d1 : Kd β} {d2 : Kd γ} {g0 : α → Prop} {g1 : β → Prop} {g2 : γ → Prop} {f0 f1 f2 : Field} (f : δ → α × β × γ) (mk : α → β → γ → δ) (hf : ∀ x y z, f (mk x y z) = (x, y, z))
    (ht : P.underlying t = some (.struct #[f0, f1, f2])) (hc : P.cellsOf t = d0.sz + (d1.sz + d2.sz)) (o0 : f0.offset = 0) (o1 : f1.offset = d0.sz) (o2 : f2.offset = d0.sz + d1.sz)
    (h0 : Opens P w f0.type d0 g0) (h1 : Opens P w f1.type d1 g1) (h2 : Opens P w f2.type d2 g2) :
    Opens P w t (Kd.iso (Kd.pair d0 (Kd.pair d1 d2)) f) (fun x => g0 (f x).1 ∧ g1 (f x).2.1 ∧ g2 (f x).2.2) :=
  ⟨hc, fun H enc spare held fuel cs x h => by
    obtain ⟨xs, n, _, _, hl, hlen, hfs⟩ := DataW.trod_struct ht h
    match xs, hlen with
    | [y0, y1, y2], _ =>
      have q0 := hfs 0 f0 rfl
      have q1 := hfs 1 f1 rfl
      have q2 := hfs 2 f2 rfl
      obtain ⟨a0, k0, w0⟩ := h0.2 H enc spare held n _ _ q0
      obtain ⟨a1, k1, w1⟩ := h1.2 H enc spare held n _ _ q1
      obtain ⟨a2, k2, w2⟩ := h2.2 H enc spare held n _ _ q2
      rw [o0, h0.1, List.drop_zero] at k0
      rw [o1, h1.1] at k1
      rw [o2, h2.1] at k2
      have hl2 : (cs.drop (d0.sz + d1.sz)).length = d2.sz := by rw [List.length_drop]; omega
      rw [List.take_of_length_le (by omega)] at k2
      have e2 : cs.drop d0.sz = (cs.drop d0.sz).take d1.sz ++ cs.drop (d0.sz + d1.sz) := by
        rw [← List.drop_drop]
        exact (List.take_append_drop _ _).symm
      refine ⟨mk a0 a1 a2, ⟨cs.take d0.sz, cs.drop d0.sz, (List.take_append_drop _ _).symm, ?_, (cs.drop d0.sz).take d1.sz, cs.drop (d0.sz + d1.sz), e2, ?_, ?_⟩, ?_, ?_, ?_⟩
      · rw [hf]; exact k0
      · rw [hf]; exact k1
      · rw [hf]; exact k2
      · rw [hf]; exact w0
      · rw [hf]; exact w1
      · rw [hf]; exact w2⟩
variable {H : Type} {enc : TypeId × Value → H} {spare : Nat → Bool} {held : Bool} {r : Reach} {b0 : Nat} {v : Value} {dd : DataW H} {ps : List MemPlace}
theorem agg_of {α : Type} {k : Kd α} {good : α → Prop} {fs : Array Field} (hs : P.underlying t = some (.struct fs)) (hv : Value.okWide P w r b0 t v) (h : DataW.Trod enc P w 0 spare held t v dd ps) (ho : Opens P w t k good) :
    ∃ y cs, v = .agg cs.toArray ∧ k.K w y cs ∧ good y := by
  obtain ⟨cs, rfl, _⟩ := okWide_struct hs hv
  obtain ⟨fuel, hf⟩ := h
  obtain ⟨y, hK, hg⟩ := ho.2 H enc spare held fuel _ _ hf
  exact ⟨y, cs.toList, by simp, hK, hg⟩
end
end Go.Proofs.YtojnknpgnohegaaDoorW.PrintWords
end
section
namespace Go.Proofs.YtojnknpgnohegaaDoor.Q
open Go.RowKit Go.Proofs.YtojnknpgnohegaaDoorW.PrintWords
theorem w64 {n : Int} (h0 : -9223372036854775808 ≤ n) (h1 : n ≤ 9223372036854775807) : wrap64 n = n := by unfold wrap64; omega
def Code (s : List Int) : Prop := s.length ≤ 2000 ∧ ∀ x ∈ s, 0 ≤ x ∧ x ≤ 255
end Go.Proofs.YtojnknpgnohegaaDoor.Q
end
section
namespace Go.Proofs.YtojnknpgnohegaaDoor.Q
open Go.RowKit Go.Proofs.YtojnknpgnohegaaDoorW.PrintWords
theorem wnext {i n : Nat} (h : i < n) (hn : n ≤ 9223372036854775807) : wrap64 ((i : Int) + 1) = ((i + 1 : Nat) : Int) := by rw [w64 (by omega) (by omega)]; omega
theorem rd_nat {xs : List Int} {i : Nat} (h : i < xs.length) : rd xs (i : Int) = xs[i] := by
  unfold rd
  rw [Int.toNat_natCast, List.getD_eq_getElem?_getD, List.getElem?_eq_getElem h]
  rfl
theorem take_succ_get {α : Type} {xs : List α} {i : Nat} (h : i < xs.length) : xs.take (i + 1) = xs.take i ++ [xs[i]] := List.take_succ_eq_append_getElem h
theorem drop_get {α : Type} {xs : List α} {i : Nat} (h : i < xs.length) : xs.drop i = xs[i] :: xs.drop (i + 1) := List.drop_eq_getElem_cons h
theorem l1In_eq (n lo hi : Int) : spec_l1In.f n lo hi = some (decide (lo ≤ n ∧ n ≤ hi)) := by
  unfold spec_l1In.f
  by_cases h : lo ≤ n
  · rw [if_pos h]; simp [h]
  · rw [if_neg h]; simp [h]
theorem index_loop (xs : List Int) (x : Int) (hx : xs.length ≤ 9223372036854775807) : ∀ n i : Nat, i + n = xs.length →
    ∃ r : Int, Ev (fun k => slices_Index_int_int.l0 k xs x (xs.length : Int) (i : Int)) r ∧ (0 ≤ r ↔ x ∈ xs.drop i) := by
  intro n
  induction n with
  | zero =>
    intro i hi
    exact ⟨-1, Ev.step (fun k => by simp only [slices_Index_int_int.l0]; rw [if_neg (by omega)]) (Ev.now _), by rw [List.drop_of_length_le (by omega)]; simp⟩
  | succ n ih =>
    intro i hi
    have hlt : i < xs.length := by omega
    obtain ⟨r, h1, h2⟩ := ih (i + 1) (by omega)
    by_cases e : x = xs[i]
    · exact ⟨i, Ev.step (fun k => by simp only [slices_Index_int_int.l0]; rw [if_pos (by omega), if_pos (by omega), if_pos (by omega), rd_nat hlt, if_pos e]) (Ev.now _), fun _ => by rw [drop_get hlt, List.mem_cons]; exact Or.inl e, fun _ => by omega⟩
    · refine ⟨r, Ev.step (fun k => by simp only [slices_Index_int_int.l0]; rw [if_pos (by omega), if_pos (by omega), if_pos (by omega), rd_nat hlt, if_neg e, wnext hlt hx]) h1, by rw [h2, drop_get hlt, List.mem_cons]; exact ⟨Or.inr, fun h => h.resolve_left e⟩⟩
theorem contains_ev (xs : List Int) (x : Int) (hx : xs.length ≤ 9223372036854775807) : Ev (fun k => slices_Contains_int_int.f k xs x) (decide (x ∈ xs)) := by
  obtain ⟨r, h1, h2⟩ := index_loop xs x hx xs.length 0 (by omega)
  have h3 : Ev (fun k => slices_Index_int_int.f k xs x) r := h1
  have e : decide (x ∈ xs) = decide (r ≥ 0) := by rw [decide_eq_decide]; simpa using h2.symm
  rw [e]
  exact Ev.bind h3 (Ev.now _)
theorem set_upto {α : Type} (xs ys : List α) (i : Nat) (h : i < xs.length) (hl : ys.length = xs.length) (x : α) (hx : x = xs[i]) (hy : ys.take i = xs.take i) : (ys.set i x).take (i + 1) = xs.take (i + 1) := by
  rw [take_succ_get (xs := ys.set i x) (by simpa using (by omega : i < ys.length)), take_succ_get h, List.take_set_of_le (Nat.le_refl _), hy, hx]
  simp
theorem toIntS_loop (xs : List Int) (hx : xs.length ≤ 9223372036854775807) : ∀ (n i : Nat) (ys : List Int), i + n = xs.length → ys.length = xs.length → ys.take i = xs.take i →
    Ev (fun k => laws_toIntS.l0 k xs ys (i : Int)) xs := by
  intro n
  induction n with
  | zero =>
    intro i ys hi hl hy
    have e : ys = xs := by rw [List.take_of_length_le (by omega), List.take_of_length_le (by omega)] at hy; exact hy
    exact Ev.step (fun k => by simp only [laws_toIntS.l0]; rw [if_neg (by omega), e]) (Ev.now _)
  | succ n ih =>
    intro i ys hi hl hy
    have hlt : i < xs.length := by omega
    refine Ev.step (fun k => by simp only [laws_toIntS.l0]; rw [if_pos (by omega), if_pos (by omega), if_pos (by omega), rd_nat hlt, wnext hlt hx, Int.toNat_natCast]) (ih (i + 1) _ (by omega) (by simpa using hl) ?_)
    exact set_upto xs ys i hlt hl _ rfl hy
theorem toIntS_ev (xs : List Int) (hx : xs.length ≤ 1048576) : Ev (fun k => laws_toIntS.f k xs) xs := by
  refine Ev.congr (fun k => ?_) (toIntS_loop xs (by omega) xs.length 0 (List.replicate xs.length 0) (by omega) (by simp) rfl)
  unfold laws_toIntS.f
  rw [if_pos (by omega), Int.toNat_natCast, if_pos (by omega)]
  rfl
theorem eqIntS_loop (xs ys : List Int) (hx : xs.length ≤ 9223372036854775807) (hl : xs.length = ys.length) : ∀ n i : Nat, i + n = xs.length →
    Ev (fun k => laws_eqIntS.l0 k xs ys (i : Int)) (decide (xs.drop i = ys.drop i)) := by
  intro n
  induction n with
  | zero =>
    intro i hi
    rw [List.drop_of_length_le (by omega), List.drop_of_length_le (by omega)]
    exact Ev.step (fun k => by simp only [laws_eqIntS.l0]; rw [if_neg (by omega)]; rfl) (Ev.now _)
  | succ n ih =>
    intro i hi
    have h1 : i < xs.length := by omega
    have h2 : i < ys.length := by omega
    by_cases e : xs[i] = ys[i]
    · have e2 : decide (xs.drop i = ys.drop i) = decide (xs.drop (i + 1) = ys.drop (i + 1)) := by rw [drop_get h1, drop_get h2, decide_eq_decide, List.cons.injEq]; exact ⟨fun h => h.2, fun h => ⟨e, h⟩⟩
      rw [e2]
      exact Ev.step (fun k => by simp only [laws_eqIntS.l0]; rw [if_pos (by omega), if_pos (by omega), if_pos (by omega), rd_nat h1, rd_nat h2, if_pos e, wnext h1 hx]) (ih (i + 1) (by omega))
    · have e2 : decide (xs.drop i = ys.drop i) = false := decide_eq_false (by rw [drop_get h1, drop_get h2, List.cons.injEq]; exact fun h => e h.1)
      rw [e2]
      exact Ev.step (fun k => by simp only [laws_eqIntS.l0]; rw [if_pos (by omega), if_pos (by omega), if_pos (by omega), rd_nat h1, rd_nat h2, if_neg e]) (Ev.now _)
theorem eqIntS_ev (xs ys : List Int) (hx : xs.length ≤ 9223372036854775807) : Ev (fun k => laws_eqIntS.f k xs ys) (decide (xs = ys)) := by
  by_cases hl : xs.length = ys.length
  · have h := eqIntS_loop xs ys hx hl xs.length 0 (by omega)
    exact Ev.congr (fun k => by unfold laws_eqIntS.f; rw [if_pos (by omega)]; rfl) h
  · have e : decide (xs = ys) = false := decide_eq_false (fun e => hl (by rw [e]))
    rw [e]
    exact Ev.congr (fun k => by unfold laws_eqIntS.f; rw [if_neg (by omega)]) (Ev.now _)
theorem szIntS_eq (xs : List Int) (left : Int) (hx : xs.length ≤ 9223372036854775807) (h0 : 0 ≤ left) (h1 : left ≤ 1048576) : laws_szIntS.f xs left = some (if left < xs.length then -1 else left - xs.length) := by
  unfold laws_szIntS.f
  rw [w64 (by omega) (by omega)]
  by_cases h : left - (xs.length : Int) < 0
  · rw [if_pos h, if_pos (by omega)]
  · rw [if_neg h, if_neg (by omega)]
def cellsOk (M : Int) (pre : List Int) : List Int → Bool
  | [] => true
  | c :: r => decide (0 ≤ c ∧ c ≤ M) && !decide (c ∈ pre) && cellsOk M (pre ++ [c]) r
def kindOk (kind n value size : Int) : Bool :=
  if kind = 1 then decide (2 ≤ n) && decide (n ≤ 4) && decide (value = 0)
  else if kind = 2 ∨ kind = 3 then decide (1 ≤ n) && decide (n ≤ 4) && decide (1 ≤ value ∧ value ≤ size * size * size * size)
  else if kind = 4 then decide (n = 2) && decide (value = 0)
  else if kind = 5 then decide (n = 2) && decide (0 ≤ value ∧ value ≤ size - 1)
  else false
def sizeIn (size : Int) : Bool := decide (2 ≤ size ∧ size ≤ 4)
def ruleValid (kind : Int) (cells : List Int) (value size : Int) : Bool := sizeIn size && cellsOk (size * size - 1) [] cells && kindOk kind cells.length value size
theorem sizeOk_eq (s : Int) : impl_sizeOk.f s = some (sizeIn s) := by
  unfold impl_sizeOk.f sizeIn
  by_cases h : s ≥ 2
  · rw [if_pos h]; simp [h]
  · rw [if_neg h]; simp; omega
theorem size_sq {s : Int} (h : sizeIn s = true) : wrap64 (s * s) = s * s ∧ wrap64 (s * s * s) = s * s * s ∧ wrap64 (s * s * s * s) = s * s * s * s ∧ 4 ≤ s * s ∧ s * s ≤ 16 ∧ 2 ≤ s ∧ s ≤ 4 := by
  have h' : 2 ≤ s ∧ s ≤ 4 := of_decide_eq_true h
  have h3 : s = 2 ∨ s = 3 ∨ s = 4 := by omega
  rcases h3 with rfl | rfl | rfl <;> (refine ⟨?_, ?_, ?_, ?_⟩ <;> first | (rw [w64 (by decide) (by decide)]) | decide)
theorem srv_inner (xs : List Int) (hx : xs.length ≤ 9223372036854775807) (s kind value : Int) (i : Nat) (hi : i < xs.length) {r : Bool} (next : Ev (fun k => spec_RuleValid.l0 k s ((i + 1 : Nat) : Int) kind xs value) r) :
    ∀ n j : Nat, j + n = i → Ev (fun k => spec_RuleValid.l1 k s (i : Int) (j : Int) kind xs value) (if xs[i] ∈ (xs.take i).drop j then false else r) := by
  intro n
  induction n with
  | zero =>
    intro j hj
    rw [List.drop_of_length_le (by rw [List.length_take]; omega), if_neg (by simp)]
    exact Ev.step (fun k => by simp only [spec_RuleValid.l1]; rw [if_neg (by omega), wnext hi hx]) next
  | succ n ih =>
    intro j hj
    have h1 : j < (xs.take i).length := by rw [List.length_take]; omega
    have h2 : j < xs.length := by omega
    rw [drop_get h1]
    have e0 : (xs.take i)[j] = xs[j] := by simp
    by_cases e : xs[j] = xs[i]
    · rw [if_pos (by rw [e0, e]; exact List.mem_cons_self)]
      exact Ev.step (fun k => by simp only [spec_RuleValid.l1]; rw [if_pos (by omega), if_pos (by omega), if_pos (by omega), if_pos (by omega), if_pos (by omega), rd_nat h2, rd_nat hi, if_pos e]) (Ev.now _)
    · have e3 : (xs[i] ∈ (xs.take i)[j] :: (xs.take i).drop (j + 1)) = (xs[i] ∈ (xs.take i).drop (j + 1)) := by
        rw [e0]; simp only [List.mem_cons, eq_iff_iff, or_iff_right_iff_imp]; intro h; exact absurd h.symm e
      simp only [e3]
      exact Ev.step (fun k => by simp only [spec_RuleValid.l1]; rw [if_pos (by omega), if_pos (by omega), if_pos (by omega), if_pos (by omega), if_pos (by omega), rd_nat h2, rd_nat hi, if_neg e, wnext h2 hx]) (ih (j + 1) (by omega))
theorem srv_end (xs : List Int) (s kind value : Int) : Ev (fun k => spec_RuleValid.l0 k s (xs.length : Int) kind xs value) (sizeIn s && kindOk kind xs.length value s) := by
  refine Ev.step (f := fun k => if sizeIn s = true then spec_RuleValid.j2 k s (xs.length : Int) (decide ((xs.length : Int) > 4)) kind xs value else spec_RuleValid.j2 k s (xs.length : Int) true kind xs value) (fun k => by simp only [spec_RuleValid.l0]; rw [if_neg (by omega), l1In_eq]; rfl) ?_
  by_cases hs : sizeIn s = true
  · obtain ⟨q1, q2, q3, b1, b2, b3, b4⟩ := size_sq hs
    rw [hs, Bool.true_and]
    simp only [if_true]
    by_cases h4 : (xs.length : Int) > 4
    · have e : kindOk kind xs.length value s = false := by
        unfold kindOk
        have h5 : decide ((xs.length : Int) ≤ 4) = false := decide_eq_false (by omega)
        have h6 : decide ((xs.length : Int) = 2) = false := decide_eq_false (by omega)
        rw [h5, h6]
        simp
      rw [e, decide_eq_true h4]
      exact Ev.step (fun k => by simp only [spec_RuleValid.j2]; rw [if_pos trivial]) (Ev.now _)
    · rw [decide_eq_false h4]
      have h5 : decide ((xs.length : Int) ≤ 4) = true := decide_eq_true (by omega)
      have hj3 : ∀ b : Bool, Ev (fun k => spec_RuleValid.j3 k s (xs.length : Int) kind b kind xs value)
          (if b = true then (decide (1 ≤ (xs.length : Int)) && decide (1 ≤ value ∧ value ≤ s * s * s * s)) else if kind = 4 then (decide ((xs.length : Int) = 2) && decide (value = 0)) else if kind = 5 then (decide ((xs.length : Int) = 2) && decide (0 ≤ value ∧ value ≤ s - 1)) else false) := by
        intro b
        refine Ev.step (f := fun _ => some _) (fun k => ?_) (Ev.now _)
        simp only [spec_RuleValid.j3, q1, q2, q3, l1In_eq, Option.bind_some]
        rw [w64 (n := s - 1) (by omega) (by omega)]
        by_cases hb : b = true
        · rw [if_pos hb, if_pos hb]
          by_cases h1 : (xs.length : Int) ≥ 1
          · rw [if_pos h1, decide_eq_true h1]; rfl
          · rw [if_neg h1, decide_eq_false h1]; rfl
        · rw [if_neg hb, if_neg hb]
          by_cases h1 : kind = 4
          · rw [if_pos h1, if_pos h1]
            by_cases h2 : (xs.length : Int) = 2
            · rw [if_pos h2, decide_eq_true h2, Bool.true_and]; rfl
            · rw [if_neg h2, decide_eq_false h2]; rfl
          · rw [if_neg h1, if_neg h1]
            by_cases h2 : kind = 5
            · rw [if_pos h2, if_pos h2]
              by_cases h3 : (xs.length : Int) = 2
              · rw [if_pos h3, decide_eq_true h3]; rfl
              · rw [if_neg h3, decide_eq_false h3]; rfl
            · rw [if_neg h2, if_neg h2]
      unfold kindOk
      rw [h5]
      simp only [Bool.and_true]
      by_cases h1 : kind = 1
      · rw [if_pos h1]
        refine Ev.step (f := fun _ => some _) (fun k => ?_) (Ev.now _)
        simp only [spec_RuleValid.j2]
        rw [if_neg (by decide), if_pos h1]
        by_cases h2 : (xs.length : Int) ≥ 2
        · rw [if_pos h2, decide_eq_true h2, Bool.true_and]; rfl
        · rw [if_neg h2, decide_eq_false h2]; rfl
      · rw [if_neg h1]
        by_cases h2 : kind = 2
        · have h := hj3 true
          rw [if_pos rfl] at h
          rw [if_pos (Or.inl h2)]
          exact Ev.step (fun k => by simp only [spec_RuleValid.j2]; rw [if_neg (by decide), if_neg h1, if_pos h2, beq_iff_eq.2 h2]) h
        · by_cases h3 : kind = 3
          · have h := hj3 true
            rw [if_pos rfl] at h
            rw [if_pos (Or.inr h3)]
            exact Ev.step (fun k => by simp only [spec_RuleValid.j2]; rw [if_neg (by decide), if_neg h1, if_neg h2, beq_iff_eq.2 h3]) h
          · have h := hj3 false
            rw [if_neg (by decide)] at h
            rw [if_neg (by rintro (h | h) <;> contradiction)]
            exact Ev.step (fun k => by simp only [spec_RuleValid.j2]; rw [if_neg (by decide), if_neg h1, if_neg h2, beq_eq_false_iff_ne.2 h3]) h
  · have hs' : sizeIn s = false := by simpa using hs
    rw [hs', Bool.false_and]
    simp only [if_neg (show ¬ (false = true) by decide)]
    exact Ev.step (fun k => by simp only [spec_RuleValid.j2]; rw [if_pos trivial]) (Ev.now _)
theorem srv_loop (xs : List Int) (hx : xs.length ≤ 9223372036854775807) (s kind value : Int) : ∀ n i : Nat, i + n = xs.length →
    Ev (fun k => spec_RuleValid.l0 k s (i : Int) kind xs value) (cellsOk (wrap64 (wrap64 (s * s) - 1)) (xs.take i) (xs.drop i) && (sizeIn s && kindOk kind xs.length value s)) := by
  intro n
  induction n with
  | zero =>
    intro i hi
    have e : i = xs.length := by omega
    subst e
    rw [List.drop_length]
    exact srv_end xs s kind value
  | succ n ih =>
    intro i hi
    have hlt : i < xs.length := by omega
    have h := ih (i + 1) (by omega)
    rw [take_succ_get hlt] at h
    rw [drop_get hlt]
    simp only [cellsOk]
    by_cases hc : 0 ≤ xs[i] ∧ xs[i] ≤ wrap64 (wrap64 (s * s) - 1)
    · rw [decide_eq_true hc, Bool.true_and]
      have h2 := srv_inner xs hx s kind value i hlt h i 0 (by omega)
      rw [List.drop_zero] at h2
      have e : (if xs[i] ∈ xs.take i then false else cellsOk (wrap64 (wrap64 (s * s) - 1)) (xs.take i ++ [xs[i]]) (xs.drop (i + 1)) && (sizeIn s && kindOk kind xs.length value s)) = (!decide (xs[i] ∈ xs.take i) && cellsOk (wrap64 (wrap64 (s * s) - 1)) (xs.take i ++ [xs[i]]) (xs.drop (i + 1)) && (sizeIn s && kindOk kind xs.length value s)) := by
        by_cases h3 : xs[i] ∈ xs.take i
        · rw [if_pos h3, decide_eq_true h3]; rfl
        · rw [if_neg h3, decide_eq_false h3]; rfl
      rw [← e]
      exact Ev.step (fun k => by simp only [spec_RuleValid.l0]; rw [if_pos (by omega), if_pos (by omega), rd_nat hlt, l1In_eq, decide_eq_true hc]; simp only [Option.bind_some, if_true]; rfl) h2
    · rw [decide_eq_false hc]
      exact Ev.step (fun k => by simp only [spec_RuleValid.l0]; rw [if_pos (by omega), if_pos (by omega), rd_nat hlt, l1In_eq, decide_eq_false hc]; rfl) (Ev.now _)
theorem specRuleValid_ev (kind : Int) (xs : List Int) (value s : Int) (hx : xs.length ≤ 9223372036854775807) : Ev (fun k => spec_RuleValid.f k kind xs value s) (ruleValid kind xs value s) := by
  have h := srv_loop xs hx s kind value xs.length 0 (by omega)
  rw [List.take_zero, List.drop_zero] at h
  have e : (cellsOk (wrap64 (wrap64 (s * s) - 1)) [] xs && (sizeIn s && kindOk kind xs.length value s)) = ruleValid kind xs value s := by
    unfold ruleValid
    by_cases hs : sizeIn s = true
    · obtain ⟨q1, _, _, b1, b2, _⟩ := size_sq hs
      rw [q1, w64 (by omega) (by omega), hs, Bool.true_and, Bool.true_and]
    · have hs' : sizeIn s = false := by simpa using hs
      rw [hs', Bool.false_and, Bool.false_and, Bool.false_and, Bool.and_false]
  rw [← e]
  exact h
theorem irv_end (xs : List Int) (s kind value : Int) (hs : sizeIn s = true) : Ev (fun k => impl_RuleValid.l0 k s xs (xs.length : Int) (xs.length : Int) kind xs value) (kindOk kind xs.length value s) := by
  obtain ⟨q1, q2, q3, b1, b2, b3, b4⟩ := size_sq hs
  have hj : ∀ b : Bool, Ev (fun k => impl_RuleValid.j1 k s (xs.length : Int) kind b kind xs value)
      (if b = true then (decide (1 ≤ (xs.length : Int)) && decide ((xs.length : Int) ≤ 4) && decide (1 ≤ value ∧ value ≤ s * s * s * s)) else if kind = 4 then (decide ((xs.length : Int) = 2) && decide (value = 0)) else if kind = 5 then (decide ((xs.length : Int) = 2) && decide (0 ≤ value ∧ value ≤ s - 1)) else false) := by
    intro b
    refine Ev.step (f := fun _ => some _) (fun k => ?_) (Ev.now _)
    simp only [impl_RuleValid.j1, q1, q2, q3]
    by_cases hb : b = true
    · rw [if_pos hb, if_pos hb]
      by_cases h1 : (xs.length : Int) ≥ 1
      · rw [if_pos h1, decide_eq_true h1, Bool.true_and]
        by_cases h2 : (xs.length : Int) ≤ 4
        · rw [if_pos h2, decide_eq_true h2, Bool.true_and]
          by_cases h3 : value ≥ 1
          · rw [if_pos h3]; simp [h3]
          · rw [if_neg h3, decide_eq_false (by omega)]
        · rw [if_neg h2, decide_eq_false h2]; rfl
      · rw [if_neg h1, decide_eq_false h1]; rfl
    · rw [if_neg hb, if_neg hb]
      by_cases h1 : kind = 4
      · rw [if_pos h1, if_pos h1]
        by_cases h2 : (xs.length : Int) = 2
        · rw [if_pos h2, decide_eq_true h2, Bool.true_and]; rfl
        · rw [if_neg h2, decide_eq_false h2]; rfl
      · rw [if_neg h1, if_neg h1]
        by_cases h2 : kind = 5
        · rw [if_pos h2, if_pos h2]
          by_cases h3 : (xs.length : Int) = 2
          · rw [if_pos h3, decide_eq_true h3, Bool.true_and]
            by_cases h4 : value ≥ 0
            · rw [if_pos h4, decide_eq_decide.2 (show value < s ↔ (0 ≤ value ∧ value ≤ s - 1) by omega)]
            · rw [if_neg h4, decide_eq_false (by omega)]
          · rw [if_neg h3, decide_eq_false h3]; rfl
        · rw [if_neg h2, if_neg h2]
  unfold kindOk
  by_cases h1 : kind = 1
  · rw [if_pos h1]
    refine Ev.step (f := fun _ => some _) (fun k => ?_) (Ev.now _)
    simp only [impl_RuleValid.l0]
    rw [if_neg (by omega), if_pos h1]
    by_cases h2 : (xs.length : Int) ≥ 2
    · rw [if_pos h2, decide_eq_true h2, Bool.true_and]
      by_cases h3 : (xs.length : Int) ≤ 4
      · rw [if_pos h3, decide_eq_true h3, Bool.true_and]; rfl
      · rw [if_neg h3, decide_eq_false h3]; rfl
    · rw [if_neg h2, decide_eq_false h2]; rfl
  · rw [if_neg h1]
    by_cases h2 : kind = 2
    · have h := hj true
      rw [if_pos rfl] at h
      rw [if_pos (Or.inl h2)]
      exact Ev.step (fun k => by simp only [impl_RuleValid.l0]; rw [if_neg (by omega), if_neg h1, if_pos h2, beq_iff_eq.2 h2]) h
    · by_cases h3 : kind = 3
      · have h := hj true
        rw [if_pos rfl] at h
        rw [if_pos (Or.inr h3)]
        exact Ev.step (fun k => by simp only [impl_RuleValid.l0]; rw [if_neg (by omega), if_neg h1, if_neg h2, beq_iff_eq.2 h3]) h
      · have h := hj false
        rw [if_neg (by decide)] at h
        rw [if_neg (by rintro (h | h) <;> contradiction)]
        exact Ev.step (fun k => by simp only [impl_RuleValid.l0]; rw [if_neg (by omega), if_neg h1, if_neg h2, beq_eq_false_iff_ne.2 h3]) h
theorem irv_loop (xs : List Int) (hx : xs.length ≤ 9223372036854775807) (s kind value : Int) (hs : sizeIn s = true) : ∀ n i : Nat, i + n = xs.length →
    Ev (fun k => impl_RuleValid.l0 k s xs (xs.length : Int) (i : Int) kind xs value) (cellsOk (s * s - 1) (xs.take i) (xs.drop i) && kindOk kind xs.length value s) := by
  obtain ⟨q1, q2, q3, b1, b2, b3, b4⟩ := size_sq hs
  intro n
  induction n with
  | zero =>
    intro i hi
    have e : i = xs.length := by omega
    subst e
    rw [List.drop_length]
    exact irv_end xs s kind value hs
  | succ n ih =>
    intro i hi
    have hlt : i < xs.length := by omega
    have h := ih (i + 1) (by omega)
    rw [take_succ_get hlt] at h
    rw [drop_get hlt]
    simp only [cellsOk]
    by_cases h1 : xs[i] < 0
    · rw [decide_eq_false (by omega)]
      exact Ev.step (fun k => by simp only [impl_RuleValid.l0]; rw [if_pos (by omega), if_pos (by omega), if_pos (by omega), rd_nat hlt, if_pos h1]; rfl) (Ev.now _)
    · by_cases h2 : xs[i] ≥ s * s
      · rw [decide_eq_false (by omega)]
        exact Ev.step (fun k => by simp only [impl_RuleValid.l0]; rw [if_pos (by omega), if_pos (by omega), if_pos (by omega), rd_nat hlt, if_neg h1, q1, if_pos h2]; rfl) (Ev.now _)
      · rw [decide_eq_true (show 0 ≤ xs[i] ∧ xs[i] ≤ s * s - 1 by omega), Bool.true_and]
        have hc := contains_ev (xs.take i) xs[i] (by rw [List.length_take]; omega)
        refine Ev.step (f := fun k => (slices_Contains_int_int.f k (xs.take i) xs[i]).bind fun t => if t = true then some false else impl_RuleValid.l0 k s xs (xs.length : Int) ((i + 1 : Nat) : Int) kind xs value) (fun k => by
          simp only [impl_RuleValid.l0]
          rw [if_pos (by omega), if_pos (by omega), if_pos (by omega), rd_nat hlt, if_neg h1, q1, if_neg h2, if_pos (by omega), wnext hlt hx, Int.toNat_natCast]) ?_
        refine Ev.bind hc ?_
        by_cases h3 : xs[i] ∈ xs.take i
        · rw [decide_eq_true h3]
          exact Ev.congr (fun k => by rw [if_pos rfl]; rfl) (Ev.now _)
        · rw [decide_eq_false h3]
          exact Ev.congr (fun k => by rw [if_neg (by decide)]) h
theorem implRuleValid_ev (kind : Int) (xs : List Int) (value s : Int) (hx : xs.length ≤ 9223372036854775807) : Ev (fun k => impl_RuleValid.f k kind xs value s) (ruleValid kind xs value s) := by
  refine Ev.congr (f := fun k => if sizeIn s = true then impl_RuleValid.l0 k s xs (xs.length : Int) ((0 : Nat) : Int) kind xs value else some false) (fun k => by unfold impl_RuleValid.f; rw [sizeOk_eq]; rfl) ?_
  unfold ruleValid
  by_cases hs : sizeIn s = true
  · have h := irv_loop xs hx s kind value hs xs.length 0 (by omega)
    rw [List.take_zero, List.drop_zero] at h
    rw [hs, Bool.true_and]
    simp only [if_true]
    exact h
  · have hs' : sizeIn s = false := by simpa using hs
    rw [hs']
    exact Ev.congr (fun k => by rw [if_neg (by decide)]; rfl) (Ev.now _)
end Go.Proofs.YtojnknpgnohegaaDoor.Q
end
section
namespace Go.Proofs.YtojnknpgnohegaaDoor.Q
open Go.RowKit Go.Proofs.YtojnknpgnohegaaDoorW.PrintWords
abbrev IRule := S37
theorem rdR_nat {xs : List IRule} {i : Nat} (h : i < xs.length) : rd_T37 xs (i : Int) = xs[i] := by
  unfold rd_T37
  rw [Int.toNat_natCast, List.getD_eq_getElem?_getD, List.getElem?_eq_getElem h]
  rfl
def cellIn (size v : Int) : Bool := decide (0 ≤ v ∧ v ≤ size)
def gridValid (grid : List Int) (size : Int) : Bool := sizeIn size && decide ((grid.length : Int) = size * size) && grid.all (cellIn size)
def puzzleValid (size : Int) (given : List Int) (rules : List IRule) : Bool := gridValid given size && decide (rules.length ≤ 20) && rules.all (fun r => ruleValid r.f0 r.f1 r.f2 size)
theorem sgv_loop (xs : List Int) (hx : xs.length ≤ 9223372036854775807) (s : Int) : ∀ n i : Nat, i + n = xs.length → Ev (fun k => spec_GridValid.l0 k xs s (i : Int)) ((xs.drop i).all (cellIn s) && (sizeIn s && decide ((xs.length : Int) = s * s))) := by
  intro n
  induction n with
  | zero =>
    intro i hi
    rw [List.drop_of_length_le (by omega)]
    refine Ev.step (f := fun _ => some _) (fun k => ?_) (Ev.now _)
    simp only [spec_GridValid.l0, l1In_eq, Option.bind_some]
    rw [if_neg (by omega)]
    by_cases hs : 2 ≤ s ∧ s ≤ 4
    · have hs' : sizeIn s = true := decide_eq_true hs
      obtain ⟨q1, _⟩ := size_sq hs'
      rw [if_pos (decide_eq_true hs), q1, hs', Bool.true_and]
      rfl
    · have hs' : sizeIn s = false := decide_eq_false hs
      rw [if_neg (by simpa using hs), hs']
      rfl
  | succ n ih =>
    intro i hi
    have hlt : i < xs.length := by omega
    rw [drop_get hlt, List.all_cons]
    by_cases hc : 0 ≤ xs[i] ∧ xs[i] ≤ s
    · rw [show cellIn s xs[i] = true from decide_eq_true hc, Bool.true_and]
      exact Ev.step (fun k => by simp only [spec_GridValid.l0]; rw [if_pos (by omega), if_pos (by omega), rd_nat hlt, l1In_eq, decide_eq_true hc, wnext hlt hx]; simp only [Option.bind_some, if_true]) (ih (i + 1) (by omega))
    · rw [show cellIn s xs[i] = false from decide_eq_false hc]
      exact Ev.step (fun k => by simp only [spec_GridValid.l0]; rw [if_pos (by omega), if_pos (by omega), rd_nat hlt, l1In_eq, decide_eq_false hc]; rfl) (Ev.now _)
theorem specGridValid_ev (xs : List Int) (s : Int) (hx : xs.length ≤ 9223372036854775807) : Ev (fun k => spec_GridValid.f k xs s) (gridValid xs s) := by
  have h := sgv_loop xs hx s xs.length 0 (by omega)
  rw [List.drop_zero] at h
  unfold gridValid
  rw [Bool.and_comm]
  exact h
theorem igv_loop (xs : List Int) (hx : xs.length ≤ 9223372036854775807) (s : Int) : ∀ n i : Nat, i + n = xs.length → Ev (fun k => impl_GridValid.l0 k s xs (xs.length : Int) (i : Int)) ((xs.drop i).all (cellIn s)) := by
  intro n
  induction n with
  | zero =>
    intro i hi
    rw [List.drop_of_length_le (by omega)]
    exact Ev.step (fun k => by simp only [impl_GridValid.l0]; rw [if_neg (by omega)]; rfl) (Ev.now _)
  | succ n ih =>
    intro i hi
    have hlt : i < xs.length := by omega
    rw [drop_get hlt, List.all_cons]
    by_cases h1 : xs[i] < 0
    · rw [show cellIn s xs[i] = false from decide_eq_false (by omega)]
      exact Ev.step (fun k => by simp only [impl_GridValid.l0]; rw [if_pos (by omega), if_pos (by omega), if_pos (by omega), rd_nat hlt, if_pos h1]; rfl) (Ev.now _)
    · by_cases h2 : xs[i] > s
      · rw [show cellIn s xs[i] = false from decide_eq_false (by omega)]
        exact Ev.step (fun k => by simp only [impl_GridValid.l0]; rw [if_pos (by omega), if_pos (by omega), if_pos (by omega), rd_nat hlt, if_neg h1, if_pos h2]; rfl) (Ev.now _)
      · rw [show cellIn s xs[i] = true from decide_eq_true (by omega), Bool.true_and]
        exact Ev.step (fun k => by simp only [impl_GridValid.l0]; rw [if_pos (by omega), if_pos (by omega), if_pos (by omega), rd_nat hlt, if_neg h1, if_neg h2, wnext hlt hx]) (ih (i + 1) (by omega))
theorem implGridValid_ev (xs : List Int) (s : Int) (hx : xs.length ≤ 9223372036854775807) : Ev (fun k => impl_GridValid.f k xs s) (gridValid xs s) := by
  refine Ev.congr (f := fun k => if sizeIn s = true then impl_GridValid.j0 k xs s ((xs.length : Int) != (wrap64 (s * s))) else impl_GridValid.j0 k xs s true) (fun k => by unfold impl_GridValid.f; rw [sizeOk_eq]; rfl) ?_
  unfold gridValid
  have hj : Ev (fun k => impl_GridValid.j0 k xs s true) false := Ev.step (fun k => by simp only [impl_GridValid.j0]; rw [if_pos trivial]) (Ev.now _)
  by_cases hs : sizeIn s = true
  · obtain ⟨q1, _⟩ := size_sq hs
    rw [hs, Bool.true_and]
    simp only [if_true, q1]
    by_cases hl : (xs.length : Int) = s * s
    · rw [decide_eq_true hl, Bool.true_and, show ((xs.length : Int) != s * s) = false by simpa using hl]
      have h := igv_loop xs hx s xs.length 0 (by omega)
      rw [List.drop_zero] at h
      exact Ev.step (fun k => by simp only [impl_GridValid.j0]; rw [if_neg (by decide)]; rfl) h
    · rw [decide_eq_false hl, Bool.false_and, show ((xs.length : Int) != s * s) = true by simpa using hl]
      exact hj
  · have hs' : sizeIn s = false := by simpa using hs
    rw [hs', Bool.false_and, Bool.false_and]
    exact Ev.congr (fun k => by rw [if_neg (by decide)]) hj
theorem spv_loop (s : Int) (given : List Int) (rules : List IRule) (hg : given.length ≤ 9223372036854775807) (hr : rules.length ≤ 9223372036854775807) (hc : ∀ r ∈ rules, r.f1.length ≤ 9223372036854775807) : ∀ n i : Nat, i + n = rules.length →
    Ev (fun k => spec_PuzzleValid.l0 k (i : Int) s given rules) ((rules.drop i).all (fun r => ruleValid r.f0 r.f1 r.f2 s) && (gridValid given s && decide (rules.length ≤ 20))) := by
  intro n
  induction n with
  | zero =>
    intro i hi
    rw [List.drop_of_length_le (by omega), List.all_nil, Bool.true_and]
    refine Ev.step (fun k => by simp only [spec_PuzzleValid.l0]; rw [if_neg (by omega)]) (Ev.bind (specGridValid_ev given s hg) ?_)
    by_cases h : gridValid given s = true
    · rw [h, Bool.true_and]
      exact Ev.congr (fun k => by rw [if_pos rfl, decide_eq_decide.2 (show (rules.length : Int) ≤ 20 ↔ rules.length ≤ 20 by omega)]) (Ev.now _)
    · have h' : gridValid given s = false := by simpa using h
      rw [h', Bool.false_and]
      exact Ev.congr (fun k => by rw [if_neg (by decide)]) (Ev.now _)
  | succ n ih =>
    intro i hi
    have hlt : i < rules.length := by omega
    rw [drop_get hlt, List.all_cons]
    refine Ev.step (fun k => by simp only [spec_PuzzleValid.l0]; rw [if_pos (by omega), if_pos (by omega), rdR_nat hlt, wnext hlt hr]) (Ev.bind (specRuleValid_ev _ _ _ s (hc _ (List.getElem_mem hlt))) ?_)
    by_cases h : ruleValid rules[i].f0 rules[i].f1 rules[i].f2 s = true
    · rw [h, Bool.true_and]
      exact Ev.congr (fun k => by rw [if_pos rfl]) (ih (i + 1) (by omega))
    · have h' : ruleValid rules[i].f0 rules[i].f1 rules[i].f2 s = false := by simpa using h
      rw [h', Bool.false_and, Bool.false_and]
      exact Ev.congr (fun k => by rw [if_neg (by decide)]) (Ev.now _)
theorem specPuzzleValid_ev (s : Int) (given : List Int) (rules : List IRule) (hg : given.length ≤ 9223372036854775807) (hr : rules.length ≤ 9223372036854775807) (hc : ∀ r ∈ rules, r.f1.length ≤ 9223372036854775807) : Ev (fun k => spec_PuzzleValid.f k s given rules) (puzzleValid s given rules) := by
  have h := spv_loop s given rules hg hr hc rules.length 0 (by omega)
  rw [List.drop_zero] at h
  unfold puzzleValid
  rw [Bool.and_comm]
  exact h
theorem ipv_loop (s : Int) (given : List Int) (rules : List IRule) (hr : rules.length ≤ 9223372036854775807) (hc : ∀ r ∈ rules, r.f1.length ≤ 9223372036854775807) : ∀ n i : Nat, i + n = rules.length →
    Ev (fun k => impl_PuzzleValid.l0 k rules (rules.length : Int) (i : Int) s given rules) ((rules.drop i).all (fun r => ruleValid r.f0 r.f1 r.f2 s)) := by
  intro n
  induction n with
  | zero =>
    intro i hi
    rw [List.drop_of_length_le (by omega), List.all_nil]
    exact Ev.step (fun k => by simp only [impl_PuzzleValid.l0]; rw [if_neg (by omega)]) (Ev.now _)
  | succ n ih =>
    intro i hi
    have hlt : i < rules.length := by omega
    rw [drop_get hlt, List.all_cons]
    refine Ev.step (fun k => by simp only [impl_PuzzleValid.l0]; rw [if_pos (by omega), if_pos (by omega), if_pos (by omega), rdR_nat hlt, wnext hlt hr]) (Ev.bind (implRuleValid_ev _ _ _ s (hc _ (List.getElem_mem hlt))) ?_)
    by_cases h : ruleValid rules[i].f0 rules[i].f1 rules[i].f2 s = true
    · rw [h, Bool.true_and]
      exact Ev.congr (fun k => by rw [if_pos rfl]) (ih (i + 1) (by omega))
    · have h' : ruleValid rules[i].f0 rules[i].f1 rules[i].f2 s = false := by simpa using h
      rw [h', Bool.false_and]
      exact Ev.congr (fun k => by rw [if_neg (by decide)]) (Ev.now _)
theorem implPuzzleValid_ev (s : Int) (given : List Int) (rules : List IRule) (hg : given.length ≤ 9223372036854775807) (hr : rules.length ≤ 9223372036854775807) (hc : ∀ r ∈ rules, r.f1.length ≤ 9223372036854775807) : Ev (fun k => impl_PuzzleValid.f k s given rules) (puzzleValid s given rules) := by
  have hj : Ev (fun k => impl_PuzzleValid.j0 k true s given rules) false := Ev.step (fun k => by simp only [impl_PuzzleValid.j0]; rw [if_pos trivial]) (Ev.now _)
  unfold puzzleValid
  refine Ev.bind (implGridValid_ev given s hg) ?_
  by_cases h : gridValid given s = true
  · rw [h, Bool.true_and]
    refine Ev.congr (f := fun k => impl_PuzzleValid.j0 k (decide ((rules.length : Int) > 20)) s given rules) (fun k => by rw [if_pos rfl]) ?_
    by_cases hl : rules.length ≤ 20
    · rw [decide_eq_true hl, Bool.true_and, decide_eq_false (by omega)]
      have h2 := ipv_loop s given rules hr hc rules.length 0 (by omega)
      rw [List.drop_zero] at h2
      exact Ev.step (fun k => by simp only [impl_PuzzleValid.j0]; rw [if_neg (by decide)]; rfl) h2
    · rw [decide_eq_false hl, Bool.false_and, decide_eq_true (by omega)]
      exact hj
  · have h' : gridValid given s = false := by simpa using h
    rw [h', Bool.false_and, Bool.false_and]
    exact Ev.congr (fun k => by rw [if_neg (by decide)]) hj
end Go.Proofs.YtojnknpgnohegaaDoor.Q
end
section
namespace Go.Proofs.YtojnknpgnohegaaDoor.Q
open Go.RowKit Go.Proofs.YtojnknpgnohegaaDoorW.PrintWords
abbrev LRule := S34
theorem rdL_nat {xs : List LRule} {i : Nat} (h : i < xs.length) : rd_T34 xs (i : Int) = xs[i] := by
  unfold rd_T34
  rw [Int.toNat_natCast, List.getD_eq_getElem?_getD, List.getElem?_eq_getElem h]
  rfl
def toI (r : LRule) : IRule := ⟨r.f0, r.f1, r.f2⟩
theorem toRule_ev (a : Int) (xs : List Int) (c : Int) (hx : xs.length ≤ 1048576) : Ev (fun k => laws_toRule.f k a xs c) (a, xs, c) := Ev.bind (toIntS_ev xs hx) (Ev.now _)
theorem eqRule_refl (a : Int) (xs : List Int) (c : Int) (hx : xs.length ≤ 9223372036854775807) : Ev (fun k => laws_eqRule.f k a xs c a xs c) true := by
  have h := eqIntS_ev xs xs hx
  rw [decide_eq_true rfl] at h
  refine Ev.congr (f := fun k => (laws_eqIntS.f k xs xs).bind fun t => if t = true then (if c = c then some true else some false) else some false) (fun k => by unfold laws_eqRule.f; rw [if_pos rfl]) (Ev.bind h ?_)
  exact Ev.congr (fun k => by rw [if_pos rfl, if_pos rfl]) (Ev.now _)
theorem szRule_eq (a : Int) (xs : List Int) (c left : Int) (hx : xs.length ≤ 9223372036854775807) (h0 : 0 ≤ left) (h1 : left ≤ 1048576) : laws_szRule.f a xs c left = some (if left < xs.length then -1 else left - xs.length) := by
  unfold laws_szRule.f
  rw [szIntS_eq xs left hx h0 h1]
  simp only [Option.bind_some]
  by_cases h : left < xs.length
  · rw [if_pos h, if_pos (by omega)]
  · rw [if_neg h, if_neg (by omega)]
theorem szRuleS_loop (xs : List LRule) (hx : xs.length ≤ 9223372036854775807) (hc : ∀ r ∈ xs, r.f1.length ≤ 9223372036854775807) : ∀ n i : Nat, i + n = xs.length → ∀ left : Int, 0 ≤ left → left ≤ 1048576 →
    ∃ t, Ev (fun k => laws_szRuleS.l0 k xs left (i : Int)) t ∧ (t < 0 ∨ (0 ≤ t ∧ t ≤ left ∧ ∀ r ∈ xs.drop i, (r.f1.length : Int) ≤ left)) := by
  intro n
  induction n with
  | zero =>
    intro i hi left h0 h1
    exact ⟨left, Ev.step (fun k => by simp only [laws_szRuleS.l0]; rw [if_neg (by omega)]) (Ev.now _), .inr ⟨h0, by omega, by rw [List.drop_of_length_le (by omega)]; simp⟩⟩
  | succ n ih =>
    intro i hi left h0 h1
    have hlt : i < xs.length := by omega
    have hl := hc _ (List.getElem_mem hlt)
    by_cases h : left < (xs[i].f1.length : Int)
    · exact ⟨-1, Ev.step (fun k => by simp only [laws_szRuleS.l0]; rw [if_pos (by omega), if_pos (by omega), rdL_nat hlt, szRule_eq _ _ _ left hl h0 h1, if_pos h]; rfl) (Ev.now _), .inl (by omega)⟩
    · obtain ⟨t, ht, hq⟩ := ih (i + 1) (by omega) (left - xs[i].f1.length) (by omega) (by omega)
      refine ⟨t, Ev.step (fun k => by
        simp only [laws_szRuleS.l0]
        rw [if_pos (by omega), if_pos (by omega), rdL_nat hlt, szRule_eq _ _ _ left hl h0 h1, if_neg h, wnext hlt hx]
        simp only [Option.bind_some]
        rw [if_neg (by omega)]) ht, ?_⟩
      rcases hq with hq | ⟨q1, q2, q3⟩
      · exact .inl hq
      · refine .inr ⟨q1, by omega, fun r hr => ?_⟩
        rw [drop_get hlt] at hr
        rcases List.mem_cons.1 hr with rfl | hr
        · omega
        · have := q3 r hr; omega
theorem szPuzzle_ev (s : Int) (given : List Int) (rules : List LRule) (hg : given.length ≤ 9223372036854775807) (hx : rules.length ≤ 9223372036854775807) (hc : ∀ r ∈ rules, r.f1.length ≤ 9223372036854775807) (left : Int) (h0 : 0 ≤ left) (h1 : left ≤ 1048576) :
    ∃ t, Ev (fun k => laws_szPuzzle.f k s given rules left) t ∧ (t < 0 ∨ (0 ≤ t ∧ t ≤ left ∧ given.length ≤ 1048576 ∧ rules.length ≤ 1048576 ∧ ∀ r ∈ rules, r.f1.length ≤ 1048576)) := by
  by_cases h : left < (given.length : Int)
  · refine ⟨-1, Ev.congr (fun k => ?_) (Ev.now _), .inl (by omega)⟩
    unfold laws_szPuzzle.f
    rw [szIntS_eq given left hg h0 h1, if_pos h]
    rfl
  · have e1 : ∀ k, laws_szPuzzle.f k s given rules left = (laws_szRuleS.f k rules (left - given.length)).bind fun t => if t < 0 then some (-1) else some t := by
      intro k
      unfold laws_szPuzzle.f
      rw [szIntS_eq given left hg h0 h1, if_neg h]
      simp only [Option.bind_some]
      rw [if_neg (by omega)]
    have e2 : wrap64 (left - given.length - rules.length) = left - given.length - rules.length := w64 (by omega) (by omega)
    by_cases h2 : left - given.length - rules.length < 0
    · refine ⟨-1, Ev.congr (fun k => ?_) (Ev.now _), .inl (by omega)⟩
      rw [e1]
      unfold laws_szRuleS.f
      rw [e2, if_pos h2]
      rfl
    · obtain ⟨t, ht, hq⟩ := szRuleS_loop rules hx hc rules.length 0 (by omega) (left - given.length - rules.length) (by omega) (by omega)
      have ht2 : Ev (fun k => laws_szRuleS.f k rules (left - given.length)) t := Ev.congr (fun k => by unfold laws_szRuleS.f; rw [e2, if_neg h2]; rfl) ht
      rcases hq with hq | ⟨q1, q2, q3⟩
      · exact ⟨-1, Ev.congr e1 (Ev.bind ht2 (Ev.congr (fun k => by rw [if_pos hq]) (Ev.now _))), .inl (by omega)⟩
      · refine ⟨t, Ev.congr e1 (Ev.bind ht2 (Ev.congr (fun k => by rw [if_neg (by omega)]) (Ev.now _))), .inr ⟨q1, by omega, by omega, by omega, fun r hr => ?_⟩⟩
        have := q3 r (by simpa using hr)
        omega
theorem toRuleS_loop (xs : List LRule) (hx : xs.length ≤ 1048576) (hc : ∀ r ∈ xs, r.f1.length ≤ 1048576) : ∀ (n i : Nat) (ys : List IRule), i + n = xs.length → ys.length = xs.length → ys.take i = (xs.map toI).take i →
    Ev (fun k => laws_toRuleS.l0 k xs ys (i : Int)) (xs.map toI) := by
  intro n
  induction n with
  | zero =>
    intro i ys hi hl hy
    have e : ys = xs.map toI := by rw [List.take_of_length_le (by omega), List.take_of_length_le (by simp; omega)] at hy; exact hy
    exact Ev.step (fun k => by simp only [laws_toRuleS.l0]; rw [if_neg (by omega), e]) (Ev.now _)
  | succ n ih =>
    intro i ys hi hl hy
    have hlt : i < xs.length := by omega
    have hr := hc _ (List.getElem_mem hlt)
    refine Ev.step (f := fun k => (laws_toRule.f k xs[i].f0 xs[i].f1 xs[i].f2).bind fun t => laws_toRuleS.l0 k xs (ys.set i (⟨t.1, t.2.1, t.2.2⟩ : IRule)) ((i + 1 : Nat) : Int)) (fun k => by
      simp only [laws_toRuleS.l0]
      rw [if_pos (by omega), if_pos (by omega), rdL_nat hlt, wnext hlt (by omega), Int.toNat_natCast]
      simp only [if_pos (show (i : Int) < (ys.length : Int) by omega)]) (Ev.bind (toRule_ev _ _ _ hr) ?_)
    exact ih (i + 1) _ (by omega) (by simpa using hl) (set_upto (xs.map toI) ys i (by simpa using hlt) (by simpa using hl) _ (by simp [toI]) hy)
theorem toPuzzle_ev (s : Int) (given : List Int) (rules : List LRule) (hg : given.length ≤ 1048576) (hx : rules.length ≤ 1048576) (hc : ∀ r ∈ rules, r.f1.length ≤ 1048576) : Ev (fun k => laws_toPuzzle.f k s given rules) (s, given, rules.map toI) := by
  refine Ev.bind (toIntS_ev given hg) ?_
  have h : Ev (fun k => laws_toRuleS.f k rules) (rules.map toI) := by
    refine Ev.congr (fun k => ?_) (toRuleS_loop rules hx hc rules.length 0 (List.replicate rules.length z37) (by omega) (by simp) rfl)
    unfold laws_toRuleS.f
    rw [if_pos (by omega), Int.toNat_natCast, if_pos (by omega)]
    rfl
  exact Ev.bind h (Ev.now _)
theorem eqRuleS_refl_loop (xs : List IRule) (hx : xs.length ≤ 9223372036854775807) (hc : ∀ r ∈ xs, r.f1.length ≤ 9223372036854775807) : ∀ n i : Nat, i + n = xs.length → Ev (fun k => laws_eqRuleS.l0 k xs xs (i : Int)) true := by
  intro n
  induction n with
  | zero =>
    intro i hi
    exact Ev.step (fun k => by simp only [laws_eqRuleS.l0]; rw [if_neg (by omega)]) (Ev.now _)
  | succ n ih =>
    intro i hi
    have hlt : i < xs.length := by omega
    refine Ev.step (fun k => by simp only [laws_eqRuleS.l0]; rw [if_pos (by omega), if_pos (by omega), if_pos (by omega), rdR_nat hlt, wnext hlt hx]) (Ev.bind (eqRule_refl _ _ _ (hc _ (List.getElem_mem hlt))) ?_)
    exact Ev.congr (fun k => by rw [if_pos rfl]) (ih (i + 1) (by omega))
theorem eqRuleS_refl (xs : List IRule) (hx : xs.length ≤ 9223372036854775807) (hc : ∀ r ∈ xs, r.f1.length ≤ 9223372036854775807) : Ev (fun k => laws_eqRuleS.f k xs xs) true :=
  Ev.congr (fun k => by unfold laws_eqRuleS.f; rw [if_pos rfl]; rfl) (eqRuleS_refl_loop xs hx hc xs.length 0 (by omega))
theorem eqPuzzle_refl (s : Int) (given : List Int) (rules : List IRule) (hg : given.length ≤ 9223372036854775807) (hx : rules.length ≤ 9223372036854775807) (hc : ∀ r ∈ rules, r.f1.length ≤ 9223372036854775807) : Ev (fun k => laws_eqPuzzle.f k s given rules s given rules) true := by
  have h := eqIntS_ev given given hg
  rw [decide_eq_true rfl] at h
  refine Ev.congr (f := fun k => (laws_eqIntS.f k given given).bind fun t => if t = true then ((laws_eqRuleS.f k rules rules).bind fun t2 => if t2 = true then some true else some false) else some false) (fun k => by unfold laws_eqPuzzle.f; rw [if_pos rfl]) (Ev.bind h ?_)
  refine Ev.congr (fun k => by rw [if_pos rfl]) (Ev.bind (eqRuleS_refl rules hx hc) ?_)
  exact Ev.congr (fun k => by rw [if_pos rfl]) (Ev.now _)
end Go.Proofs.YtojnknpgnohegaaDoor.Q
end
section
namespace Go.Proofs.YtojnknpgnohegaaDoor.Q
open Go.RowKit Go.Proofs.YtojnknpgnohegaaDoorW.PrintWords
theorem str_append (a b : List Int) : strOfNums (a ++ b) = strOfNums a ++ strOfNums b := by
  unfold strOfNums
  apply ByteArray.ext
  rw [ByteArray.data_append]
  simp
theorem str_size (a : List Int) : (strOfNums a).size = a.length := by
  unfold strOfNums ByteArray.size
  simp
theorem number_loop : ∀ (n : Nat) (acc : ByteArray), n + acc.size ≤ 1000000000000 → Ev (fun k => spec_l22Number.l0 k (n : Int) acc) (if 9 < n then ⟨(Lib.decDigits (n / 10)).toArray⟩ ++ acc else acc) := by
  intro n
  induction n using Nat.strongRecOn with
  | _ n ih =>
    intro acc ha
    by_cases h : 9 < n
    · rw [if_pos h]
      have e1 : Int.tdiv (n : Int) 10 = ((n / 10 : Nat) : Int) := by rw [Int.tdiv_eq_ediv_of_nonneg (by omega)]; omega
      have e2 : wrap64 ((n / 10 : Nat) : Int) = ((n / 10 : Nat) : Int) := w64 (by omega) (by omega)
      have e3 : Int.tmod ((n / 10 : Nat) : Int) 10 = ((n / 10 % 10 : Nat) : Int) := by rw [Int.tmod_eq_emod_of_nonneg (by omega)]; omega
      have e4 : wrap64 (48 + ((n / 10 % 10 : Nat) : Int)) % 256 = 48 + ((n / 10 % 10 : Nat) : Int) := by rw [w64 (by omega) (by omega)]; omega
      have hs : (strOfNums [48 + ((n / 10 % 10 : Nat) : Int)] ++ acc).size = 1 + acc.size := by rw [ByteArray.size_append, str_size]; rfl
      have h1 := ih (n / 10) (by omega) (strOfNums [48 + ((n / 10 % 10 : Nat) : Int)] ++ acc) (by rw [hs]; omega)
      have e5 : (if 9 < n / 10 then (⟨(Lib.decDigits (n / 10 / 10)).toArray⟩ : ByteArray) ++ (strOfNums [48 + ((n / 10 % 10 : Nat) : Int)] ++ acc) else strOfNums [48 + ((n / 10 % 10 : Nat) : Int)] ++ acc) = ⟨(Lib.decDigits (n / 10)).toArray⟩ ++ acc := by
        have ed : strOfNums [48 + ((n / 10 % 10 : Nat) : Int)] = ⟨[UInt8.ofNat (48 + n / 10 % 10)].toArray⟩ := by
          unfold strOfNums
          simp only [List.map_cons, List.map_nil]
          rw [show (48 + ((n / 10 % 10 : Nat) : Int)).toNat = 48 + n / 10 % 10 by omega]
        rw [ed]
        by_cases h2 : 9 < n / 10
        · rw [if_pos h2, ← ByteArray.append_assoc]
          congr 1
          rw [Lib.decDigits.eq_1 (n / 10), dif_neg (by omega)]
          apply ByteArray.ext
          rw [ByteArray.data_append]
          simp
        · rw [if_neg h2]
          congr 1
          rw [Lib.decDigits.eq_1 (n / 10), dif_pos (by omega), Nat.mod_eq_of_lt (by omega)]
      rw [e5] at h1
      exact Ev.step (fun k => by
        simp only [spec_l22Number.l0]
        rw [if_pos (by omega), e1, e2, e3, e4]
        simp only [Option.bind_some]
        rw [if_pos (by rw [str_size]; simp only [List.length_singleton]; omega)]) h1
    · rw [if_neg h]
      exact Ev.step (fun k => by simp only [spec_l22Number.l0]; rw [if_neg (by omega)]) (Ev.now _)
theorem number_ev (n : Int) (h0 : 0 ≤ n) (h1 : n ≤ 100000) : Ev (fun k => spec_l22Number.f k n) ⟨(Lib.itoa n).toArray⟩ := by
  obtain ⟨m, rfl⟩ := Int.eq_ofNat_of_zero_le h0
  have e3 : Int.tmod (m : Int) 10 = ((m % 10 : Nat) : Int) := by rw [Int.tmod_eq_emod_of_nonneg (by omega)]; omega
  have e4 : wrap64 (48 + ((m % 10 : Nat) : Int)) % 256 = 48 + ((m % 10 : Nat) : Int) := by rw [w64 (by omega) (by omega)]; omega
  have h := number_loop m (strOfNums [48 + ((m % 10 : Nat) : Int)]) (by rw [str_size]; simp only [List.length_singleton]; omega)
  have ed : strOfNums [48 + ((m % 10 : Nat) : Int)] = ⟨[UInt8.ofNat (48 + m % 10)].toArray⟩ := by
    unfold strOfNums
    simp only [List.map_cons, List.map_nil]
    rw [show (48 + ((m % 10 : Nat) : Int)).toNat = 48 + m % 10 by omega]
  have e : (if 9 < m then (⟨(Lib.decDigits (m / 10)).toArray⟩ : ByteArray) ++ strOfNums [48 + ((m % 10 : Nat) : Int)] else strOfNums [48 + ((m % 10 : Nat) : Int)]) = ⟨(Lib.itoa (m : Int)).toArray⟩ := by
    unfold Lib.itoa
    rw [if_neg (show ¬ ((m : Int) < 0) by omega), Int.toNat_natCast, ed, Lib.decDigits.eq_1 m]
    by_cases h2 : 9 < m
    · rw [if_pos h2, dif_neg (by omega)]
      apply ByteArray.ext
      rw [ByteArray.data_append]
      simp
    · rw [if_neg h2, dif_pos (by omega), Nat.mod_eq_of_lt (by omega)]
  rw [e] at h
  exact Ev.congr (fun k => by unfold spec_l22Number.f; rw [e3, e4]) h
theorem itoa_eq (n : Int) (h0 : 0 ≤ n) (h1 : n ≤ 100000) : strconv_Itoa.f n = some ⟨(Lib.itoa n).toArray⟩ := by
  unfold strconv_Itoa.f
  rw [if_pos (by omega), if_pos (by omega)]
theorem decDigits_len : ∀ n : Nat, (Lib.decDigits n).length ≤ n + 1 := by
  intro n
  induction n using Nat.strongRecOn with
  | _ n ih =>
    rw [Lib.decDigits]
    by_cases h : n < 10
    · rw [dif_pos h]; simp
    · rw [dif_neg h]
      have := ih (n / 10) (by omega)
      simp only [List.length_append, List.length_singleton]
      omega
theorem itoa_size (n : Int) (h0 : 0 ≤ n) (h1 : n ≤ 100000) : (⟨(Lib.itoa n).toArray⟩ : ByteArray).size ≤ 100001 := by
  unfold Lib.itoa
  rw [if_neg (by omega)]
  have := decDigits_len n.toNat
  show (Lib.decDigits n.toNat).toArray.size ≤ 100001
  simp only [List.size_toArray]
  omega
def lettersOf (kind : Int) (cells : List Int) : List Int := bt (⟨#[100, 115, 112, 108, 97]⟩ : ByteArray) (kind - 1) :: cells.map fun c => 97 + c
def ruleT (kind : Int) (cells : List Int) (value : Int) : ByteArray :=
  if kind = 2 ∨ kind = 3 ∨ kind = 5 then (strOfNums (lettersOf kind cells) ++ (⟨#[61]⟩ : ByteArray)) ++ ⟨(Lib.itoa value).toArray⟩ else strOfNums (lettersOf kind cells)
structure RuleIn (kind : Int) (cells : List Int) (value : Int) : Prop where
  k0 : 1 ≤ kind
  k1 : kind ≤ 5
  len : cells.length ≤ 4
  cell : ∀ c ∈ cells, 0 ≤ c ∧ c ≤ 15
  v0 : 0 ≤ value
  v1 : value ≤ 256
theorem cellsOk_mem {M : Int} : ∀ (xs pre : List Int), cellsOk M pre xs = true → ∀ c ∈ xs, 0 ≤ c ∧ c ≤ M
  | [], _, _, c, hc => by simp at hc
  | x :: r, pre, h, c, hc => by
    simp only [cellsOk, Bool.and_eq_true, decide_eq_true_eq] at h
    rcases List.mem_cons.1 hc with rfl | hc
    · exact h.1.1
    · exact cellsOk_mem r _ h.2 c hc
theorem kindOk_in {kind n value size : Int} (hs : 2 ≤ size ∧ size ≤ 4) (h : kindOk kind n value size = true) : 1 ≤ kind ∧ kind ≤ 5 ∧ n ≤ 4 ∧ 0 ≤ value ∧ value ≤ 256 := by
  have h3 : size = 2 ∨ size = 3 ∨ size = 4 := by omega
  unfold kindOk at h
  split at h
  · simp only [Bool.and_eq_true, decide_eq_true_eq] at h; omega
  · split at h
    · rename_i hk
      simp only [Bool.and_eq_true, decide_eq_true_eq] at h
      rcases h3 with rfl | rfl | rfl <;> (rcases hk with rfl | rfl <;> omega)
    · split at h
      · simp only [Bool.and_eq_true, decide_eq_true_eq] at h; omega
      · split at h
        · simp only [Bool.and_eq_true, decide_eq_true_eq] at h; omega
        · cases h
theorem ruleIn_of {kind : Int} {cells : List Int} {value : Int} (h : ruleValid kind cells value 4 = true) : RuleIn kind cells value := by
  unfold ruleValid at h
  simp only [Bool.and_eq_true] at h
  obtain ⟨⟨_, h2⟩, h3⟩ := h
  obtain ⟨a, b, c, d, e⟩ := kindOk_in ⟨by omega, by omega⟩ h3
  exact ⟨a, b, by omega, fun c hc => by have := cellsOk_mem _ _ h2 c hc; omega, d, e⟩
theorem byte97 {c : Int} (h : 0 ≤ c ∧ c ≤ 15) : wrap64 (97 + c) % 256 = 97 + c := by rw [w64 (by omega) (by omega)]; omega
theorem itoaT {v : Int} (h0 : 0 ≤ v) (h1 : v ≤ 256) : (⟨(Lib.itoa v).toArray⟩ : ByteArray).size ≤ 100001 := itoa_size v h0 (by omega)
theorem irt_loop {kind : Int} {cells : List Int} {value : Int} (h : RuleIn kind cells value) : ∀ n i : Nat, i + n = cells.length → ∀ out : List Int, out.length ≤ 1 + i →
    Ev (fun k => impl_RuleText.l0 k out cells (cells.length : Int) (i : Int) kind cells value) (if kind = 2 ∨ kind = 3 ∨ kind = 5 then (strOfNums (out ++ (cells.drop i).map fun c => 97 + c) ++ (⟨#[61]⟩ : ByteArray)) ++ ⟨(Lib.itoa value).toArray⟩ else strOfNums (out ++ (cells.drop i).map fun c => 97 + c)) := by
  intro n
  have hlen := h.len
  have h0 := h.v0
  have h1 := h.v1
  induction n with
  | zero =>
    intro i hi out ho
    rw [List.drop_of_length_le (by omega), List.map_nil, List.append_nil]
    have hz := itoaT h0 h1
    have hs : (strOfNums out).size ≤ 5 := by rw [str_size]; omega
    have hs2 : ((strOfNums out) ++ (⟨#[61]⟩ : ByteArray)).size ≤ 6 := by rw [ByteArray.size_append]; exact Nat.add_le_add hs (Nat.le_refl 1)
    refine Ev.step (f := fun _ => some _) (fun k => ?_) (Ev.now _)
    simp only [impl_RuleText.l0, itoa_eq value h0 (by omega), Option.bind_some]
    rw [if_neg (by omega)]
    by_cases e2 : kind = 2
    · rw [if_pos e2, if_pos (by omega), if_pos (by omega), if_pos (Or.inl e2)]
    · rw [if_neg e2]
      by_cases e3 : kind = 3
      · rw [if_pos e3, if_pos (by omega), if_pos (by omega), if_pos (Or.inr (Or.inl e3))]
      · rw [if_neg e3]
        by_cases e5 : kind = 5
        · rw [if_pos e5, if_pos (by omega), if_pos (by omega), if_pos (Or.inr (Or.inr e5))]
        · rw [if_neg e5, if_neg (by rintro (h | h | h) <;> contradiction)]
  | succ n ih =>
    intro i hi out ho
    have hlt : i < cells.length := by omega
    have hc := h.cell cells[i] (List.getElem_mem hlt)
    have h2 := ih (i + 1) (by omega) (out ++ [97 + cells[i]]) (by simp only [List.length_append, List.length_singleton]; omega)
    rw [drop_get hlt, List.map_cons, List.append_cons]
    exact Ev.step (fun k => by simp only [impl_RuleText.l0]; rw [if_pos (by omega), if_pos (by omega), if_pos (by omega), if_pos (by omega), rd_nat hlt, byte97 hc, wnext hlt (by omega)]) h2
theorem implRuleText_ev (kind : Int) (cells : List Int) (value : Int) (hx : cells.length ≤ 9223372036854775807) :
    Ev (fun k => impl_RuleText.f k kind cells value) (if ruleValid kind cells value 4 = true then ruleT kind cells value else ⟨#[]⟩) := by
  refine Ev.bind (implRuleValid_ev kind cells value 4 hx) ?_
  by_cases hv : ruleValid kind cells value 4 = true
  · have h := ruleIn_of hv
    obtain ⟨a, b⟩ := (⟨h.k0, h.k1⟩ : 1 ≤ kind ∧ kind ≤ 5)
    have e1 : wrap64 (kind - 1) = kind - 1 := w64 (by omega) (by omega)
    have h2 := irt_loop h cells.length 0 (by omega) [bt (⟨#[100, 115, 112, 108, 97]⟩ : ByteArray) (kind - 1)] (by simp)
    rw [hv, if_pos rfl]
    unfold ruleT lettersOf
    exact Ev.congr (fun k => by rw [if_pos rfl, e1, if_pos (by omega), if_pos (by omega)]; rfl) h2
  · have hv' : ruleValid kind cells value 4 = false := by simpa using hv
    rw [hv', if_neg (by decide)]
    exact Ev.congr (fun k => by rw [if_neg (by decide)]) (Ev.now _)
theorem srt_loop {kind : Int} {cells : List Int} {value : Int} (h : RuleIn kind cells value) : ∀ n i : Nat, i + n = cells.length → ∀ out : List Int, out.length ≤ 1 + i →
    Ev (fun k => spec_RuleText.l0 k (strOfNums out) (i : Int) kind cells value) (if kind = 2 ∨ kind = 3 ∨ kind = 5 then (strOfNums (out ++ (cells.drop i).map fun c => 97 + c) ++ (⟨#[61]⟩ : ByteArray)) ++ ⟨(Lib.itoa value).toArray⟩ else strOfNums (out ++ (cells.drop i).map fun c => 97 + c)) := by
  intro n
  have hlen := h.len
  have h0 := h.v0
  have h1 := h.v1
  induction n with
  | zero =>
    intro i hi out ho
    rw [List.drop_of_length_le (by omega), List.map_nil, List.append_nil]
    have hz := itoaT h0 h1
    have hs : (strOfNums out).size ≤ 5 := by rw [str_size]; omega
    have hs2 : ((strOfNums out) ++ (⟨#[61]⟩ : ByteArray)).size ≤ 6 := by rw [ByteArray.size_append]; exact Nat.add_le_add hs (Nat.le_refl 1)
    have hn := number_ev value h0 (by omega)
    by_cases e2 : kind = 2
    · rw [if_pos (Or.inl e2)]
      refine Ev.step (fun k => by simp only [spec_RuleText.l0]; rw [if_neg (by omega), if_pos e2, if_pos (by omega)]) (Ev.bind hn ?_)
      exact Ev.congr (fun k => by rw [if_pos (by omega)]) (Ev.now _)
    · by_cases e3 : kind = 3
      · rw [if_pos (Or.inr (Or.inl e3))]
        refine Ev.step (fun k => by simp only [spec_RuleText.l0]; rw [if_neg (by omega), if_neg e2, if_pos e3, if_pos (by omega)]) (Ev.bind hn ?_)
        exact Ev.congr (fun k => by rw [if_pos (by omega)]) (Ev.now _)
      · by_cases e5 : kind = 5
        · rw [if_pos (Or.inr (Or.inr e5))]
          refine Ev.step (fun k => by simp only [spec_RuleText.l0]; rw [if_neg (by omega), if_neg e2, if_neg e3, if_pos e5, if_pos (by omega)]) (Ev.bind hn ?_)
          exact Ev.congr (fun k => by rw [if_pos (by omega)]) (Ev.now _)
        · rw [if_neg (by rintro (h | h | h) <;> contradiction)]
          exact Ev.step (fun k => by simp only [spec_RuleText.l0]; rw [if_neg (by omega), if_neg e2, if_neg e3, if_neg e5]) (Ev.now _)
  | succ n ih =>
    intro i hi out ho
    have hlt : i < cells.length := by omega
    have hc := h.cell cells[i] (List.getElem_mem hlt)
    have h2 := ih (i + 1) (by omega) (out ++ [97 + cells[i]]) (by simp only [List.length_append, List.length_singleton]; omega)
    rw [drop_get hlt, List.map_cons, List.append_cons]
    exact Ev.step (fun k => by
      simp only [spec_RuleText.l0]
      rw [if_pos (by omega), if_pos (by omega), rd_nat hlt, byte97 hc, wnext hlt (by omega)]
      simp only [Option.bind_some]
      rw [if_pos (by rw [str_size, str_size]; simp only [List.length_singleton]; omega), ← str_append]) h2
theorem letter_cut : ∀ kind : Int, 1 ≤ kind → kind ≤ 5 → (⟨#[100, 115, 112, 108, 97]⟩ : ByteArray).extract (kind - 1).toNat kind.toNat = strOfNums [bt (⟨#[100, 115, 112, 108, 97]⟩ : ByteArray) (kind - 1)] := by
  intro kind h0 h1
  have : kind = 1 ∨ kind = 2 ∨ kind = 3 ∨ kind = 4 ∨ kind = 5 := by omega
  rcases this with rfl | rfl | rfl | rfl | rfl <;> rfl
theorem specRuleText_ev (kind : Int) (cells : List Int) (value : Int) (hx : cells.length ≤ 9223372036854775807) :
    Ev (fun k => spec_RuleText.f k kind cells value) (if ruleValid kind cells value 4 = true then ruleT kind cells value else ⟨#[]⟩) := by
  refine Ev.bind (specRuleValid_ev kind cells value 4 hx) ?_
  by_cases hv : ruleValid kind cells value 4 = true
  · have h := ruleIn_of hv
    obtain ⟨a, b⟩ := (⟨h.k0, h.k1⟩ : 1 ≤ kind ∧ kind ≤ 5)
    have e1 : wrap64 (kind - 1) = kind - 1 := w64 (by omega) (by omega)
    have h2 := srt_loop h cells.length 0 (by omega) [bt (⟨#[100, 115, 112, 108, 97]⟩ : ByteArray) (kind - 1)] (by simp)
    rw [hv, if_pos rfl]
    unfold ruleT lettersOf
    exact Ev.congr (fun k => by rw [if_pos rfl, e1, if_pos (by omega), if_pos (by omega), if_pos (by omega), letter_cut kind a b]; rfl) h2
  · have hv' : ruleValid kind cells value 4 = false := by simpa using hv
    rw [hv', if_neg (by decide)]
    exact Ev.congr (fun k => by rw [if_neg (by decide)]) (Ev.now _)
end Go.Proofs.YtojnknpgnohegaaDoor.Q
end
section
namespace Go.Proofs.YtojnknpgnohegaaDoor.Q
open Go.RowKit Go.Proofs.YtojnknpgnohegaaDoorW.PrintWords
def cellT (v : Int) : Int := if v = 0 then 46 else 48 + v
def gridT (grid : List Int) (s : Int) : ByteArray := strOfNums ([48 + s, 58] ++ grid.map cellT)
theorem byte48 {c : Int} (h : 0 ≤ c ∧ c ≤ 9) : wrap64 (48 + c) % 256 = 48 + c := by rw [w64 (by omega) (by omega)]; omega
structure GridIn (grid : List Int) (s : Int) : Prop where
  s0 : 2 ≤ s
  s1 : s ≤ 4
  len : grid.length ≤ 16
  cell : ∀ c ∈ grid, 0 ≤ c ∧ c ≤ 4
theorem gridIn_of {grid : List Int} {s : Int} (h : gridValid grid s = true) : GridIn grid s := by
  unfold gridValid at h
  simp only [Bool.and_eq_true, decide_eq_true_eq, List.all_eq_true] at h
  obtain ⟨⟨h1, h2⟩, h3⟩ := h
  obtain ⟨_, _, _, b1, b2, b3, b4⟩ := size_sq h1
  refine ⟨b3, b4, by omega, fun c hc => ?_⟩
  have := of_decide_eq_true (h3 c hc)
  omega
theorem sgt_loop {grid : List Int} {s : Int} (h : GridIn grid s) : ∀ n i : Nat, i + n = grid.length → ∀ out : List Int, out.length ≤ 2 + i →
    Ev (fun k => spec_GridText.l0 k grid (strOfNums out) (i : Int)) (strOfNums (out ++ (grid.drop i).map cellT)) := by
  intro n
  have hlen := h.len
  induction n with
  | zero =>
    intro i hi out ho
    rw [List.drop_of_length_le (by omega), List.map_nil, List.append_nil]
    exact Ev.step (fun k => by simp only [spec_GridText.l0]; rw [if_neg (by omega)]) (Ev.now _)
  | succ n ih =>
    intro i hi out ho
    have hlt : i < grid.length := by omega
    have hc := h.cell grid[i] (List.getElem_mem hlt)
    rw [drop_get hlt, List.map_cons, List.append_cons]
    have h2 := ih (i + 1) (by omega) (out ++ [cellT grid[i]]) (by simp only [List.length_append, List.length_singleton]; omega)
    by_cases e : grid[i] = 0
    · have e1 : strOfNums (out ++ [cellT grid[i]]) = strOfNums out ++ (⟨#[46]⟩ : ByteArray) := by rw [str_append]; unfold cellT; rw [if_pos e]; rfl
      rw [e1] at h2
      exact Ev.step (fun k => by
        simp only [spec_GridText.l0]
        rw [if_pos (by omega), if_pos (by omega), rd_nat hlt, if_pos e, if_pos (by rw [str_size]; omega), wnext hlt (by omega)]) h2
    · have e1 : strOfNums (out ++ [cellT grid[i]]) = strOfNums out ++ strOfNums [48 + grid[i]] := by rw [str_append]; unfold cellT; rw [if_neg e]
      rw [e1] at h2
      exact Ev.step (fun k => by
        simp only [spec_GridText.l0]
        rw [if_pos (by omega), if_pos (by omega), rd_nat hlt, if_neg e, byte48 ⟨hc.1, by omega⟩, wnext hlt (by omega)]
        simp only [Option.bind_some]
        rw [if_pos (by rw [str_size, str_size]; simp only [List.length_singleton]; omega)]) h2
theorem specGridText_ev (grid : List Int) (s : Int) (hx : grid.length ≤ 9223372036854775807) : Ev (fun k => spec_GridText.f k grid s) (if gridValid grid s = true then gridT grid s else ⟨#[]⟩) := by
  refine Ev.bind (specGridValid_ev grid s hx) ?_
  by_cases hv : gridValid grid s = true
  · have h := gridIn_of hv
    have h0 := h.s0
    have h1 := h.s1
    have h2 := sgt_loop h grid.length 0 (by omega) [48 + s, 58] (by simp)
    rw [hv, if_pos rfl]
    refine Ev.congr (fun k => ?_) h2
    rw [if_pos rfl, byte48 (by omega)]
    simp only [Option.bind_some]
    rw [if_pos (by rw [str_size]; simp)]
    rfl
  · have hv' : gridValid grid s = false := by simpa using hv
    rw [hv', if_neg (by decide)]
    exact Ev.congr (fun k => by rw [if_neg (by decide)]) (Ev.now _)
theorem ict_loop {grid : List Int} {s : Int} (h : GridIn grid s) : ∀ n i : Nat, i + n = grid.length → ∀ out : List Int, out.length ≤ 2 + i →
    Ev (fun k => impl_cellsText.l0 k out grid (grid.length : Int) (i : Int)) (strOfNums (out ++ (grid.drop i).map cellT)) := by
  intro n
  have hlen := h.len
  induction n with
  | zero =>
    intro i hi out ho
    rw [List.drop_of_length_le (by omega), List.map_nil, List.append_nil]
    exact Ev.step (fun k => by simp only [impl_cellsText.l0]; rw [if_neg (by omega)]) (Ev.now _)
  | succ n ih =>
    intro i hi out ho
    have hlt : i < grid.length := by omega
    have hc := h.cell grid[i] (List.getElem_mem hlt)
    rw [drop_get hlt, List.map_cons, List.append_cons]
    have h2 := ih (i + 1) (by omega) (out ++ [cellT grid[i]]) (by simp only [List.length_append, List.length_singleton]; omega)
    by_cases e : grid[i] = 0
    · rw [show cellT grid[i] = 46 by unfold cellT; rw [if_pos e]] at h2 ⊢
      exact Ev.step (fun k => by
        simp only [impl_cellsText.l0]
        rw [if_pos (by omega), if_pos (by omega), if_pos (by omega), rd_nat hlt, if_pos e, if_pos (by omega), wnext hlt (by omega)]) h2
    · rw [show cellT grid[i] = 48 + grid[i] by unfold cellT; rw [if_neg e]] at h2 ⊢
      exact Ev.step (fun k => by
        simp only [impl_cellsText.l0]
        rw [if_pos (by omega), if_pos (by omega), if_pos (by omega), rd_nat hlt, if_neg e, if_pos (by omega), byte48 ⟨hc.1, by omega⟩, wnext hlt (by omega)]) h2
theorem implGridText_ev (grid : List Int) (s : Int) (hx : grid.length ≤ 9223372036854775807) : Ev (fun k => impl_GridText.f k grid s) (if gridValid grid s = true then gridT grid s else ⟨#[]⟩) := by
  refine Ev.bind (implGridValid_ev grid s hx) ?_
  by_cases hv : gridValid grid s = true
  · have h := gridIn_of hv
    have h0 := h.s0
    have h1 := h.s1
    have hlen := h.len
    have h2 : Ev (fun k => impl_cellsText.f k grid) (strOfNums (grid.map cellT)) := by
      have h3 := ict_loop h grid.length 0 (by omega) [] (by simp)
      refine Ev.congr (fun k => ?_) h3
      unfold impl_cellsText.f
      rw [if_pos (by omega), if_pos (by omega)]
      rfl
    rw [hv, if_pos rfl]
    refine Ev.congr (f := fun k => (impl_cellsText.f k grid).bind fun t => if (strOfNums [48 + s, 58]).size + t.size ≤ 9223372036854775807 then some (strOfNums [48 + s, 58] ++ t) else none) (fun k => by rw [if_pos rfl, byte48 (by omega)]; rfl) (Ev.bind h2 ?_)
    unfold gridT
    rw [str_append]
    exact Ev.congr (fun k => by rw [if_pos (by rw [str_size, str_size]; simp; omega)]) (Ev.now _)
  · have hv' : gridValid grid s = false := by simpa using hv
    rw [hv', if_neg (by decide)]
    exact Ev.congr (fun k => by rw [if_neg (by decide)]) (Ev.now _)
theorem gridT_size {grid : List Int} {s : Int} (h : GridIn grid s) : (gridT grid s).size ≤ 18 := by
  unfold gridT
  have := h.len
  rw [str_size]
  simp
  omega
def ruleText (r : IRule) : ByteArray := if ruleValid r.f0 r.f1 r.f2 4 = true then ruleT r.f0 r.f1 r.f2 else ⟨#[]⟩
theorem ruleText_size (r : IRule) : (ruleText r).size ≤ 100010 := by
  unfold ruleText
  by_cases hv : ruleValid r.f0 r.f1 r.f2 4 = true
  · have h := ruleIn_of hv
    have hl := h.len
    have hz := itoaT h.v0 h.v1
    have hs : (strOfNums (lettersOf r.f0 r.f1)).size ≤ 5 := by rw [str_size]; unfold lettersOf; simp; omega
    rw [if_pos hv]
    unfold ruleT
    split
    · rw [ByteArray.size_append, ByteArray.size_append]
      have : (⟨#[61]⟩ : ByteArray).size = 1 := rfl
      omega
    · omega
  · rw [if_neg hv]; decide
def puzzleT (out : ByteArray) (rules : List IRule) : ByteArray := rules.foldl (fun o r => o ++ ((⟨#[32]⟩ : ByteArray) ++ ruleText r)) out
theorem size_space : (⟨#[32]⟩ : ByteArray).size = 1 := rfl
theorem spt_loop (s : Int) (given : List Int) (rules : List IRule) (hr : rules.length ≤ 20) (hc : ∀ r ∈ rules, r.f1.length ≤ 9223372036854775807) : ∀ n i : Nat, i + n = rules.length → ∀ out : ByteArray, out.size ≤ 18 + 200000 * i →
    Ev (fun k => spec_PuzzleText.l0 k out (i : Int) s given rules) (puzzleT out (rules.drop i)) := by
  intro n
  induction n with
  | zero =>
    intro i hi out ho
    rw [List.drop_of_length_le (by omega)]
    exact Ev.step (fun k => by simp only [spec_PuzzleText.l0]; rw [if_neg (by omega)]; rfl) (Ev.now _)
  | succ n ih =>
    intro i hi out ho
    have hlt : i < rules.length := by omega
    have hz := ruleText_size rules[i]
    rw [drop_get hlt]
    have h2 := ih (i + 1) (by omega) (out ++ ((⟨#[32]⟩ : ByteArray) ++ ruleText rules[i])) (by rw [ByteArray.size_append, ByteArray.size_append, size_space]; omega)
    have h3 := specRuleText_ev rules[i].f0 rules[i].f1 rules[i].f2 (hc _ (List.getElem_mem hlt))
    refine Ev.step (fun k => by simp only [spec_PuzzleText.l0]; rw [if_pos (by omega), if_pos (by omega), if_pos (by omega), rdR_nat hlt, wnext hlt (by omega)]) (Ev.bind (a := ruleText rules[i]) h3 ?_)
    refine Ev.congr (fun k => ?_) h2
    rw [if_pos (by rw [ByteArray.size_append, size_space]; omega), ByteArray.append_assoc]
theorem ipt_loop (rules : List IRule) (hr : rules.length ≤ 20) (hc : ∀ r ∈ rules, r.f1.length ≤ 9223372036854775807) : ∀ n i : Nat, i + n = rules.length → ∀ out : ByteArray, out.size ≤ 18 + 200000 * i →
    Ev (fun k => impl_PuzzleText.l0 k out rules (rules.length : Int) (i : Int)) (puzzleT out (rules.drop i)) := by
  intro n
  induction n with
  | zero =>
    intro i hi out ho
    rw [List.drop_of_length_le (by omega)]
    exact Ev.step (fun k => by simp only [impl_PuzzleText.l0]; rw [if_neg (by omega)]; rfl) (Ev.now _)
  | succ n ih =>
    intro i hi out ho
    have hlt : i < rules.length := by omega
    have hz := ruleText_size rules[i]
    rw [drop_get hlt]
    have h2 := ih (i + 1) (by omega) (out ++ ((⟨#[32]⟩ : ByteArray) ++ ruleText rules[i])) (by rw [ByteArray.size_append, ByteArray.size_append, size_space]; omega)
    have h3 := implRuleText_ev rules[i].f0 rules[i].f1 rules[i].f2 (hc _ (List.getElem_mem hlt))
    refine Ev.step (fun k => by simp only [impl_PuzzleText.l0]; rw [if_pos (by omega), if_pos (by omega), if_pos (by omega), rdR_nat hlt, wnext hlt (by omega)]) (Ev.bind (a := ruleText rules[i]) h3 ?_)
    refine Ev.congr (fun k => ?_) h2
    rw [if_pos (by omega), if_pos (by rw [ByteArray.size_append, size_space]; omega)]
def puzzleText (s : Int) (given : List Int) (rules : List IRule) : ByteArray := if puzzleValid s given rules = true then puzzleT (gridT given s) rules else ⟨#[]⟩
theorem puzzleIn_of {s : Int} {given : List Int} {rules : List IRule} (h : puzzleValid s given rules = true) : gridValid given s = true ∧ rules.length ≤ 20 := by
  unfold puzzleValid at h
  simp only [Bool.and_eq_true, decide_eq_true_eq] at h
  exact h.1
theorem specPuzzleText_ev (s : Int) (given : List Int) (rules : List IRule) (hg : given.length ≤ 9223372036854775807) (hr : rules.length ≤ 9223372036854775807) (hc : ∀ r ∈ rules, r.f1.length ≤ 9223372036854775807) : Ev (fun k => spec_PuzzleText.f k s given rules) (puzzleText s given rules) := by
  refine Ev.bind (specPuzzleValid_ev s given rules hg hr hc) ?_
  unfold puzzleText
  by_cases hv : puzzleValid s given rules = true
  · obtain ⟨h1, h2⟩ := puzzleIn_of hv
    have h3 := specGridText_ev given s hg
    rw [if_pos h1] at h3
    rw [hv, if_pos rfl]
    refine Ev.congr (f := fun k => (spec_GridText.f k given s).bind fun t => spec_PuzzleText.l0 k t 0 s given rules) (fun k => by rw [if_pos rfl]) (Ev.bind h3 ?_)
    exact spt_loop s given rules h2 hc rules.length 0 (by omega) _ (by have := gridT_size (gridIn_of h1); omega)
  · have hv' : puzzleValid s given rules = false := by simpa using hv
    rw [hv', if_neg (by decide)]
    exact Ev.congr (fun k => by rw [if_neg (by decide)]) (Ev.now _)
theorem implPuzzleText_ev (s : Int) (given : List Int) (rules : List IRule) (hg : given.length ≤ 9223372036854775807) (hr : rules.length ≤ 9223372036854775807) (hc : ∀ r ∈ rules, r.f1.length ≤ 9223372036854775807) : Ev (fun k => impl_PuzzleText.f k s given rules) (puzzleText s given rules) := by
  refine Ev.bind (implPuzzleValid_ev s given rules hg hr hc) ?_
  unfold puzzleText
  by_cases hv : puzzleValid s given rules = true
  · obtain ⟨h1, h2⟩ := puzzleIn_of hv
    have h3 := implGridText_ev given s hg
    rw [if_pos h1] at h3
    rw [hv, if_pos rfl]
    refine Ev.congr (f := fun k => (impl_GridText.f k given s).bind fun t => impl_PuzzleText.l0 k t rules (rules.length : Int) 0) (fun k => by rw [if_pos rfl]) (Ev.bind h3 ?_)
    exact ipt_loop rules h2 hc rules.length 0 (by omega) _ (by have := gridT_size (gridIn_of h1); omega)
  · have hv' : puzzleValid s given rules = false := by simpa using hv
    rw [hv', if_neg (by decide)]
    exact Ev.congr (fun k => by rw [if_neg (by decide)]) (Ev.now _)
theorem pure_FnExactPuzzleText (s : Int) (given : List Int) (rules : List LRule) (_ : (Lit.int .i64 s).wf = true) (hg : given.length ≤ 9223372036854775807) (_ : ∀ x ∈ given, (Lit.int .i64 x).wf = true) (hx : rules.length ≤ 9223372036854775807)
    (hr : ∀ r ∈ rules, (Lit.int .i64 r.f0).wf = true ∧ (r.f1.length ≤ 9223372036854775807 ∧ ∀ x ∈ r.f1, (Lit.int .i64 x).wf = true) ∧ (Lit.int .i64 r.f2).wf = true) : ∃ k, laws_FnExactPuzzleText.f k s given rules = some true := by
  apply Ev.rounds
  unfold laws_FnExactPuzzleText.f
  obtain ⟨t, ht, hq⟩ := szPuzzle_ev s given rules hg hx (fun r h => (hr r h).2.1.1) 1048576 (by omega) (by omega)
  refine Ev.bind ht ?_
  rcases hq with hq | ⟨q1, q2, q3, q4, q5⟩
  · exact Ev.congr (fun k => by rw [if_pos hq]) (Ev.now _)
  · refine Ev.congr (fun k => by rw [if_neg (by omega)]) ?_
    have h1 := toPuzzle_ev s given rules q3 q4 q5
    have hl : (rules.map toI).length ≤ 9223372036854775807 := by rw [List.length_map]; omega
    have hc : ∀ r ∈ rules.map toI, r.f1.length ≤ 9223372036854775807 := by
      intro r h
      obtain ⟨r0, h0, rfl⟩ := List.mem_map.1 h
      exact (hr r0 h0).2.1.1
    refine Ev.bind h1 ?_
    refine Ev.bind (specPuzzleText_ev s given (rules.map toI) hg hl hc) ?_
    refine Ev.bind h1 ?_
    refine Ev.bind (implPuzzleText_ev s given (rules.map toI) hg hl hc) ?_
    refine Ev.congr (fun k => by rw [if_pos rfl]) ?_
    refine Ev.bind h1 ?_
    refine Ev.bind (eqPuzzle_refl s given (rules.map toI) hg hl hc) ?_
    exact Ev.congr (fun k => by rw [if_pos rfl]) (Ev.now _)
end Go.Proofs.YtojnknpgnohegaaDoor.Q
end
