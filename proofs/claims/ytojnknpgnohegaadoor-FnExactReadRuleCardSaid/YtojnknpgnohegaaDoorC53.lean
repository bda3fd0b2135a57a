/- laws.FnExactReadRule: for every input it returns true and leaves its argument as it was, where the listed package-level variables of Go's library hold what the program's text lays in them. -/
import Derived.ChangeArms
import Derived.DataReads
import Derived.WideShapes
import Derived.Laws.BitsLemmas
import Derived.Lib.AtoiTie
import Derived.Test.YtojnknpgnohegaaDoorC52
section
namespace Go.Proofs.YtojnknpgnohegaaDoorW.PrintWords
open Go.RowKit Go.WideShapes
def Opens {α : Type} (P : Program) (w : World) (t : TypeId) (d : Kd α) (good : α → Prop) : Prop :=
  P.cellsOf t = d.sz ∧ ∀ (H : Type) (enc : TypeId × Value → H) (spare : Nat → Bool) (held : Bool) (fuel : Nat) (cs : List Value) (x : DataW H × List MemPlace),
    DataW.trod enc P w 0 spare held fuel t cs = some x → ∃ y, d.K w y cs ∧ good y
section
variable {P : Program} {w : World} {t e : TypeId}
theorem Opens.int {k : IntKind} (ht : P.underlying t = some (.int k)) (hc : P.cellsOf t = 1) : Opens P w t (Kd.int k) (fun n => (Lit.int k n).wf = true) :=
  ⟨hc, fun _ _ _ _ _ _ _ h => by
    obtain ⟨m, rfl, _, hw⟩ := DataW.trod_int ht h
    exact ⟨m, rfl, hw⟩⟩
theorem Opens.bool (ht : P.underlying t = some .bool) (hc : P.cellsOf t = 1) : Opens P w t Kd.bool (fun _ => True) :=
  ⟨hc, fun _ _ _ _ _ _ _ h => by
    obtain ⟨m, rfl, _⟩ := DataW.trod_bool ht h
    exact ⟨m, rfl, trivial⟩⟩
theorem Opens.string (ht : P.underlying t = some .string) (hc : P.cellsOf t = 1) : Opens P w t Kd.string (fun s => s.size ≤ maxLen) :=
  ⟨hc, fun _ _ _ _ _ _ _ h => by
    obtain ⟨m, rfl, _, hm⟩ := DataW.trod_string ht h
    exact ⟨m, rfl, hm⟩⟩
theorem list_of_each {α : Type} {Q : Nat → α → Prop} : ∀ n : Nat, (∀ i, i < n → ∃ y, Q i y) → ∃ xs : List α, xs.length = n ∧ ∀ i y, xs[i]? = some y → Q i y
  | 0, _ => ⟨[], rfl, fun i y h => by simp at h⟩
  | n + 1, h => by
    obtain ⟨xs, hl, hx⟩ := list_of_each n (fun i hi => h i (by omega))
    obtain ⟨y, hy⟩ := h n (by omega)
    refine ⟨xs ++ [y], by simp [hl], fun i z hz => ?_⟩
    rcases Nat.lt_or_ge i xs.length with hi | hi
    · rw [List.getElem?_append_left hi] at hz
      exact hx i z hz
    · have : i = n := by
        have := (List.getElem?_eq_some_iff.1 hz).1
        simp at this
        omega
      subst this
      have hz' : y = z := by simpa [hl] using hz
      exact hz' ▸ hy
theorem Opens.slice {α : Type} {d : Kd α} {good : α → Prop} (ht : P.underlying t = some (.slice e)) (hc : P.cellsOf t = 1) (he : Opens P w e d good) :
    Opens P w t (Kd.slice e d) (fun xs => xs.length ≤ 9223372036854775807 ∧ ∀ x ∈ xs, good x) :=
  ⟨hc, fun H enc spare held fuel cs x h => by
    rcases DataW.trod_slice ht h with ⟨rfl, _⟩ | ⟨a, len, cap, elems, rest, n, _, rfl, _, _, hl, hm, hlen, hel, _, _⟩
    · exact ⟨[], ⟨none, 0, rfl, Nat.le_refl _, Kd.C_nil _ _⟩, by simp, by simp⟩
    · have each : ∀ i, i < len → ∃ y, good y ∧ ∃ c, c.length = d.sz ∧ d.K w y c ∧ ∀ j u, c[j]? = some u → w.cell? (a.add (i * d.sz + j)) = some u := by
        intro i hi
        have h1 := hel i hi
        rw [List.getElem?_eq_getElem (by omega), Option.bind_eq_some_iff] at h1
        obtain ⟨c, hc1, hc2⟩ := h1
        obtain ⟨y, hK, hg⟩ := he.2 H enc spare held n c _ hc2
        obtain ⟨_, hcl, hcc⟩ := World.cells?_some hc1
        refine ⟨y, hg, c, hcl.trans he.1, hK, fun j u hj => ?_⟩
        have hj' := (List.getElem?_eq_some_iff.1 hj).1
        have h2 := hcc j (by omega)
        rw [add_add, he.1] at h2
        rw [h2, hj]
      obtain ⟨xs, hxl, hxs⟩ := list_of_each len each
      have hmax : len ≤ 9223372036854775807 := by simp only [maxLen] at hm; omega
      refine ⟨xs, ⟨some a, cap, by rw [hxl], by omega, rfl, by rw [hxl]; exact hmax, fun _ => ⟨a, rfl, fun j p hj => (hxs j p hj).2⟩⟩, by rw [hxl]; exact hmax, fun x hx => ?_⟩
      obtain ⟨j, hj, rfl⟩ := List.getElem_of_mem hx
      exact (hxs j _ (List.getElem?_eq_getElem hj)).1⟩
variable {H : Type} {enc : TypeId × Value → H} {spare : Nat → Bool} {held : Bool} {r : Reach} {b0 : Nat} {v : Value} {dd : DataW H} {ps : List MemPlace}
theorem string_of (ht : P.underlying t = some .string) (hv : Value.okWide P w r b0 t v) (h : DataW.Trod enc P w 0 spare held t v dd ps) : ∃ s : ByteArray, v = .string s ∧ s.size ≤ maxLen := by
  obtain ⟨s, rfl⟩ := okWide_string ht hv
  obtain ⟨fuel, hf⟩ := h
  obtain ⟨s', hcs, _, hm⟩ := DataW.trod_string ht hf
  have hcs' : [Value.string s] = [.string s'] := hcs
  injection hcs' with hcs'
  injection hcs' with hcs'
  exact ⟨s, rfl, hcs' ▸ hm⟩
end
end Go.Proofs.YtojnknpgnohegaaDoorW.PrintWords
end
section
namespace Go.Proofs.YtojnknpgnohegaaDoor.K
open Go.RowKit Go.Proofs.YtojnknpgnohegaaDoorW.PrintWords
theorem w64 {n : Int} (h0 : -9223372036854775808 ≤ n) (h1 : n ≤ 9223372036854775807) : wrap64 n = n := by unfold wrap64; omega
def Code (s : List Int) : Prop := s.length ≤ 2000 ∧ ∀ x ∈ s, 0 ≤ x ∧ x ≤ 255
end Go.Proofs.YtojnknpgnohegaaDoor.K
end
section
namespace Go.Proofs.YtojnknpgnohegaaDoor.K
open Go.RowKit Go.Proofs.YtojnknpgnohegaaDoorW.PrintWords
theorem wnext {i n : Nat} (h : i < n) (hn : n ≤ 9223372036854775807) : wrap64 ((i : Int) + 1) = ((i + 1 : Nat) : Int) := by rw [w64 (by omega) (by omega)]; omega
theorem rd_nat {xs : List Int} {i : Nat} (h : i < xs.length) : rd xs (i : Int) = xs[i] := by
  unfold rd
  rw [Int.toNat_natCast, List.getD_eq_getElem?_getD, List.getElem?_eq_getElem h]
  rfl
theorem take_succ_get {α : Type} {xs : List α} {i : Nat} (h : i < xs.length) : xs.take (i + 1) = xs.take i ++ [xs[i]] := List.take_succ_eq_append_getElem h
theorem drop_get {α : Type} {xs : List α} {i : Nat} (h : i < xs.length) : xs.drop i = xs[i] :: xs.drop (i + 1) := List.drop_eq_getElem_cons h
theorem l1In_eq (n lo hi : Int) : spec_l1In.f n lo hi = some (decide (lo ≤ n ∧ n ≤ hi)) := by
  unfold spec_l1In.f
  by_cases h : lo ≤ n
  · rw [if_pos h]; simp [h]
  · rw [if_neg h]; simp [h]
theorem index_loop (xs : List Int) (x : Int) (hx : xs.length ≤ 9223372036854775807) : ∀ n i : Nat, i + n = xs.length →
    ∃ r : Int, Ev (fun k => slices_Index_int_int.l0 k xs x (xs.length : Int) (i : Int)) r ∧ (0 ≤ r ↔ x ∈ xs.drop i) := by
  intro n
  induction n with
  | zero =>
    intro i hi
    exact ⟨-1, Ev.step (fun k => by simp only [slices_Index_int_int.l0]; rw [if_neg (by omega)]) (Ev.now _), by rw [List.drop_of_length_le (by omega)]; simp⟩
  | succ n ih =>
    intro i hi
    have hlt : i < xs.length := by omega
    obtain ⟨r, h1, h2⟩ := ih (i + 1) (by omega)
    by_cases e : x = xs[i]
    · exact ⟨i, Ev.step (fun k => by simp only [slices_Index_int_int.l0]; rw [if_pos (by omega), if_pos (by omega), if_pos (by omega), rd_nat hlt, if_pos e]) (Ev.now _), fun _ => by rw [drop_get hlt, List.mem_cons]; exact Or.inl e, fun _ => by omega⟩
    · refine ⟨r, Ev.step (fun k => by simp only [slices_Index_int_int.l0]; rw [if_pos (by omega), if_pos (by omega), if_pos (by omega), rd_nat hlt, if_neg e, wnext hlt hx]) h1, by rw [h2, drop_get hlt, List.mem_cons]; exact ⟨Or.inr, fun h => h.resolve_left e⟩⟩
theorem contains_ev (xs : List Int) (x : Int) (hx : xs.length ≤ 9223372036854775807) : Ev (fun k => slices_Contains_int_int.f k xs x) (decide (x ∈ xs)) := by
  obtain ⟨r, h1, h2⟩ := index_loop xs x hx xs.length 0 (by omega)
  have h3 : Ev (fun k => slices_Index_int_int.f k xs x) r := h1
  have e : decide (x ∈ xs) = decide (r ≥ 0) := by rw [decide_eq_decide]; simpa using h2.symm
  rw [e]
  exact Ev.bind h3 (Ev.now _)
theorem set_upto {α : Type} (xs ys : List α) (i : Nat) (h : i < xs.length) (hl : ys.length = xs.length) (x : α) (hx : x = xs[i]) (hy : ys.take i = xs.take i) : (ys.set i x).take (i + 1) = xs.take (i + 1) := by
  rw [take_succ_get (xs := ys.set i x) (by simpa using (by omega : i < ys.length)), take_succ_get h, List.take_set_of_le (Nat.le_refl _), hy, hx]
  simp
theorem eqIntS_loop (xs ys : List Int) (hx : xs.length ≤ 9223372036854775807) (hl : xs.length = ys.length) : ∀ n i : Nat, i + n = xs.length →
    Ev (fun k => laws_eqIntS.l0 k xs ys (i : Int)) (decide (xs.drop i = ys.drop i)) := by
  intro n
  induction n with
  | zero =>
    intro i hi
    rw [List.drop_of_length_le (by omega), List.drop_of_length_le (by omega)]
    exact Ev.step (fun k => by simp only [laws_eqIntS.l0]; rw [if_neg (by omega)]; rfl) (Ev.now _)
  | succ n ih =>
    intro i hi
    have h1 : i < xs.length := by omega
    have h2 : i < ys.length := by omega
    by_cases e : xs[i] = ys[i]
    · have e2 : decide (xs.drop i = ys.drop i) = decide (xs.drop (i + 1) = ys.drop (i + 1)) := by rw [drop_get h1, drop_get h2, decide_eq_decide, List.cons.injEq]; exact ⟨fun h => h.2, fun h => ⟨e, h⟩⟩
      rw [e2]
      exact Ev.step (fun k => by simp only [laws_eqIntS.l0]; rw [if_pos (by omega), if_pos (by omega), if_pos (by omega), rd_nat h1, rd_nat h2, if_pos e, wnext h1 hx]) (ih (i + 1) (by omega))
    · have e2 : decide (xs.drop i = ys.drop i) = false := decide_eq_false (by rw [drop_get h1, drop_get h2, List.cons.injEq]; exact fun h => e h.1)
      rw [e2]
      exact Ev.step (fun k => by simp only [laws_eqIntS.l0]; rw [if_pos (by omega), if_pos (by omega), if_pos (by omega), rd_nat h1, rd_nat h2, if_neg e]) (Ev.now _)
theorem eqIntS_ev (xs ys : List Int) (hx : xs.length ≤ 9223372036854775807) : Ev (fun k => laws_eqIntS.f k xs ys) (decide (xs = ys)) := by
  by_cases hl : xs.length = ys.length
  · have h := eqIntS_loop xs ys hx hl xs.length 0 (by omega)
    exact Ev.congr (fun k => by unfold laws_eqIntS.f; rw [if_pos (by omega)]; rfl) h
  · have e : decide (xs = ys) = false := decide_eq_false (fun e => hl (by rw [e]))
    rw [e]
    exact Ev.congr (fun k => by unfold laws_eqIntS.f; rw [if_neg (by omega)]) (Ev.now _)
def cellsOk (M : Int) (pre : List Int) : List Int → Bool
  | [] => true
  | c :: r => decide (0 ≤ c ∧ c ≤ M) && !decide (c ∈ pre) && cellsOk M (pre ++ [c]) r
def kindOk (kind n value size : Int) : Bool :=
  if kind = 1 then decide (2 ≤ n) && decide (n ≤ 4) && decide (value = 0)
  else if kind = 2 ∨ kind = 3 then decide (1 ≤ n) && decide (n ≤ 4) && decide (1 ≤ value ∧ value ≤ size * size * size * size)
  else if kind = 4 then decide (n = 2) && decide (value = 0)
  else if kind = 5 then decide (n = 2) && decide (0 ≤ value ∧ value ≤ size - 1)
  else false
def sizeIn (size : Int) : Bool := decide (2 ≤ size ∧ size ≤ 4)
def ruleValid (kind : Int) (cells : List Int) (value size : Int) : Bool := sizeIn size && cellsOk (size * size - 1) [] cells && kindOk kind cells.length value size
theorem sizeOk_eq (s : Int) : impl_sizeOk.f s = some (sizeIn s) := by
  unfold impl_sizeOk.f sizeIn
  by_cases h : s ≥ 2
  · rw [if_pos h]; simp [h]
  · rw [if_neg h]; simp; omega
theorem size_sq {s : Int} (h : sizeIn s = true) : wrap64 (s * s) = s * s ∧ wrap64 (s * s * s) = s * s * s ∧ wrap64 (s * s * s * s) = s * s * s * s ∧ 4 ≤ s * s ∧ s * s ≤ 16 ∧ 2 ≤ s ∧ s ≤ 4 := by
  have h' : 2 ≤ s ∧ s ≤ 4 := of_decide_eq_true h
  have h3 : s = 2 ∨ s = 3 ∨ s = 4 := by omega
  rcases h3 with rfl | rfl | rfl <;> (refine ⟨?_, ?_, ?_, ?_⟩ <;> first | (rw [w64 (by decide) (by decide)]) | decide)
theorem srv_inner (xs : List Int) (hx : xs.length ≤ 9223372036854775807) (s kind value : Int) (i : Nat) (hi : i < xs.length) {r : Bool} (next : Ev (fun k => spec_RuleValid.l0 k s ((i + 1 : Nat) : Int) kind xs value) r) :
    ∀ n j : Nat, j + n = i → Ev (fun k => spec_RuleValid.l1 k s (i : Int) (j : Int) kind xs value) (if xs[i] ∈ (xs.take i).drop j then false else r) := by
  intro n
  induction n with
  | zero =>
    intro j hj
    rw [List.drop_of_length_le (by rw [List.length_take]; omega), if_neg (by simp)]
    exact Ev.step (fun k => by simp only [spec_RuleValid.l1]; rw [if_neg (by omega), wnext hi hx]) next
  | succ n ih =>
    intro j hj
    have h1 : j < (xs.take i).length := by rw [List.length_take]; omega
    have h2 : j < xs.length := by omega
    rw [drop_get h1]
    have e0 : (xs.take i)[j] = xs[j] := by simp
    by_cases e : xs[j] = xs[i]
    · rw [if_pos (by rw [e0, e]; exact List.mem_cons_self)]
      exact Ev.step (fun k => by simp only [spec_RuleValid.l1]; rw [if_pos (by omega), if_pos (by omega), if_pos (by omega), if_pos (by omega), if_pos (by omega), rd_nat h2, rd_nat hi, if_pos e]) (Ev.now _)
    · have e3 : (xs[i] ∈ (xs.take i)[j] :: (xs.take i).drop (j + 1)) = (xs[i] ∈ (xs.take i).drop (j + 1)) := by
        rw [e0]; simp only [List.mem_cons, eq_iff_iff, or_iff_right_iff_imp]; intro h; exact absurd h.symm e
      simp only [e3]
      exact Ev.step (fun k => by simp only [spec_RuleValid.l1]; rw [if_pos (by omega), if_pos (by omega), if_pos (by omega), if_pos (by omega), if_pos (by omega), rd_nat h2, rd_nat hi, if_neg e, wnext h2 hx]) (ih (j + 1) (by omega))
theorem srv_end (xs : List Int) (s kind value : Int) : Ev (fun k => spec_RuleValid.l0 k s (xs.length : Int) kind xs value) (sizeIn s && kindOk kind xs.length value s) := by
  refine Ev.step (f := fun k => if sizeIn s = true then spec_RuleValid.j2 k s (xs.length : Int) (decide ((xs.length : Int) > 4)) kind xs value else spec_RuleValid.j2 k s (xs.length : Int) true kind xs value) (fun k => by simp only [spec_RuleValid.l0]; rw [if_neg (by omega), l1In_eq]; rfl) ?_
  by_cases hs : sizeIn s = true
  · obtain ⟨q1, q2, q3, b1, b2, b3, b4⟩ := size_sq hs
    rw [hs, Bool.true_and]
    simp only [if_true]
    by_cases h4 : (xs.length : Int) > 4
    · have e : kindOk kind xs.length value s = false := by
        unfold kindOk
        have h5 : decide ((xs.length : Int) ≤ 4) = false := decide_eq_false (by omega)
        have h6 : decide ((xs.length : Int) = 2) = false := decide_eq_false (by omega)
        rw [h5, h6]
        simp
      rw [e, decide_eq_true h4]
      exact Ev.step (fun k => by simp only [spec_RuleValid.j2]; rw [if_pos trivial]) (Ev.now _)
    · rw [decide_eq_false h4]
      have h5 : decide ((xs.length : Int) ≤ 4) = true := decide_eq_true (by omega)
      have hj3 : ∀ b : Bool, Ev (fun k => spec_RuleValid.j3 k s (xs.length : Int) kind b kind xs value)
          (if b = true then (decide (1 ≤ (xs.length : Int)) && decide (1 ≤ value ∧ value ≤ s * s * s * s)) else if kind = 4 then (decide ((xs.length : Int) = 2) && decide (value = 0)) else if kind = 5 then (decide ((xs.length : Int) = 2) && decide (0 ≤ value ∧ value ≤ s - 1)) else false) := by
        intro b
        refine Ev.step (f := fun _ => some _) (fun k => ?_) (Ev.now _)
        simp only [spec_RuleValid.j3, q1, q2, q3, l1In_eq, Option.bind_some]
        rw [w64 (n := s - 1) (by omega) (by omega)]
        by_cases hb : b = true
        · rw [if_pos hb, if_pos hb]
          by_cases h1 : (xs.length : Int) ≥ 1
          · rw [if_pos h1, decide_eq_true h1]; rfl
          · rw [if_neg h1, decide_eq_false h1]; rfl
        · rw [if_neg hb, if_neg hb]
          by_cases h1 : kind = 4
          · rw [if_pos h1, if_pos h1]
            by_cases h2 : (xs.length : Int) = 2
            · rw [if_pos h2, decide_eq_true h2, Bool.true_and]; rfl
            · rw [if_neg h2, decide_eq_false h2]; rfl
          · rw [if_neg h1, if_neg h1]
            by_cases h2 : kind = 5
            · rw [if_pos h2, if_pos h2]
              by_cases h3 : (xs.length : Int) = 2
              · rw [if_pos h3, decide_eq_true h3]; rfl
              · rw [if_neg h3, decide_eq_false h3]; rfl
            · rw [if_neg h2, if_neg h2]
      unfold kindOk
      rw [h5]
      simp only [Bool.and_true]
      by_cases h1 : kind = 1
      · rw [if_pos h1]
        refine Ev.step (f := fun _ => some _) (fun k => ?_) (Ev.now _)
        simp only [spec_RuleValid.j2]
        rw [if_neg (by decide), if_pos h1]
        by_cases h2 : (xs.length : Int) ≥ 2
        · rw [if_pos h2, decide_eq_true h2, Bool.true_and]; rfl
        · rw [if_neg h2, decide_eq_false h2]; rfl
      · rw [if_neg h1]
        by_cases h2 : kind = 2
        · have h := hj3 true
          rw [if_pos rfl] at h
          rw [if_pos (Or.inl h2)]
          exact Ev.step (fun k => by simp only [spec_RuleValid.j2]; rw [if_neg (by decide), if_neg h1, if_pos h2, beq_iff_eq.2 h2]) h
        · by_cases h3 : kind = 3
          · have h := hj3 true
            rw [if_pos rfl] at h
            rw [if_pos (Or.inr h3)]
            exact Ev.step (fun k => by simp only [spec_RuleValid.j2]; rw [if_neg (by decide), if_neg h1, if_neg h2, beq_iff_eq.2 h3]) h
          · have h := hj3 false
            rw [if_neg (by decide)] at h
            rw [if_neg (by rintro (h | h) <;> contradiction)]
            exact Ev.step (fun k => by simp only [spec_RuleValid.j2]; rw [if_neg (by decide), if_neg h1, if_neg h2, beq_eq_false_iff_ne.2 h3]) h
  · have hs' : sizeIn s = false := by simpa using hs
    rw [hs', Bool.false_and]
    simp only [if_neg (show ¬ (false = true) by decide)]
    exact Ev.step (fun k => by simp only [spec_RuleValid.j2]; rw [if_pos trivial]) (Ev.now _)
theorem srv_loop (xs : List Int) (hx : xs.length ≤ 9223372036854775807) (s kind value : Int) : ∀ n i : Nat, i + n = xs.length →
    Ev (fun k => spec_RuleValid.l0 k s (i : Int) kind xs value) (cellsOk (wrap64 (wrap64 (s * s) - 1)) (xs.take i) (xs.drop i) && (sizeIn s && kindOk kind xs.length value s)) := by
  intro n
  induction n with
  | zero =>
    intro i hi
    have e : i = xs.length := by omega
    subst e
    rw [List.drop_length]
    exact srv_end xs s kind value
  | succ n ih =>
    intro i hi
    have hlt : i < xs.length := by omega
    have h := ih (i + 1) (by omega)
    rw [take_succ_get hlt] at h
    rw [drop_get hlt]
    simp only [cellsOk]
    by_cases hc : 0 ≤ xs[i] ∧ xs[i] ≤ wrap64 (wrap64 (s * s) - 1)
    · rw [decide_eq_true hc, Bool.true_and]
      have h2 := srv_inner xs hx s kind value i hlt h i 0 (by omega)
      rw [List.drop_zero] at h2
      have e : (if xs[i] ∈ xs.take i then false else cellsOk (wrap64 (wrap64 (s * s) - 1)) (xs.take i ++ [xs[i]]) (xs.drop (i + 1)) && (sizeIn s && kindOk kind xs.length value s)) = (!decide (xs[i] ∈ xs.take i) && cellsOk (wrap64 (wrap64 (s * s) - 1)) (xs.take i ++ [xs[i]]) (xs.drop (i + 1)) && (sizeIn s && kindOk kind xs.length value s)) := by
        by_cases h3 : xs[i] ∈ xs.take i
        · rw [if_pos h3, decide_eq_true h3]; rfl
        · rw [if_neg h3, decide_eq_false h3]; rfl
      rw [← e]
      exact Ev.step (fun k => by simp only [spec_RuleValid.l0]; rw [if_pos (by omega), if_pos (by omega), rd_nat hlt, l1In_eq, decide_eq_true hc]; simp only [Option.bind_some, if_true]; rfl) h2
    · rw [decide_eq_false hc]
      exact Ev.step (fun k => by simp only [spec_RuleValid.l0]; rw [if_pos (by omega), if_pos (by omega), rd_nat hlt, l1In_eq, decide_eq_false hc]; rfl) (Ev.now _)
theorem specRuleValid_ev (kind : Int) (xs : List Int) (value s : Int) (hx : xs.length ≤ 9223372036854775807) : Ev (fun k => spec_RuleValid.f k kind xs value s) (ruleValid kind xs value s) := by
  have h := srv_loop xs hx s kind value xs.length 0 (by omega)
  rw [List.take_zero, List.drop_zero] at h
  have e : (cellsOk (wrap64 (wrap64 (s * s) - 1)) [] xs && (sizeIn s && kindOk kind xs.length value s)) = ruleValid kind xs value s := by
    unfold ruleValid
    by_cases hs : sizeIn s = true
    · obtain ⟨q1, _, _, b1, b2, _⟩ := size_sq hs
      rw [q1, w64 (by omega) (by omega), hs, Bool.true_and, Bool.true_and]
    · have hs' : sizeIn s = false := by simpa using hs
      rw [hs', Bool.false_and, Bool.false_and, Bool.false_and, Bool.and_false]
  rw [← e]
  exact h
theorem irv_end (xs : List Int) (s kind value : Int) (hs : sizeIn s = true) : Ev (fun k => impl_RuleValid.l0 k s xs (xs.length : Int) (xs.length : Int) kind xs value) (kindOk kind xs.length value s) := by
  obtain ⟨q1, q2, q3, b1, b2, b3, b4⟩ := size_sq hs
  have hj : ∀ b : Bool, Ev (fun k => impl_RuleValid.j1 k s (xs.length : Int) kind b kind xs value)
      (if b = true then (decide (1 ≤ (xs.length : Int)) && decide ((xs.length : Int) ≤ 4) && decide (1 ≤ value ∧ value ≤ s * s * s * s)) else if kind = 4 then (decide ((xs.length : Int) = 2) && decide (value = 0)) else if kind = 5 then (decide ((xs.length : Int) = 2) && decide (0 ≤ value ∧ value ≤ s - 1)) else false) := by
    intro b
    refine Ev.step (f := fun _ => some _) (fun k => ?_) (Ev.now _)
    simp only [impl_RuleValid.j1, q1, q2, q3]
    by_cases hb : b = true
    · rw [if_pos hb, if_pos hb]
      by_cases h1 : (xs.length : Int) ≥ 1
      · rw [if_pos h1, decide_eq_true h1, Bool.true_and]
        by_cases h2 : (xs.length : Int) ≤ 4
        · rw [if_pos h2, decide_eq_true h2, Bool.true_and]
          by_cases h3 : value ≥ 1
          · rw [if_pos h3]; simp [h3]
          · rw [if_neg h3, decide_eq_false (by omega)]
        · rw [if_neg h2, decide_eq_false h2]; rfl
      · rw [if_neg h1, decide_eq_false h1]; rfl
    · rw [if_neg hb, if_neg hb]
      by_cases h1 : kind = 4
      · rw [if_pos h1, if_pos h1]
        by_cases h2 : (xs.length : Int) = 2
        · rw [if_pos h2, decide_eq_true h2, Bool.true_and]; rfl
        · rw [if_neg h2, decide_eq_false h2]; rfl
      · rw [if_neg h1, if_neg h1]
        by_cases h2 : kind = 5
        · rw [if_pos h2, if_pos h2]
          by_cases h3 : (xs.length : Int) = 2
          · rw [if_pos h3, decide_eq_true h3, Bool.true_and]
            by_cases h4 : value ≥ 0
            · rw [if_pos h4, decide_eq_decide.2 (show value < s ↔ (0 ≤ value ∧ value ≤ s - 1) by omega)]
            · rw [if_neg h4, decide_eq_false (by omega)]
          · rw [if_neg h3, decide_eq_false h3]; rfl
        · rw [if_neg h2, if_neg h2]
  unfold kindOk
  by_cases h1 : kind = 1
  · rw [if_pos h1]
    refine Ev.step (f := fun _ => some _) (fun k => ?_) (Ev.now _)
    simp only [impl_RuleValid.l0]
    rw [if_neg (by omega), if_pos h1]
    by_cases h2 : (xs.length : Int) ≥ 2
    · rw [if_pos h2, decide_eq_true h2, Bool.true_and]
      by_cases h3 : (xs.length : Int) ≤ 4
      · rw [if_pos h3, decide_eq_true h3, Bool.true_and]; rfl
      · rw [if_neg h3, decide_eq_false h3]; rfl
    · rw [if_neg h2, decide_eq_false h2]; rfl
  · rw [if_neg h1]
    by_cases h2 : kind = 2
    · have h := hj true
      rw [if_pos rfl] at h
      rw [if_pos (Or.inl h2)]
      exact Ev.step (fun k => by simp only [impl_RuleValid.l0]; rw [if_neg (by omega), if_neg h1, if_pos h2, beq_iff_eq.2 h2]) h
    · by_cases h3 : kind = 3
      · have h := hj true
        rw [if_pos rfl] at h
        rw [if_pos (Or.inr h3)]
        exact Ev.step (fun k => by simp only [impl_RuleValid.l0]; rw [if_neg (by omega), if_neg h1, if_neg h2, beq_iff_eq.2 h3]) h
      · have h := hj false
        rw [if_neg (by decide)] at h
        rw [if_neg (by rintro (h | h) <;> contradiction)]
        exact Ev.step (fun k => by simp only [impl_RuleValid.l0]; rw [if_neg (by omega), if_neg h1, if_neg h2, beq_eq_false_iff_ne.2 h3]) h
theorem irv_loop (xs : List Int) (hx : xs.length ≤ 9223372036854775807) (s kind value : Int) (hs : sizeIn s = true) : ∀ n i : Nat, i + n = xs.length →
    Ev (fun k => impl_RuleValid.l0 k s xs (xs.length : Int) (i : Int) kind xs value) (cellsOk (s * s - 1) (xs.take i) (xs.drop i) && kindOk kind xs.length value s) := by
  obtain ⟨q1, q2, q3, b1, b2, b3, b4⟩ := size_sq hs
  intro n
  induction n with
  | zero =>
    intro i hi
    have e : i = xs.length := by omega
    subst e
    rw [List.drop_length]
    exact irv_end xs s kind value hs
  | succ n ih =>
    intro i hi
    have hlt : i < xs.length := by omega
    have h := ih (i + 1) (by omega)
    rw [take_succ_get hlt] at h
    rw [drop_get hlt]
    simp only [cellsOk]
    by_cases h1 : xs[i] < 0
    · rw [decide_eq_false (by omega)]
      exact Ev.step (fun k => by simp only [impl_RuleValid.l0]; rw [if_pos (by omega), if_pos (by omega), if_pos (by omega), rd_nat hlt, if_pos h1]; rfl) (Ev.now _)
    · by_cases h2 : xs[i] ≥ s * s
      · rw [decide_eq_false (by omega)]
        exact Ev.step (fun k => by simp only [impl_RuleValid.l0]; rw [if_pos (by omega), if_pos (by omega), if_pos (by omega), rd_nat hlt, if_neg h1, q1, if_pos h2]; rfl) (Ev.now _)
      · rw [decide_eq_true (show 0 ≤ xs[i] ∧ xs[i] ≤ s * s - 1 by omega), Bool.true_and]
        have hc := contains_ev (xs.take i) xs[i] (by rw [List.length_take]; omega)
        refine Ev.step (f := fun k => (slices_Contains_int_int.f k (xs.take i) xs[i]).bind fun t => if t = true then some false else impl_RuleValid.l0 k s xs (xs.length : Int) ((i + 1 : Nat) : Int) kind xs value) (fun k => by
          simp only [impl_RuleValid.l0]
          rw [if_pos (by omega), if_pos (by omega), if_pos (by omega), rd_nat hlt, if_neg h1, q1, if_neg h2, if_pos (by omega), wnext hlt hx, Int.toNat_natCast]) ?_
        refine Ev.bind hc ?_
        by_cases h3 : xs[i] ∈ xs.take i
        · rw [decide_eq_true h3]
          exact Ev.congr (fun k => by rw [if_pos rfl]; rfl) (Ev.now _)
        · rw [decide_eq_false h3]
          exact Ev.congr (fun k => by rw [if_neg (by decide)]) h
theorem implRuleValid_ev (kind : Int) (xs : List Int) (value s : Int) (hx : xs.length ≤ 9223372036854775807) : Ev (fun k => impl_RuleValid.f k kind xs value s) (ruleValid kind xs value s) := by
  refine Ev.congr (f := fun k => if sizeIn s = true then impl_RuleValid.l0 k s xs (xs.length : Int) ((0 : Nat) : Int) kind xs value else some false) (fun k => by unfold impl_RuleValid.f; rw [sizeOk_eq]; rfl) ?_
  unfold ruleValid
  by_cases hs : sizeIn s = true
  · have h := irv_loop xs hx s kind value hs xs.length 0 (by omega)
    rw [List.take_zero, List.drop_zero] at h
    rw [hs, Bool.true_and]
    simp only [if_true]
    exact h
  · have hs' : sizeIn s = false := by simpa using hs
    rw [hs']
    exact Ev.congr (fun k => by rw [if_neg (by decide)]; rfl) (Ev.now _)
end Go.Proofs.YtojnknpgnohegaaDoor.K
end
section
namespace Go.Proofs.YtojnknpgnohegaaDoor.K
open Go.RowKit Go.Proofs.YtojnknpgnohegaaDoorW.PrintWords
theorem eqRule_refl (a : Int) (xs : List Int) (c : Int) (hx : xs.length ≤ 9223372036854775807) : Ev (fun k => laws_eqRule.f k a xs c a xs c) true := by
  have h := eqIntS_ev xs xs hx
  rw [decide_eq_true rfl] at h
  refine Ev.congr (f := fun k => (laws_eqIntS.f k xs xs).bind fun t => if t = true then (if c = c then some true else some false) else some false) (fun k => by unfold laws_eqRule.f; rw [if_pos rfl]) (Ev.bind h ?_)
  exact Ev.congr (fun k => by rw [if_pos rfl, if_pos rfl]) (Ev.now _)
end Go.Proofs.YtojnknpgnohegaaDoor.K
end
section
namespace Go.Proofs.YtojnknpgnohegaaDoor.K
open Go.RowKit Go.Proofs.YtojnknpgnohegaaDoorW.PrintWords
theorem str_append (a b : List Int) : strOfNums (a ++ b) = strOfNums a ++ strOfNums b := by
  unfold strOfNums
  apply ByteArray.ext
  rw [ByteArray.data_append]
  simp
theorem str_size (a : List Int) : (strOfNums a).size = a.length := by
  unfold strOfNums ByteArray.size
  simp
theorem number_loop : ∀ (n : Nat) (acc : ByteArray), n + acc.size ≤ 1000000000000 → Ev (fun k => spec_l22Number.l0 k (n : Int) acc) (if 9 < n then ⟨(Lib.decDigits (n / 10)).toArray⟩ ++ acc else acc) := by
  intro n
  induction n using Nat.strongRecOn with
  | _ n ih =>
    intro acc ha
    by_cases h : 9 < n
    · rw [if_pos h]
      have e1 : Int.tdiv (n : Int) 10 = ((n / 10 : Nat) : Int) := by rw [Int.tdiv_eq_ediv_of_nonneg (by omega)]; omega
      have e2 : wrap64 ((n / 10 : Nat) : Int) = ((n / 10 : Nat) : Int) := w64 (by omega) (by omega)
      have e3 : Int.tmod ((n / 10 : Nat) : Int) 10 = ((n / 10 % 10 : Nat) : Int) := by rw [Int.tmod_eq_emod_of_nonneg (by omega)]; omega
      have e4 : wrap64 (48 + ((n / 10 % 10 : Nat) : Int)) % 256 = 48 + ((n / 10 % 10 : Nat) : Int) := by rw [w64 (by omega) (by omega)]; omega
      have hs : (strOfNums [48 + ((n / 10 % 10 : Nat) : Int)] ++ acc).size = 1 + acc.size := by rw [ByteArray.size_append, str_size]; rfl
      have h1 := ih (n / 10) (by omega) (strOfNums [48 + ((n / 10 % 10 : Nat) : Int)] ++ acc) (by rw [hs]; omega)
      have e5 : (if 9 < n / 10 then (⟨(Lib.decDigits (n / 10 / 10)).toArray⟩ : ByteArray) ++ (strOfNums [48 + ((n / 10 % 10 : Nat) : Int)] ++ acc) else strOfNums [48 + ((n / 10 % 10 : Nat) : Int)] ++ acc) = ⟨(Lib.decDigits (n / 10)).toArray⟩ ++ acc := by
        have ed : strOfNums [48 + ((n / 10 % 10 : Nat) : Int)] = ⟨[UInt8.ofNat (48 + n / 10 % 10)].toArray⟩ := by
          unfold strOfNums
          simp only [List.map_cons, List.map_nil]
          rw [show (48 + ((n / 10 % 10 : Nat) : Int)).toNat = 48 + n / 10 % 10 by omega]
        rw [ed]
        by_cases h2 : 9 < n / 10
        · rw [if_pos h2, ← ByteArray.append_assoc]
          congr 1
          rw [Lib.decDigits.eq_1 (n / 10), dif_neg (by omega)]
          apply ByteArray.ext
          rw [ByteArray.data_append]
          simp
        · rw [if_neg h2]
          congr 1
          rw [Lib.decDigits.eq_1 (n / 10), dif_pos (by omega), Nat.mod_eq_of_lt (by omega)]
      rw [e5] at h1
      exact Ev.step (fun k => by
        simp only [spec_l22Number.l0]
        rw [if_pos (by omega), e1, e2, e3, e4]
        simp only [Option.bind_some]
        rw [if_pos (by rw [str_size]; simp only [List.length_singleton]; omega)]) h1
    · rw [if_neg h]
      exact Ev.step (fun k => by simp only [spec_l22Number.l0]; rw [if_neg (by omega)]) (Ev.now _)
theorem number_ev (n : Int) (h0 : 0 ≤ n) (h1 : n ≤ 100000) : Ev (fun k => spec_l22Number.f k n) ⟨(Lib.itoa n).toArray⟩ := by
  obtain ⟨m, rfl⟩ := Int.eq_ofNat_of_zero_le h0
  have e3 : Int.tmod (m : Int) 10 = ((m % 10 : Nat) : Int) := by rw [Int.tmod_eq_emod_of_nonneg (by omega)]; omega
  have e4 : wrap64 (48 + ((m % 10 : Nat) : Int)) % 256 = 48 + ((m % 10 : Nat) : Int) := by rw [w64 (by omega) (by omega)]; omega
  have h := number_loop m (strOfNums [48 + ((m % 10 : Nat) : Int)]) (by rw [str_size]; simp only [List.length_singleton]; omega)
  have ed : strOfNums [48 + ((m % 10 : Nat) : Int)] = ⟨[UInt8.ofNat (48 + m % 10)].toArray⟩ := by
    unfold strOfNums
    simp only [List.map_cons, List.map_nil]
    rw [show (48 + ((m % 10 : Nat) : Int)).toNat = 48 + m % 10 by omega]
  have e : (if 9 < m then (⟨(Lib.decDigits (m / 10)).toArray⟩ : ByteArray) ++ strOfNums [48 + ((m % 10 : Nat) : Int)] else strOfNums [48 + ((m % 10 : Nat) : Int)]) = ⟨(Lib.itoa (m : Int)).toArray⟩ := by
    unfold Lib.itoa
    rw [if_neg (show ¬ ((m : Int) < 0) by omega), Int.toNat_natCast, ed, Lib.decDigits.eq_1 m]
    by_cases h2 : 9 < m
    · rw [if_pos h2, dif_neg (by omega)]
      apply ByteArray.ext
      rw [ByteArray.data_append]
      simp
    · rw [if_neg h2, dif_pos (by omega), Nat.mod_eq_of_lt (by omega)]
  rw [e] at h
  exact Ev.congr (fun k => by unfold spec_l22Number.f; rw [e3, e4]) h
theorem itoa_eq (n : Int) (h0 : 0 ≤ n) (h1 : n ≤ 100000) : strconv_Itoa.f n = some ⟨(Lib.itoa n).toArray⟩ := by
  unfold strconv_Itoa.f
  rw [if_pos (by omega), if_pos (by omega)]
theorem decDigits_len : ∀ n : Nat, (Lib.decDigits n).length ≤ n + 1 := by
  intro n
  induction n using Nat.strongRecOn with
  | _ n ih =>
    rw [Lib.decDigits]
    by_cases h : n < 10
    · rw [dif_pos h]; simp
    · rw [dif_neg h]
      have := ih (n / 10) (by omega)
      simp only [List.length_append, List.length_singleton]
      omega
theorem itoa_size (n : Int) (h0 : 0 ≤ n) (h1 : n ≤ 100000) : (⟨(Lib.itoa n).toArray⟩ : ByteArray).size ≤ 100001 := by
  unfold Lib.itoa
  rw [if_neg (by omega)]
  have := decDigits_len n.toNat
  show (Lib.decDigits n.toNat).toArray.size ≤ 100001
  simp only [List.size_toArray]
  omega
def lettersOf (kind : Int) (cells : List Int) : List Int := bt (⟨#[100, 115, 112, 108, 97]⟩ : ByteArray) (kind - 1) :: cells.map fun c => 97 + c
def ruleT (kind : Int) (cells : List Int) (value : Int) : ByteArray :=
  if kind = 2 ∨ kind = 3 ∨ kind = 5 then (strOfNums (lettersOf kind cells) ++ (⟨#[61]⟩ : ByteArray)) ++ ⟨(Lib.itoa value).toArray⟩ else strOfNums (lettersOf kind cells)
structure RuleIn (kind : Int) (cells : List Int) (value : Int) : Prop where
  k0 : 1 ≤ kind
  k1 : kind ≤ 5
  len : cells.length ≤ 4
  cell : ∀ c ∈ cells, 0 ≤ c ∧ c ≤ 15
  v0 : 0 ≤ value
  v1 : value ≤ 256
theorem cellsOk_mem {M : Int} : ∀ (xs pre : List Int), cellsOk M pre xs = true → ∀ c ∈ xs, 0 ≤ c ∧ c ≤ M
  | [], _, _, c, hc => by simp at hc
  | x :: r, pre, h, c, hc => by
    simp only [cellsOk, Bool.and_eq_true, decide_eq_true_eq] at h
    rcases List.mem_cons.1 hc with rfl | hc
    · exact h.1.1
    · exact cellsOk_mem r _ h.2 c hc
theorem kindOk_in {kind n value size : Int} (hs : 2 ≤ size ∧ size ≤ 4) (h : kindOk kind n value size = true) : 1 ≤ kind ∧ kind ≤ 5 ∧ n ≤ 4 ∧ 0 ≤ value ∧ value ≤ 256 := by
  have h3 : size = 2 ∨ size = 3 ∨ size = 4 := by omega
  unfold kindOk at h
  split at h
  · simp only [Bool.and_eq_true, decide_eq_true_eq] at h; omega
  · split at h
    · rename_i hk
      simp only [Bool.and_eq_true, decide_eq_true_eq] at h
      rcases h3 with rfl | rfl | rfl <;> (rcases hk with rfl | rfl <;> omega)
    · split at h
      · simp only [Bool.and_eq_true, decide_eq_true_eq] at h; omega
      · split at h
        · simp only [Bool.and_eq_true, decide_eq_true_eq] at h; omega
        · cases h
theorem ruleIn_of {kind : Int} {cells : List Int} {value : Int} (h : ruleValid kind cells value 4 = true) : RuleIn kind cells value := by
  unfold ruleValid at h
  simp only [Bool.and_eq_true] at h
  obtain ⟨⟨_, h2⟩, h3⟩ := h
  obtain ⟨a, b, c, d, e⟩ := kindOk_in ⟨by omega, by omega⟩ h3
  exact ⟨a, b, by omega, fun c hc => by have := cellsOk_mem _ _ h2 c hc; omega, d, e⟩
theorem byte97 {c : Int} (h : 0 ≤ c ∧ c ≤ 15) : wrap64 (97 + c) % 256 = 97 + c := by rw [w64 (by omega) (by omega)]; omega
theorem itoaT {v : Int} (h0 : 0 ≤ v) (h1 : v ≤ 256) : (⟨(Lib.itoa v).toArray⟩ : ByteArray).size ≤ 100001 := itoa_size v h0 (by omega)
theorem irt_loop {kind : Int} {cells : List Int} {value : Int} (h : RuleIn kind cells value) : ∀ n i : Nat, i + n = cells.length → ∀ out : List Int, out.length ≤ 1 + i →
    Ev (fun k => impl_RuleText.l0 k out cells (cells.length : Int) (i : Int) kind cells value) (if kind = 2 ∨ kind = 3 ∨ kind = 5 then (strOfNums (out ++ (cells.drop i).map fun c => 97 + c) ++ (⟨#[61]⟩ : ByteArray)) ++ ⟨(Lib.itoa value).toArray⟩ else strOfNums (out ++ (cells.drop i).map fun c => 97 + c)) := by
  intro n
  have hlen := h.len
  have h0 := h.v0
  have h1 := h.v1
  induction n with
  | zero =>
    intro i hi out ho
    rw [List.drop_of_length_le (by omega), List.map_nil, List.append_nil]
    have hz := itoaT h0 h1
    have hs : (strOfNums out).size ≤ 5 := by rw [str_size]; omega
    have hs2 : ((strOfNums out) ++ (⟨#[61]⟩ : ByteArray)).size ≤ 6 := by rw [ByteArray.size_append]; exact Nat.add_le_add hs (Nat.le_refl 1)
    refine Ev.step (f := fun _ => some _) (fun k => ?_) (Ev.now _)
    simp only [impl_RuleText.l0, itoa_eq value h0 (by omega), Option.bind_some]
    rw [if_neg (by omega)]
    by_cases e2 : kind = 2
    · rw [if_pos e2, if_pos (by omega), if_pos (by omega), if_pos (Or.inl e2)]
    · rw [if_neg e2]
      by_cases e3 : kind = 3
      · rw [if_pos e3, if_pos (by omega), if_pos (by omega), if_pos (Or.inr (Or.inl e3))]
      · rw [if_neg e3]
        by_cases e5 : kind = 5
        · rw [if_pos e5, if_pos (by omega), if_pos (by omega), if_pos (Or.inr (Or.inr e5))]
        · rw [if_neg e5, if_neg (by rintro (h | h | h) <;> contradiction)]
  | succ n ih =>
    intro i hi out ho
    have hlt : i < cells.length := by omega
    have hc := h.cell cells[i] (List.getElem_mem hlt)
    have h2 := ih (i + 1) (by omega) (out ++ [97 + cells[i]]) (by simp only [List.length_append, List.length_singleton]; omega)
    rw [drop_get hlt, List.map_cons, List.append_cons]
    exact Ev.step (fun k => by simp only [impl_RuleText.l0]; rw [if_pos (by omega), if_pos (by omega), if_pos (by omega), if_pos (by omega), rd_nat hlt, byte97 hc, wnext hlt (by omega)]) h2
theorem implRuleText_ev (kind : Int) (cells : List Int) (value : Int) (hx : cells.length ≤ 9223372036854775807) :
    Ev (fun k => impl_RuleText.f k kind cells value) (if ruleValid kind cells value 4 = true then ruleT kind cells value else ⟨#[]⟩) := by
  refine Ev.bind (implRuleValid_ev kind cells value 4 hx) ?_
  by_cases hv : ruleValid kind cells value 4 = true
  · have h := ruleIn_of hv
    obtain ⟨a, b⟩ := (⟨h.k0, h.k1⟩ : 1 ≤ kind ∧ kind ≤ 5)
    have e1 : wrap64 (kind - 1) = kind - 1 := w64 (by omega) (by omega)
    have h2 := irt_loop h cells.length 0 (by omega) [bt (⟨#[100, 115, 112, 108, 97]⟩ : ByteArray) (kind - 1)] (by simp)
    rw [hv, if_pos rfl]
    unfold ruleT lettersOf
    exact Ev.congr (fun k => by rw [if_pos rfl, e1, if_pos (by omega), if_pos (by omega)]; rfl) h2
  · have hv' : ruleValid kind cells value 4 = false := by simpa using hv
    rw [hv', if_neg (by decide)]
    exact Ev.congr (fun k => by rw [if_neg (by decide)]) (Ev.now _)
theorem srt_loop {kind : Int} {cells : List Int} {value : Int} (h : RuleIn kind cells value) : ∀ n i : Nat, i + n = cells.length → ∀ out : List Int, out.length ≤ 1 + i →
    Ev (fun k => spec_RuleText.l0 k (strOfNums out) (i : Int) kind cells value) (if kind = 2 ∨ kind = 3 ∨ kind = 5 then (strOfNums (out ++ (cells.drop i).map fun c => 97 + c) ++ (⟨#[61]⟩ : ByteArray)) ++ ⟨(Lib.itoa value).toArray⟩ else strOfNums (out ++ (cells.drop i).map fun c => 97 + c)) := by
  intro n
  have hlen := h.len
  have h0 := h.v0
  have h1 := h.v1
  induction n with
  | zero =>
    intro i hi out ho
    rw [List.drop_of_length_le (by omega), List.map_nil, List.append_nil]
    have hz := itoaT h0 h1
    have hs : (strOfNums out).size ≤ 5 := by rw [str_size]; omega
    have hs2 : ((strOfNums out) ++ (⟨#[61]⟩ : ByteArray)).size ≤ 6 := by rw [ByteArray.size_append]; exact Nat.add_le_add hs (Nat.le_refl 1)
    have hn := number_ev value h0 (by omega)
    by_cases e2 : kind = 2
    · rw [if_pos (Or.inl e2)]
      refine Ev.step (fun k => by simp only [spec_RuleText.l0]; rw [if_neg (by omega), if_pos e2, if_pos (by omega)]) (Ev.bind hn ?_)
      exact Ev.congr (fun k => by rw [if_pos (by omega)]) (Ev.now _)
    · by_cases e3 : kind = 3
      · rw [if_pos (Or.inr (Or.inl e3))]
        refine Ev.step (fun k => by simp only [spec_RuleText.l0]; rw [if_neg (by omega), if_neg e2, if_pos e3, if_pos (by omega)]) (Ev.bind hn ?_)
        exact Ev.congr (fun k => by rw [if_pos (by omega)]) (Ev.now _)
      · by_cases e5 : kind = 5
        · rw [if_pos (Or.inr (Or.inr e5))]
          refine Ev.step (fun k => by simp only [spec_RuleText.l0]; rw [if_neg (by omega), if_neg e2, if_neg e3, if_pos e5, if_pos (by omega)]) (Ev.bind hn ?_)
          exact Ev.congr (fun k => by rw [if_pos (by omega)]) (Ev.now _)
        · rw [if_neg (by rintro (h | h | h) <;> contradiction)]
          exact Ev.step (fun k => by simp only [spec_RuleText.l0]; rw [if_neg (by omega), if_neg e2, if_neg e3, if_neg e5]) (Ev.now _)
  | succ n ih =>
    intro i hi out ho
    have hlt : i < cells.length := by omega
    have hc := h.cell cells[i] (List.getElem_mem hlt)
    have h2 := ih (i + 1) (by omega) (out ++ [97 + cells[i]]) (by simp only [List.length_append, List.length_singleton]; omega)
    rw [drop_get hlt, List.map_cons, List.append_cons]
    exact Ev.step (fun k => by
      simp only [spec_RuleText.l0]
      rw [if_pos (by omega), if_pos (by omega), rd_nat hlt, byte97 hc, wnext hlt (by omega)]
      simp only [Option.bind_some]
      rw [if_pos (by rw [str_size, str_size]; simp only [List.length_singleton]; omega), ← str_append]) h2
theorem letter_cut : ∀ kind : Int, 1 ≤ kind → kind ≤ 5 → (⟨#[100, 115, 112, 108, 97]⟩ : ByteArray).extract (kind - 1).toNat kind.toNat = strOfNums [bt (⟨#[100, 115, 112, 108, 97]⟩ : ByteArray) (kind - 1)] := by
  intro kind h0 h1
  have : kind = 1 ∨ kind = 2 ∨ kind = 3 ∨ kind = 4 ∨ kind = 5 := by omega
  rcases this with rfl | rfl | rfl | rfl | rfl <;> rfl
theorem specRuleText_ev (kind : Int) (cells : List Int) (value : Int) (hx : cells.length ≤ 9223372036854775807) :
    Ev (fun k => spec_RuleText.f k kind cells value) (if ruleValid kind cells value 4 = true then ruleT kind cells value else ⟨#[]⟩) := by
  refine Ev.bind (specRuleValid_ev kind cells value 4 hx) ?_
  by_cases hv : ruleValid kind cells value 4 = true
  · have h := ruleIn_of hv
    obtain ⟨a, b⟩ := (⟨h.k0, h.k1⟩ : 1 ≤ kind ∧ kind ≤ 5)
    have e1 : wrap64 (kind - 1) = kind - 1 := w64 (by omega) (by omega)
    have h2 := srt_loop h cells.length 0 (by omega) [bt (⟨#[100, 115, 112, 108, 97]⟩ : ByteArray) (kind - 1)] (by simp)
    rw [hv, if_pos rfl]
    unfold ruleT lettersOf
    exact Ev.congr (fun k => by rw [if_pos rfl, e1, if_pos (by omega), if_pos (by omega), if_pos (by omega), letter_cut kind a b]; rfl) h2
  · have hv' : ruleValid kind cells value 4 = false := by simpa using hv
    rw [hv', if_neg (by decide)]
    exact Ev.congr (fun k => by rw [if_neg (by decide)]) (Ev.now _)
end Go.Proofs.YtojnknpgnohegaaDoor.K
end
section
namespace Go.Proofs.YtojnknpgnohegaaDoor.K
open Go.RowKit Go.Proofs.YtojnknpgnohegaaDoorW.PrintWords
theorem bt_list (l : List UInt8) (i : Nat) (h : i < l.length) : bt ⟨⟨l⟩⟩ (i : Int) = ((l[i]).toNat : Int) := by
  unfold bt
  rw [dif_pos (show ((i : Int)).toNat < (⟨⟨l⟩⟩ : ByteArray).size by rw [Int.toNat_natCast]; exact h)]
  rfl
theorem bt_zero (b : UInt8) (l : List UInt8) : bt ⟨⟨b :: l⟩⟩ 0 = ((b).toNat : Int) := bt_list (b :: l) 0 (by simp)
theorem text_inj {l l' : List UInt8} (h : (⟨⟨l⟩⟩ : ByteArray) = ⟨⟨l'⟩⟩) : l = l' := by injection h with h; injection h
theorem toL (l : List UInt8) : (⟨⟨l⟩⟩ : ByteArray).toList = l := ByteArray.toList_eq _
theorem sameText {t x : ByteArray} : t.toList = x.toList ↔ t = x := by
  rw [ByteArray.toList_eq, ByteArray.toList_eq]
  constructor
  · rintro h
    rcases t with ⟨⟨t⟩⟩
    rcases x with ⟨⟨x⟩⟩
    cases (show t = x from h)
    rfl
  · rintro rfl; rfl
theorem index_eqs : ∀ (l r : List UInt8), (∀ b ∈ l, b ≠ 61) → Lib.index (l ++ 61 :: r) [61] = (l.length : Int)
  | [], r, _ => by simp [Lib.index]
  | b :: l, r, h => by
    have hb : ¬ (61 : UInt8) = b := fun e => h b (by simp) e.symm
    have ih := index_eqs l r (fun x hx => h x (List.mem_cons_of_mem _ hx))
    rw [List.cons_append, Lib.index, ih]
    rw [if_neg (by simp [List.isPrefixOf, hb]), if_neg (by first | (simp; done) | (simp; omega))]
    simp
theorem index_noeqs : ∀ (l : List UInt8), (∀ b ∈ l, b ≠ 61) → Lib.index l [61] = -1
  | [], _ => by simp [Lib.index]
  | b :: l, h => by
    have hb : ¬ (61 : UInt8) = b := fun e => h b (by simp) e.symm
    have ih := index_noeqs l (fun x hx => h x (List.mem_cons_of_mem _ hx))
    rw [Lib.index, ih]
    rw [if_neg (by simp [List.isPrefixOf, hb]), if_pos (by simp)]
theorem cut_eqs (l r : List UInt8) (h : ∀ b ∈ l, b ≠ 61) : Lib.cut (l ++ 61 :: r) [61] = (l, r, true) := by
  unfold Lib.cut
  rw [index_eqs l r h, if_pos (by omega)]
  simp
theorem cut_noeqs (l : List UInt8) (h : ∀ b ∈ l, b ≠ 61) : Lib.cut l [61] = (l, [], false) := by
  unfold Lib.cut
  rw [index_noeqs l h, if_neg (by omega)]
def atoiN (l : List UInt8) : Int := match Lib.atoiAll l with | .ok v => v | .syntax => 0 | .range => Lib.atoiSat l
theorem atoi_ev (l : List UInt8) (hl : l.length ≤ 281474976710656) : ∃ e, strconv_Atoi.f ⟨⟨l⟩⟩ = some (atoiN l, e) := by
  unfold strconv_Atoi.f atoiN
  rw [if_pos (show (⟨⟨l⟩⟩ : ByteArray).size ≤ 281474976710656 from hl)]
  have hd : (⟨⟨l⟩⟩ : ByteArray).data.toList = l := rfl
  rw [hd]
  cases Lib.atoiAll l
  · exact ⟨_, rfl⟩
  · exact ⟨_, rfl⟩
  · exact ⟨_, rfl⟩
abbrev Read := Int × List Int × Int × Bool
def noRule : Read := (0, [], 0, false)
def ruleText (kind : Int) (cells : List Int) (value : Int) : ByteArray := if ruleValid kind cells value 4 = true then ruleT kind cells value else ⟨#[]⟩
def kindLetters : ByteArray := ⟨#[100, 115, 112, 108, 97]⟩
def cellNum (b : UInt8) : Int := (b.toNat : Int) - 97
def iEnd (l : List UInt8) (kind : Int) (cells : List Int) (value : Int) : Read := if ruleText kind cells value = ⟨⟨l⟩⟩ then (kind, cells, value, true) else noRule
def iRead (l : List UInt8) : Read :=
  if (Lib.cut l [61]).1.length < 2 ∨ 5 < (Lib.cut l [61]).1.length ∨ 3 < (Lib.cut l [61]).2.1.length then noRule
  else iEnd l (Lib.indexByte kindLetters.data.toList ((Lib.cut l [61]).1.headD 0) + 1) ((Lib.cut l [61]).1.tail.map cellNum) (atoiN (Lib.cut l [61]).2.1)
theorem byte_wrap (b : UInt8) : wrap64 (wrap64 (b.toNat : Int) - 97) = cellNum b := by
  have := b.toNat_lt
  unfold cellNum
  rw [w64 (n := (b.toNat : Int)) (by omega) (by omega), w64 (by omega) (by omega)]
theorem ir_loop (l c v : List UInt8) (kind : Int) (hc : c.length ≤ 5) (hv : v.length ≤ 3) : ∀ n i : Nat, i + n = c.length → ∀ acc : List Int, acc.length ≤ i →
    Ev (fun k => impl_ReadRule.l0 k ⟨⟨l⟩⟩ ⟨⟨c⟩⟩ ⟨⟨v⟩⟩ (i : Int) kind acc 0) (iEnd l kind (acc ++ (c.drop i).map cellNum) (atoiN v)) := by
  intro n
  have hs : ((⟨⟨c⟩⟩ : ByteArray).size : Int) = (c.length : Int) := rfl
  induction n with
  | zero =>
    intro i hi acc ha
    obtain ⟨e, he⟩ := atoi_ev v (by omega)
    rw [List.drop_of_length_le (by omega), List.map_nil, List.append_nil]
    refine Ev.step (fun k => by simp only [impl_ReadRule.l0]; rw [if_neg (by rw [hs]; omega), he, Option.bind_some]) (Ev.bind (implRuleText_ev kind acc (atoiN v) (by omega)) ?_)
    by_cases h : ruleText kind acc (atoiN v) = (⟨⟨l⟩⟩ : ByteArray)
    · rw [show iEnd l kind acc (atoiN v) = (kind, acc, atoiN v, true) from if_pos h]
      exact Ev.congr (f := fun _ => some (kind, acc, atoiN v, true)) (fun k => if_pos (sameText.2 h)) (Ev.now _)
    · rw [show iEnd l kind acc (atoiN v) = noRule from if_neg h]
      exact Ev.congr (f := fun _ => some noRule) (fun k => if_neg (fun e => h (sameText.1 e))) (Ev.now _)
  | succ n ih =>
    intro i hi acc ha
    have hlt : i < c.length := by omega
    have h2 := ih (i + 1) (by omega) (acc ++ [cellNum c[i]]) (by simp only [List.length_append, List.length_singleton]; omega)
    rw [drop_get hlt, List.map_cons, List.append_cons]
    exact Ev.step (fun k => by simp only [impl_ReadRule.l0]; rw [if_pos (by rw [hs]; omega), if_pos (by omega), if_pos (by omega), bt_list c i hlt, byte_wrap, wnext hlt (by omega)]) h2
theorem implReadRule_ev (l : List UInt8) (hl : l.length ≤ 1048576) : Ev (fun k => impl_ReadRule.f k ⟨⟨l⟩⟩) (iRead l) := by
  have hcut : strings_Cut.f ⟨⟨l⟩⟩ (⟨#[61]⟩ : ByteArray) = some (⟨⟨(Lib.cut l [61]).1⟩⟩, ⟨⟨(Lib.cut l [61]).2.1⟩⟩, (Lib.cut l [61]).2.2) := by
    unfold strings_Cut.f
    rw [if_pos (show (⟨⟨l⟩⟩ : ByteArray).size < 4294967281 by show l.length < 4294967281; omega)]
  unfold iRead
  generalize Lib.cut l [61] = q at *
  obtain ⟨c, v, f⟩ := q
  have hs : ((⟨⟨c⟩⟩ : ByteArray).size : Int) = (c.length : Int) := rfl
  have hs2 : ((⟨⟨v⟩⟩ : ByteArray).size : Int) = (v.length : Int) := rfl
  have stop : Ev (fun k => impl_ReadRule.j0 k ⟨⟨l⟩⟩ ⟨⟨c⟩⟩ ⟨⟨v⟩⟩ true) noRule := Ev.step (fun k => by simp only [impl_ReadRule.j0]; rw [if_pos (by trivial)]; rfl) (Ev.now _)
  refine Ev.congr (fun k => by unfold impl_ReadRule.f; rw [hcut, Option.bind_some]) ?_
  dsimp only
  by_cases h1 : c.length < 2
  · rw [if_pos (Or.inl h1)]
    exact Ev.congr (fun k => by rw [if_pos (by rw [hs]; omega)]) stop
  · by_cases h2 : 5 < c.length
    · rw [if_pos (Or.inr (Or.inl h2))]
      exact Ev.congr (fun k => by rw [if_neg (by rw [hs]; omega), if_pos (by rw [hs]; omega)]) stop
    · by_cases h3 : 3 < v.length
      · rw [if_pos (Or.inr (Or.inr h3))]
        exact Ev.congr (fun k => by rw [if_neg (by rw [hs]; omega), if_neg (by rw [hs]; omega), decide_eq_true (show ((⟨⟨v⟩⟩ : ByteArray).size : Int) > 3 by rw [hs2]; omega)]) stop
      · rw [if_neg (by rintro (h | h | h) <;> omega)]
        cases c with
        | nil => simp at h1
        | cons b c =>
          have hlen : (b :: c).length = c.length + 1 := rfl
          have hb : (bt ⟨⟨b :: c⟩⟩ 0).toNat.toUInt8 = b := by
            rw [bt_zero, Int.toNat_natCast]
            simp
          have hk : strings_IndexByte.f (⟨#[100, 115, 112, 108, 97]⟩ : ByteArray) (bt ⟨⟨b :: c⟩⟩ 0) = some (Lib.indexByte kindLetters.data.toList b) := by
            unfold strings_IndexByte.f
            rw [hb]; rfl
          have hr : -1 ≤ Lib.indexByte kindLetters.data.toList b ∧ Lib.indexByte kindLetters.data.toList b ≤ 5 := by
            refine ⟨Lib.indexByte_ge _ _, ?_⟩
            show Lib.indexByte [100, 115, 112, 108, 97] b ≤ 5
            simp only [Lib.indexByte]
            repeat' split
            all_goals omega
          have e1 : wrap64 (Lib.indexByte kindLetters.data.toList b + 1) = Lib.indexByte kindLetters.data.toList b + 1 := w64 (by omega) (by omega)
          have h4 := ir_loop l (b :: c) v (Lib.indexByte kindLetters.data.toList b + 1) (by omega) (by omega) c.length 1 (by rw [hlen]; omega) [] (by simp)
          refine Ev.congr (fun k => by rw [if_neg (by rw [hs]; omega), if_neg (by rw [hs]; omega), decide_eq_false (show ¬ ((⟨⟨v⟩⟩ : ByteArray).size : Int) > 3 by rw [hs2]; omega)]) ?_
          refine Ev.step (fun k => by simp only [impl_ReadRule.j0]; rw [if_neg (by decide), if_pos (by rw [hs]; omega), hk, Option.bind_some, e1]) ?_
          exact h4
def sStep (st : List Int × Int) (b : UInt8) : List Int × Int :=
  if 97 ≤ b.toNat ∧ b.toNat ≤ 112 then (st.1 ++ [cellNum b], st.2) else if 48 ≤ b.toNat ∧ b.toNat ≤ 57 then (st.1, wrap64 (wrap64 (10 * st.2) + ((b.toNat : Int) - 48))) else st
def sEnd (l : List UInt8) (kind : Int) (st : List Int × Int) : Read := if ruleText kind st.1 st.2 = ⟨⟨l⟩⟩ ∧ l ≠ [] then (kind, st.1, st.2, true) else noRule
def kindOf (b : UInt8) : Int := if 97 = b.toNat then 5 else if 108 = b.toNat then 4 else if 112 = b.toNat then 3 else if 115 = b.toNat then 2 else if 100 = b.toNat then 1 else 0
def sRead (l : List UInt8) : Read := sEnd l (match l with | [] => 0 | b :: _ => kindOf b) (((l.take 12).drop 1).foldl sStep ([], 0))
theorem sr_end (l : List UInt8) (i kind : Int) (cells : List Int) (value : Int) (hx : cells.length ≤ 9223372036854775807) : Ev (fun k => spec_ReadRule.j1 k ⟨⟨l⟩⟩ i false kind cells value) (sEnd l kind (cells, value)) := by
  refine Ev.step (fun k => by simp only [spec_ReadRule.j1]; rw [if_neg (by decide)]) (Ev.bind (specRuleText_ev kind cells value hx) ?_)
  by_cases h : ruleText kind cells value = (⟨⟨l⟩⟩ : ByteArray)
  · by_cases hl : l = []
    · rw [show sEnd l kind (cells, value) = noRule from if_neg (fun e => e.2 hl)]
      exact Ev.congr (f := fun _ => some noRule) (fun k => (if_pos (sameText.2 h)).trans (if_pos (by rw [toL]; exact hl))) (Ev.now _)
    · rw [show sEnd l kind (cells, value) = (kind, cells, value, true) from if_pos ⟨h, hl⟩]
      exact Ev.congr (f := fun _ => some (kind, cells, value, true)) (fun k => (if_pos (sameText.2 h)).trans (if_neg (by rw [toL]; exact hl))) (Ev.now _)
  · rw [show sEnd l kind (cells, value) = noRule from if_neg (fun e => h e.1)]
    exact Ev.congr (f := fun _ => some noRule) (fun k => if_neg (fun e => h (sameText.1 e))) (Ev.now _)
theorem sr_loop (l : List UInt8) (hl : l.length ≤ 1048576) (kind : Int) : ∀ n i : Nat, 1 ≤ i → i + n = (l.take 12).length → ∀ (cells : List Int) (value : Int), cells.length ≤ i →
    Ev (fun k => spec_ReadRule.l0 k ⟨⟨l⟩⟩ (i : Int) kind cells value) (sEnd l kind (((l.take 12).drop i).foldl sStep (cells, value))) := by
  intro n
  have hs : ((⟨⟨l⟩⟩ : ByteArray).size : Int) = (l.length : Int) := rfl
  have hm : (l.take 12).length = min 12 l.length := List.length_take
  induction n with
  | zero =>
    intro i h0 hi cells value hc
    rw [List.drop_of_length_le (by omega), List.foldl_nil]
    have hend := sr_end l (i : Int) kind cells value (by omega)
    by_cases h : i < l.length
    · exact Ev.step (fun k => by simp only [spec_ReadRule.l0]; rw [if_pos (by rw [hs]; omega), decide_eq_false (by omega)]) hend
    · exact Ev.step (fun k => by simp only [spec_ReadRule.l0]; rw [if_neg (by rw [hs]; omega)]) hend
  | succ n ih =>
    intro i h0 hi cells value hc
    have hlt : i < l.length := by omega
    have hlt' : i < (l.take 12).length := by omega
    have hg : (l.take 12)[i] = l[i] := List.getElem_take
    have hb := (l[i]).toNat_lt
    rw [drop_get hlt', hg, List.foldl_cons]
    refine Ev.step (fun k => by simp only [spec_ReadRule.l0]; rw [if_pos (by rw [hs]; omega), decide_eq_true (by omega)]) ?_
    by_cases h1 : 97 ≤ (l[i]).toNat ∧ (l[i]).toNat ≤ 112
    · have e : sStep (cells, value) l[i] = (cells ++ [cellNum l[i]], value) := by unfold sStep; rw [if_pos h1]
      have e2 : wrap64 ((((l[i]).toNat : Int) - 97) % 256) = cellNum l[i] := by unfold cellNum; rw [w64 (by omega) (by omega)]; omega
      rw [e]
      have h2 := ih (i + 1) (by omega) (by omega) (cells ++ [cellNum l[i]]) value (by simp only [List.length_append, List.length_singleton]; omega)
      refine Ev.step (fun k => by simp only [spec_ReadRule.j1]; rw [if_pos (by trivial), if_neg (by omega), if_pos (by omega), if_pos (by rw [hs]; omega), bt_list l i hlt, if_pos (by omega), decide_eq_true (by omega)]) ?_
      exact Ev.step (fun k => by simp only [spec_ReadRule.j3]; rw [if_pos (by trivial), if_pos (by omega), if_pos (by rw [hs]; omega), if_pos (by omega), bt_list l i hlt, e2, wnext hlt (by omega)]) h2
    · have to3 : ∀ {r : Read}, Ev (fun k => spec_ReadRule.j3 k ⟨⟨l⟩⟩ (i : Int) false kind cells value) r → Ev (fun k => spec_ReadRule.j1 k ⟨⟨l⟩⟩ (i : Int) true kind cells value) r := by
        intro r h
        refine Ev.step (f := fun k => spec_ReadRule.j3 k ⟨⟨l⟩⟩ (i : Int) false kind cells value) (fun k => ?_) h
        simp only [spec_ReadRule.j1]
        rw [if_pos (by trivial), if_neg (by omega), if_pos (by omega), if_pos (by rw [hs]; omega), bt_list l i hlt]
        by_cases h97 : 97 ≤ (l[i]).toNat
        · rw [if_pos (by omega), decide_eq_false (by omega)]
        · rw [if_neg (by omega)]
      refine to3 ?_
      by_cases h2 : 48 ≤ (l[i]).toNat ∧ (l[i]).toNat ≤ 57
      · have e : sStep (cells, value) l[i] = (cells, wrap64 (wrap64 (10 * value) + (((l[i]).toNat : Int) - 48))) := by unfold sStep; rw [if_neg h1, if_pos h2]
        have e2 : wrap64 ((((l[i]).toNat : Int) - 48) % 256) = ((l[i]).toNat : Int) - 48 := by rw [w64 (by omega) (by omega)]; omega
        rw [e]
        have h3 := ih (i + 1) (by omega) (by omega) cells (wrap64 (wrap64 (10 * value) + (((l[i]).toNat : Int) - 48))) (by omega)
        exact Ev.step (fun k => by simp only [spec_ReadRule.j3]; rw [if_neg (by decide), if_pos (by omega), if_pos (by rw [hs]; omega), bt_list l i hlt, if_pos (by omega), if_pos (by omega), e2, wnext hlt (by omega)]) h3
      · have e : sStep (cells, value) l[i] = (cells, value) := by unfold sStep; rw [if_neg h1, if_neg h2]
        rw [e]
        have h3 := ih (i + 1) (by omega) (by omega) cells value (by omega)
        refine Ev.step (f := fun k => spec_ReadRule.l0 k ⟨⟨l⟩⟩ ((i + 1 : Nat) : Int) kind cells value) (fun k => ?_) h3
        simp only [spec_ReadRule.j3]
        rw [if_neg (by decide), if_pos (by omega), if_pos (by rw [hs]; omega), bt_list l i hlt, wnext hlt (by omega)]
        by_cases h48 : 48 ≤ (l[i]).toNat
        · rw [if_pos (by omega), if_neg (by omega)]
        · rw [if_neg (by omega)]
theorem sr_kind (b : UInt8) (l : List UInt8) {r : Read} (h : Ev (fun k => spec_ReadRule.l0 k ⟨⟨b :: l⟩⟩ 1 (kindOf b) [] 0) r) : Ev (fun k => spec_ReadRule.l1 k ⟨⟨b :: l⟩⟩ 0 0 0 [] 0) r := by
  have one : ∀ (j : Nat) (kind : Int), j < 5 → Ev (fun k => spec_ReadRule.l1 k ⟨⟨b :: l⟩⟩ 0 ((j + 1 : Nat) : Int) (if bt kindLetters (j : Int) = (b.toNat : Int) then ((j + 1 : Nat) : Int) else kind) [] 0) r → Ev (fun k => spec_ReadRule.l1 k ⟨⟨b :: l⟩⟩ 0 (j : Int) kind [] 0) r := by
    intro j kind hj hh
    have ew : wrap64 ((j : Int) + 1) = ((j + 1 : Nat) : Int) := by rw [w64 (by omega) (by omega)]; omega
    refine Ev.step (f := fun k => spec_ReadRule.l1 k ⟨⟨b :: l⟩⟩ 0 ((j + 1 : Nat) : Int) (if bt kindLetters (j : Int) = (b.toNat : Int) then ((j + 1 : Nat) : Int) else kind) [] 0) (fun k => ?_) hh
    simp only [spec_ReadRule.l1]
    rw [if_pos (by omega), if_pos (by omega), if_pos (show (0 : Int) < ((⟨⟨b :: l⟩⟩ : ByteArray).size : Int) by show (0 : Int) < ((l.length + 1 : Nat) : Int); omega), bt_zero, ew]
    show (if bt kindLetters (j : Int) = (b.toNat : Int) then _ else _) = _
    by_cases e : bt kindLetters (j : Int) = (b.toNat : Int)
    · rw [if_pos e, if_pos e]
    · rw [if_neg e, if_neg e]
  refine one 0 0 (by decide) (one 1 _ (by decide) (one 2 _ (by decide) (one 3 _ (by decide) (one 4 _ (by decide) ?_))))
  refine Ev.step (f := fun k => spec_ReadRule.l0 k ⟨⟨b :: l⟩⟩ 1 (kindOf b) [] 0) (fun k => ?_) h
  simp only [spec_ReadRule.l1]
  rw [if_neg (by decide), show wrap64 (0 + 1) = 1 by rw [w64 (by omega) (by omega)]; rfl]
  congr 1
  have e0 : bt kindLetters ((0 : Nat) : Int) = 100 := rfl
  have e1 : bt kindLetters ((1 : Nat) : Int) = 115 := rfl
  have e2 : bt kindLetters ((2 : Nat) : Int) = 112 := rfl
  have e3 : bt kindLetters ((3 : Nat) : Int) = 108 := rfl
  have e4 : bt kindLetters ((4 : Nat) : Int) = 97 := rfl
  rw [e0, e1, e2, e3, e4]
  unfold kindOf
  have hb := b.toNat_lt
  repeat' split
  all_goals omega
theorem specReadRule_ev (l : List UInt8) (hl : l.length ≤ 1048576) : Ev (fun k => spec_ReadRule.f k ⟨⟨l⟩⟩) (sRead l) := by
  cases l with
  | nil =>
    refine Ev.congr (fun k => rfl) (g := fun k => spec_ReadRule.f k ⟨⟨[]⟩⟩) (f := fun k => spec_ReadRule.l0 k ⟨⟨[]⟩⟩ 0 0 [] 0) ?_
    exact Ev.step (fun k => by simp only [spec_ReadRule.l0]; rw [if_neg (show ¬ (0 : Int) < ((⟨⟨[]⟩⟩ : ByteArray).size : Int) by decide)]) (sr_end [] 0 0 [] 0 (by simp))
  | cons b l =>
    have hs : ((⟨⟨b :: l⟩⟩ : ByteArray).size : Int) = ((l.length + 1 : Nat) : Int) := rfl
    have hm : ((b :: l).take 12).length = min 12 (l.length + 1) := List.length_take
    have h := sr_loop (b :: l) hl (kindOf b) (((b :: l).take 12).length - 1) 1 (by omega) (by omega) [] 0 (by simp)
    have h1 := sr_kind b l h
    refine Ev.congr (fun k => rfl) (g := fun k => spec_ReadRule.f k ⟨⟨b :: l⟩⟩) (f := fun k => spec_ReadRule.l0 k ⟨⟨b :: l⟩⟩ 0 0 [] 0) ?_
    refine Ev.step (fun k => by simp only [spec_ReadRule.l0]; rw [if_pos (by rw [hs]; omega), decide_eq_true (by omega)]) ?_
    exact Ev.step (fun k => by simp only [spec_ReadRule.j1]; rw [if_pos (by trivial), if_pos (by trivial)]) h1
end Go.Proofs.YtojnknpgnohegaaDoor.K
end
section
namespace Go.Proofs.YtojnknpgnohegaaDoor.K
open Go.RowKit Go.Proofs.YtojnknpgnohegaaDoorW.PrintWords
def dg (d : Nat) : UInt8 := UInt8.ofNat (48 + d)
theorem dg_toNat {d : Nat} (h : d < 10) : (dg d).toNat = 48 + d := by
  unfold dg
  rw [UInt8.toNat_ofNat']
  omega
theorem decDigits3 {n : Nat} (h : n < 1000) : Lib.decDigits n = if n < 10 then [dg n] else if n < 100 then [dg (n / 10), dg (n % 10)] else [dg (n / 100), dg (n / 10 % 10), dg (n % 10)] := by
  rw [Lib.decDigits]
  by_cases h1 : n < 10
  · rw [dif_pos h1, if_pos h1]; rfl
  · rw [dif_neg h1, if_neg h1, Lib.decDigits]
    by_cases h2 : n < 100
    · rw [dif_pos (by omega), if_pos h2]; rfl
    · rw [dif_neg (by omega), if_neg h2, Lib.decDigits, dif_pos (by omega), Nat.div_div_eq_div_mul]; rfl
theorem itoa_dec {v : Int} (h0 : 0 ≤ v) : Lib.itoa v = Lib.decDigits v.toNat := by
  unfold Lib.itoa
  rw [if_neg (by omega)]
theorem digit_val {d : Nat} (h : d < 10) : Lib.digitVal (dg d) = some d := by
  unfold Lib.digitVal
  rw [dg_toNat h, if_pos (by omega)]
  congr 1
  omega
theorem itoa3_len {v : Int} (h0 : 0 ≤ v) (h1 : v < 1000) : 1 ≤ (Lib.itoa v).length ∧ (Lib.itoa v).length ≤ 3 := by
  rw [itoa_dec h0, decDigits3 (by omega)]
  split
  · simp
  · split <;> simp
theorem decFrom_dec {n : Nat} (h : n < 1000) : Lib.decFrom 0 (Lib.decDigits n) = some n := by
  rw [decDigits3 h]
  by_cases h1 : n < 10
  · rw [if_pos h1]
    simp only [Lib.decFrom, digit_val h1]
    congr 1; omega
  · rw [if_neg h1]
    by_cases h2 : n < 100
    · rw [if_pos h2]
      simp only [Lib.decFrom, digit_val (show n / 10 < 10 by omega), digit_val (show n % 10 < 10 by omega)]
      congr 1; omega
    · rw [if_neg h2]
      simp only [Lib.decFrom, digit_val (show n / 100 < 10 by omega), digit_val (show n / 10 % 10 < 10 by omega), digit_val (show n % 10 < 10 by omega)]
      congr 1; omega
theorem decDigits_head {n : Nat} (h : n < 1000) : ∃ d r, d < 10 ∧ Lib.decDigits n = dg d :: r := by
  rw [decDigits3 h]
  by_cases h1 : n < 10
  · rw [if_pos h1]; exact ⟨n, _, h1, rfl⟩
  · rw [if_neg h1]
    by_cases h2 : n < 100
    · rw [if_pos h2]; exact ⟨n / 10, _, by omega, rfl⟩
    · rw [if_neg h2]; exact ⟨n / 100, _, by omega, rfl⟩
theorem atoiN_itoa {v : Int} (h0 : 0 ≤ v) (h1 : v < 1000) : atoiN (Lib.itoa v) = v := by
  have hl := (itoa3_len h0 h1).2
  unfold atoiN
  rw [Lib.atoiAll_short _ (by omega), itoa_dec h0]
  have hd : Lib.atoi (Lib.decDigits v.toNat) = some v := by
    obtain ⟨d, r, hd, e⟩ := decDigits_head (n := v.toNat) (by omega)
    have hf := decFrom_dec (n := v.toNat) (by omega)
    have h45 : ¬ (dg d == 45) = true := by
      rw [beq_iff_eq]; intro e; have := congrArg UInt8.toNat e; rw [dg_toNat hd] at this
      have h' : (45 : UInt8).toNat = 45 := rfl
      omega
    have h43 : ¬ (dg d == 43) = true := by
      rw [beq_iff_eq]; intro e; have := congrArg UInt8.toNat e; rw [dg_toNat hd] at this
      have h' : (43 : UInt8).toNat = 43 := rfl
      omega
    rw [e] at hf ⊢
    unfold Lib.atoi
    simp only
    rw [if_neg h45, if_neg h43]
    unfold Lib.decNat
    rw [if_neg (by simp), hf]
    simp only [Option.map_some]
    congr 1; omega
  rw [hd]
  rfl
theorem atoiN_nil : atoiN [] = 0 := rfl
theorem step_digit {c : List Int} {v : Int} {d : Nat} (h : d < 10) (h0 : 0 ≤ v) (h1 : v < 1000) : sStep (c, v) (dg d) = (c, 10 * v + d) := by
  unfold sStep
  rw [dg_toNat h, if_neg (by omega), if_pos (by omega)]
  dsimp only
  rw [w64 (n := 10 * v) (by omega) (by omega), w64 (by omega) (by omega)]
  congr 1
  omega
theorem fold_digits {c : List Int} {n : Nat} (h : n < 1000) : (Lib.decDigits n).foldl sStep (c, 0) = (c, (n : Int)) := by
  rw [decDigits3 h]
  by_cases h1 : n < 10
  · rw [if_pos h1, List.foldl_cons, List.foldl_nil, step_digit h1 (by omega) (by omega)]
    congr 1; omega
  · rw [if_neg h1]
    by_cases h2 : n < 100
    · rw [if_pos h2]
      simp only [List.foldl_cons, List.foldl_nil]
      rw [step_digit (show n / 10 < 10 by omega) (by omega) (by omega), step_digit (show n % 10 < 10 by omega) (by omega) (by omega)]
      congr 1; omega
    · rw [if_neg h2]
      simp only [List.foldl_cons, List.foldl_nil]
      rw [step_digit (show n / 100 < 10 by omega) (by omega) (by omega), step_digit (show n / 10 % 10 < 10 by omega) (by omega) (by omega), step_digit (show n % 10 < 10 by omega) (by omega) (by omega)]
      congr 1; omega
def cl (c : Int) : UInt8 := UInt8.ofNat (97 + c).toNat
theorem cl_toNat {c : Int} (h : 0 ≤ c ∧ c ≤ 15) : ((cl c).toNat : Int) = 97 + c := by
  unfold cl
  rw [UInt8.toNat_ofNat']
  omega
theorem cellNum_cl {c : Int} (h : 0 ≤ c ∧ c ≤ 15) : cellNum (cl c) = c := by
  unfold cellNum
  rw [cl_toNat h]; omega
theorem map_cl : ∀ cells : List Int, (∀ c ∈ cells, 0 ≤ c ∧ c ≤ 15) → (cells.map cl).map cellNum = cells
  | [], _ => rfl
  | c :: r, h => by
    rw [List.map_cons, List.map_cons, cellNum_cl (h c (by simp)), map_cl r (fun x hx => h x (List.mem_cons_of_mem _ hx))]
theorem fold_cl : ∀ (cells acc : List Int) (v : Int), (∀ c ∈ cells, 0 ≤ c ∧ c ≤ 15) → (cells.map cl).foldl sStep (acc, v) = (acc ++ cells, v)
  | [], acc, v, _ => by simp
  | c :: r, acc, v, h => by
    have hc := h c (by simp)
    have e := cl_toNat hc
    rw [List.map_cons, List.foldl_cons]
    have : sStep (acc, v) (cl c) = (acc ++ [c], v) := by
      unfold sStep
      rw [if_pos (by omega), cellNum_cl hc]
    rw [this, fold_cl r _ v (fun x hx => h x (List.mem_cons_of_mem _ hx))]
    simp
def headOf (kind : Int) : UInt8 := if kind = 1 then 100 else if kind = 2 then 115 else if kind = 3 then 112 else if kind = 4 then 108 else 97
theorem head_laws : ∀ kind : Int, 1 ≤ kind → kind ≤ 5 → bt (⟨#[100, 115, 112, 108, 97]⟩ : ByteArray) (kind - 1) = ((headOf kind).toNat : Int) ∧ headOf kind ≠ 61 ∧ kindOf (headOf kind) = kind ∧ Lib.indexByte kindLetters.data.toList (headOf kind) + 1 = kind := by
  intro kind h0 h1
  have : kind = 1 ∨ kind = 2 ∨ kind = 3 ∨ kind = 4 ∨ kind = 5 := by omega
  rcases this with rfl | rfl | rfl | rfl | rfl <;> exact ⟨rfl, by decide, rfl, rfl⟩
def preL (kind : Int) (cells : List Int) : List UInt8 := headOf kind :: cells.map cl
def ruleL (kind : Int) (cells : List Int) (value : Int) : List UInt8 := if kind = 2 ∨ kind = 3 ∨ kind = 5 then preL kind cells ++ 61 :: Lib.itoa value else preL kind cells
theorem ruleT_list {kind : Int} {cells : List Int} {value : Int} (h : RuleIn kind cells value) : ruleT kind cells value = ⟨⟨ruleL kind cells value⟩⟩ := by
  have e : strOfNums (lettersOf kind cells) = ⟨⟨preL kind cells⟩⟩ := by
    unfold strOfNums lettersOf preL
    rw [(head_laws kind h.k0 h.k1).1, List.map_cons, List.map_map]
    have : UInt8.ofNat (((headOf kind).toNat : Int)).toNat = headOf kind := by rw [Int.toNat_natCast]; simp
    rw [this]
    rfl
  unfold ruleT ruleL
  rw [e]
  split
  · apply ByteArray.ext
    rw [ByteArray.data_append, ByteArray.data_append]
    apply Array.ext'
    simp
  · rfl
theorem pre_ne {kind : Int} {cells : List Int} {value : Int} (h : RuleIn kind cells value) : ∀ b ∈ preL kind cells, b ≠ 61 := by
  intro b hb
  unfold preL at hb
  rcases List.mem_cons.1 hb with rfl | hb
  · exact (head_laws kind h.k0 h.k1).2.1
  · obtain ⟨c, hc, rfl⟩ := List.mem_map.1 hb
    intro e
    have h1 := cl_toNat (h.cell c hc)
    have h2 := h.cell c hc
    rw [e] at h1
    have h' : ((61 : UInt8).toNat : Int) = 61 := rfl
    omega
theorem rule_more {kind : Int} {cells : List Int} {value : Int} (h : ruleValid kind cells value 4 = true) : 1 ≤ cells.length ∧ (¬ (kind = 2 ∨ kind = 3 ∨ kind = 5) → value = 0) := by
  unfold ruleValid at h
  simp only [Bool.and_eq_true] at h
  obtain ⟨_, h3⟩ := h
  unfold kindOk at h3
  split at h3
  · simp only [Bool.and_eq_true, decide_eq_true_eq] at h3
    exact ⟨by omega, fun _ => by omega⟩
  · split at h3
    · rename_i hk
      simp only [Bool.and_eq_true, decide_eq_true_eq] at h3
      exact ⟨by omega, fun hn => absurd (by rcases hk with hk | hk; exact Or.inl hk; exact Or.inr (Or.inl hk)) hn⟩
    · split at h3
      · simp only [Bool.and_eq_true, decide_eq_true_eq] at h3
        exact ⟨by omega, fun _ => by omega⟩
      · split at h3
        · rename_i hk
          simp only [Bool.and_eq_true, decide_eq_true_eq] at h3
          exact ⟨by omega, fun hn => absurd (Or.inr (Or.inr hk)) hn⟩
        · cases h3
theorem text_of {kind : Int} {cells : List Int} {value : Int} (h : ruleValid kind cells value 4 = true) : ruleText kind cells value = ⟨⟨ruleL kind cells value⟩⟩ := by
  unfold ruleText
  rw [if_pos h, ruleT_list (ruleIn_of h)]
theorem iRead_back {kind : Int} {cells : List Int} {value : Int} (h : ruleValid kind cells value 4 = true) : iRead (ruleL kind cells value) = (kind, cells, value, true) := by
  have hi := ruleIn_of h
  obtain ⟨hl, hv⟩ := rule_more h
  have hp := pre_ne hi
  have hlen : (preL kind cells).length = cells.length + 1 := by unfold preL; simp
  have h4 := hi.len
  have h0 := hi.v0
  have h1 := hi.v1
  have hz := itoa3_len h0 (by omega)
  have hcut : (Lib.cut (ruleL kind cells value) [61]).1 = preL kind cells ∧ (Lib.cut (ruleL kind cells value) [61]).2.1.length ≤ 3 ∧ atoiN (Lib.cut (ruleL kind cells value) [61]).2.1 = value := by
    unfold ruleL
    split
    · rw [cut_eqs _ _ hp]
      exact ⟨rfl, hz.2, atoiN_itoa h0 (by omega)⟩
    · rename_i hk
      rw [cut_noeqs _ hp]
      exact ⟨rfl, by simp, by rw [hv hk]; exact atoiN_nil⟩
  obtain ⟨e1, e2, e3⟩ := hcut
  unfold iRead
  rw [e1, e3, if_neg (by rintro (h | h | h) <;> omega)]
  have e4 : (preL kind cells).headD 0 = headOf kind := rfl
  have e5 : (preL kind cells).tail.map cellNum = cells := map_cl cells hi.cell
  rw [e4, e5, (head_laws kind hi.k0 hi.k1).2.2.2]
  exact if_pos (text_of h)
theorem sRead_back {kind : Int} {cells : List Int} {value : Int} (h : ruleValid kind cells value 4 = true) : sRead (ruleL kind cells value) = (kind, cells, value, true) := by
  have hi := ruleIn_of h
  obtain ⟨hl, hv⟩ := rule_more h
  have h4 := hi.len
  have h0 := hi.v0
  have h1 := hi.v1
  have hz := itoa3_len h0 (by omega)
  have hfold : ∀ r : List UInt8, (cells.map cl ++ r).foldl sStep ([], 0) = r.foldl sStep (cells, 0) := by
    intro r
    rw [List.foldl_append, fold_cl cells [] 0 hi.cell, List.nil_append]
  have key : ∀ r : List UInt8, r.length ≤ 4 → ruleL kind cells value = headOf kind :: (cells.map cl ++ r) → r.foldl sStep (cells, 0) = (cells, value) → sRead (ruleL kind cells value) = (kind, cells, value, true) := by
    intro r hr e hf
    have ht := text_of h
    rw [e] at ht ⊢
    unfold sRead
    have e6 : ((headOf kind :: (cells.map cl ++ r)).take 12).drop 1 = cells.map cl ++ r := by
      rw [List.take_of_length_le (by simp; omega)]; rfl
    rw [e6, hfold r, hf]
    show sEnd _ (kindOf (headOf kind)) (cells, value) = _
    rw [(head_laws kind hi.k0 hi.k1).2.2.1]
    exact if_pos ⟨ht, by simp⟩
  by_cases hk : kind = 2 ∨ kind = 3 ∨ kind = 5
  · refine key (61 :: Lib.itoa value) (by simp; omega) (by unfold ruleL preL; rw [if_pos hk]; rfl) ?_
    rw [List.foldl_cons]
    have e : sStep (cells, 0) 61 = (cells, 0) := rfl
    rw [e, itoa_dec h0, fold_digits (by omega)]
    congr 1; omega
  · refine key [] (by simp) (by unfold ruleL preL; rw [if_neg hk, List.append_nil]) ?_
    rw [hv hk]; rfl
theorem read_same (l : List UInt8) : iRead l = sRead l := by
  by_cases h : ∃ kind cells value, ruleValid kind cells value 4 = true ∧ ruleL kind cells value = l
  · obtain ⟨kind, cells, value, hv, rfl⟩ := h
    rw [iRead_back hv, sRead_back hv]
  · have no : ∀ kind cells value, ruleText kind cells value = ⟨⟨l⟩⟩ → l = [] := by
      intro kind cells value e
      by_cases hv : ruleValid kind cells value 4 = true
      · exact absurd ⟨kind, cells, value, hv, text_inj ((text_of hv).symm.trans e)⟩ h
      · unfold ruleText at e
        rw [if_neg hv] at e
        exact (text_inj e).symm
    have hs : sRead l = noRule := by
      unfold sRead sEnd
      exact if_neg fun ⟨e, hl⟩ => hl (no _ _ _ e)
    have hi : iRead l = noRule := by
      unfold iRead
      split
      · rfl
      · rename_i hc
        unfold iEnd
        refine if_neg fun e => hc ?_
        have hl := no _ _ _ e
        subst hl
        exact Or.inl (by decide)
    rw [hs, hi]
def marked (n : Nat) : List Int := (List.range n).map fun (j : Nat) => Int.ofNat j + 1
theorem marked_len (n : Nat) : (marked n).length = n := by unfold marked; simp
theorem marked_get {n i : Nat} (h : i < (marked n).length) : (marked n)[i] = (i : Int) + 1 := by simp only [marked, List.getElem_map, List.getElem_range]; rfl
theorem mark_loop (n : Nat) (hn : n ≤ 1048576) : ∀ (m i : Nat) (ys : List Int), i + m = n → ys.length = n → ys.take i = (marked n).take i →
    Ev (fun k => laws_markIntS.l0 k ys ((i : Int) + 1) (i : Int)) ((n : Int) + 1, marked n) := by
  intro m
  induction m with
  | zero =>
    intro i ys hi hl hy
    have e : ys = marked n := by
      have h1 : ys.take i = ys := List.take_of_length_le (by omega)
      have h2 : (marked n).take i = marked n := List.take_of_length_le (by rw [marked_len]; omega)
      rw [h1, h2] at hy; exact hy
    subst e
    have : i = n := by omega
    subst this
    exact Ev.step (fun k => by simp only [laws_markIntS.l0]; rw [if_neg (by omega)]) (Ev.now _)
  | succ m ih =>
    intro i ys hi hl hy
    have hlt : i < (marked n).length := by rw [marked_len]; omega
    have h2 := ih (i + 1) (ys.set i ((i : Int) + 1)) (by omega) (by rw [List.length_set]; exact hl) (set_upto (marked n) ys i hlt (by rw [hl, marked_len]) _ (marked_get hlt).symm hy)
    have e1 : wrap64 ((i : Int) + 1 + 1) = ((i + 1 : Nat) : Int) + 1 := by rw [w64 (by omega) (by omega)]; omega
    exact Ev.step (fun k => by simp only [laws_markIntS.l0]; rw [if_pos (by omega), if_pos (by omega), e1, wnext (n := n) (by omega) (by omega), Int.toNat_natCast]) h2
theorem markRule_ev (a : Int) (xs : List Int) (c : Int) (hx : xs.length ≤ 1048576) : Ev (fun k => laws_markRule.f k a xs c 1) ((xs.length : Int) + 1, marked xs.length) :=
  Ev.bind (mark_loop xs.length hx xs.length 0 xs (by omega) rfl rfl) (Ev.now _)
theorem held_loop (n : Nat) (hn : n ≤ 1048576) : ∀ m i : Nat, i + m = n → Ev (fun k => laws_heldIntS.l0 k (marked n) ((i : Int) + 1) (i : Int)) ((n : Int) + 1) := by
  intro m
  induction m with
  | zero =>
    intro i hi
    have : i = n := by omega
    subst this
    exact Ev.step (fun k => by simp only [laws_heldIntS.l0]; rw [if_neg (by rw [marked_len]; omega)]) (Ev.now _)
  | succ m ih =>
    intro i hi
    have hlt : i < (marked n).length := by rw [marked_len]; omega
    have e1 : wrap64 ((i : Int) + 1 + 1) = ((i + 1 : Nat) : Int) + 1 := by rw [w64 (by omega) (by omega)]; omega
    exact Ev.step (fun k => by simp only [laws_heldIntS.l0]; rw [if_pos (by omega), if_pos (by omega), rd_nat hlt, if_pos (marked_get hlt), e1, wnext (n := n) (by omega) (by omega)]) (ih (i + 1) (by omega))
theorem heldRule_ev (a : Int) (n : Nat) (c : Int) (hn : n ≤ 1048576) : Ev (fun k => laws_heldRule.f k a (marked n) c 1) ((n : Int) + 1) :=
  Ev.bind (held_loop n hn n 0 (by omega)) (Ev.congr (fun k => by rw [if_neg (by omega)]) (Ev.now _))
theorem iRead_len (l : List UInt8) : (iRead l).2.1.length ≤ 4 := by
  unfold iRead
  split
  · exact Nat.zero_le 4
  · rename_i hc
    unfold iEnd
    split
    · show ((Lib.cut l [61]).1.tail.map cellNum).length ≤ 4
      rw [List.length_map, List.length_tail]
      omega
    · exact Nat.zero_le 4
theorem pure_FnExactReadRule (s : ByteArray) (_ : s.size ≤ maxLen) : ∃ k, laws_FnExactReadRule.f k s = some true := by
  apply Ev.rounds
  rcases s with ⟨⟨l⟩⟩
  by_cases h : 1048576 < l.length
  · exact Ev.congr (fun k => by unfold laws_FnExactReadRule.f; exact if_pos (show ((l.length : Nat) : Int) > 1048576 by omega)) (Ev.now _)
  · refine Ev.congr (fun k => by unfold laws_FnExactReadRule.f; exact if_neg (show ¬ ((l.length : Nat) : Int) > 1048576 by omega)) ?_
    have hi := implReadRule_ev l (by omega)
    have hs := specReadRule_ev l (by omega)
    rw [← read_same] at hs
    have hlen := iRead_len l
    generalize iRead l = q at *
    obtain ⟨a, xs, c, b⟩ := q
    have hlen : xs.length ≤ 4 := hlen
    have heq := eqRule_refl a xs c (by omega)
    have hm := markRule_ev a xs c (by omega)
    have hh := heldRule_ev a xs.length c (by omega)
    refine Ev.bind hs (Ev.bind hi (Ev.bind heq (Ev.congr (fun k => if_pos rfl) ?_)))
    have hb : (b != b) = false := by simp
    refine Ev.step (fun k => by simp only [laws_FnExactReadRule.j0, hb]; rw [if_neg (by decide)]) (Ev.bind hm (Ev.bind hh ?_))
    refine Ev.congr (fun k => by rw [if_neg (by omega), if_pos rfl]) (Ev.bind hi (Ev.bind heq (Ev.congr (fun k => if_pos rfl) ?_)))
    refine Ev.step (fun k => by simp only [laws_FnExactReadRule.j1, hb]; rw [if_neg (by decide)]) (Ev.bind hh ?_)
    exact Ev.congr (fun k => by rw [if_neg (by omega), if_pos rfl]) (Ev.now _)
end Go.Proofs.YtojnknpgnohegaaDoor.K
end
