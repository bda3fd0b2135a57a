/- Plain laws: indices, lists of numbers, and the small loops over them. -/
import Derived.Test.YtojnknpgnohegaaDoorPD
import Derived.Test.YtojnknpgnohegaaDoorQ6
import Derived.Test.YtojnknpgnohegaaDoorQ6
import Derived.Test.YtojnknpgnohegaaDoorQ9
import Derived.Test.YtojnknpgnohegaaDoorQ4
import Derived.Test.YtojnknpgnohegaaDoorQ5
import Derived.Test.YtojnknpgnohegaaDoorQ7
namespace Go.Proofs.YtojnknpgnohegaaDoor.Q
open Go.RowKit Go.Proofs.YtojnknpgnohegaaDoorW.PrintWords

theorem wnext {i n : Nat} (h : i < n) (hn : n ≤ 9223372036854775807) : wrap64 ((i : Int) + 1) = ((i + 1 : Nat) : Int) := by rw [w64 (by omega) (by omega)]; omega
theorem rd_nat {xs : List Int} {i : Nat} (h : i < xs.length) : rd xs (i : Int) = xs[i] := by
  unfold rd
  rw [Int.toNat_natCast, List.getD_eq_getElem?_getD, List.getElem?_eq_getElem h]
  rfl
theorem take_succ_get {α : Type} {xs : List α} {i : Nat} (h : i < xs.length) : xs.take (i + 1) = xs.take i ++ [xs[i]] := List.take_succ_eq_append_getElem h
theorem drop_get {α : Type} {xs : List α} {i : Nat} (h : i < xs.length) : xs.drop i = xs[i] :: xs.drop (i + 1) := List.drop_eq_getElem_cons h
theorem l1In_eq (n lo hi : Int) : spec_l1In.f n lo hi = some (decide (lo ≤ n ∧ n ≤ hi)) := by
  unfold spec_l1In.f
  by_cases h : lo ≤ n
  · rw [if_pos h]; simp [h]
  · rw [if_neg h]; simp [h]

/-! slices.Index, slices.Contains -/
theorem index_loop (xs : List Int) (x : Int) (hx : xs.length ≤ 9223372036854775807) : ∀ n i : Nat, i + n = xs.length →
    ∃ r : Int, Ev (fun k => slices_Index_int_int.l0 k xs x (xs.length : Int) (i : Int)) r ∧ (0 ≤ r ↔ x ∈ xs.drop i) := by
  intro n
  induction n with
  | zero =>
    intro i hi
    exact ⟨-1, Ev.step (fun k => by simp only [slices_Index_int_int.l0]; rw [if_neg (by omega)]) (Ev.now _), by rw [List.drop_of_length_le (by omega)]; simp⟩
  | succ n ih =>
    intro i hi
    have hlt : i < xs.length := by omega
    obtain ⟨r, h1, h2⟩ := ih (i + 1) (by omega)
    by_cases e : x = xs[i]
    · exact ⟨i, Ev.step (fun k => by simp only [slices_Index_int_int.l0]; rw [if_pos (by omega), if_pos (by omega), if_pos (by omega), rd_nat hlt, if_pos e]) (Ev.now _), fun _ => by rw [drop_get hlt, List.mem_cons]; exact Or.inl e, fun _ => by omega⟩
    · refine ⟨r, Ev.step (fun k => by simp only [slices_Index_int_int.l0]; rw [if_pos (by omega), if_pos (by omega), if_pos (by omega), rd_nat hlt, if_neg e, wnext hlt hx]) h1, by rw [h2, drop_get hlt, List.mem_cons]; exact ⟨Or.inr, fun h => h.resolve_left e⟩⟩
theorem contains_ev (xs : List Int) (x : Int) (hx : xs.length ≤ 9223372036854775807) : Ev (fun k => slices_Contains_int_int.f k xs x) (decide (x ∈ xs)) := by
  obtain ⟨r, h1, h2⟩ := index_loop xs x hx xs.length 0 (by omega)
  have h3 : Ev (fun k => slices_Index_int_int.f k xs x) r := h1
  have e : decide (x ∈ xs) = decide (r ≥ 0) := by rw [decide_eq_decide]; simpa using h2.symm
  rw [e]
  exact Ev.bind h3 (Ev.now _)

/-! copies and comparisons of lists of numbers -/
theorem set_upto {α : Type} (xs ys : List α) (i : Nat) (h : i < xs.length) (hl : ys.length = xs.length) (x : α) (hx : x = xs[i]) (hy : ys.take i = xs.take i) : (ys.set i x).take (i + 1) = xs.take (i + 1) := by
  rw [take_succ_get (xs := ys.set i x) (by simpa using (by omega : i < ys.length)), take_succ_get h, List.take_set_of_le (Nat.le_refl _), hy, hx]
  simp
theorem toIntS_loop (xs : List Int) (hx : xs.length ≤ 9223372036854775807) : ∀ (n i : Nat) (ys : List Int), i + n = xs.length → ys.length = xs.length → ys.take i = xs.take i →
    Ev (fun k => laws_toIntS.l0 k xs ys (i : Int)) xs := by
  intro n
  induction n with
  | zero =>
    intro i ys hi hl hy
    have e : ys = xs := by rw [List.take_of_length_le (by omega), List.take_of_length_le (by omega)] at hy; exact hy
    exact Ev.step (fun k => by simp only [laws_toIntS.l0]; rw [if_neg (by omega), e]) (Ev.now _)
  | succ n ih =>
    intro i ys hi hl hy
    have hlt : i < xs.length := by omega
    refine Ev.step (fun k => by simp only [laws_toIntS.l0]; rw [if_pos (by omega), if_pos (by omega), if_pos (by omega), rd_nat hlt, wnext hlt hx, Int.toNat_natCast]) (ih (i + 1) _ (by omega) (by simpa using hl) ?_)
    exact set_upto xs ys i hlt hl _ rfl hy
theorem toIntS_ev (xs : List Int) (hx : xs.length ≤ 1048576) : Ev (fun k => laws_toIntS.f k xs) xs := by
  refine Ev.congr (fun k => ?_) (toIntS_loop xs (by omega) xs.length 0 (List.replicate xs.length 0) (by omega) (by simp) rfl)
  unfold laws_toIntS.f
  rw [if_pos (by omega), Int.toNat_natCast, if_pos (by omega)]
  rfl
theorem eqIntS_loop (xs ys : List Int) (hx : xs.length ≤ 9223372036854775807) (hl : xs.length = ys.length) : ∀ n i : Nat, i + n = xs.length →
    Ev (fun k => laws_eqIntS.l0 k xs ys (i : Int)) (decide (xs.drop i = ys.drop i)) := by
  intro n
  induction n with
  | zero =>
    intro i hi
    rw [List.drop_of_length_le (by omega), List.drop_of_length_le (by omega)]
    exact Ev.step (fun k => by simp only [laws_eqIntS.l0]; rw [if_neg (by omega)]; rfl) (Ev.now _)
  | succ n ih =>
    intro i hi
    have h1 : i < xs.length := by omega
    have h2 : i < ys.length := by omega
    by_cases e : xs[i] = ys[i]
    · have e2 : decide (xs.drop i = ys.drop i) = decide (xs.drop (i + 1) = ys.drop (i + 1)) := by rw [drop_get h1, drop_get h2, decide_eq_decide, List.cons.injEq]; exact ⟨fun h => h.2, fun h => ⟨e, h⟩⟩
      rw [e2]
      exact Ev.step (fun k => by simp only [laws_eqIntS.l0]; rw [if_pos (by omega), if_pos (by omega), if_pos (by omega), rd_nat h1, rd_nat h2, if_pos e, wnext h1 hx]) (ih (i + 1) (by omega))
    · have e2 : decide (xs.drop i = ys.drop i) = false := decide_eq_false (by rw [drop_get h1, drop_get h2, List.cons.injEq]; exact fun h => e h.1)
      rw [e2]
      exact Ev.step (fun k => by simp only [laws_eqIntS.l0]; rw [if_pos (by omega), if_pos (by omega), if_pos (by omega), rd_nat h1, rd_nat h2, if_neg e]) (Ev.now _)
theorem eqIntS_ev (xs ys : List Int) (hx : xs.length ≤ 9223372036854775807) : Ev (fun k => laws_eqIntS.f k xs ys) (decide (xs = ys)) := by
  by_cases hl : xs.length = ys.length
  · have h := eqIntS_loop xs ys hx hl xs.length 0 (by omega)
    exact Ev.congr (fun k => by unfold laws_eqIntS.f; rw [if_pos (by omega)]; rfl) h
  · have e : decide (xs = ys) = false := decide_eq_false (fun e => hl (by rw [e]))
    rw [e]
    exact Ev.congr (fun k => by unfold laws_eqIntS.f; rw [if_neg (by omega)]) (Ev.now _)
theorem szIntS_eq (xs : List Int) (left : Int) (hx : xs.length ≤ 9223372036854775807) (h0 : 0 ≤ left) (h1 : left ≤ 1048576) : laws_szIntS.f xs left = some (if left < xs.length then -1 else left - xs.length) := by
  unfold laws_szIntS.f
  rw [w64 (by omega) (by omega)]
  by_cases h : left - (xs.length : Int) < 0
  · rw [if_pos h, if_pos (by omega)]
  · rw [if_neg h, if_neg (by omega)]

/-! RuleValid -/
/-- The cells lie in 0 .. M, and none stands among those before. -/
def cellsOk (M : Int) (pre : List Int) : List Int → Bool
  | [] => true
  | c :: r => decide (0 ≤ c ∧ c ≤ M) && !decide (c ∈ pre) && cellsOk M (pre ++ [c]) r
/-- What a kind of rule asks of the number of its cells and of its value. -/
def kindOk (kind n value size : Int) : Bool :=
  if kind = 1 then decide (2 ≤ n) && decide (n ≤ 4) && decide (value = 0)
  else if kind = 2 ∨ kind = 3 then decide (1 ≤ n) && decide (n ≤ 4) && decide (1 ≤ value ∧ value ≤ size * size * size * size)
  else if kind = 4 then decide (n = 2) && decide (value = 0)
  else if kind = 5 then decide (n = 2) && decide (0 ≤ value ∧ value ≤ size - 1)
  else false
def sizeIn (size : Int) : Bool := decide (2 ≤ size ∧ size ≤ 4)
def ruleValid (kind : Int) (cells : List Int) (value size : Int) : Bool := sizeIn size && cellsOk (size * size - 1) [] cells && kindOk kind cells.length value size
theorem sizeOk_eq (s : Int) : impl_sizeOk.f s = some (sizeIn s) := by
  unfold impl_sizeOk.f sizeIn
  by_cases h : s ≥ 2
  · rw [if_pos h]; simp [h]
  · rw [if_neg h]; simp; omega
theorem size_sq {s : Int} (h : sizeIn s = true) : wrap64 (s * s) = s * s ∧ wrap64 (s * s * s) = s * s * s ∧ wrap64 (s * s * s * s) = s * s * s * s ∧ 4 ≤ s * s ∧ s * s ≤ 16 ∧ 2 ≤ s ∧ s ≤ 4 := by
  have h' : 2 ≤ s ∧ s ≤ 4 := of_decide_eq_true h
  have h3 : s = 2 ∨ s = 3 ∨ s = 4 := by omega
  rcases h3 with rfl | rfl | rfl <;> (refine ⟨?_, ?_, ?_, ?_⟩ <;> first | (rw [w64 (by decide) (by decide)]) | decide)
/-- The inner loop of the reference's RuleValid. -/
theorem srv_inner (xs : List Int) (hx : xs.length ≤ 9223372036854775807) (s kind value : Int) (i : Nat) (hi : i < xs.length) {r : Bool} (next : Ev (fun k => spec_RuleValid.l0 k s ((i + 1 : Nat) : Int) kind xs value) r) :
    ∀ n j : Nat, j + n = i → Ev (fun k => spec_RuleValid.l1 k s (i : Int) (j : Int) kind xs value) (if xs[i] ∈ (xs.take i).drop j then false else r) := by
  intro n
  induction n with
  | zero =>
    intro j hj
    rw [List.drop_of_length_le (by rw [List.length_take]; omega), if_neg (by simp)]
    exact Ev.step (fun k => by simp only [spec_RuleValid.l1]; rw [if_neg (by omega), wnext hi hx]) next
  | succ n ih =>
    intro j hj
    have h1 : j < (xs.take i).length := by rw [List.length_take]; omega
    have h2 : j < xs.length := by omega
    rw [drop_get h1]
    have e0 : (xs.take i)[j] = xs[j] := by simp
    by_cases e : xs[j] = xs[i]
    · rw [if_pos (by rw [e0, e]; exact List.mem_cons_self)]
      exact Ev.step (fun k => by simp only [spec_RuleValid.l1]; rw [if_pos (by omega), if_pos (by omega), if_pos (by omega), if_pos (by omega), if_pos (by omega), rd_nat h2, rd_nat hi, if_pos e]) (Ev.now _)
    · have e3 : (xs[i] ∈ (xs.take i)[j] :: (xs.take i).drop (j + 1)) = (xs[i] ∈ (xs.take i).drop (j + 1)) := by
        rw [e0]; simp only [List.mem_cons, eq_iff_iff, or_iff_right_iff_imp]; intro h; exact absurd h.symm e
      simp only [e3]
      exact Ev.step (fun k => by simp only [spec_RuleValid.l1]; rw [if_pos (by omega), if_pos (by omega), if_pos (by omega), if_pos (by omega), if_pos (by omega), rd_nat h2, rd_nat hi, if_neg e, wnext h2 hx]) (ih (j + 1) (by omega))
/-- What follows the loop. -/
theorem srv_end (xs : List Int) (s kind value : Int) : Ev (fun k => spec_RuleValid.l0 k s (xs.length : Int) kind xs value) (sizeIn s && kindOk kind xs.length value s) := by
  refine Ev.step (f := fun k => if sizeIn s = true then spec_RuleValid.j2 k s (xs.length : Int) (decide ((xs.length : Int) > 4)) kind xs value else spec_RuleValid.j2 k s (xs.length : Int) true kind xs value) (fun k => by simp only [spec_RuleValid.l0]; rw [if_neg (by omega), l1In_eq]; rfl) ?_
  by_cases hs : sizeIn s = true
  · obtain ⟨q1, q2, q3, b1, b2, b3, b4⟩ := size_sq hs
    rw [hs, Bool.true_and]
    simp only [if_true]
    by_cases h4 : (xs.length : Int) > 4
    · have e : kindOk kind xs.length value s = false := by
        unfold kindOk
        have h5 : decide ((xs.length : Int) ≤ 4) = false := decide_eq_false (by omega)
        have h6 : decide ((xs.length : Int) = 2) = false := decide_eq_false (by omega)
        rw [h5, h6]
        simp
      rw [e, decide_eq_true h4]
      exact Ev.step (fun k => by simp only [spec_RuleValid.j2]; rw [if_pos trivial]) (Ev.now _)
    · rw [decide_eq_false h4]
      have h5 : decide ((xs.length : Int) ≤ 4) = true := decide_eq_true (by omega)
      have hj3 : ∀ b : Bool, Ev (fun k => spec_RuleValid.j3 k s (xs.length : Int) kind b kind xs value)
          (if b = true then (decide (1 ≤ (xs.length : Int)) && decide (1 ≤ value ∧ value ≤ s * s * s * s)) else if kind = 4 then (decide ((xs.length : Int) = 2) && decide (value = 0)) else if kind = 5 then (decide ((xs.length : Int) = 2) && decide (0 ≤ value ∧ value ≤ s - 1)) else false) := by
        intro b
        refine Ev.step (f := fun _ => some _) (fun k => ?_) (Ev.now _)
        simp only [spec_RuleValid.j3, q1, q2, q3, l1In_eq, Option.bind_some]
        rw [w64 (n := s - 1) (by omega) (by omega)]
        by_cases hb : b = true
        · rw [if_pos hb, if_pos hb]
          by_cases h1 : (xs.length : Int) ≥ 1
          · rw [if_pos h1, decide_eq_true h1]; rfl
          · rw [if_neg h1, decide_eq_false h1]; rfl
        · rw [if_neg hb, if_neg hb]
          by_cases h1 : kind = 4
          · rw [if_pos h1, if_pos h1]
            by_cases h2 : (xs.length : Int) = 2
            · rw [if_pos h2, decide_eq_true h2, Bool.true_and]; rfl
            · rw [if_neg h2, decide_eq_false h2]; rfl
          · rw [if_neg h1, if_neg h1]
            by_cases h2 : kind = 5
            · rw [if_pos h2, if_pos h2]
              by_cases h3 : (xs.length : Int) = 2
              · rw [if_pos h3, decide_eq_true h3]; rfl
              · rw [if_neg h3, decide_eq_false h3]; rfl
            · rw [if_neg h2, if_neg h2]
      unfold kindOk
      rw [h5]
      simp only [Bool.and_true]
      by_cases h1 : kind = 1
      · rw [if_pos h1]
        refine Ev.step (f := fun _ => some _) (fun k => ?_) (Ev.now _)
        simp only [spec_RuleValid.j2]
        rw [if_neg (by decide), if_pos h1]
        by_cases h2 : (xs.length : Int) ≥ 2
        · rw [if_pos h2, decide_eq_true h2, Bool.true_and]; rfl
        · rw [if_neg h2, decide_eq_false h2]; rfl
      · rw [if_neg h1]
        by_cases h2 : kind = 2
        · have h := hj3 true
          rw [if_pos rfl] at h
          rw [if_pos (Or.inl h2)]
          exact Ev.step (fun k => by simp only [spec_RuleValid.j2]; rw [if_neg (by decide), if_neg h1, if_pos h2, beq_iff_eq.2 h2]) h
        · by_cases h3 : kind = 3
          · have h := hj3 true
            rw [if_pos rfl] at h
            rw [if_pos (Or.inr h3)]
            exact Ev.step (fun k => by simp only [spec_RuleValid.j2]; rw [if_neg (by decide), if_neg h1, if_neg h2, beq_iff_eq.2 h3]) h
          · have h := hj3 false
            rw [if_neg (by decide)] at h
            rw [if_neg (by rintro (h | h) <;> contradiction)]
            exact Ev.step (fun k => by simp only [spec_RuleValid.j2]; rw [if_neg (by decide), if_neg h1, if_neg h2, beq_eq_false_iff_ne.2 h3]) h
  · have hs' : sizeIn s = false := by simpa using hs
    rw [hs', Bool.false_and]
    simp only [if_neg (show ¬ (false = true) by decide)]
    exact Ev.step (fun k => by simp only [spec_RuleValid.j2]; rw [if_pos trivial]) (Ev.now _)
theorem srv_loop (xs : List Int) (hx : xs.length ≤ 9223372036854775807) (s kind value : Int) : ∀ n i : Nat, i + n = xs.length →
    Ev (fun k => spec_RuleValid.l0 k s (i : Int) kind xs value) (cellsOk (wrap64 (wrap64 (s * s) - 1)) (xs.take i) (xs.drop i) && (sizeIn s && kindOk kind xs.length value s)) := by
  intro n
  induction n with
  | zero =>
    intro i hi
    have e : i = xs.length := by omega
    subst e
    rw [List.drop_length]
    exact srv_end xs s kind value
  | succ n ih =>
    intro i hi
    have hlt : i < xs.length := by omega
    have h := ih (i + 1) (by omega)
    rw [take_succ_get hlt] at h
    rw [drop_get hlt]
    simp only [cellsOk]
    by_cases hc : 0 ≤ xs[i] ∧ xs[i] ≤ wrap64 (wrap64 (s * s) - 1)
    · rw [decide_eq_true hc, Bool.true_and]
      have h2 := srv_inner xs hx s kind value i hlt h i 0 (by omega)
      rw [List.drop_zero] at h2
      have e : (if xs[i] ∈ xs.take i then false else cellsOk (wrap64 (wrap64 (s * s) - 1)) (xs.take i ++ [xs[i]]) (xs.drop (i + 1)) && (sizeIn s && kindOk kind xs.length value s)) = (!decide (xs[i] ∈ xs.take i) && cellsOk (wrap64 (wrap64 (s * s) - 1)) (xs.take i ++ [xs[i]]) (xs.drop (i + 1)) && (sizeIn s && kindOk kind xs.length value s)) := by
        by_cases h3 : xs[i] ∈ xs.take i
        · rw [if_pos h3, decide_eq_true h3]; rfl
        · rw [if_neg h3, decide_eq_false h3]; rfl
      rw [← e]
      exact Ev.step (fun k => by simp only [spec_RuleValid.l0]; rw [if_pos (by omega), if_pos (by omega), rd_nat hlt, l1In_eq, decide_eq_true hc]; simp only [Option.bind_some, if_true]; rfl) h2
    · rw [decide_eq_false hc]
      exact Ev.step (fun k => by simp only [spec_RuleValid.l0]; rw [if_pos (by omega), if_pos (by omega), rd_nat hlt, l1In_eq, decide_eq_false hc]; rfl) (Ev.now _)
theorem specRuleValid_ev (kind : Int) (xs : List Int) (value s : Int) (hx : xs.length ≤ 9223372036854775807) : Ev (fun k => spec_RuleValid.f k kind xs value s) (ruleValid kind xs value s) := by
  have h := srv_loop xs hx s kind value xs.length 0 (by omega)
  rw [List.take_zero, List.drop_zero] at h
  have e : (cellsOk (wrap64 (wrap64 (s * s) - 1)) [] xs && (sizeIn s && kindOk kind xs.length value s)) = ruleValid kind xs value s := by
    unfold ruleValid
    by_cases hs : sizeIn s = true
    · obtain ⟨q1, _, _, b1, b2, _⟩ := size_sq hs
      rw [q1, w64 (by omega) (by omega), hs, Bool.true_and, Bool.true_and]
    · have hs' : sizeIn s = false := by simpa using hs
      rw [hs', Bool.false_and, Bool.false_and, Bool.false_and, Bool.and_false]
  rw [← e]
  exact h

/-! the program's RuleValid -/
theorem irv_end (xs : List Int) (s kind value : Int) (hs : sizeIn s = true) : Ev (fun k => impl_RuleValid.l0 k s xs (xs.length : Int) (xs.length : Int) kind xs value) (kindOk kind xs.length value s) := by
  obtain ⟨q1, q2, q3, b1, b2, b3, b4⟩ := size_sq hs
  have hj : ∀ b : Bool, Ev (fun k => impl_RuleValid.j1 k s (xs.length : Int) kind b kind xs value)
      (if b = true then (decide (1 ≤ (xs.length : Int)) && decide ((xs.length : Int) ≤ 4) && decide (1 ≤ value ∧ value ≤ s * s * s * s)) else if kind = 4 then (decide ((xs.length : Int) = 2) && decide (value = 0)) else if kind = 5 then (decide ((xs.length : Int) = 2) && decide (0 ≤ value ∧ value ≤ s - 1)) else false) := by
    intro b
    refine Ev.step (f := fun _ => some _) (fun k => ?_) (Ev.now _)
    simp only [impl_RuleValid.j1, q1, q2, q3]
    by_cases hb : b = true
    · rw [if_pos hb, if_pos hb]
      by_cases h1 : (xs.length : Int) ≥ 1
      · rw [if_pos h1, decide_eq_true h1, Bool.true_and]
        by_cases h2 : (xs.length : Int) ≤ 4
        · rw [if_pos h2, decide_eq_true h2, Bool.true_and]
          by_cases h3 : value ≥ 1
          · rw [if_pos h3]; simp [h3]
          · rw [if_neg h3, decide_eq_false (by omega)]
        · rw [if_neg h2, decide_eq_false h2]; rfl
      · rw [if_neg h1, decide_eq_false h1]; rfl
    · rw [if_neg hb, if_neg hb]
      by_cases h1 : kind = 4
      · rw [if_pos h1, if_pos h1]
        by_cases h2 : (xs.length : Int) = 2
        · rw [if_pos h2, decide_eq_true h2, Bool.true_and]; rfl
        · rw [if_neg h2, decide_eq_false h2]; rfl
      · rw [if_neg h1, if_neg h1]
        by_cases h2 : kind = 5
        · rw [if_pos h2, if_pos h2]
          by_cases h3 : (xs.length : Int) = 2
          · rw [if_pos h3, decide_eq_true h3, Bool.true_and]
            by_cases h4 : value ≥ 0
            · rw [if_pos h4, decide_eq_decide.2 (show value < s ↔ (0 ≤ value ∧ value ≤ s - 1) by omega)]
            · rw [if_neg h4, decide_eq_false (by omega)]
          · rw [if_neg h3, decide_eq_false h3]; rfl
        · rw [if_neg h2, if_neg h2]
  unfold kindOk
  by_cases h1 : kind = 1
  · rw [if_pos h1]
    refine Ev.step (f := fun _ => some _) (fun k => ?_) (Ev.now _)
    simp only [impl_RuleValid.l0]
    rw [if_neg (by omega), if_pos h1]
    by_cases h2 : (xs.length : Int) ≥ 2
    · rw [if_pos h2, decide_eq_true h2, Bool.true_and]
      by_cases h3 : (xs.length : Int) ≤ 4
      · rw [if_pos h3, decide_eq_true h3, Bool.true_and]; rfl
      · rw [if_neg h3, decide_eq_false h3]; rfl
    · rw [if_neg h2, decide_eq_false h2]; rfl
  · rw [if_neg h1]
    by_cases h2 : kind = 2
    · have h := hj true
      rw [if_pos rfl] at h
      rw [if_pos (Or.inl h2)]
      exact Ev.step (fun k => by simp only [impl_RuleValid.l0]; rw [if_neg (by omega), if_neg h1, if_pos h2, beq_iff_eq.2 h2]) h
    · by_cases h3 : kind = 3
      · have h := hj true
        rw [if_pos rfl] at h
        rw [if_pos (Or.inr h3)]
        exact Ev.step (fun k => by simp only [impl_RuleValid.l0]; rw [if_neg (by omega), if_neg h1, if_neg h2, beq_iff_eq.2 h3]) h
      · have h := hj false
        rw [if_neg (by decide)] at h
        rw [if_neg (by rintro (h | h) <;> contradiction)]
        exact Ev.step (fun k => by simp only [impl_RuleValid.l0]; rw [if_neg (by omega), if_neg h1, if_neg h2, beq_eq_false_iff_ne.2 h3]) h
theorem irv_loop (xs : List Int) (hx : xs.length ≤ 9223372036854775807) (s kind value : Int) (hs : sizeIn s = true) : ∀ n i : Nat, i + n = xs.length →
    Ev (fun k => impl_RuleValid.l0 k s xs (xs.length : Int) (i : Int) kind xs value) (cellsOk (s * s - 1) (xs.take i) (xs.drop i) && kindOk kind xs.length value s) := by
  obtain ⟨q1, q2, q3, b1, b2, b3, b4⟩ := size_sq hs
  intro n
  induction n with
  | zero =>
    intro i hi
    have e : i = xs.length := by omega
    subst e
    rw [List.drop_length]
    exact irv_end xs s kind value hs
  | succ n ih =>
    intro i hi
    have hlt : i < xs.length := by omega
    have h := ih (i + 1) (by omega)
    rw [take_succ_get hlt] at h
    rw [drop_get hlt]
    simp only [cellsOk]
    by_cases h1 : xs[i] < 0
    · rw [decide_eq_false (by omega)]
      exact Ev.step (fun k => by simp only [impl_RuleValid.l0]; rw [if_pos (by omega), if_pos (by omega), if_pos (by omega), rd_nat hlt, if_pos h1]; rfl) (Ev.now _)
    · by_cases h2 : xs[i] ≥ s * s
      · rw [decide_eq_false (by omega)]
        exact Ev.step (fun k => by simp only [impl_RuleValid.l0]; rw [if_pos (by omega), if_pos (by omega), if_pos (by omega), rd_nat hlt, if_neg h1, q1, if_pos h2]; rfl) (Ev.now _)
      · rw [decide_eq_true (show 0 ≤ xs[i] ∧ xs[i] ≤ s * s - 1 by omega), Bool.true_and]
        have hc := contains_ev (xs.take i) xs[i] (by rw [List.length_take]; omega)
        refine Ev.step (f := fun k => (slices_Contains_int_int.f k (xs.take i) xs[i]).bind fun t => if t = true then some false else impl_RuleValid.l0 k s xs (xs.length : Int) ((i + 1 : Nat) : Int) kind xs value) (fun k => by
          simp only [impl_RuleValid.l0]
          rw [if_pos (by omega), if_pos (by omega), if_pos (by omega), rd_nat hlt, if_neg h1, q1, if_neg h2, if_pos (by omega), wnext hlt hx, Int.toNat_natCast]) ?_
        refine Ev.bind hc ?_
        by_cases h3 : xs[i] ∈ xs.take i
        · rw [decide_eq_true h3]
          exact Ev.congr (fun k => by rw [if_pos rfl]; rfl) (Ev.now _)
        · rw [decide_eq_false h3]
          exact Ev.congr (fun k => by rw [if_neg (by decide)]) h
theorem implRuleValid_ev (kind : Int) (xs : List Int) (value s : Int) (hx : xs.length ≤ 9223372036854775807) : Ev (fun k => impl_RuleValid.f k kind xs value s) (ruleValid kind xs value s) := by
  refine Ev.congr (f := fun k => if sizeIn s = true then impl_RuleValid.l0 k s xs (xs.length : Int) ((0 : Nat) : Int) kind xs value else some false) (fun k => by unfold impl_RuleValid.f; rw [sizeOk_eq]; rfl) ?_
  unfold ruleValid
  by_cases hs : sizeIn s = true
  · have h := irv_loop xs hx s kind value hs xs.length 0 (by omega)
    rw [List.take_zero, List.drop_zero] at h
    rw [hs, Bool.true_and]
    simp only [if_true]
    exact h
  · have hs' : sizeIn s = false := by simpa using hs
    rw [hs']
    exact Ev.congr (fun k => by rw [if_neg (by decide)]; rfl) (Ev.now _)
end Go.Proofs.YtojnknpgnohegaaDoor.Q
