/- laws.FnRulesGrid: for every input it returns true and leaves its argument as it was. -/
import Derived.ChangeArms
import Derived.DataReads
import Derived.WideShapes
import Derived.Laws.BitsLemmas
import Derived.Test.YtbcikbekdhdpaaaC65
section
namespace Go.Proofs.YtbcikbekdhdpaaaW.PrintWords
open Go.RowKit Go.WideShapes
def Opens {α : Type} (P : Program) (w : World) (t : TypeId) (d : Kd α) (good : α → Prop) : Prop :=
  P.cellsOf t = d.sz ∧ ∀ (H : Type) (enc : TypeId × Value → H) (spare : Nat → Bool) (held : Bool) (fuel : Nat) (cs : List Value) (x : DataW H × List MemPlace),
    DataW.trod enc P w 0 spare held fuel t cs = some x → ∃ y, d.K w y cs ∧ good y
section
variable {P : Program} {w : World} {t e : TypeId}
theorem Opens.int {k : IntKind} (ht : P.underlying t = some (.int k)) (hc : P.cellsOf t = 1) : Opens P w t (Kd.int k) (fun n => (Lit.int k n).wf = true) :=
  ⟨hc, fun _ _ _ _ _ _ _ h => by
    obtain ⟨m, rfl, _, hw⟩ := DataW.trod_int ht h
    exact ⟨m, rfl, hw⟩⟩
theorem Opens.bool (ht : P.underlying t = some .bool) (hc : P.cellsOf t = 1) : Opens P w t Kd.bool (fun _ => True) :=
  ⟨hc, fun _ _ _ _ _ _ _ h => by
    obtain ⟨m, rfl, _⟩ := DataW.trod_bool ht h
    exact ⟨m, rfl, trivial⟩⟩
theorem list_of_each {α : Type} {Q : Nat → α → Prop} : ∀ n : Nat, (∀ i, i < n → ∃ y, Q i y) → ∃ xs : List α, xs.length = n ∧ ∀ i y, xs[i]? = some y → Q i y
  | 0, _ => ⟨[], rfl, fun i y h => by simp at h⟩
  | n + 1, h => by
    obtain ⟨xs, hl, hx⟩ := list_of_each n (fun i hi => h i (by omega))
    obtain ⟨y, hy⟩ := h n (by omega)
    refine ⟨xs ++ [y], by simp [hl], fun i z hz => ?_⟩
    rcases Nat.lt_or_ge i xs.length with hi | hi
    · rw [List.getElem?_append_left hi] at hz
      exact hx i z hz
    · have : i = n := by
        have := (List.getElem?_eq_some_iff.1 hz).1
        simp at this
        omega
      subst this
      have hz' : y = z := by simpa [hl] using hz
      exact hz' ▸ hy
theorem Opens.slice {α : Type} {d : Kd α} {good : α → Prop} (ht : P.underlying t = some (.slice e)) (hc : P.cellsOf t = 1) (he : Opens P w e d good) :
    Opens P w t (Kd.slice e d) (fun xs => xs.length ≤ 9223372036854775807 ∧ ∀ x ∈ xs, good x) :=
  ⟨hc, fun H enc spare held fuel cs x h => by
    rcases DataW.trod_slice ht h with ⟨rfl, _⟩ | ⟨a, len, cap, elems, rest, n, _, rfl, _, _, hl, hm, hlen, hel, _, _⟩
    · exact ⟨[], ⟨none, 0, rfl, Nat.le_refl _, Kd.C_nil _ _⟩, by simp, by simp⟩
    · have each : ∀ i, i < len → ∃ y, good y ∧ ∃ c, c.length = d.sz ∧ d.K w y c ∧ ∀ j u, c[j]? = some u → w.cell? (a.add (i * d.sz + j)) = some u := by
        intro i hi
        have h1 := hel i hi
        rw [List.getElem?_eq_getElem (by omega), Option.bind_eq_some_iff] at h1
        obtain ⟨c, hc1, hc2⟩ := h1
        obtain ⟨y, hK, hg⟩ := he.2 H enc spare held n c _ hc2
        obtain ⟨_, hcl, hcc⟩ := World.cells?_some hc1
        refine ⟨y, hg, c, hcl.trans he.1, hK, fun j u hj => ?_⟩
        have hj' := (List.getElem?_eq_some_iff.1 hj).1
        have h2 := hcc j (by omega)
        rw [add_add, he.1] at h2
        rw [h2, hj]
      obtain ⟨xs, hxl, hxs⟩ := list_of_each len each
      have hmax : len ≤ 9223372036854775807 := by simp only [maxLen] at hm; omega
      refine ⟨xs, ⟨some a, cap, by rw [hxl], by omega, rfl, by rw [hxl]; exact hmax, fun _ => ⟨a, rfl, fun j p hj => (hxs j p hj).2⟩⟩, by rw [hxl]; exact hmax, fun x hx => ?_⟩
      obtain ⟨j, hj, rfl⟩ := List.getElem_of_mem hx
      exact (hxs j _ (List.getElem?_eq_getElem hj)).1⟩
variable {H : Type} {enc : TypeId × Value → H} {spare : Nat → Bool} {held : Bool} {r : Reach} {b0 : Nat} {v : Value} {dd : DataW H} {ps : List MemPlace}
theorem slice_of {α : Type} {k : Kd α} {good : α → Prop} (ht : P.underlying t = some (.slice e)) (hv : Value.okWide P w r b0 t v) (h : DataW.Trod enc P w 0 spare held t v dd ps) (hc : P.cellsOf t = 1) (ho : Opens P w e k good) :
    ∃ (xs : List α) (A : Option Addr) (c : Nat), v = .slice A xs.length c ∧ xs.length ≤ c ∧ k.C w A xs.length xs ∧ xs.length ≤ 9223372036854775807 ∧ ∀ x ∈ xs, good x := by
  obtain ⟨a, len, cap, rfl⟩ := okWide_slice ht hv
  obtain ⟨fuel, hf⟩ := h
  obtain ⟨y, ⟨A, c, hcs, hl, hC⟩, hg⟩ := (Opens.slice ht hc ho).2 H enc spare held fuel _ _ hf
  have hcs' : [Value.slice a len cap] = [.slice A y.length c] := hcs
  injection hcs' with hcs'
  exact ⟨y, A, c, hcs', hl, hC, hg.1, hg.2⟩
end
end Go.Proofs.YtbcikbekdhdpaaaW.PrintWords
end
section
namespace Go.Proofs.Ytbcikbekdhdpaaa.Q
open Go.RowKit Go.Proofs.YtbcikbekdhdpaaaW.PrintWords
theorem w64 {n : Int} (h0 : -9223372036854775808 ≤ n) (h1 : n ≤ 9223372036854775807) : wrap64 n = n := by unfold wrap64; omega
theorem xor_nonneg {a b : Int} (ha : 0 ≤ a) (ha1 : a < 4611686018427387904) (hb : 0 ≤ b) (hb1 : b < 4611686018427387904) : 0 ≤ Go.bits .xor .i64 a b ∧ Go.bits .xor .i64 a b < 4611686018427387904 := by
  obtain ⟨x, rfl⟩ := Int.eq_ofNat_of_zero_le ha
  obtain ⟨y, rfl⟩ := Int.eq_ofNat_of_zero_le hb
  have hx : x < 2 ^ 62 := by have : (2 : Nat) ^ 62 = 4611686018427387904 := by decide
                             omega
  have hy : y < 2 ^ 62 := by have : (2 : Nat) ^ 62 = 4611686018427387904 := by decide
                             omega
  have hx' : x % 2 ^ IntKind.i64.bits = x := Nat.mod_eq_of_lt (Nat.lt_of_lt_of_le hx (by decide))
  have hy' : y % 2 ^ IntKind.i64.bits = y := Nat.mod_eq_of_lt (Nat.lt_of_lt_of_le hy (by decide))
  have h : Go.bits .xor .i64 (x : Int) (y : Int) = IntKind.i64.wrap ((x ^^^ y : Nat) : Int) := by
    simp only [Go.bits, BitVec.ofInt_natCast, BitVec.toNat_xor, BitVec.toNat_ofNat, hx', hy']
  have hz : x ^^^ y < 2 ^ 62 := Nat.xor_lt_two_pow hx hy
  have e : (2 : Nat) ^ 62 = 4611686018427387904 := by decide
  rw [h, IntKind.wrap_i64]
  omega
def Code (s : List Int) : Prop := s.length ≤ 2000 ∧ ∀ x ∈ s, 0 ≤ x ∧ x ≤ 255
theorem rd_code {s : List Int} (h : Code s) (i : Int) : 0 ≤ rd s i ∧ rd s i ≤ 255 := by
  unfold rd
  rw [List.getD_eq_getElem?_getD]
  rcases Nat.lt_or_ge i.toNat s.length with hi | hi
  · rw [List.getElem?_eq_getElem hi]
    exact h.2 _ (List.getElem_mem hi)
  · rw [List.getElem?_eq_none hi]
    exact ⟨by simp, by simp⟩
theorem tmod_in {x n : Int} (hx : 0 ≤ x) (hn : 1 ≤ n) : 0 ≤ Int.tmod x n ∧ Int.tmod x n < n := ⟨Int.tmod_nonneg _ hx, Int.tmod_lt_of_pos _ (by omega)⟩
theorem tdiv_in {x n : Int} (hx : 0 ≤ x) (hn : 1 ≤ n) : 0 ≤ Int.tdiv x n ∧ Int.tdiv x n ≤ x := by
  rw [Int.tdiv_eq_ediv_of_nonneg hx]
  exact ⟨Int.ediv_nonneg hx (by omega), Int.ediv_le_self _ hx⟩
theorem pick_ok (k : Nat) (s : List Int) (p n : Int) (hs : Code s) (hp : 0 ≤ p) (hp1 : p ≤ 1000000000) (hn : 1 ≤ n) :
    ∃ r, 0 ≤ r ∧ r < n ∧ spec_l20Rd_pick.f (k + 1) s p n = some (r, p + 1) := by
  have e1 : wrap64 (p + 1) = p + 1 := w64 (by omega) (by omega)
  have hl := hs.1
  unfold spec_l20Rd_pick.f
  rw [if_neg (by omega), e1]
  by_cases h0 : s.length = 0
  · refine ⟨0, by omega, by omega, ?_⟩
    rw [h0]
    rfl
  · have hb : (((s.length : Nat) : Int) == 0) = false := by simp; intro h; simp [h] at h0
    rw [hb]
    have e2 : wrap64 (p + 1 - 1) = p := by rw [w64 (by omega) (by omega)]; omega
    simp only [spec_l20Rd_pick.j0, e2]
    rw [if_neg (by decide)]
    by_cases h1 : p < (s.length : Int)
    · rw [if_pos h1, if_pos hp, if_neg (by omega)]
      have hr := rd_code hs p
      rw [w64 (n := rd s p) (by omega) (by omega)]
      obtain ⟨a, b⟩ := tmod_in (n := n) hr.1 hn
      exact ⟨_, a, b, rfl⟩
    · have hl1 : (1 : Int) ≤ (s.length : Int) := by omega
      obtain ⟨a1, b1⟩ := tmod_in hp hl1
      have e3 : wrap64 (p * 7) = p * 7 := w64 (by omega) (by omega)
      have e4 : wrap64 (p * 7 + 3) = p * 7 + 3 := w64 (by omega) (by omega)
      obtain ⟨a2, b2⟩ := tmod_in (x := p * 7 + 3) (by omega) hl1
      obtain ⟨c1, c2⟩ := tdiv_in hp hl1
      rw [if_neg h1, if_neg (by omega)]
      simp only [e3, e4]
      rw [if_pos a1, if_pos b1, if_pos a2, if_pos b2, if_neg (by omega)]
      generalize Int.tmod p (s.length : Int) = i at *
      generalize Int.tmod (p * 7 + 3) (s.length : Int) = j at *
      generalize Int.tdiv p (s.length : Int) = q at *
      obtain ⟨r1, r2⟩ := rd_code hs i
      obtain ⟨r3, r4⟩ := rd_code hs j
      generalize rd s i = u at *
      generalize rd s j = v at *
      rw [w64 (n := u) (by omega) (by omega), w64 (n := v) (by omega) (by omega), w64 (n := q) (by omega) (by omega)]
      rw [w64 (n := u * 131) (by omega) (by omega), w64 (n := v * 1117) (by omega) (by omega), w64 (n := p * 29) (by omega) (by omega), w64 (n := q * 53) (by omega) (by omega)]
      rw [w64 (n := u * 131 + v * 1117) (by omega) (by omega), w64 (n := u * 131 + v * 1117 + p * 29) (by omega) (by omega), w64 (n := u * 131 + v * 1117 + p * 29 + q * 53) (by omega) (by omega)]
      obtain ⟨x, hx⟩ : ∃ x, x = u * 131 + v * 1117 + p * 29 + q * 53 := ⟨_, rfl⟩
      rw [← hx]
      have hx0 : 0 ≤ x := by omega
      have hx1 : x < 1000000000000 := by omega
      obtain ⟨d1, d2⟩ := tdiv_in (n := 64) hx0 (by omega)
      rw [w64 (n := Int.tdiv x 64) (by omega) (by omega)]
      obtain ⟨y1, y2⟩ := xor_nonneg (b := Int.tdiv x 64) hx0 (by omega) d1 (by omega)
      obtain ⟨z1, z2⟩ := tmod_in (n := n) y1 hn
      exact ⟨_, z1, z2, rfl⟩
theorem open_ok (l : List Int) (hl : ∀ x ∈ l, 0 ≤ x ∧ x ≤ 255) : ∃ s, Code s ∧ spec_l20Open.f l = some (s, 0) := by
  unfold spec_l20Open.f
  by_cases h : (l.length : Int) > 2000
  · rw [if_pos h, if_pos (by omega)]
    exact ⟨_, ⟨by rw [List.length_take]; omega, fun x hx => hl x (List.mem_of_mem_take hx)⟩, rfl⟩
  · rw [if_neg h]
    exact ⟨l, ⟨by omega, hl⟩, rfl⟩
theorem byte_wf {l : List Int} (h : ∀ x ∈ l, (Lit.int .u8 x).wf = true) : ∀ x ∈ l, 0 ≤ x ∧ x ≤ 255 := by
  intro x hx
  have := h x hx
  have e1 : IntKind.u8.min = 0 := rfl
  have e2 : IntKind.u8.max = 255 := rfl
  simp [Lit.wf, e1, e2] at this
  omega
end Go.Proofs.Ytbcikbekdhdpaaa.Q
end
section
namespace Go.Proofs.Ytbcikbekdhdpaaa.Q
open Go.RowKit Go.Proofs.YtbcikbekdhdpaaaW.PrintWords
theorem wnext {i n : Nat} (h : i < n) (hn : n ≤ 9223372036854775807) : wrap64 ((i : Int) + 1) = ((i + 1 : Nat) : Int) := by rw [w64 (by omega) (by omega)]; omega
theorem rd_nat {xs : List Int} {i : Nat} (h : i < xs.length) : rd xs (i : Int) = xs[i] := by
  unfold rd
  rw [Int.toNat_natCast, List.getD_eq_getElem?_getD, List.getElem?_eq_getElem h]
  rfl
theorem take_succ_get {α : Type} {xs : List α} {i : Nat} (h : i < xs.length) : xs.take (i + 1) = xs.take i ++ [xs[i]] := List.take_succ_eq_append_getElem h
theorem drop_get {α : Type} {xs : List α} {i : Nat} (h : i < xs.length) : xs.drop i = xs[i] :: xs.drop (i + 1) := List.drop_eq_getElem_cons h
theorem l1In_eq (n lo hi : Int) : spec_l1In.f n lo hi = some (decide (lo ≤ n ∧ n ≤ hi)) := by
  unfold spec_l1In.f
  by_cases h : lo ≤ n
  · rw [if_pos h]; simp [h]
  · rw [if_neg h]; simp [h]
theorem index_loop (xs : List Int) (x : Int) (hx : xs.length ≤ 9223372036854775807) : ∀ n i : Nat, i + n = xs.length →
    ∃ r : Int, Ev (fun k => slices_Index_int_int.l0 k xs x (xs.length : Int) (i : Int)) r ∧ (0 ≤ r ↔ x ∈ xs.drop i) := by
  intro n
  induction n with
  | zero =>
    intro i hi
    exact ⟨-1, Ev.step (fun k => by simp only [slices_Index_int_int.l0]; rw [if_neg (by omega)]) (Ev.now _), by rw [List.drop_of_length_le (by omega)]; simp⟩
  | succ n ih =>
    intro i hi
    have hlt : i < xs.length := by omega
    obtain ⟨r, h1, h2⟩ := ih (i + 1) (by omega)
    by_cases e : x = xs[i]
    · exact ⟨i, Ev.step (fun k => by simp only [slices_Index_int_int.l0]; rw [if_pos (by omega), if_pos (by omega), if_pos (by omega), rd_nat hlt, if_pos e]) (Ev.now _), fun _ => by rw [drop_get hlt, List.mem_cons]; exact Or.inl e, fun _ => by omega⟩
    · refine ⟨r, Ev.step (fun k => by simp only [slices_Index_int_int.l0]; rw [if_pos (by omega), if_pos (by omega), if_pos (by omega), rd_nat hlt, if_neg e, wnext hlt hx]) h1, by rw [h2, drop_get hlt, List.mem_cons]; exact ⟨Or.inr, fun h => h.resolve_left e⟩⟩
theorem contains_ev (xs : List Int) (x : Int) (hx : xs.length ≤ 9223372036854775807) : Ev (fun k => slices_Contains_int_int.f k xs x) (decide (x ∈ xs)) := by
  obtain ⟨r, h1, h2⟩ := index_loop xs x hx xs.length 0 (by omega)
  have h3 : Ev (fun k => slices_Index_int_int.f k xs x) r := h1
  have e : decide (x ∈ xs) = decide (r ≥ 0) := by rw [decide_eq_decide]; simpa using h2.symm
  rw [e]
  exact Ev.bind h3 (Ev.now _)
theorem set_upto {α : Type} (xs ys : List α) (i : Nat) (h : i < xs.length) (hl : ys.length = xs.length) (x : α) (hx : x = xs[i]) (hy : ys.take i = xs.take i) : (ys.set i x).take (i + 1) = xs.take (i + 1) := by
  rw [take_succ_get (xs := ys.set i x) (by simpa using (by omega : i < ys.length)), take_succ_get h, List.take_set_of_le (Nat.le_refl _), hy, hx]
  simp
def cellsOk (M : Int) (pre : List Int) : List Int → Bool
  | [] => true
  | c :: r => decide (0 ≤ c ∧ c ≤ M) && !decide (c ∈ pre) && cellsOk M (pre ++ [c]) r
def kindOk (kind n value size : Int) : Bool :=
  if kind = 1 then decide (2 ≤ n) && decide (n ≤ 4) && decide (value = 0)
  else if kind = 2 ∨ kind = 3 then decide (1 ≤ n) && decide (n ≤ 4) && decide (1 ≤ value ∧ value ≤ size * size * size * size)
  else if kind = 4 then decide (n = 2) && decide (value = 0)
  else if kind = 5 then decide (n = 2) && decide (0 ≤ value ∧ value ≤ size - 1)
  else false
def sizeIn (size : Int) : Bool := decide (2 ≤ size ∧ size ≤ 4)
def ruleValid (kind : Int) (cells : List Int) (value size : Int) : Bool := sizeIn size && cellsOk (size * size - 1) [] cells && kindOk kind cells.length value size
theorem sizeOk_eq (s : Int) : impl_sizeOk.f s = some (sizeIn s) := by
  unfold impl_sizeOk.f sizeIn
  by_cases h : s ≥ 2
  · rw [if_pos h]; simp [h]
  · rw [if_neg h]; simp; omega
theorem size_sq {s : Int} (h : sizeIn s = true) : wrap64 (s * s) = s * s ∧ wrap64 (s * s * s) = s * s * s ∧ wrap64 (s * s * s * s) = s * s * s * s ∧ 4 ≤ s * s ∧ s * s ≤ 16 ∧ 2 ≤ s ∧ s ≤ 4 := by
  have h' : 2 ≤ s ∧ s ≤ 4 := of_decide_eq_true h
  have h3 : s = 2 ∨ s = 3 ∨ s = 4 := by omega
  rcases h3 with rfl | rfl | rfl <;> (refine ⟨?_, ?_, ?_, ?_⟩ <;> first | (rw [w64 (by decide) (by decide)]) | decide)
theorem irv_end (xs : List Int) (s kind value : Int) (hs : sizeIn s = true) : Ev (fun k => impl_RuleValid.l0 k s xs (xs.length : Int) (xs.length : Int) kind xs value) (kindOk kind xs.length value s) := by
  obtain ⟨q1, q2, q3, b1, b2, b3, b4⟩ := size_sq hs
  have hj : ∀ b : Bool, Ev (fun k => impl_RuleValid.j1 k s (xs.length : Int) kind b kind xs value)
      (if b = true then (decide (1 ≤ (xs.length : Int)) && decide ((xs.length : Int) ≤ 4) && decide (1 ≤ value ∧ value ≤ s * s * s * s)) else if kind = 4 then (decide ((xs.length : Int) = 2) && decide (value = 0)) else if kind = 5 then (decide ((xs.length : Int) = 2) && decide (0 ≤ value ∧ value ≤ s - 1)) else false) := by
    intro b
    refine Ev.step (f := fun _ => some _) (fun k => ?_) (Ev.now _)
    simp only [impl_RuleValid.j1, q1, q2, q3]
    by_cases hb : b = true
    · rw [if_pos hb, if_pos hb]
      by_cases h1 : (xs.length : Int) ≥ 1
      · rw [if_pos h1, decide_eq_true h1, Bool.true_and]
        by_cases h2 : (xs.length : Int) ≤ 4
        · rw [if_pos h2, decide_eq_true h2, Bool.true_and]
          by_cases h3 : value ≥ 1
          · rw [if_pos h3]; simp [h3]
          · rw [if_neg h3, decide_eq_false (by omega)]
        · rw [if_neg h2, decide_eq_false h2]; rfl
      · rw [if_neg h1, decide_eq_false h1]; rfl
    · rw [if_neg hb, if_neg hb]
      by_cases h1 : kind = 4
      · rw [if_pos h1, if_pos h1]
        by_cases h2 : (xs.length : Int) = 2
        · rw [if_pos h2, decide_eq_true h2, Bool.true_and]; rfl
        · rw [if_neg h2, decide_eq_false h2]; rfl
      · rw [if_neg h1, if_neg h1]
        by_cases h2 : kind = 5
        · rw [if_pos h2, if_pos h2]
          by_cases h3 : (xs.length : Int) = 2
          · rw [if_pos h3, decide_eq_true h3, Bool.true_and]
            by_cases h4 : value ≥ 0
            · rw [if_pos h4, decide_eq_decide.2 (show value < s ↔ (0 ≤ value ∧ value ≤ s - 1) by omega)]
            · rw [if_neg h4, decide_eq_false (by omega)]
          · rw [if_neg h3, decide_eq_false h3]; rfl
        · rw [if_neg h2, if_neg h2]
  unfold kindOk
  by_cases h1 : kind = 1
  · rw [if_pos h1]
    refine Ev.step (f := fun _ => some _) (fun k => ?_) (Ev.now _)
    simp only [impl_RuleValid.l0]
    rw [if_neg (by omega), if_pos h1]
    by_cases h2 : (xs.length : Int) ≥ 2
    · rw [if_pos h2, decide_eq_true h2, Bool.true_and]
      by_cases h3 : (xs.length : Int) ≤ 4
      · rw [if_pos h3, decide_eq_true h3, Bool.true_and]; rfl
      · rw [if_neg h3, decide_eq_false h3]; rfl
    · rw [if_neg h2, decide_eq_false h2]; rfl
  · rw [if_neg h1]
    by_cases h2 : kind = 2
    · have h := hj true
      rw [if_pos rfl] at h
      rw [if_pos (Or.inl h2)]
      exact Ev.step (fun k => by simp only [impl_RuleValid.l0]; rw [if_neg (by omega), if_neg h1, if_pos h2, beq_iff_eq.2 h2]) h
    · by_cases h3 : kind = 3
      · have h := hj true
        rw [if_pos rfl] at h
        rw [if_pos (Or.inr h3)]
        exact Ev.step (fun k => by simp only [impl_RuleValid.l0]; rw [if_neg (by omega), if_neg h1, if_neg h2, beq_iff_eq.2 h3]) h
      · have h := hj false
        rw [if_neg (by decide)] at h
        rw [if_neg (by rintro (h | h) <;> contradiction)]
        exact Ev.step (fun k => by simp only [impl_RuleValid.l0]; rw [if_neg (by omega), if_neg h1, if_neg h2, beq_eq_false_iff_ne.2 h3]) h
theorem irv_loop (xs : List Int) (hx : xs.length ≤ 9223372036854775807) (s kind value : Int) (hs : sizeIn s = true) : ∀ n i : Nat, i + n = xs.length →
    Ev (fun k => impl_RuleValid.l0 k s xs (xs.length : Int) (i : Int) kind xs value) (cellsOk (s * s - 1) (xs.take i) (xs.drop i) && kindOk kind xs.length value s) := by
  obtain ⟨q1, q2, q3, b1, b2, b3, b4⟩ := size_sq hs
  intro n
  induction n with
  | zero =>
    intro i hi
    have e : i = xs.length := by omega
    subst e
    rw [List.drop_length]
    exact irv_end xs s kind value hs
  | succ n ih =>
    intro i hi
    have hlt : i < xs.length := by omega
    have h := ih (i + 1) (by omega)
    rw [take_succ_get hlt] at h
    rw [drop_get hlt]
    simp only [cellsOk]
    by_cases h1 : xs[i] < 0
    · rw [decide_eq_false (by omega)]
      exact Ev.step (fun k => by simp only [impl_RuleValid.l0]; rw [if_pos (by omega), if_pos (by omega), if_pos (by omega), rd_nat hlt, if_pos h1]; rfl) (Ev.now _)
    · by_cases h2 : xs[i] ≥ s * s
      · rw [decide_eq_false (by omega)]
        exact Ev.step (fun k => by simp only [impl_RuleValid.l0]; rw [if_pos (by omega), if_pos (by omega), if_pos (by omega), rd_nat hlt, if_neg h1, q1, if_pos h2]; rfl) (Ev.now _)
      · rw [decide_eq_true (show 0 ≤ xs[i] ∧ xs[i] ≤ s * s - 1 by omega), Bool.true_and]
        have hc := contains_ev (xs.take i) xs[i] (by rw [List.length_take]; omega)
        refine Ev.step (f := fun k => (slices_Contains_int_int.f k (xs.take i) xs[i]).bind fun t => if t = true then some false else impl_RuleValid.l0 k s xs (xs.length : Int) ((i + 1 : Nat) : Int) kind xs value) (fun k => by
          simp only [impl_RuleValid.l0]
          rw [if_pos (by omega), if_pos (by omega), if_pos (by omega), rd_nat hlt, if_neg h1, q1, if_neg h2, if_pos (by omega), wnext hlt hx, Int.toNat_natCast]) ?_
        refine Ev.bind hc ?_
        by_cases h3 : xs[i] ∈ xs.take i
        · rw [decide_eq_true h3]
          exact Ev.congr (fun k => by rw [if_pos rfl]; rfl) (Ev.now _)
        · rw [decide_eq_false h3]
          exact Ev.congr (fun k => by rw [if_neg (by decide)]) h
theorem implRuleValid_ev (kind : Int) (xs : List Int) (value s : Int) (hx : xs.length ≤ 9223372036854775807) : Ev (fun k => impl_RuleValid.f k kind xs value s) (ruleValid kind xs value s) := by
  refine Ev.congr (f := fun k => if sizeIn s = true then impl_RuleValid.l0 k s xs (xs.length : Int) ((0 : Nat) : Int) kind xs value else some false) (fun k => by unfold impl_RuleValid.f; rw [sizeOk_eq]; rfl) ?_
  unfold ruleValid
  by_cases hs : sizeIn s = true
  · have h := irv_loop xs hx s kind value hs xs.length 0 (by omega)
    rw [List.take_zero, List.drop_zero] at h
    rw [hs, Bool.true_and]
    simp only [if_true]
    exact h
  · have hs' : sizeIn s = false := by simpa using hs
    rw [hs']
    exact Ev.congr (fun k => by rw [if_neg (by decide)]; rfl) (Ev.now _)
end Go.Proofs.Ytbcikbekdhdpaaa.Q
end
section
namespace Go.Proofs.Ytbcikbekdhdpaaa.Q
open Go.RowKit Go.Proofs.YtbcikbekdhdpaaaW.PrintWords
def cellIn (size v : Int) : Bool := decide (0 ≤ v ∧ v ≤ size)
def gridValid (grid : List Int) (size : Int) : Bool := sizeIn size && decide ((grid.length : Int) = size * size) && grid.all (cellIn size)
theorem sgv_loop (xs : List Int) (hx : xs.length ≤ 9223372036854775807) (s : Int) : ∀ n i : Nat, i + n = xs.length → Ev (fun k => spec_GridValid.l0 k xs s (i : Int)) ((xs.drop i).all (cellIn s) && (sizeIn s && decide ((xs.length : Int) = s * s))) := by
  intro n
  induction n with
  | zero =>
    intro i hi
    rw [List.drop_of_length_le (by omega)]
    refine Ev.step (f := fun _ => some _) (fun k => ?_) (Ev.now _)
    simp only [spec_GridValid.l0, l1In_eq, Option.bind_some]
    rw [if_neg (by omega)]
    by_cases hs : 2 ≤ s ∧ s ≤ 4
    · have hs' : sizeIn s = true := decide_eq_true hs
      obtain ⟨q1, _⟩ := size_sq hs'
      rw [if_pos (decide_eq_true hs), q1, hs', Bool.true_and]
      rfl
    · have hs' : sizeIn s = false := decide_eq_false hs
      rw [if_neg (by simpa using hs), hs']
      rfl
  | succ n ih =>
    intro i hi
    have hlt : i < xs.length := by omega
    rw [drop_get hlt, List.all_cons]
    by_cases hc : 0 ≤ xs[i] ∧ xs[i] ≤ s
    · rw [show cellIn s xs[i] = true from decide_eq_true hc, Bool.true_and]
      exact Ev.step (fun k => by simp only [spec_GridValid.l0]; rw [if_pos (by omega), if_pos (by omega), rd_nat hlt, l1In_eq, decide_eq_true hc, wnext hlt hx]; simp only [Option.bind_some, if_true]) (ih (i + 1) (by omega))
    · rw [show cellIn s xs[i] = false from decide_eq_false hc]
      exact Ev.step (fun k => by simp only [spec_GridValid.l0]; rw [if_pos (by omega), if_pos (by omega), rd_nat hlt, l1In_eq, decide_eq_false hc]; rfl) (Ev.now _)
theorem specGridValid_ev (xs : List Int) (s : Int) (hx : xs.length ≤ 9223372036854775807) : Ev (fun k => spec_GridValid.f k xs s) (gridValid xs s) := by
  have h := sgv_loop xs hx s xs.length 0 (by omega)
  rw [List.drop_zero] at h
  unfold gridValid
  rw [Bool.and_comm]
  exact h
theorem igv_loop (xs : List Int) (hx : xs.length ≤ 9223372036854775807) (s : Int) : ∀ n i : Nat, i + n = xs.length → Ev (fun k => impl_GridValid.l0 k s xs (xs.length : Int) (i : Int)) ((xs.drop i).all (cellIn s)) := by
  intro n
  induction n with
  | zero =>
    intro i hi
    rw [List.drop_of_length_le (by omega)]
    exact Ev.step (fun k => by simp only [impl_GridValid.l0]; rw [if_neg (by omega)]; rfl) (Ev.now _)
  | succ n ih =>
    intro i hi
    have hlt : i < xs.length := by omega
    rw [drop_get hlt, List.all_cons]
    by_cases h1 : xs[i] < 0
    · rw [show cellIn s xs[i] = false from decide_eq_false (by omega)]
      exact Ev.step (fun k => by simp only [impl_GridValid.l0]; rw [if_pos (by omega), if_pos (by omega), if_pos (by omega), rd_nat hlt, if_pos h1]; rfl) (Ev.now _)
    · by_cases h2 : xs[i] > s
      · rw [show cellIn s xs[i] = false from decide_eq_false (by omega)]
        exact Ev.step (fun k => by simp only [impl_GridValid.l0]; rw [if_pos (by omega), if_pos (by omega), if_pos (by omega), rd_nat hlt, if_neg h1, if_pos h2]; rfl) (Ev.now _)
      · rw [show cellIn s xs[i] = true from decide_eq_true (by omega), Bool.true_and]
        exact Ev.step (fun k => by simp only [impl_GridValid.l0]; rw [if_pos (by omega), if_pos (by omega), if_pos (by omega), rd_nat hlt, if_neg h1, if_neg h2, wnext hlt hx]) (ih (i + 1) (by omega))
theorem implGridValid_ev (xs : List Int) (s : Int) (hx : xs.length ≤ 9223372036854775807) : Ev (fun k => impl_GridValid.f k xs s) (gridValid xs s) := by
  refine Ev.congr (f := fun k => if sizeIn s = true then impl_GridValid.j0 k xs s ((xs.length : Int) != (wrap64 (s * s))) else impl_GridValid.j0 k xs s true) (fun k => by unfold impl_GridValid.f; rw [sizeOk_eq]; rfl) ?_
  unfold gridValid
  have hj : Ev (fun k => impl_GridValid.j0 k xs s true) false := Ev.step (fun k => by simp only [impl_GridValid.j0]; rw [if_pos trivial]) (Ev.now _)
  by_cases hs : sizeIn s = true
  · obtain ⟨q1, _⟩ := size_sq hs
    rw [hs, Bool.true_and]
    simp only [if_true, q1]
    by_cases hl : (xs.length : Int) = s * s
    · rw [decide_eq_true hl, Bool.true_and, show ((xs.length : Int) != s * s) = false by simpa using hl]
      have h := igv_loop xs hx s xs.length 0 (by omega)
      rw [List.drop_zero] at h
      exact Ev.step (fun k => by simp only [impl_GridValid.j0]; rw [if_neg (by decide)]; rfl) h
    · rw [decide_eq_false hl, Bool.false_and, show ((xs.length : Int) != s * s) = true by simpa using hl]
      exact hj
  · have hs' : sizeIn s = false := by simpa using hs
    rw [hs', Bool.false_and, Bool.false_and]
    exact Ev.congr (fun k => by rw [if_neg (by decide)]) hj
end Go.Proofs.Ytbcikbekdhdpaaa.Q
end
section
namespace Go.Proofs.Ytbcikbekdhdpaaa.Q
open Go.RowKit Go.Proofs.YtbcikbekdhdpaaaW.PrintWords
def lineAt (s line : Int) (i : Nat) : Int := if line < s then line * s + (i : Int) else (i : Int) * s + line - s
def lineC (s line : Int) : List Int := (List.range s.toNat).map (lineAt s line)
def lineIn (s line : Int) : Bool := sizeIn s && decide (0 ≤ line ∧ line < 2 * s)
def lineCells (s line : Int) : List Int := if lineIn s line = true then lineC s line else []
theorem lineC_len (s line : Int) : (lineC s line).length = s.toNat := by unfold lineC; rw [List.length_map, List.length_range]
theorem lineC_get {s line : Int} {i : Nat} (h : i < (lineC s line).length) : (lineC s line)[i] = lineAt s line i := by
  simp only [lineC, List.getElem_map, List.getElem_range]
theorem lineIn_of {s line : Int} (h : lineIn s line = true) : (s = 2 ∨ s = 3 ∨ s = 4) ∧ 0 ≤ line ∧ line < 2 * s := by
  unfold lineIn sizeIn at h
  simp only [Bool.and_eq_true, decide_eq_true_eq] at h
  omega
theorem lineAt_in {s line : Int} (h : lineIn s line = true) {i : Nat} (hi : (i : Int) < s) : 0 ≤ lineAt s line i ∧ lineAt s line i < s * s ∧ s * s ≤ 16 ∧ 4 ≤ s * s := by
  obtain ⟨h3, h0, h1⟩ := lineIn_of h
  unfold lineAt
  rcases h3 with rfl | rfl | rfl <;> (split <;> omega)
theorem lineAt_row {s line : Int} (h : lineIn s line = true) {i : Nat} (hi : (i : Int) < s) (hl : line < s) : wrap64 (wrap64 (line * s) + (i : Int)) = lineAt s line i := by
  have ha := lineAt_in h hi
  obtain ⟨h3, h0, h1⟩ := lineIn_of h
  unfold lineAt at ha ⊢
  rw [if_pos hl] at ha ⊢
  rw [w64 (n := line * s) (by omega) (by omega), w64 (by omega) (by omega)]
theorem lineAt_col {s line : Int} (h : lineIn s line = true) {i : Nat} (hi : (i : Int) < s) (hl : ¬ line < s) : wrap64 (wrap64 (wrap64 ((i : Int) * s) + line) - s) = lineAt s line i := by
  have ha := lineAt_in h hi
  obtain ⟨h3, h0, h1⟩ := lineIn_of h
  unfold lineAt at ha ⊢
  rw [if_neg hl] at ha ⊢
  rcases h3 with rfl | rfl | rfl <;> rw [w64 (n := (i : Int) * _) (by omega) (by omega), w64 (n := _ + line) (by omega) (by omega), w64 (by omega) (by omega)]
theorem ilc_loop {s line : Int} (h : lineIn s line = true) : ∀ n i : Nat, i + n = s.toNat → Ev (fun k => impl_LineCells.l0 k s line ((lineC s line).take i) s (i : Int)) (lineC s line) := by
  intro n
  obtain ⟨h3, h0, h1⟩ := lineIn_of h
  have hlen := lineC_len s line
  induction n with
  | zero =>
    intro i hi
    rw [List.take_of_length_le (by omega)]
    exact Ev.step (fun k => by simp only [impl_LineCells.l0]; rw [if_neg (by omega)]) (Ev.now _)
  | succ n ih =>
    intro i hi
    have hlt : i < (lineC s line).length := by omega
    have h2 := ih (i + 1) (by omega)
    rw [take_succ_get hlt, lineC_get hlt] at h2
    have htl : ((lineC s line).take i).length < 17592186044416 := by rw [List.length_take]; omega
    by_cases hl : line < s
    · exact Ev.step (fun k => by simp only [impl_LineCells.l0]; rw [if_pos (by omega), if_pos hl, if_pos htl, lineAt_row h (by omega) hl, wnext (n := s.toNat) (by omega) (by omega)]) h2
    · exact Ev.step (fun k => by simp only [impl_LineCells.l0]; rw [if_pos (by omega), if_neg hl, if_pos htl, lineAt_col h (by omega) hl, wnext (n := s.toNat) (by omega) (by omega)]) h2
theorem implLineCells_ev (s line : Int) : Ev (fun k => impl_LineCells.f k s line) (lineCells s line) := by
  have stop : Ev (fun k => impl_LineCells.j0 k s line true) ([] : List Int) := Ev.step (fun k => by simp only [impl_LineCells.j0]; rw [if_pos (by trivial)]) (Ev.now _)
  unfold impl_LineCells.f
  rw [sizeOk_eq]
  simp only [Option.bind_some]
  unfold lineCells lineIn
  by_cases hs : sizeIn s = true
  · rw [hs, Bool.true_and]
    have hs' : 2 ≤ s ∧ s ≤ 4 := by simpa [sizeIn] using hs
    refine Ev.congr (fun k => by rw [if_pos rfl]) ?_
    by_cases h0 : line < 0
    · rw [decide_eq_false (show ¬ (0 ≤ line ∧ line < 2 * s) by omega), if_neg (show ¬ (false = true) by decide)]
      exact Ev.congr (fun k => by rw [if_pos h0]) stop
    · refine Ev.congr (fun k => by rw [if_neg h0, w64 (by omega) (by omega)]) ?_
      by_cases h1 : line < 2 * s
      · have hin : lineIn s line = true := by unfold lineIn; rw [hs, decide_eq_true (by omega)]; rfl
        rw [decide_eq_true (show 0 ≤ line ∧ line < 2 * s by omega), if_pos rfl]
        have h2 := ilc_loop hin s.toNat 0 (by omega)
        rw [List.take_zero] at h2
        refine Ev.congr (fun k => by rw [decide_eq_false (show ¬ line ≥ 2 * s by omega)]) ?_
        exact Ev.step (fun k => by simp only [impl_LineCells.j0]; rw [if_neg (by decide), if_pos (by omega), if_pos (by omega)]; rfl) h2
      · rw [decide_eq_false (show ¬ (0 ≤ line ∧ line < 2 * s) by omega), if_neg (show ¬ (false = true) by decide)]
        exact Ev.congr (fun k => by rw [decide_eq_true (show line ≥ 2 * s by omega)]) stop
  · have hs' : sizeIn s = false := by simpa using hs
    rw [hs', Bool.false_and, if_neg (by decide)]
    exact Ev.congr (fun k => by rw [if_neg (by decide)]) stop
theorem slc_loop {s line : Int} (h : lineIn s line = true) : ∀ n i : Nat, i + n = s.toNat → Ev (fun k => spec_LineCells.l0 k s line ((lineC s line).take i) (i : Int)) (lineC s line) := by
  intro n
  obtain ⟨h3, h0, h1⟩ := lineIn_of h
  have hlen := lineC_len s line
  induction n with
  | zero =>
    intro i hi
    rw [List.take_of_length_le (by omega)]
    have he : Ev (fun k => spec_LineCells.j1 k s line (lineC s line) (i : Int) false) (lineC s line) := Ev.step (fun k => by simp only [spec_LineCells.j1]; rw [if_neg (by decide)]) (Ev.now _)
    exact Ev.step (fun k => by simp only [spec_LineCells.l0]; rw [if_neg (by omega)]) he
  | succ n ih =>
    intro i hi
    have hlt : i < (lineC s line).length := by omega
    have h2 := ih (i + 1) (by omega)
    rw [take_succ_get hlt, lineC_get hlt] at h2
    have htl : ((lineC s line).take i).length < 17592186044416 := by rw [List.length_take]; omega
    refine Ev.step (f := fun k => spec_LineCells.j1 k s line ((lineC s line).take i) (i : Int) true) (fun k => ?_) ?_
    · simp only [spec_LineCells.l0, l1In_eq, Option.bind_some]
      rw [if_pos (by omega), decide_eq_true (show 2 ≤ s ∧ s ≤ 4 by omega), if_pos rfl, w64 (n := 2 * s) (by omega) (by omega), w64 (n := 2 * s - 1) (by omega) (by omega), decide_eq_true (show 0 ≤ line ∧ line ≤ 2 * s - 1 by omega)]
    · by_cases hl : line < s
      · exact Ev.step (fun k => by simp only [spec_LineCells.j1]; rw [if_pos (by trivial), if_pos hl, if_pos htl, lineAt_row h (by omega) hl, wnext (n := s.toNat) (by omega) (by omega)]) h2
      · exact Ev.step (fun k => by simp only [spec_LineCells.j1]; rw [if_pos (by trivial), if_neg hl, if_pos htl, lineAt_col h (by omega) hl, wnext (n := s.toNat) (by omega) (by omega)]) h2
theorem specLineCells_ev (s line : Int) (hs : s ≤ 4) : Ev (fun k => spec_LineCells.f k s line) (lineCells s line) := by
  unfold lineCells
  by_cases h : lineIn s line = true
  · rw [if_pos h]
    have h2 := slc_loop h s.toNat 0 (by omega)
    rw [List.take_zero] at h2
    exact h2
  · rw [if_neg h]
    have he : Ev (fun k => spec_LineCells.j1 k s line [] 0 false) ([] : List Int) := Ev.step (fun k => by simp only [spec_LineCells.j1]; rw [if_neg (by decide)]) (Ev.now _)
    refine Ev.step (g := fun k => spec_LineCells.l0 k s line [] 0) (f := fun k => spec_LineCells.j1 k s line [] 0 false) (fun k => ?_) he
    simp only [spec_LineCells.l0, l1In_eq, Option.bind_some]
    by_cases h0 : 0 < s
    · rw [if_pos h0]
      by_cases h1 : 2 ≤ s ∧ s ≤ 4
      · have hn : ¬ (0 ≤ line ∧ line ≤ 2 * s - 1) := by
          intro hh
          apply h
          unfold lineIn sizeIn
          rw [decide_eq_true h1, decide_eq_true (show 0 ≤ line ∧ line < 2 * s by omega)]; rfl
        rw [decide_eq_true h1, if_pos rfl, w64 (n := 2 * s) (by omega) (by omega), w64 (n := 2 * s - 1) (by omega) (by omega), decide_eq_false hn]
      · rw [decide_eq_false h1, if_neg (by decide)]
    · rw [if_neg h0]
end Go.Proofs.Ytbcikbekdhdpaaa.Q
end
section
namespace Go.Proofs.Ytbcikbekdhdpaaa.Q
open Go.RowKit Go.Proofs.YtbcikbekdhdpaaaW.PrintWords
set_option linter.unusedSimpArgs false
def dupFrom (seen : List Int) : List Int → Bool
  | [] => false
  | v :: r => if 0 < v ∧ v ∈ seen then true else dupFrom (v :: seen) r
def lineVals (g : List Int) (s line : Int) : List Int := (lineC s line).map (rd g)
def clashFrom (g : List Int) (s : Int) : Nat → Nat → Bool
  | _, 0 => false
  | line, n + 1 => dupFrom [] (lineVals g s (line : Int)) || clashFrom g s (line + 1) n
def clashB (g : List Int) (s : Int) : Bool := clashFrom g s 0 (2 * s).toNat
def small (g : List Int) : Prop := ∀ v ∈ g, 0 ≤ v ∧ v ≤ 4
theorem rd_mem {g : List Int} {c : Int} (h0 : 0 ≤ c) (h : c < g.length) : rd g c ∈ g := by
  obtain ⟨i, rfl⟩ := Int.eq_ofNat_of_zero_le h0
  rw [rd_nat (by omega)]
  exact List.getElem_mem _
def BitsOf (x : Int) (seen : List Int) : Prop := 0 ≤ x ∧ x < 32 ∧ ∀ v : Int, 1 ≤ v → v ≤ 4 → (Int.tmod (shr .i64 x v) 2 = 1 ↔ v ∈ seen)
theorem bits_all : ∀ x : Fin 32, ∀ v : Fin 5, (0 ≤ Go.bits .or .i64 (x.val : Int) (shl .i64 1 (v.val : Int)) ∧ Go.bits .or .i64 (x.val : Int) (shl .i64 1 (v.val : Int)) < 32) ∧
    ∀ u : Fin 5, (Int.tmod (shr .i64 (Go.bits .or .i64 (x.val : Int) (shl .i64 1 (v.val : Int))) (u.val : Int)) 2 = 1 ↔ (u.val = v.val ∨ Int.tmod (shr .i64 (x.val : Int) (u.val : Int)) 2 = 1)) := by decide +kernel
theorem bits_zero : ∀ u : Fin 5, ¬ Int.tmod (shr .i64 0 (u.val : Int)) 2 = 1 := by decide +kernel
theorem BitsOf.nil : BitsOf 0 [] := ⟨by decide, by decide, fun v h1 h4 => ⟨fun h => by
  have := bits_zero ⟨v.toNat, by omega⟩
  rw [show ((⟨v.toNat, by omega⟩ : Fin 5).val : Int) = v by show ((v.toNat : Nat) : Int) = v; omega] at this
  exact absurd h this, fun h => by simp at h⟩⟩
theorem BitsOf.cons {x v : Int} {seen : List Int} (h : BitsOf x seen) (h0 : 0 ≤ v) (h4 : v ≤ 4) : BitsOf (Go.bits .or .i64 x (shl .i64 1 v)) (v :: seen) := by
  obtain ⟨a, b, c⟩ := h
  have hx := bits_all ⟨x.toNat, by omega⟩ ⟨v.toNat, by omega⟩
  have ex : ((⟨x.toNat, by omega⟩ : Fin 32).val : Int) = x := by show ((x.toNat : Nat) : Int) = x; omega
  have ev : ((⟨v.toNat, by omega⟩ : Fin 5).val : Int) = v := by show ((v.toNat : Nat) : Int) = v; omega
  rw [ex, ev] at hx
  refine ⟨hx.1.1, hx.1.2, fun u h1 h4' => ?_⟩
  have hu := hx.2 ⟨u.toNat, by omega⟩
  have eu : ((⟨u.toNat, by omega⟩ : Fin 5).val : Int) = u := by show ((u.toNat : Nat) : Int) = u; omega
  rw [eu, c u h1 h4'] at hu
  rw [hu, List.mem_cons]
  constructor
  · rintro (h | h)
    · exact Or.inl (by have : u.toNat = v.toNat := h; omega)
    · exact Or.inr h
  · rintro (h | h)
    · exact Or.inl (by show u.toNat = v.toNat; rw [h])
    · exact Or.inr h
theorem scl_inner {g : List Int} {s : Int} (hg : (g.length : Int) = s * s) (hv : small g) {line : Int} (h : lineIn s line = true) {r : Bool} (next : Ev (fun k => spec_l2Clash.l0 k g s (wrap64 (line + 1))) r) : ∀ n i : Nat, i + n = s.toNat → ∀ (x : Int) (seen : List Int), BitsOf x seen →
    Ev (fun k => spec_l2Clash.l1 k g s line x (i : Int) (lineC s line)) (dupFrom seen ((lineVals g s line).drop i) || r) := by
  intro n
  obtain ⟨h3, h0, h1⟩ := lineIn_of h
  have hlen := lineC_len s line
  have hlv : (lineVals g s line).length = s.toNat := by unfold lineVals; rw [List.length_map, hlen]
  induction n with
  | zero =>
    intro i hi x seen hb
    rw [List.drop_of_length_le (by omega)]
    exact Ev.step (fun k => by simp only [spec_l2Clash.l1]; rw [if_neg (by omega)]) (by simpa [dupFrom] using next)
  | succ n ih =>
    intro i hi x seen hb
    have hlt : i < (lineC s line).length := by omega
    have hc : rd (lineC s line) (i : Int) = lineAt s line i := by rw [rd_nat hlt, lineC_get hlt]
    have ha := lineAt_in h (i := i) (by omega)
    have hvv := hv _ (rd_mem (c := lineAt s line i) ha.1 (by omega))
    have hd : (lineVals g s line).drop i = rd g (lineAt s line i) :: (lineVals g s line).drop (i + 1) := by
      rw [drop_get (by omega)]
      congr 1
      simp only [lineVals, List.getElem_map, lineC_get hlt]
    have h2 := ih (i + 1) (by omega) _ _ (hb.cons hvv.1 hvv.2)
    rw [hd, dupFrom]
    by_cases hp : 0 < rd g (lineAt s line i)
    · by_cases hm : rd g (lineAt s line i) ∈ seen
      · rw [if_pos ⟨hp, hm⟩, Bool.true_or]
        exact Ev.step (fun k => by simp only [spec_l2Clash.l1]; rw [if_pos (by omega), if_pos (by omega), hc, if_pos ha.1, if_pos (by omega), if_pos hp, if_pos hvv.1, if_pos ((hb.2.2 _ (by omega) hvv.2).2 hm)]) (Ev.now _)
      · rw [if_neg (fun e => hm e.2)]
        exact Ev.step (fun k => by simp only [spec_l2Clash.l1]; rw [if_pos (by omega), if_pos (by omega), hc, if_pos ha.1, if_pos (by omega), if_pos hp, if_pos hvv.1, if_neg (fun e => hm ((hb.2.2 _ (by omega) hvv.2).1 e)), wnext (n := s.toNat) (by omega) (by omega)]) h2
    · rw [if_neg (fun e => hp e.1)]
      exact Ev.step (fun k => by simp only [spec_l2Clash.l1]; rw [if_pos (by omega), if_pos (by omega), hc, if_pos ha.1, if_pos (by omega), if_neg hp, if_pos hvv.1, wnext (n := s.toNat) (by omega) (by omega)]) h2
theorem scl_outer {g : List Int} {s : Int} (h3 : s = 2 ∨ s = 3 ∨ s = 4) (hg : (g.length : Int) = s * s) (hv : small g) : ∀ n line : Nat, line + n = (2 * s).toNat →
    Ev (fun k => spec_l2Clash.l0 k g s (line : Int)) (clashFrom g s line n) := by
  intro n
  induction n with
  | zero =>
    intro line hl
    exact Ev.step (fun k => by simp only [spec_l2Clash.l0]; rw [w64 (n := 2 * s) (by omega) (by omega), if_neg (by omega)]; rfl) (Ev.now _)
  | succ n ih =>
    intro line hl
    have hin : lineIn s (line : Int) = true := by
      unfold lineIn sizeIn
      rw [decide_eq_true (show 2 ≤ s ∧ s ≤ 4 by omega), decide_eq_true (show 0 ≤ (line : Int) ∧ (line : Int) < 2 * s by omega)]; rfl
    have hcells := specLineCells_ev s (line : Int) (by omega)
    unfold lineCells at hcells
    rw [if_pos hin] at hcells
    have h2 := ih (line + 1) (by omega)
    have e1 : wrap64 ((line : Int) + 1) = ((line + 1 : Nat) : Int) := by rw [w64 (by omega) (by omega)]; omega
    rw [← e1] at h2
    have hi := scl_inner hg hv hin h2 s.toNat 0 (by omega) 0 [] BitsOf.nil
    rw [List.drop_zero] at hi
    exact Ev.step (fun k => by simp only [spec_l2Clash.l0]; rw [w64 (n := 2 * s) (by omega) (by omega), if_pos (by omega)]; rfl) (Ev.bind hcells hi)
theorem specClash_ev {g : List Int} {s : Int} (h3 : s = 2 ∨ s = 3 ∨ s = 4) (hg : (g.length : Int) = s * s) (hv : small g) : Ev (fun k => spec_l2Clash.f k g s) (clashB g s) :=
  scl_outer h3 hg hv (2 * s).toNat 0 (by omega)
theorem valid_parts {g : List Int} {s : Int} (h : gridValid g s = true) : (s = 2 ∨ s = 3 ∨ s = 4) ∧ (g.length : Int) = s * s ∧ small g ∧ ∀ v ∈ g, 0 ≤ v ∧ v ≤ s := by
  unfold gridValid sizeIn at h
  simp only [Bool.and_eq_true, decide_eq_true_eq, List.all_eq_true, cellIn] at h
  obtain ⟨⟨a, b⟩, c⟩ := h
  exact ⟨by omega, b, fun v hv => by have := c v hv; omega, c⟩
def squareFits (g : List Int) (s : Int) : Bool := gridValid g s && !clashB g s
def filled (g : List Int) : Nat := g.countP (fun v => decide (0 < v))
def squareSolved (g : List Int) (s : Int) : Bool := squareFits g s && decide ((filled g : Int) = s * s)
theorem specSquareFits_ev (g : List Int) (s : Int) (hx : g.length ≤ 9223372036854775807) : Ev (fun k => spec_SquareFits.f k g s) (squareFits g s) := by
  refine Ev.bind (specGridValid_ev g s hx) ?_
  unfold squareFits
  by_cases h : gridValid g s = true
  · obtain ⟨h3, hg, hv, _⟩ := valid_parts h
    rw [h, Bool.true_and]
    exact Ev.congr (fun k => by rw [if_pos rfl]) (Ev.bind (specClash_ev h3 hg hv) (Ev.now _))
  · have h' : gridValid g s = false := by simpa using h
    rw [h', Bool.false_and]
    exact Ev.congr (fun k => by rw [if_neg (by decide)]) (Ev.now _)
def FlagsOf (b1 b2 b3 b4 : Bool) (seen : List Int) : Prop := b1 = decide ((1 : Int) ∈ seen) ∧ b2 = decide ((2 : Int) ∈ seen) ∧ b3 = decide ((3 : Int) ∈ seen) ∧ b4 = decide ((4 : Int) ∈ seen)
theorem isq_eq0 (k : Nat) (g cells : List Int) (s m line len i : Int) (b0 b1 b2 b3 b4 : Bool) (c1 : i < len) (c2 : 0 ≤ i) (c3 : i < (cells.length : Int)) (c4 : 0 ≤ rd cells i) (c5 : rd cells i < (g.length : Int)) (hq : rd g (rd cells i) = 0) :
    impl_SquareFits.l1 (k + 1) g s m line cells len i b0 b1 b2 b3 b4 = (impl_SquareFits.l1 k g s m line cells len (wrap64 (i + 1)) true b1 b2 b3 b4) := by
  simp only [impl_SquareFits.l1, c1, c2, c3, c4, c5, hq, ↓reduceIte, Int.reduceEq, Int.reduceGT, Int.reduceLT, gt_iff_lt, Int.lt_irrefl]
theorem isq_eq1 (k : Nat) (g cells : List Int) (s m line len i : Int) (b0 b1 b2 b3 b4 : Bool) (c1 : i < len) (c2 : 0 ≤ i) (c3 : i < (cells.length : Int)) (c4 : 0 ≤ rd cells i) (c5 : rd cells i < (g.length : Int)) (hq : rd g (rd cells i) = 1) :
    impl_SquareFits.l1 (k + 1) g s m line cells len i b0 b1 b2 b3 b4 = (if b1 = true then some false else impl_SquareFits.l1 k g s m line cells len (wrap64 (i + 1)) b0 true b2 b3 b4) := by
  simp only [impl_SquareFits.l1, c1, c2, c3, c4, c5, hq, ↓reduceIte, Int.reduceEq, Int.reduceGT, Int.reduceLT, gt_iff_lt, Int.lt_irrefl]
theorem isq_eq2 (k : Nat) (g cells : List Int) (s m line len i : Int) (b0 b1 b2 b3 b4 : Bool) (c1 : i < len) (c2 : 0 ≤ i) (c3 : i < (cells.length : Int)) (c4 : 0 ≤ rd cells i) (c5 : rd cells i < (g.length : Int)) (hq : rd g (rd cells i) = 2) :
    impl_SquareFits.l1 (k + 1) g s m line cells len i b0 b1 b2 b3 b4 = (if b2 = true then some false else impl_SquareFits.l1 k g s m line cells len (wrap64 (i + 1)) b0 b1 true b3 b4) := by
  simp only [impl_SquareFits.l1, c1, c2, c3, c4, c5, hq, ↓reduceIte, Int.reduceEq, Int.reduceGT, Int.reduceLT, gt_iff_lt, Int.lt_irrefl]
theorem isq_eq3 (k : Nat) (g cells : List Int) (s m line len i : Int) (b0 b1 b2 b3 b4 : Bool) (c1 : i < len) (c2 : 0 ≤ i) (c3 : i < (cells.length : Int)) (c4 : 0 ≤ rd cells i) (c5 : rd cells i < (g.length : Int)) (hq : rd g (rd cells i) = 3) :
    impl_SquareFits.l1 (k + 1) g s m line cells len i b0 b1 b2 b3 b4 = (if b3 = true then some false else impl_SquareFits.l1 k g s m line cells len (wrap64 (i + 1)) b0 b1 b2 true b4) := by
  simp only [impl_SquareFits.l1, c1, c2, c3, c4, c5, hq, ↓reduceIte, Int.reduceEq, Int.reduceGT, Int.reduceLT, gt_iff_lt, Int.lt_irrefl]
theorem isq_eq4 (k : Nat) (g cells : List Int) (s m line len i : Int) (b0 b1 b2 b3 b4 : Bool) (c1 : i < len) (c2 : 0 ≤ i) (c3 : i < (cells.length : Int)) (c4 : 0 ≤ rd cells i) (c5 : rd cells i < (g.length : Int)) (hq : rd g (rd cells i) = 4) :
    impl_SquareFits.l1 (k + 1) g s m line cells len i b0 b1 b2 b3 b4 = (if b4 = true then some false else impl_SquareFits.l1 k g s m line cells len (wrap64 (i + 1)) b0 b1 b2 b3 true) := by
  simp only [impl_SquareFits.l1, c1, c2, c3, c4, c5, hq, ↓reduceIte, Int.reduceEq, Int.reduceGT, Int.reduceLT, gt_iff_lt, Int.lt_irrefl]
theorem isq_end (k : Nat) (g cells : List Int) (s m line len i : Int) (b0 b1 b2 b3 b4 : Bool) (c1 : ¬ i < len) :
    impl_SquareFits.l1 (k + 1) g s m line cells len i b0 b1 b2 b3 b4 = impl_SquareFits.l0 k g s m (wrap64 (line + 1)) := by
  simp only [impl_SquareFits.l1, c1, ↓reduceIte]
theorem isq_inner {g : List Int} {s : Int} (hg : (g.length : Int) = s * s) (hv : small g) {line m : Int} (h : lineIn s line = true) {r : Bool} (next : Ev (fun k => impl_SquareFits.l0 k g s m (wrap64 (line + 1))) r) : ∀ n i : Nat, i + n = s.toNat → ∀ (b0 b1 b2 b3 b4 : Bool) (seen : List Int), FlagsOf b1 b2 b3 b4 seen →
    Ev (fun k => impl_SquareFits.l1 k g s m line (lineC s line) ((lineC s line).length : Int) (i : Int) b0 b1 b2 b3 b4) (!dupFrom seen ((lineVals g s line).drop i) && r) := by
  intro n
  obtain ⟨h3, h0, h1⟩ := lineIn_of h
  have hlen := lineC_len s line
  have hlv : (lineVals g s line).length = s.toNat := by unfold lineVals; rw [List.length_map, hlen]
  induction n with
  | zero =>
    intro i hi b0 b1 b2 b3 b4 seen hb
    rw [List.drop_of_length_le (by omega)]
    rw [dupFrom, Bool.not_false, Bool.true_and]
    exact Ev.step (fun k => isq_end k g _ s m line _ _ b0 b1 b2 b3 b4 (by omega)) next
  | succ n ih =>
    intro i hi b0 b1 b2 b3 b4 seen hb
    have hlt : i < (lineC s line).length := by omega
    have hc : rd (lineC s line) (i : Int) = lineAt s line i := by rw [rd_nat hlt, lineC_get hlt]
    have ha := lineAt_in h (i := i) (by omega)
    have c1 : (i : Int) < ((lineC s line).length : Int) := Int.ofNat_lt.2 hlt
    have c2 : (0 : Int) ≤ (i : Int) := Int.natCast_nonneg i
    have c4 : 0 ≤ rd (lineC s line) (i : Int) := by rw [hc]; exact ha.1
    have c5 : rd (lineC s line) (i : Int) < (g.length : Int) := by rw [hc, hg]; exact ha.2.1
    have hvv := hv _ (rd_mem (c := lineAt s line i) ha.1 (by rw [hg]; exact ha.2.1))
    have hd : (lineVals g s line).drop i = rd g (lineAt s line i) :: (lineVals g s line).drop (i + 1) := by
      rw [drop_get (by omega)]
      congr 1
      simp only [lineVals, List.getElem_map, lineC_get hlt]
    have hw : wrap64 ((i : Int) + 1) = ((i + 1 : Nat) : Int) := wnext (n := s.toNat) (by omega) (by omega)
    have hi1 : i + 1 + n = s.toNat := by rw [Nat.add_assoc, Nat.add_comm 1 n]; exact hi
    obtain ⟨f1, f2, f3, f4⟩ := hb
    rw [hd, dupFrom]
    obtain ⟨v, hrd⟩ : ∃ v, rd g (lineAt s line i) = v := ⟨_, rfl⟩
    rw [hrd] at hvv
    rw [hrd]
    rw [← hc] at hrd
    have hv5 : v = 0 ∨ v = 1 ∨ v = 2 ∨ v = 3 ∨ v = 4 := by clear ih next h3 hg hi hlt ha hlv hlen hw; omega
    rcases hv5 with rfl | rfl | rfl | rfl | rfl
    · have h2 := ih (i + 1) hi1 true b1 b2 b3 b4 (0 :: seen) ⟨by rw [f1]; simp, by rw [f2]; simp, by rw [f3]; simp, by rw [f4]; simp⟩
      rw [if_neg (fun e => absurd e.1 (by decide))]
      exact Ev.step (fun k => by rw [isq_eq0 k g _ s m line _ _ b0 b1 b2 b3 b4 c1 c2 c1 c4 c5 hrd, hw]) h2
    · have h2 := ih (i + 1) hi1 b0 true b2 b3 b4 (1 :: seen) ⟨by simp, by rw [f2]; simp, by rw [f3]; simp, by rw [f4]; simp⟩
      by_cases hm : (1 : Int) ∈ seen
      · have hb1 : b1 = true := by rw [f1]; exact decide_eq_true hm
        rw [if_pos ⟨by decide, hm⟩, Bool.not_true, Bool.false_and]
        exact Ev.step (fun k => by rw [isq_eq1 k g _ s m line _ _ b0 b1 b2 b3 b4 c1 c2 c1 c4 c5 hrd, if_pos hb1]) (Ev.now _)
      · have hb1 : ¬ b1 = true := by rw [f1]; simpa using hm
        rw [if_neg (fun e => hm e.2)]
        exact Ev.step (fun k => by rw [isq_eq1 k g _ s m line _ _ b0 b1 b2 b3 b4 c1 c2 c1 c4 c5 hrd, if_neg hb1, hw]) h2
    · have h2 := ih (i + 1) hi1 b0 b1 true b3 b4 (2 :: seen) ⟨by rw [f1]; simp, by simp, by rw [f3]; simp, by rw [f4]; simp⟩
      by_cases hm : (2 : Int) ∈ seen
      · have hb1 : b2 = true := by rw [f2]; exact decide_eq_true hm
        rw [if_pos ⟨by decide, hm⟩, Bool.not_true, Bool.false_and]
        exact Ev.step (fun k => by rw [isq_eq2 k g _ s m line _ _ b0 b1 b2 b3 b4 c1 c2 c1 c4 c5 hrd, if_pos hb1]) (Ev.now _)
      · have hb1 : ¬ b2 = true := by rw [f2]; simpa using hm
        rw [if_neg (fun e => hm e.2)]
        exact Ev.step (fun k => by rw [isq_eq2 k g _ s m line _ _ b0 b1 b2 b3 b4 c1 c2 c1 c4 c5 hrd, if_neg hb1, hw]) h2
    · have h2 := ih (i + 1) hi1 b0 b1 b2 true b4 (3 :: seen) ⟨by rw [f1]; simp, by rw [f2]; simp, by simp, by rw [f4]; simp⟩
      by_cases hm : (3 : Int) ∈ seen
      · have hb1 : b3 = true := by rw [f3]; exact decide_eq_true hm
        rw [if_pos ⟨by decide, hm⟩, Bool.not_true, Bool.false_and]
        exact Ev.step (fun k => by rw [isq_eq3 k g _ s m line _ _ b0 b1 b2 b3 b4 c1 c2 c1 c4 c5 hrd, if_pos hb1]) (Ev.now _)
      · have hb1 : ¬ b3 = true := by rw [f3]; simpa using hm
        rw [if_neg (fun e => hm e.2)]
        exact Ev.step (fun k => by rw [isq_eq3 k g _ s m line _ _ b0 b1 b2 b3 b4 c1 c2 c1 c4 c5 hrd, if_neg hb1, hw]) h2
    · have h2 := ih (i + 1) hi1 b0 b1 b2 b3 true (4 :: seen) ⟨by rw [f1]; simp, by rw [f2]; simp, by rw [f3]; simp, by simp⟩
      by_cases hm : (4 : Int) ∈ seen
      · have hb1 : b4 = true := by rw [f4]; exact decide_eq_true hm
        rw [if_pos ⟨by decide, hm⟩, Bool.not_true, Bool.false_and]
        exact Ev.step (fun k => by rw [isq_eq4 k g _ s m line _ _ b0 b1 b2 b3 b4 c1 c2 c1 c4 c5 hrd, if_pos hb1]) (Ev.now _)
      · have hb1 : ¬ b4 = true := by rw [f4]; simpa using hm
        rw [if_neg (fun e => hm e.2)]
        exact Ev.step (fun k => by rw [isq_eq4 k g _ s m line _ _ b0 b1 b2 b3 b4 c1 c2 c1 c4 c5 hrd, if_neg hb1, hw]) h2
theorem isq_outer {g : List Int} {s : Int} (h3 : s = 2 ∨ s = 3 ∨ s = 4) (hg : (g.length : Int) = s * s) (hv : small g) : ∀ n line : Nat, line + n = (2 * s).toNat →
    Ev (fun k => impl_SquareFits.l0 k g s (2 * s) (line : Int)) (!clashFrom g s line n) := by
  intro n
  induction n with
  | zero =>
    intro line hl
    exact Ev.step (fun k => by simp only [impl_SquareFits.l0]; rw [if_neg (by omega)]; rfl) (Ev.now _)
  | succ n ih =>
    intro line hl
    have hin : lineIn s (line : Int) = true := by
      unfold lineIn sizeIn
      rw [decide_eq_true (show 2 ≤ s ∧ s ≤ 4 by omega), decide_eq_true (show 0 ≤ (line : Int) ∧ (line : Int) < 2 * s by omega)]; rfl
    have hcells := implLineCells_ev s (line : Int)
    unfold lineCells at hcells
    rw [if_pos hin] at hcells
    have h2 := ih (line + 1) (by omega)
    have e1 : wrap64 ((line : Int) + 1) = ((line + 1 : Nat) : Int) := by rw [w64 (by omega) (by omega)]; omega
    rw [← e1] at h2
    have hi := isq_inner hg hv hin h2 s.toNat 0 (by omega) false false false false false [] ⟨by simp, by simp, by simp, by simp⟩
    rw [List.drop_zero] at hi
    have e2 : (!clashFrom g s line (n + 1)) = (!dupFrom [] (lineVals g s (line : Int)) && !clashFrom g s (line + 1) n) := by simp [clashFrom]
    rw [e2]
    exact Ev.step (fun k => by simp only [impl_SquareFits.l0]; rw [if_pos (by omega)]) (Ev.bind hcells hi)
theorem implSquareFits_ev (g : List Int) (s : Int) (hx : g.length ≤ 9223372036854775807) : Ev (fun k => impl_SquareFits.f k g s) (squareFits g s) := by
  refine Ev.bind (implGridValid_ev g s hx) ?_
  unfold squareFits
  by_cases h : gridValid g s = true
  · obtain ⟨h3, hg, hv, _⟩ := valid_parts h
    rw [h, Bool.true_and]
    have h2 := isq_outer h3 hg hv (2 * s).toNat 0 (by omega)
    exact Ev.congr (fun k => by rw [if_pos rfl, w64 (n := 2 * s) (by omega) (by omega)]; rfl) h2
  · have h' : gridValid g s = false := by simpa using h
    rw [h', Bool.false_and]
    exact Ev.congr (fun k => by rw [if_neg (by decide)]) (Ev.now _)
theorem filled_drop {g : List Int} {i : Nat} (h : i < g.length) : filled (g.drop i) = (if 0 < g[i] then 1 else 0) + filled (g.drop (i + 1)) := by
  rw [drop_get h]
  unfold filled
  rw [List.countP_cons]
  by_cases hp : 0 < g[i]
  · rw [if_pos hp, decide_eq_true hp, if_pos rfl]; omega
  · rw [if_neg hp, decide_eq_false hp, if_neg (by decide)]; omega
def gridFilled (g : List Int) (s : Int) : Int := if gridValid g s = true then (filled g : Int) else -1
theorem igf_loop (g : List Int) (hx : g.length ≤ 1000000) : ∀ n i : Nat, i + n = g.length → ∀ c : Nat, c ≤ i → Ev (fun k => impl_GridFilled.l0 k (c : Int) g (g.length : Int) (i : Int)) ((c + filled (g.drop i) : Nat) : Int) := by
  intro n
  induction n with
  | zero =>
    intro i hi c hc
    rw [List.drop_of_length_le (by omega)]
    exact Ev.step (fun k => by simp only [impl_GridFilled.l0]; rw [if_neg (by omega)]; rfl) (Ev.now _)
  | succ n ih =>
    intro i hi c hc
    have hlt : i < g.length := by omega
    have hw : wrap64 ((i : Int) + 1) = ((i + 1 : Nat) : Int) := wnext (n := g.length) (by omega) (by omega)
    rw [filled_drop hlt]
    by_cases hp : 0 < g[i]
    · have h2 := ih (i + 1) (by omega) (c + 1) (by omega)
      rw [if_pos hp, ← Nat.add_assoc]
      exact Ev.step (fun k => by simp only [impl_GridFilled.l0]; rw [if_pos (by omega), if_pos (by omega), if_pos (by omega), rd_nat hlt, if_pos hp, hw, wnext (i := c) (n := 2000000) (by omega) (by omega)]) h2
    · have h2 := ih (i + 1) (by omega) c (by omega)
      rw [if_neg hp, Nat.zero_add]
      exact Ev.step (fun k => by simp only [impl_GridFilled.l0]; rw [if_pos (by omega), if_pos (by omega), if_pos (by omega), rd_nat hlt, if_neg hp, hw]) h2
theorem implGridFilled_ev (g : List Int) (s : Int) (hx : g.length ≤ 9223372036854775807) : Ev (fun k => impl_GridFilled.f k g s) (gridFilled g s) := by
  refine Ev.bind (implGridValid_ev g s hx) ?_
  unfold gridFilled
  by_cases h : gridValid g s = true
  · obtain ⟨h3, hg, _, _⟩ := valid_parts h
    have hl : g.length ≤ 16 := by rcases h3 with rfl | rfl | rfl <;> omega
    have h2 := igf_loop g (by omega) g.length 0 (by omega) 0 (by omega)
    rw [List.drop_zero, Nat.zero_add] at h2
    rw [if_pos h]
    exact Ev.congr (fun k => by rw [if_pos h]; rfl) h2
  · rw [if_neg h]
    exact Ev.congr (fun k => by rw [if_neg h]) (Ev.now _)
theorem sgf_loop (g : List Int) (hx : g.length ≤ 1000000) : ∀ n i : Nat, i + n = g.length → ∀ c : Nat, c ≤ i → Ev (fun k => spec_GridFilled.l0 k g (c : Int) (i : Int)) ((c + filled (g.drop i) : Nat) : Int) := by
  intro n
  induction n with
  | zero =>
    intro i hi c hc
    rw [List.drop_of_length_le (by omega)]
    exact Ev.step (fun k => by simp only [spec_GridFilled.l0]; rw [if_neg (by omega)]; rfl) (Ev.now _)
  | succ n ih =>
    intro i hi c hc
    have hlt : i < g.length := by omega
    have hw : wrap64 ((i : Int) + 1) = ((i + 1 : Nat) : Int) := wnext (n := g.length) (by omega) (by omega)
    rw [filled_drop hlt]
    by_cases hp : 0 < g[i]
    · have h2 := ih (i + 1) (by omega) (c + 1) (by omega)
      rw [if_pos hp, ← Nat.add_assoc]
      exact Ev.step (fun k => by simp only [spec_GridFilled.l0]; rw [if_pos (by omega), if_pos (by omega), rd_nat hlt, if_pos hp, hw, wnext (i := c) (n := 2000000) (by omega) (by omega)]) h2
    · have h2 := ih (i + 1) (by omega) c (by omega)
      rw [if_neg hp, Nat.zero_add]
      exact Ev.step (fun k => by simp only [spec_GridFilled.l0]; rw [if_pos (by omega), if_pos (by omega), rd_nat hlt, if_neg hp, hw]) h2
theorem specGridFilled_ev (g : List Int) (s : Int) (hx : g.length ≤ 9223372036854775807) : Ev (fun k => spec_GridFilled.f k g s) (gridFilled g s) := by
  refine Ev.bind (specGridValid_ev g s hx) ?_
  unfold gridFilled
  by_cases h : gridValid g s = true
  · obtain ⟨h3, hg, _, _⟩ := valid_parts h
    have hl : g.length ≤ 16 := by rcases h3 with rfl | rfl | rfl <;> omega
    have h2 := sgf_loop g (by omega) g.length 0 (by omega) 0 (by omega)
    rw [List.drop_zero, Nat.zero_add] at h2
    rw [if_pos h]
    exact Ev.congr (fun k => by rw [if_pos h]; rfl) h2
  · rw [if_neg h]
    exact Ev.congr (fun k => by rw [if_neg h]) (Ev.now _)
theorem solved_of_fits {g : List Int} {s : Int} (h : squareFits g s = true) : squareSolved g s = (gridFilled g s == wrap64 (s * s)) := by
  have hv : gridValid g s = true := by unfold squareFits at h; simp only [Bool.and_eq_true] at h; exact h.1
  obtain ⟨h3, hg, _, _⟩ := valid_parts hv
  unfold squareSolved gridFilled
  rw [h, Bool.true_and, if_pos hv, w64 (by rcases h3 with rfl | rfl | rfl <;> decide) (by rcases h3 with rfl | rfl | rfl <;> decide)]
  by_cases e : (filled g : Int) = s * s
  · rw [decide_eq_true e, beq_iff_eq.2 e]
  · rw [decide_eq_false e, beq_eq_false_iff_ne.2 e]
theorem implSquareSolved_ev (g : List Int) (s : Int) (hx : g.length ≤ 9223372036854775807) : Ev (fun k => impl_SquareSolved.f k g s) (squareSolved g s) := by
  refine Ev.bind (implSquareFits_ev g s hx) ?_
  by_cases h : squareFits g s = true
  · rw [solved_of_fits h]
    exact Ev.congr (fun k => by rw [if_pos h]) (Ev.bind (implGridFilled_ev g s hx) (Ev.now _))
  · have e : squareSolved g s = false := by unfold squareSolved; rw [show squareFits g s = false by simpa using h]; rfl
    rw [e]
    exact Ev.congr (fun k => by rw [if_neg h]) (Ev.now _)
theorem specSquareSolved_ev (g : List Int) (s : Int) (hx : g.length ≤ 9223372036854775807) : Ev (fun k => spec_SquareSolved.f k g s) (squareSolved g s) := by
  refine Ev.bind (specSquareFits_ev g s hx) ?_
  by_cases h : squareFits g s = true
  · rw [solved_of_fits h]
    exact Ev.congr (fun k => by rw [if_pos h]) (Ev.bind (specGridFilled_ev g s hx) (Ev.now _))
  · have e : squareSolved g s = false := by unfold squareSolved; rw [show squareFits g s = false by simpa using h]; rfl
    rw [e]
    exact Ev.congr (fun k => by rw [if_neg h]) (Ev.now _)
end Go.Proofs.Ytbcikbekdhdpaaa.Q
end
section
namespace Go.Proofs.Ytbcikbekdhdpaaa.Q
open Go.RowKit Go.Proofs.YtbcikbekdhdpaaaW.PrintWords
set_option linter.unusedSimpArgs false
def Differ (a b : Int) : Prop := 0 < b → a ≠ b
theorem dup_false : ∀ (l seen : List Int), dupFrom seen l = false ↔ (∀ v ∈ l, 0 < v → v ∉ seen) ∧ l.Pairwise Differ
  | [], seen => by simp [dupFrom]
  | v :: r, seen => by
    rw [dupFrom]
    by_cases h : 0 < v ∧ v ∈ seen
    · rw [if_pos h]
      constructor
      · intro e; cases e
      · rintro ⟨e, _⟩
        exact absurd h.2 (e v (by simp) h.1)
    · rw [if_neg h, dup_false r (v :: seen), List.pairwise_cons]
      constructor
      · rintro ⟨a, b⟩
        refine ⟨fun x hx h0 => ?_, fun x hx h0 e => ?_, b⟩
        · rcases List.mem_cons.1 hx with rfl | hx
          · exact fun hm => h ⟨h0, hm⟩
          · exact fun hm => a x hx h0 (List.mem_cons_of_mem _ hm)
        · exact a x hx h0 (by rw [e]; exact List.mem_cons_self)
      · rintro ⟨a, b, c⟩
        refine ⟨fun x hx h0 hm => ?_, c⟩
        rcases List.mem_cons.1 hm with e | hm
        · exact b x hx h0 e.symm
        · exact a x (List.mem_cons_of_mem _ hx) h0 hm
theorem clashFrom_false (g : List Int) (s : Int) : ∀ n line : Nat, clashFrom g s line n = false ↔ ∀ l : Nat, line ≤ l → l < line + n → (lineVals g s (l : Int)).Pairwise Differ
  | 0, line => by simp [clashFrom]; intro l h1 h2; omega
  | n + 1, line => by
    rw [clashFrom, Bool.or_eq_false_iff, dup_false, clashFrom_false g s n (line + 1)]
    constructor
    · rintro ⟨⟨_, a⟩, b⟩ l h1 h2
      rcases Nat.eq_or_lt_of_le h1 with e | e
      · rw [← e]; exact a
      · exact b l (by omega) (by omega)
    · intro h
      exact ⟨⟨fun _ _ _ => by simp, h line (Nat.le_refl _) (by omega)⟩, fun l h1 h2 => h l (by omega) (by omega)⟩
theorem clashB_false {g : List Int} {s : Int} : clashB g s = false ↔ ∀ l : Nat, (l : Int) < 2 * s → (lineVals g s (l : Int)).Pairwise Differ := by
  unfold clashB
  rw [clashFrom_false]
  constructor
  · intro h l hl; exact h l (by omega) (by omega)
  · intro h l _ hl; exact h l (by omega)
def tryVals (f : Int → Nat → List Int × Nat) : Nat → Int → Nat → List Int × Nat
  | 0, _, left => ([], left)
  | m + 1, v, left => if 0 < (f v left).1.length then f v left else tryVals f m (v + 1) (f v left).2
def search (s : Int) : Nat → List Int → Nat → Nat → List Int × Nat
  | 0, g, _, left => if left = 0 then (g, 0) else ([], left - 1)
  | n + 1, g, i, left => tryVals (fun v left => if clashB (g.set i v) s = true then ([], left) else search s n (g.set i v) (i + 1) left) s.toNat 1 left
def sumVals (f : Int → Nat) : Nat → Int → Nat
  | 0, _ => 0
  | m + 1, v => f v + sumVals f m (v + 1)
def cnt (s : Int) : Nat → List Int → Nat → Nat
  | 0, _, _ => 1
  | n + 1, g, i => sumVals (fun v => if clashB (g.set i v) s = true then 0 else cnt s n (g.set i v) (i + 1)) s.toNat 1
theorem cnt2 : cnt 2 4 (List.replicate 4 0) 0 = 2 := by decide +kernel
theorem cnt3 : cnt 3 9 (List.replicate 9 0) 0 = 12 := by decide +kernel
def Tries (len : Nat) (c : Nat) (r : Nat → List Int × Nat) : Prop := ∀ left, (left < c → (r left).1.length = len) ∧ (c ≤ left → r left = ([], left - c))
theorem tries_vals {len : Nat} (hl : 0 < len) {f : Int → Nat → List Int × Nat} {c : Int → Nat} (h : ∀ v, Tries len (c v) (f v)) : ∀ (m : Nat) (v : Int), Tries len (sumVals c m v) (tryVals f m v)
  | 0, v => fun left => ⟨fun h => absurd h (Nat.not_lt_zero _), fun _ => rfl⟩
  | m + 1, v => fun left => by
    have ih := tries_vals hl h m (v + 1)
    obtain ⟨h1, h2⟩ := h v left
    rw [sumVals, tryVals]
    by_cases hc : left < c v
    · have e := h1 hc
      rw [if_pos (by omega)]
      exact ⟨fun _ => e, fun hh => absurd hc (by omega)⟩
    · have e := h2 (by omega)
      rw [e, if_neg (by simp)]
      obtain ⟨i1, i2⟩ := ih (left - c v)
      refine ⟨fun hh => i1 (by omega), fun hh => ?_⟩
      show tryVals f m (v + 1) (left - c v) = _
      rw [i2 (by omega)]
      congr 1
      omega
theorem search_tries (s : Int) : ∀ (n : Nat) (g : List Int) (i : Nat), 0 < g.length → Tries g.length (cnt s n g i) (search s n g i)
  | 0, g, i, hg => fun left => by
    rw [cnt, search]
    constructor
    · intro h
      rw [if_pos (by omega)]
    · intro h
      rw [if_neg (by omega)]
  | n + 1, g, i, hg => by
    intro left
    rw [cnt, search]
    refine tries_vals hg (fun v => ?_) s.toNat 1 left
    intro left
    by_cases hc : clashB (g.set i v) s = true
    · simp only [if_pos hc]
      exact ⟨fun h => absurd h (Nat.not_lt_zero _), fun _ => rfl⟩
    · simp only [if_neg hc]
      have := search_tries s n (g.set i v) (i + 1) (by rw [List.length_set]; exact hg) left
      rw [List.length_set] at this
      exact this
end Go.Proofs.Ytbcikbekdhdpaaa.Q
end
section
namespace Go.Proofs.Ytbcikbekdhdpaaa.Q
open Go.RowKit Go.Proofs.YtbcikbekdhdpaaaW.PrintWords
def at0 : List Nat → Nat → Nat
  | [], _ => 0
  | v :: _, 0 => v
  | _ :: r, n + 1 => at0 r n
def anyC (g : List Nat) (v s r q : Nat) : Nat → Bool
  | 0 => false
  | j + 1 => (at0 g (r * s + j)).beq v || (at0 g (j * s + q)).beq v || anyC g v s r q j
def sumV (f : Nat → Nat) : Nat → Nat → Nat
  | 0, _ => 0
  | m + 1, v => f v + sumV f m (v + 1)
def cntF (s : Nat) : Nat → List Nat → Nat → Nat
  | 0, _, _ => 1
  | n + 1, g, i => sumV (fun v => bif anyC g v s (i / s) (i % s) s then 0 else cntF s n (g.set i v) (i + 1)) s 1
theorem at0_get : ∀ (g : List Nat) (i : Nat), at0 g i = g.getD i 0
  | [], i => by simp [at0]
  | v :: r, 0 => by simp [at0]
  | v :: r, n + 1 => by rw [at0, at0_get r n]; simp
def toInts (g : List Nat) : List Int := g.map Int.ofNat
theorem rd_toInts (g : List Nat) (c : Nat) : rd (toInts g) (c : Int) = (at0 g c : Int) := by
  unfold rd toInts
  rw [Int.toNat_natCast, at0_get, List.getD_eq_getElem?_getD, List.getD_eq_getElem?_getD, List.getElem?_map]
  cases g[c]? <;> rfl
theorem at0_set (g : List Nat) (i v c : Nat) (h : i < g.length) : at0 (g.set i v) c = if c = i then v else at0 g c := by
  rw [at0_get, at0_get, List.getD_eq_getElem?_getD, List.getD_eq_getElem?_getD, List.getElem?_set]
  by_cases e : i = c
  · subst e; simp [h]
  · rw [if_neg e, if_neg (fun h => e h.symm)]
theorem toInts_set (g : List Nat) (i v : Nat) : (toInts g).set i (v : Int) = toInts (g.set i v) := by
  unfold toInts
  rw [List.map_set]; rfl
theorem anyC_false {g : List Nat} {v s r q : Nat} : ∀ n : Nat, anyC g v s r q n = false ↔ ∀ j, j < n → at0 g (r * s + j) ≠ v ∧ at0 g (j * s + q) ≠ v
  | 0 => by simp [anyC]
  | n + 1 => by
    have eb : ∀ a b : Nat, Nat.beq a b = false ↔ a ≠ b := fun a b => by
      rw [← Bool.not_eq_true]; exact not_congr ⟨Nat.eq_of_beq_eq_true, fun h => by rw [h]; exact Nat.beq_refl b⟩
    rw [anyC, Bool.or_eq_false_iff, Bool.or_eq_false_iff, eb, eb, anyC_false n]
    constructor
    · rintro ⟨⟨a, b⟩, c⟩ j hj
      rcases Nat.lt_succ_iff_lt_or_eq.1 hj with h | rfl
      · exact c j h
      · exact ⟨a, b⟩
    · intro h
      exact ⟨h n (Nat.lt_succ_self n), fun j hj => h j (by omega)⟩
def cellN (s l j : Nat) : Nat := if l < s then l * s + j else j * s + (l - s)
def NoTwo (g : List Nat) (s : Nat) : Prop := ∀ l a b : Nat, l < 2 * s → a < b → b < s → 0 < at0 g (cellN s l b) → at0 g (cellN s l a) ≠ at0 g (cellN s l b)
theorem lineAt_nat (s l j : Nat) : lineAt (s : Int) (l : Int) j = (cellN s l j : Int) := by
  unfold lineAt cellN
  by_cases h : l < s
  · rw [if_pos (by omega), if_pos h]; push_cast; rfl
  · rw [if_neg (by omega), if_neg h]
    rw [Int.natCast_add, Int.natCast_mul, Int.natCast_sub (by omega)]
    omega
theorem noTwo_iff (g : List Nat) (s : Nat) : clashB (toInts g) (s : Int) = false ↔ NoTwo g s := by
  rw [clashB_false]
  have hv : ∀ l : Nat, (lineVals (toInts g) (s : Int) (l : Int)).Pairwise Differ ↔ ∀ a b : Nat, a < b → b < s → 0 < at0 g (cellN s l b) → at0 g (cellN s l a) ≠ at0 g (cellN s l b) := by
    intro l
    have hlen : (lineVals (toInts g) (s : Int) (l : Int)).length = s := by unfold lineVals; rw [List.length_map, lineC_len, Int.toNat_natCast]
    have hget : ∀ (j : Nat) (h : j < (lineVals (toInts g) (s : Int) (l : Int)).length), (lineVals (toInts g) (s : Int) (l : Int))[j] = (at0 g (cellN s l j) : Int) := by
      intro j h
      have hj : j < (lineC (s : Int) (l : Int)).length := by rw [lineC_len, Int.toNat_natCast]; omega
      have e : (lineVals (toInts g) (s : Int) (l : Int))[j] = rd (toInts g) ((lineC (s : Int) (l : Int))[j]) := by simp only [lineVals, List.getElem_map]
      rw [e, lineC_get hj, lineAt_nat, rd_toInts]
    rw [List.pairwise_iff_getElem]
    constructor
    · intro h a b hab hb h0 e
      have := h a b (by omega) (by omega) hab
      rw [hget, hget] at this
      exact this (by omega) (by rw [e])
    · intro h a b ha hb hab
      rw [hget, hget]
      intro h0 e
      exact h a b hab (by omega) (by omega) (by omega)
  constructor
  · intro h l a b hl
    exact (hv l).1 (h l (by omega)) a b
  · intro h l hl
    exact (hv l).2 (fun a b hab hb => h l a b (by omega) hab hb)
theorem cntF4 : (cntF 4 16 (List.replicate 16 0) 0).beq 576 = true := by kernel_rfl
end Go.Proofs.Ytbcikbekdhdpaaa.Q
end
section
namespace Go.Proofs.Ytbcikbekdhdpaaa.Q
open Go.RowKit Go.Proofs.YtbcikbekdhdpaaaW.PrintWords
set_option linter.unusedSimpArgs false
theorem tryVals_le {f : Int → Nat → List Int × Nat} (h : ∀ v left, (f v left).2 ≤ left) : ∀ (m : Nat) (v : Int) (left : Nat), (tryVals f m v left).2 ≤ left
  | 0, _, left => Nat.le_refl _
  | m + 1, v, left => by
    rw [tryVals]
    split
    · exact h v left
    · exact Nat.le_trans (tryVals_le h m (v + 1) _) (h v left)
theorem search_le (s : Int) : ∀ (n : Nat) (g : List Int) (i left : Nat), (search s n g i left).2 ≤ left
  | 0, g, i, left => by
    rw [search]
    split
    · exact Nat.zero_le _
    · exact Nat.sub_le _ _
  | n + 1, g, i, left => by
    rw [search]
    refine tryVals_le (fun v left => ?_) _ _ _
    split
    · exact Nat.le_refl _
    · exact search_le s n _ _ _
theorem small_set {g : List Int} {i : Nat} {v : Int} (h : small g) (h0 : 0 ≤ v) (h4 : v ≤ 4) : small (g.set i v) := fun x hx => by
  rcases List.mem_or_eq_of_mem_set hx with hx | rfl
  · exact h x hx
  · exact ⟨h0, h4⟩
theorem l2Search_ev {s : Int} (h3 : s = 2 ∨ s = 3 ∨ s = 4) : ∀ (n : Nat) (g : List Int) (i : Nat), i + n = g.length → (g.length : Int) = s * s → small g → ∀ left : Nat, left ≤ 1000000 →
    Ev (fun k => spec_l2Search.f k g s (i : Int) (left : Int)) ((search s n g i left).1, ((search s n g i left).2 : Int)) := by
  intro n
  induction n with
  | zero =>
    intro g i hi hg hs left hl
    rw [search]
    by_cases h : left = 0
    · rw [if_pos h]
      subst h
      exact Ev.step (fun k => by simp only [spec_l2Search.f]; rw [if_pos (by omega), if_pos (by rfl)]) (Ev.now _)
    · rw [if_neg h]
      exact Ev.step (fun k => by simp only [spec_l2Search.f]; rw [if_pos (by omega), if_neg (by omega), w64 (by omega) (by omega), show (left : Int) - 1 = ((left - 1 : Nat) : Int) by omega]) (Ev.now _)
  | succ n ih =>
    intro g i hi hg hs left hl
    have hgl : g.length ≤ 16 := by rcases h3 with rfl | rfl | rfl <;> omega
    have loop : ∀ (m : Nat) (v : Int), v + (m : Int) = s + 1 → 1 ≤ v → ∀ left : Nat, left ≤ 1000000 →
        Ev (fun k => spec_l2Search.l0 k g s (i : Int) v (left : Int)) ((tryVals (fun v left => if clashB (g.set i v) s = true then ([], left) else search s n (g.set i v) (i + 1) left) m v left).1, ((tryVals (fun v left => if clashB (g.set i v) s = true then ([], left) else search s n (g.set i v) (i + 1) left) m v left).2 : Int)) := by
      intro m
      induction m with
      | zero =>
        intro v hv h1 left hl
        exact Ev.step (fun k => by simp only [spec_l2Search.l0]; rw [if_neg (by omega)]; rfl) (Ev.now _)
      | succ m ihm =>
        intro v hv h1 left hl
        have hs2 : small (g.set i v) := small_set hs (by omega) (by omega)
        have hg2 : ((g.set i v).length : Int) = s * s := by rw [List.length_set]; exact hg
        have hcl := specClash_ev h3 hg2 hs2
        have hw : wrap64 (v + 1) = v + 1 := w64 (by omega) (by omega)
        rw [tryVals]
        refine Ev.step (f := fun k => (spec_l2Clash.f k (g.set i v) s).bind fun t174 => (if t174 = true then (spec_l2Search.l0 k g s (i : Int) (wrap64 (v + 1)) (left : Int)) else ((spec_l2Search.f k (g.set i v) s (wrap64 ((i : Int) + 1)) (left : Int)).bind fun bt175 => (if (bt175.1.length : Int) > 0 then (some (bt175.1, bt175.2)) else (spec_l2Search.l0 k g s (i : Int) (wrap64 (v + 1)) bt175.2))))) (fun k => ?_) (Ev.bind hcl ?_)
        · simp only [spec_l2Search.l0]
          rw [if_pos (by omega)]
          simp only [Option.bind_some, List.nil_append, List.length_nil, Nat.zero_add]
          rw [if_pos (by omega), if_pos (by omega), if_pos (by omega), Int.toNat_natCast]
        · rw [hw]
          by_cases hc : clashB (g.set i v) s = true
          · simp only [if_pos hc]
            rw [if_neg (by simp)]
            exact ihm (v + 1) (by omega) (by omega) left hl
          · simp only [if_neg hc]
            have hsr := ih (g.set i v) (i + 1) (by rw [List.length_set]; omega) hg2 hs2 left hl
            have hle := search_le s n (g.set i v) (i + 1) left
            have hwi : wrap64 ((i : Int) + 1) = ((i + 1 : Nat) : Int) := by rw [w64 (by omega) (by omega)]; omega
            rw [hwi]
            refine Ev.bind hsr ?_
            by_cases hp : 0 < (search s n (g.set i v) (i + 1) left).1.length
            · rw [if_pos hp]
              exact Ev.congr (f := fun _ => some _) (fun k => by dsimp only; rw [if_pos (by omega)]) (Ev.now _)
            · rw [if_neg hp]
              exact Ev.congr (f := fun k => spec_l2Search.l0 k g s (i : Int) (v + 1) ((search s n (g.set i v) (i + 1) left).2 : Int)) (fun k => by dsimp only; rw [if_neg (by omega)]) (ihm (v + 1) (by omega) (by omega) _ (by omega))
    rw [search]
    exact Ev.step (fun k => by simp only [spec_l2Search.f]; rw [if_neg (by omega)]) (loop s.toNat 1 (by omega) (by omega) left hl)
end Go.Proofs.Ytbcikbekdhdpaaa.Q
end
section
namespace Go.Proofs.Ytbcikbekdhdpaaa.Q
open Go.RowKit Go.Proofs.YtbcikbekdhdpaaaW.PrintWords
theorem cell_row {s i : Nat} (_hs : s = 2 ∨ s = 3 ∨ s = 4) (h : i < s * s) (j : Nat) : cellN s (i / s) j = i / s * s + j ∧ i / s < s := by
  have : i / s < s := Nat.div_lt_of_lt_mul h
  unfold cellN
  rw [if_pos this]
  exact ⟨rfl, this⟩
theorem cell_col {s : Nat} (q j : Nat) : cellN s (s + q) j = j * s + q := by
  unfold cellN
  rw [if_neg (by omega)]
  congr 1
  omega
theorem at_pos {s i : Nat} (hs : s = 2 ∨ s = 3 ∨ s = 4) (h : i < s * s) : i / s * s + i % s = i ∧ i % s < s := by
  rcases hs with rfl | rfl | rfl <;> omega
theorem cell_inj {s l a b : Nat} (h : cellN s l a = cellN s l b) (hs : 0 < s) : a = b := by
  unfold cellN at h
  split at h
  · omega
  · have h2 : a * s = b * s := by omega
    exact Nat.eq_of_mul_eq_mul_right hs h2
theorem cell_lines {s i l a : Nat} (hs : s = 2 ∨ s = 3 ∨ s = 4) (hl : l < 2 * s) (ha : a < s) (e : cellN s l a = i) : (l = i / s ∧ a = i % s) ∨ (l = s + i % s ∧ a = i / s) := by
  unfold cellN at e
  split at e
  · left
    rcases hs with rfl | rfl | rfl <;> omega
  · right
    rcases hs with rfl | rfl | rfl <;> omega
theorem noTwo_set {g : List Nat} {s i v : Nat} (hs : s = 2 ∨ s = 3 ∨ s = 4) (hg : g.length = s * s) (hi : i < s * s) (h0 : at0 g i = 0) (hv : 1 ≤ v) (hn : NoTwo g s) :
    NoTwo (g.set i v) s ↔ anyC g v s (i / s) (i % s) s = false := by
  have hs0 : 0 < s := by omega
  have hil : i < g.length := by omega
  obtain ⟨hp, hq⟩ := at_pos hs hi
  have hr : i / s < s := Nat.div_lt_of_lt_mul hi
  have hrow : cellN s (i / s) (i % s) = i := by rw [(cell_row hs hi _).1]; exact hp
  have hcol : cellN s (s + i % s) (i / s) = i := by rw [cell_col]; exact hp
  -- on a line l through i at place p: no other place holds v
  have key : NoTwo (g.set i v) s → ∀ l p : Nat, l < 2 * s → p < s → cellN s l p = i → ∀ j, j < s → at0 g (cellN s l j) ≠ v := by
    intro h l p hl hp' e j hj hh
    rcases Nat.lt_trichotomy j p with hjp | rfl | hjp
    · have := h l j p hl hjp hp'
      rw [at0_set _ _ _ _ hil, at0_set _ _ _ _ hil, if_pos e, if_neg (fun hx => absurd (cell_inj (hx.trans e.symm) hs0) (by omega))] at this
      exact this (by omega) hh
    · rw [e, h0] at hh; omega
    · have := h l p j hl hjp hj
      rw [at0_set _ _ _ _ hil, at0_set _ _ _ _ hil, if_pos e, if_neg (fun hx => absurd (cell_inj (hx.trans e.symm) hs0) (by omega))] at this
      exact this (by omega) hh.symm
  rw [anyC_false]
  constructor
  · intro h j hj
    refine ⟨?_, ?_⟩
    · have := key h (i / s) (i % s) (by omega) hq hrow j hj
      rw [(cell_row hs hi _).1] at this
      exact this
    · have := key h (s + i % s) (i / s) (by omega) hr hcol j hj
      rw [cell_col] at this
      exact this
  · intro h
    have other : ∀ l a b : Nat, l < 2 * s → a < s → b < s → cellN s l a = i → at0 g (cellN s l b) ≠ v := by
      intro l a b hl ha hb e
      rcases cell_lines hs hl ha e with ⟨rfl, rfl⟩ | ⟨rfl, rfl⟩
      · rw [(cell_row hs hi _).1]; exact (h b hb).1
      · rw [cell_col]; exact (h b hb).2
    intro l a b hl hab hb
    rw [at0_set _ _ _ _ hil, at0_set _ _ _ _ hil]
    by_cases ea : cellN s l a = i
    · have eb : ¬ cellN s l b = i := fun eb => absurd (cell_inj (ea.trans eb.symm) hs0) (by omega)
      rw [if_pos ea, if_neg eb]
      intro _ e
      exact other l a b hl (by omega) hb ea e.symm
    · rw [if_neg ea]
      by_cases eb : cellN s l b = i
      · rw [if_pos eb]
        intro _
        exact other l b a hl hb (by omega) eb
      · rw [if_neg eb]
        exact hn l a b hl hab hb
theorem sum_same {f : Int → Nat} {f' : Nat → Nat} : ∀ (m v : Nat), (∀ u, v ≤ u → f (u : Int) = f' u) → sumVals f m (v : Int) = sumV f' m v
  | 0, _, _ => rfl
  | m + 1, v, h => by
    rw [sumVals, sumV, h v (Nat.le_refl _), show (v : Int) + 1 = ((v + 1 : Nat) : Int) by push_cast; rfl, sum_same m (v + 1) (fun u hu => h u (by omega))]
theorem cnt_same {s : Nat} (hs : s = 2 ∨ s = 3 ∨ s = 4) : ∀ (n : Nat) (g : List Nat) (i : Nat), i + n = s * s → g.length = s * s → NoTwo g s → (∀ c, i ≤ c → at0 g c = 0) → cnt (s : Int) n (toInts g) i = cntF s n g i
  | 0, _, _, _, _, _, _ => rfl
  | n + 1, g, i, hi, hg, hn, hz => by
    rw [cnt, cntF, Int.toNat_natCast]
    refine sum_same s 1 (fun u hu => ?_)
    have hset := noTwo_set hs hg (i := i) (by omega) (hz i (Nat.le_refl _)) hu hn
    rw [toInts_set]
    by_cases hc : anyC g u s (i / s) (i % s) s = true
    · have hcl : clashB (toInts (g.set i u)) (s : Int) = true := by
        rw [← Bool.not_eq_false, noTwo_iff, hset, hc]; decide
      rw [if_pos hcl, hc]; rfl
    · have hc' : anyC g u s (i / s) (i % s) s = false := by simpa using hc
      have hn' : NoTwo (g.set i u) s := hset.2 hc'
      have hcl : clashB (toInts (g.set i u)) (s : Int) = false := (noTwo_iff _ _).2 hn'
      rw [hcl, if_neg (by decide), hc']
      show cnt (s : Int) n (toInts (g.set i u)) (i + 1) = cntF s n (g.set i u) (i + 1)
      refine cnt_same hs n (g.set i u) (i + 1) (by omega) (by rw [List.length_set]; exact hg) hn' (fun c hc => ?_)
      rw [at0_set _ _ _ _ (by omega), if_neg (by omega)]
      exact hz c (by omega)
theorem cnt4 : cnt 4 16 (List.replicate 16 0) 0 = 576 := by
  have hz : ∀ c, at0 (List.replicate 16 0) c = 0 := fun c => by
    rw [at0_get, List.getD_eq_getElem?_getD, List.getElem?_replicate]
    split <;> rfl
  have h := cnt_same (s := 4) (by omega) 16 (List.replicate 16 0) 0 (by omega) (by simp) (fun l a b _ _ _ h => by rw [hz] at h; omega) (fun c _ => hz c)
  have h2 := Nat.eq_of_beq_eq_true cntF4
  rw [h2] at h
  exact h
end Go.Proofs.Ytbcikbekdhdpaaa.Q
end
section
namespace Go.Proofs.Ytbcikbekdhdpaaa.Q
open Go.RowKit Go.Proofs.YtbcikbekdhdpaaaW.PrintWords
set_option linter.unusedVariables false
def Ends {α : Type} (g : Nat → Option α) (P : α → Prop) : Prop := ∃ r, P r ∧ Ev g r
section
variable {α β : Type} {g f : Nat → Option α} {P : α → Prop}
theorem Ends.bind {g : Nat → Option β} {f : Nat → β → Option α} {R : β → Prop} (h : Ends g R) (k : ∀ a, R a → Ends (fun n => f n a) P) : Ends (fun n => (g n).bind (f n)) P := by
  obtain ⟨a, ha, hg⟩ := h
  obtain ⟨r, hr, hf⟩ := k a ha
  exact ⟨r, hr, Ev.bind hg hf⟩
theorem Ends.bindE {g : Nat → Option β} {f : Nat → β → Option α} {a : β} (h : Ev g a) (k : Ends (fun n => f n a) P) : Ends (fun n => (g n).bind (f n)) P := by
  obtain ⟨r, hr, hf⟩ := k
  exact ⟨r, hr, Ev.bind h hf⟩
theorem Ends.some {r : α} (h : P r) : Ends (fun _ => some r) P := ⟨r, h, Ev.now r⟩
theorem Ends.of_ev {r : α} (h : Ev g r) (hp : P r) : Ends g P := ⟨r, hp, h⟩
theorem Ends.step (h : ∀ k, g (k + 1) = f k) (k : Ends f P) : Ends g P := by
  obtain ⟨r, hr, hf⟩ := k
  exact ⟨r, hr, Ev.step h hf⟩
theorem Ends.congr (h : ∀ k, g k = f k) (k : Ends f P) : Ends g P := by
  obtain ⟨r, hr, hf⟩ := k
  exact ⟨r, hr, Ev.congr h hf⟩
theorem Ends.yes {c : Prop} [Decidable c] {a b : Nat → Option α} (h : c) (k : Ends a P) : Ends (fun n => if c then a n else b n) P := Ends.congr (fun n => if_pos h) k
theorem Ends.no {c : Prop} [Decidable c] {a b : Nat → Option α} (h : ¬ c) (k : Ends b P) : Ends (fun n => if c then a n else b n) P := Ends.congr (fun n => if_neg h) k
theorem Ends.dec {c : Prop} [Decidable c] {a b : Nat → Option α} (h : c → Ends a P) (k : ¬ c → Ends b P) : Ends (fun n => if c then a n else b n) P := by
  by_cases hc : c
  · exact Ends.yes hc (h hc)
  · exact Ends.no hc (k hc)
theorem Ends.tt {a b : Nat → Option α} (k : Ends a P) : Ends (fun n => if true = true then a n else b n) P := Ends.congr (fun n => if_pos rfl) k
theorem Ends.ff {a b : Nat → Option α} (k : Ends b P) : Ends (fun n => if false = true then a n else b n) P := Ends.congr (fun n => if_neg (by decide)) k
theorem Ends.mono {Q : α → Prop} (h : Ends g P) (hq : ∀ r, P r → Q r) : Ends g Q := by
  obtain ⟨r, hr, hf⟩ := h
  exact ⟨r, hq r hr, hf⟩
theorem Ends.someB {f : Nat → β → Option α} {a : β} (k : Ends (fun n => f n a) P) : Ends (fun n => (Option.some a).bind (f n)) P := Ends.congr (fun _ => rfl) k
theorem Ends.rounds {g : Nat → Option Bool} (h : Ends g (· = true)) : ∃ k, g k = Option.some true := by
  obtain ⟨r, rfl, hf⟩ := h
  exact hf.rounds
theorem Ends.ev {r : α} (h : Ends g (· = r)) : Ev g r := by
  obtain ⟨_, rfl, hf⟩ := h
  exact hf
end
theorem Ev.yes {α : Type} {c : Prop} [Decidable c] {a b : Nat → Option α} {r : α} (h : c) (k : Ev a r) : Ev (fun n => if c then a n else b n) r := Ev.congr (fun n => if_pos h) k
theorem Ev.no {α : Type} {c : Prop} [Decidable c] {a b : Nat → Option α} {r : α} (h : ¬ c) (k : Ev b r) : Ev (fun n => if c then a n else b n) r := Ev.congr (fun n => if_neg h) k
theorem Ev.someB {α β : Type} {f : Nat → β → Option α} {a : β} {r : α} (k : Ev (fun n => f n a) r) : Ev (fun n => (some a).bind (f n)) r := Ev.congr (fun _ => rfl) k
end Go.Proofs.Ytbcikbekdhdpaaa.Q
end
section
namespace Go.Proofs.Ytbcikbekdhdpaaa.Q
open Go.RowKit Go.Proofs.YtbcikbekdhdpaaaW.PrintWords
set_option linter.unusedSimpArgs false
set_option linter.unusedVariables false
theorem pick_e {s : List Int} (hs : Code s) {p n : Int} (hp : 0 ≤ p) (hp1 : p ≤ 1000000000) (hn : 1 ≤ n) : Ends (fun k => spec_l20Rd_pick.f k s p n) (fun q => 0 ≤ q.1 ∧ q.1 < n ∧ q.2 = p + 1) := by
  obtain ⟨r, h0, h1, h⟩ := pick_ok 0 s p n hs hp hp1 hn
  exact Ends.of_ev (Ev.of (k := 0 + 1) (fun k => spec_l20Rd_pick.mono s p n k) h) ⟨h0, h1, rfl⟩
theorem odd_e {s : List Int} (hs : Code s) {p n : Int} (hp : 0 ≤ p) (hp1 : p ≤ 1000000000) (hn : 0 ≤ n) (hn2 : n ≤ 1000) : Ends (fun k => spec_l20Rd_odd.f k s p n) (fun q => p ≤ q.2 ∧ q.2 ≤ p + 1 ∧ (n = 0 → q.1 = false)) := by
  unfold spec_l20Rd_odd.f
  refine Ends.dec (fun h => ?_) (fun h => ?_)
  · refine Ends.bind (pick_e hs hp hp1 (by omega)) ?_
    rintro ⟨r, q⟩ ⟨h0, h1, rfl⟩
    exact Ends.some ⟨by dsimp only; omega, by dsimp only; omega, fun h => by omega⟩
  · exact Ends.some ⟨by dsimp only; omega, by dsimp only; omega, fun _ => rfl⟩
theorem size_e {s : List Int} (hs : Code s) {p n : Int} (hp : 0 ≤ p) (hp1 : p ≤ 100000000) (h0 : 0 ≤ n) (hn : n ≤ 1000) :
    Ends (fun k => spec_l20Size.f k s p n) (fun q => -1 ≤ q.1 ∧ q.1 ≤ 5 ∧ (n = 0 → q.1 = 2 ∨ q.1 = 3 ∨ q.1 = 4) ∧ p ≤ q.2 ∧ q.2 ≤ p + 2) := by
  unfold spec_l20Size.f
  refine Ends.bind (odd_e hs hp (by omega) h0 hn) ?_
  rintro ⟨b, q⟩ ⟨q0, q1, hb⟩
  dsimp only at q0 q1 hb ⊢
  cases b with
  | true =>
    refine Ends.yes rfl (Ends.someB ?_)
    refine Ends.bind (pick_e hs (p := q) (n := 3) (by omega) (by omega) (by omega)) ?_
    rintro ⟨r, q⟩ ⟨r0, r1, rfl⟩
    dsimp only at r0 r1 ⊢
    refine Ends.yes r0 (Ends.yes (show r < 3 from r1) (Ends.some ?_))
    have hr : r = 0 ∨ r = 1 ∨ r = 2 := by omega
    have hin : -1 ≤ rd ([1, 5, (-1)] : List Int) r ∧ rd ([1, 5, (-1)] : List Int) r ≤ 5 := by rcases hr with rfl | rfl | rfl <;> decide
    exact ⟨hin.1, hin.2, (fun e => by cases hb e), by dsimp only; omega, by dsimp only; omega⟩
  | false =>
    refine Ends.no (by decide) (Ends.someB ?_)
    refine Ends.bind (pick_e hs (p := q) (n := 5) (by omega) (by omega) (by omega)) ?_
    rintro ⟨r, q⟩ ⟨r0, r1, rfl⟩
    dsimp only at r0 r1 ⊢
    refine Ends.yes r0 (Ends.yes (show r < 5 from r1) (Ends.some ?_))
    have hr : r = 0 ∨ r = 1 ∨ r = 2 ∨ r = 3 ∨ r = 4 := by omega
    have hin : rd ([2, 3, 3, 4, 4] : List Int) r = 2 ∨ rd ([2, 3, 3, 4, 4] : List Int) r = 3 ∨ rd ([2, 3, 3, 4, 4] : List Int) r = 4 := by rcases hr with rfl | rfl | rfl | rfl | rfl <;> decide
    exact ⟨by dsimp only; omega, by dsimp only; omega, fun _ => hin, by dsimp only; omega, by dsimp only; omega⟩
theorem small_zeros (n : Nat) : small (List.replicate n 0) := fun v hv => by rw [List.eq_of_mem_replicate hv]; omega
theorem number_e {size num : Int} (h3 : size = 2 ∨ size = 3 ∨ size = 4) (h0 : 0 ≤ num) (h2 : size = 2 → num < 2) (hh3 : size = 3 → num < 12) (h4 : size = 4 → num < 576) :
    Ends (fun k => spec_SquareNumber.f k size num) (fun g => (g.length : Int) = size * size) := by
  obtain ⟨left, rfl⟩ := Int.eq_ofNat_of_zero_le h0
  have hw : wrap64 (size * size) = size * size := by rcases h3 with rfl | rfl | rfl <;> exact w64 (by decide) (by decide)
  have hn : ∃ n : Nat, size * size = (n : Int) ∧ 0 < n ∧ n ≤ 16 ∧ left < cnt size n (List.replicate n 0) 0 := by
    rcases h3 with rfl | rfl | rfl
    · exact ⟨4, rfl, by omega, by omega, by rw [cnt2]; have := h2 rfl; omega⟩
    · exact ⟨9, rfl, by omega, by omega, by rw [cnt3]; have := hh3 rfl; omega⟩
    · exact ⟨16, rfl, by omega, by omega, by rw [cnt4]; have := h4 rfl; omega⟩
  obtain ⟨n, en, n0, n16, hc⟩ := hn
  have hbig : left ≤ 1000000 := by
    rcases h3 with rfl | rfl | rfl
    · have := h2 rfl; omega
    · have := hh3 rfl; omega
    · have := h4 rfl; omega
  have hs := l2Search_ev h3 n (List.replicate n 0) 0 (by simp) (by rw [List.length_replicate]; omega) (small_zeros n) left hbig
  have ht := ((search_tries size n (List.replicate n 0) 0 (by rw [List.length_replicate]; omega)) left).1 hc
  rw [List.length_replicate] at ht
  unfold spec_SquareNumber.f
  rw [l1In_eq, decide_eq_true (show 2 ≤ size ∧ size ≤ 4 by omega), hw, en]
  refine Ends.someB (Ends.yes rfl (Ends.no (by omega) (Ends.yes (by omega) (Ends.yes (by omega) ?_))))
  rw [Int.toNat_natCast]
  refine Ends.bindE hs (Ends.someB ?_)
  refine Ends.yes (by rw [List.length_nil, ht]; omega) (Ends.some ?_)
  rw [List.nil_append, ht]
theorem solved_e {s : List Int} (hs : Code s) {p size : Int} (hp : 0 ≤ p) (hp1 : p ≤ 100000000) (h3 : size = 2 ∨ size = 3 ∨ size = 4) :
    Ends (fun k => spec_l20Solved.f k s p size) (fun q => (q.1.length : Int) = size * size ∧ p ≤ q.2 ∧ q.2 ≤ p + 2) := by
  unfold spec_l20Solved.f
  refine Ends.someB ?_
  rw [w64 (n := size - 2) (by omega) (by omega)]
  refine Ends.yes (by omega) (Ends.yes (show size - 2 < 3 by omega) ?_)
  refine Ends.bind (pick_e hs hp (by omega) (by omega)) ?_
  rintro ⟨a, q⟩ ⟨a0, a1, rfl⟩
  dsimp only at a0 a1 ⊢
  refine Ends.bind (pick_e hs (p := p + 1) (by omega) (by omega) (by omega)) ?_
  rintro ⟨b, q⟩ ⟨b0, b1, rfl⟩
  dsimp only at b0 b1 ⊢
  rw [w64 (n := a * 3) (by omega) (by omega), w64 (n := a * 3 + b) (by omega) (by omega)]
  have hr : (size = 2 → rd ([2, 12, 576] : List Int) (size - 2) = 2) ∧ (size = 3 → rd ([2, 12, 576] : List Int) (size - 2) = 12) ∧ (size = 4 → rd ([2, 12, 576] : List Int) (size - 2) = 576) := ⟨fun h => by subst h; rfl, fun h => by subst h; rfl, fun h => by subst h; rfl⟩
  generalize rd ([2, 12, 576] : List Int) (size - 2) = many at hr ⊢
  have hm : 1 ≤ many := by
    rcases h3 with h | h | h
    · have := hr.1 h; omega
    · have := hr.2.1 h; omega
    · have := hr.2.2 h; omega
  refine Ends.no (by omega) ?_
  obtain ⟨t0, t1⟩ := tmod_in (x := a * 3 + b) (by omega) hm
  refine Ends.bind (number_e h3 t0 (fun h => by have := hr.1 h; omega) (fun h => by have := hr.2.1 h; omega) (fun h => by have := hr.2.2 h; omega)) (fun g hg => Ends.some ?_)
  exact ⟨hg, by dsimp only; omega, by dsimp only; omega⟩
end Go.Proofs.Ytbcikbekdhdpaaa.Q
end
section
namespace Go.Proofs.Ytbcikbekdhdpaaa.Q
open Go.RowKit Go.Proofs.YtbcikbekdhdpaaaW.PrintWords
set_option linter.unusedSimpArgs false
set_option linter.unusedVariables false
def GridP (p0 c : Int) (q : List Int × Int × Int) : Prop := q.1.length ≤ 16 ∧ -1 ≤ q.2.1 ∧ q.2.1 ≤ 5 ∧ p0 ≤ q.2.2 ∧ q.2.2 ≤ p0 + c
theorem GridP.mk {p0 c : Int} {l : List Int} {x p : Int} (h : l.length ≤ 16) (h1 : -1 ≤ x) (h2 : x ≤ 5) (h3 : p0 ≤ p) (h4 : p ≤ p0 + c) : GridP p0 c (l, x, p) := ⟨h, h1, h2, h3, h4⟩
theorem grid_l1 {s : List Int} (hs : Code s) {size : Int} (h3 : size = 2 ∨ size = 3 ∨ size = 4) {nn : Int} (hn0 : 0 ≤ nn) (hn1 : nn ≤ 1000) {p0 : Int} (hp0 : 0 ≤ p0) (hp1 : p0 ≤ 2000000) : ∀ (n : Nat) (k9 : Int) (l : List Int) (p : Int), k9 ≤ (n : Int) + 1 → k9 ≤ 10 → -10 ≤ k9 → 1 ≤ l.length → l.length ≤ 16 → p0 ≤ p → p ≤ p0 + 100 - 2 * (n : Int) → n ≤ 10 →
    Ends (fun k => spec_l20Grid.l1 k nn size k9 l s p) (GridP p0 120) := by
  have hw : wrap64 (size + 1) = size + 1 := w64 (by omega) (by omega)
  intro n
  induction n with
  | zero =>
    intro k9 l p hk hk1 hk2 h1 h16 h0 hp hn
    refine Ends.step (fun k => by simp only [spec_l20Grid.l1]; rfl) (Ends.no (by omega) ?_)
    refine Ends.bind (odd_e hs (p := p) (by omega) (by omega) hn0 hn1) ?_
    rintro ⟨b, q⟩ ⟨q0, q1, _⟩
    dsimp only at q0 q1 ⊢
    refine Ends.dec (fun _ => ?_) (fun _ => Ends.some (GridP.mk h16 (by omega) (by omega) (by omega) (by omega)))
    refine Ends.bind (pick_e hs (p := q) (by omega) (by omega) (by omega)) ?_
    rintro ⟨r, q2⟩ ⟨r0, r1, rfl⟩
    dsimp only at r0 r1 ⊢
    refine Ends.dec (fun _ => ?_) (fun _ => Ends.dec (fun _ => ?_) (fun _ => ?_))
    · refine Ends.bind (pick_e hs (p := q + 1) (by omega) (by omega) (by omega)) ?_
      rintro ⟨u, q2⟩ ⟨u0, u1, rfl⟩
      dsimp only at u0 u1 ⊢
      refine Ends.someB ?_
      refine Ends.bind (pick_e hs (p := q + 1 + 1) (by omega) (by omega) (by omega)) ?_
      rintro ⟨v, q2⟩ ⟨v0, v1, rfl⟩
      dsimp only at v0 v1 ⊢
      refine Ends.yes v0 (Ends.yes (show v < 2 from v1) (Ends.yes u0 (Ends.yes u1 (Ends.some ?_))))
      exact GridP.mk (by rw [List.length_set]; omega) (by omega) (by omega) (by omega) (by omega)
    · refine Ends.yes (by omega) (Ends.some ?_)
      exact GridP.mk (by rw [List.length_drop]; omega) (by omega) (by omega) (by omega) (by omega)
    · refine Ends.bind (size_e hs (p := q + 1) (n := 1) (by omega) (by omega) (by omega) (by omega)) ?_
      rintro ⟨x, q2⟩ ⟨x0, x1, _, x2, x3⟩
      dsimp only at x0 x1 x2 x3 ⊢
      exact Ends.some (GridP.mk h16 x0 x1 (by omega) (by omega))
  | succ n ih =>
    intro k9 l p hk hk1 hk2 h1 h16 h0 hp hn
    by_cases hgt : k9 > 1
    · refine Ends.step (fun k => by simp only [spec_l20Grid.l1]; rfl) (Ends.yes hgt ?_)
      refine Ends.bind (pick_e hs (p := p) (by omega) (by omega) (by omega)) ?_
      rintro ⟨u, q2⟩ ⟨u0, u1, rfl⟩
      dsimp only at u0 u1 ⊢
      rw [hw]
      refine Ends.bind (pick_e hs (p := p + 1) (by omega) (by omega) (by omega)) ?_
      rintro ⟨v, q2⟩ ⟨v0, v1, rfl⟩
      dsimp only at v0 v1 ⊢
      rw [w64 (n := k9 - 1) (by omega) (by omega)]
      exact Ends.yes u0 (Ends.yes u1 (ih (k9 - 1) _ _ (by omega) (by omega) (by omega) (by rw [List.length_set]; omega) (by rw [List.length_set]; omega) (by omega) (by omega) (by omega)))
    · exact ih k9 l p (by omega) (by omega) (by omega) h1 h16 h0 (by omega) (by omega)
theorem grid_l0 {s : List Int} (hs : Code s) {size : Int} (h3 : size = 2 ∨ size = 3 ∨ size = 4) {nn : Int} (hn0 : 0 ≤ nn) (hn1 : nn ≤ 1000) (h8 : Int) {p0 : Int} (hp0 : 0 ≤ p0) (hp1 : p0 ≤ 1000000) : ∀ (n i : Nat) (l : List Int) (p : Int), i + n = l.length → 1 ≤ l.length → l.length ≤ 16 → p0 ≤ p → p ≤ p0 + i →
    Ends (fun k => spec_l20Grid.l0 k nn size h8 (i : Int) l s p) (GridP p0 150) := by
  intro n
  induction n with
  | zero =>
    intro i l p hi h1 h16 h0 hp
    refine Ends.step (fun k => by simp only [spec_l20Grid.l0]; rfl) (Ends.no (by omega) ?_)
    refine Ends.bind (pick_e hs (p := p) (by omega) (by omega) (by omega)) ?_
    rintro ⟨u, q2⟩ ⟨u0, u1, rfl⟩
    dsimp only at u0 u1 ⊢
    refine (grid_l1 hs h3 hn0 hn1 (p0 := p + 1) (by omega) (by omega) 3 u l (p + 1) (by omega) (by omega) (by omega) h1 h16 (by omega) (by omega) (by omega)).mono ?_
    rintro ⟨x, y, z⟩ ⟨a, b, c, d, e⟩
    dsimp only at a b c d e
    exact GridP.mk a b c (by omega) (by omega)
  | succ n ih =>
    intro i l p hi h1 h16 h0 hp
    have hw : wrap64 ((i : Int) + 1) = ((i + 1 : Nat) : Int) := by rw [w64 (by omega) (by omega)]; omega
    refine Ends.step (fun k => by simp only [spec_l20Grid.l0]; rfl) (Ends.yes (by omega) ?_)
    rw [hw]
    refine Ends.bind (pick_e hs (p := p) (by omega) (by omega) (by omega)) ?_
    rintro ⟨u, q2⟩ ⟨u0, u1, rfl⟩
    dsimp only at u0 u1 ⊢
    refine Ends.dec (fun _ => Ends.yes (by omega) ?_) (fun _ => ?_)
    · exact ih (i + 1) _ _ (by rw [List.length_set]; omega) (by rw [List.length_set]; omega) (by rw [List.length_set]; omega) (by omega) (by omega)
    · exact ih (i + 1) _ _ (by omega) h1 h16 (by omega) (by omega)
theorem sq_in {size : Int} {n : Nat} (h3 : size = 2 ∨ size = 3 ∨ size = 4) (h : (n : Int) = size * size) : 4 ≤ n ∧ n ≤ 16 := by rcases h3 with rfl | rfl | rfl <;> omega
theorem grid_e {s : List Int} (hs : Code s) {p nn : Int} (hp : 0 ≤ p) (hp1 : p ≤ 900000) (hn0 : 0 ≤ nn) (hn1 : nn ≤ 1000) : Ends (fun k => spec_l20Grid.f k s p nn) (GridP p 160) := by
  unfold spec_l20Grid.f
  refine Ends.bind (size_e hs hp (by omega) (by omega) (by omega)) ?_
  rintro ⟨x, q⟩ ⟨_, _, hx, x2, x3⟩
  have h3 := hx rfl
  dsimp only at h3 x2 x3 ⊢
  refine Ends.bind (solved_e hs (p := q) (by omega) (by omega) h3) ?_
  rintro ⟨g, q2⟩ ⟨hg, g0, g1⟩
  dsimp only at hg g0 g1 ⊢
  obtain ⟨s1, s2⟩ := sq_in h3 hg
  refine Ends.bind (pick_e hs (p := q2) (by omega) (by omega) (by omega)) ?_
  rintro ⟨u, q3⟩ ⟨u0, u1, rfl⟩
  dsimp only at u0 u1 ⊢
  refine (grid_l0 hs h3 hn0 hn1 u (p0 := q2 + 1) (by omega) (by omega) g.length 0 g (q2 + 1) (by omega) (by omega) s2 (by omega) (by omega)).mono ?_
  rintro ⟨x, y, z⟩ ⟨a, b, c, d, e⟩
  dsimp only at a b c d e
  exact GridP.mk a b c (by omega) (by omega)
theorem drawApart_e {l : List Int} (hl : ∀ x ∈ l, 0 ≤ x ∧ x ≤ 255) : Ends (fun k => spec_DrawApartRules.f k l) (fun q => q.1.length ≤ 16 ∧ -1 ≤ q.2.1 ∧ q.2.1 ≤ 5 ∧ -1 ≤ q.2.2 ∧ q.2.2 ≤ 4) := by
  obtain ⟨s, hs, ho⟩ := open_ok l hl
  unfold spec_DrawApartRules.f
  rw [ho]
  refine Ends.someB ?_
  refine Ends.bind (size_e hs (p := 0) (by omega) (by omega) (by omega) (by omega)) ?_
  rintro ⟨x, q⟩ ⟨_, _, hx, x2, x3⟩
  have h3 := hx rfl
  dsimp only at h3 x2 x3 ⊢
  refine Ends.bind (solved_e hs (p := q) (by omega) (by omega) h3) ?_
  rintro ⟨g, q2⟩ ⟨hg, g0, g1⟩
  dsimp only at hg g0 g1 ⊢
  obtain ⟨s1, s2⟩ := sq_in h3 hg
  refine Ends.bind (odd_e hs (p := q2) (n := 9) (by omega) (by omega) (by omega) (by omega)) ?_
  rintro ⟨b2, q3⟩ ⟨q30, q31, _⟩
  dsimp only at q30 q31 ⊢
  refine Ends.dec (fun _ => ?_) (fun _ => ?_)
  · refine Ends.bind (grid_e hs (p := q3) (nn := 3) (by omega) (by omega) (by omega) (by omega)) ?_
    rintro ⟨x, y, z⟩ ⟨a, b, c, d, e⟩
    dsimp only at a b c d e ⊢
    refine Ends.bind (pick_e hs (p := z) (by omega) (by omega) (by omega)) ?_
    rintro ⟨r, q2⟩ ⟨r0, r1, rfl⟩
    dsimp only at r0 r1 ⊢
    rw [w64 (n := r - 1) (by omega) (by omega)]
    exact Ends.some ⟨a, b, c, by dsimp only; omega, by dsimp only; omega⟩
  · refine Ends.bind (pick_e hs (p := q3) (by omega) (by omega) (by omega)) ?_
    rintro ⟨r, q2⟩ ⟨r0, r1, rfl⟩
    dsimp only at r0 r1 ⊢
    rw [w64 (n := r - 1) (by omega) (by omega)]
    exact Ends.some ⟨s2, by dsimp only; omega, by dsimp only; omega, by dsimp only; omega, by dsimp only; omega⟩
end Go.Proofs.Ytbcikbekdhdpaaa.Q
end
section
namespace Go.Proofs.Ytbcikbekdhdpaaa.Q
open Go.RowKit Go.Proofs.YtbcikbekdhdpaaaW.PrintWords
set_option linter.unusedSimpArgs false
set_option linter.unusedVariables false
def sumW (a : Int) : List Int → Int
  | [] => a
  | v :: r => sumW (wrap64 (a + v)) r
def prodW (a : Int) : List Int → Int
  | [] => a
  | v :: r => prodW (wrap64 (a * v)) r
def distinctFrom (pre : List Int) : List Int → Bool
  | [] => true
  | v :: r => !decide (v ∈ pre) && distinctFrom (pre ++ [v]) r
def holdEnd (kind value : Int) (vs : List Int) (a p : Int) : Bool :=
  if kind = 2 then a == value else if kind = 3 then p == value else if kind = 4 then decide (rd vs 0 < rd vs 1)
  else if kind = 5 then mx (wrap64 (rd vs 0 - rd vs 1)) (wrap64 (rd vs 1 - rd vs 0)) == value else true
def valuesHold (kind value : Int) (vs : List Int) : Bool := (if kind = 1 then distinctFrom [] vs else true) && holdEnd kind value vs (sumW 0 vs) (prodW 1 vs)
theorem ivh_loop (vs cells : List Int) (hx : vs.length ≤ 1000000) (kind value : Int) (h2 : kind = 4 ∨ kind = 5 → 2 ≤ vs.length) : ∀ (n i : Nat) (a p : Int), i + n = vs.length →
    Ends (fun k => impl_valuesHold.l0 k vs a p vs (vs.length : Int) (i : Int) kind cells value) (· = ((if kind = 1 then distinctFrom (vs.take i) (vs.drop i) else true) && holdEnd kind value vs (sumW a (vs.drop i)) (prodW p (vs.drop i)))) := by
  intro n
  induction n with
  | zero =>
    intro i a p hi
    refine Ends.step (fun k => by simp only [impl_valuesHold.l0]; rfl) (Ends.no (by omega) ?_)
    rw [List.drop_of_length_le (by omega)]
    simp only [distinctFrom, sumW, prodW, ite_self, Bool.true_and]
    unfold holdEnd
    by_cases k2 : kind = 2
    · simp only [if_pos k2]; exact Ends.some rfl
    simp only [if_neg k2]
    by_cases k3 : kind = 3
    · simp only [if_pos k3]; exact Ends.some rfl
    simp only [if_neg k3]
    by_cases k4 : kind = 4
    · have := h2 (.inl k4)
      simp only [if_pos k4]; exact Ends.yes (by omega) (Ends.yes (by omega) (Ends.some rfl))
    simp only [if_neg k4]
    by_cases k5 : kind = 5
    · have := h2 (.inr k5)
      simp only [if_pos k5]; exact Ends.yes (by omega) (Ends.yes (by omega) (Ends.some rfl))
    simp only [if_neg k5]
    exact Ends.some rfl
  | succ n ih =>
    intro i a p hi
    have hlt : i < vs.length := by omega
    refine Ends.step (fun k => by simp only [impl_valuesHold.l0]; rfl) (Ends.yes (by omega) (Ends.yes (by omega) (Ends.yes (by omega) ?_)))
    rw [drop_get hlt, wnext hlt (by omega), rd_nat hlt]
    simp only [sumW, prodW, distinctFrom]
    have h := ih (i + 1) (wrap64 (a + vs[i])) (wrap64 (p * vs[i])) (by omega)
    rw [take_succ_get hlt] at h
    by_cases k1 : kind = 1
    · rw [if_pos k1] at h ⊢
      refine Ends.yes k1 (Ends.yes (by omega) ?_)
      rw [Int.toNat_natCast]
      refine Ends.bindE (contains_ev (vs.take i) vs[i] (by rw [List.length_take]; omega)) ?_
      by_cases hm : vs[i] ∈ vs.take i
      · rw [decide_eq_true hm]
        exact Ends.yes rfl (Ends.some rfl)
      · rw [decide_eq_false hm]
        refine Ends.no (by decide) ?_
        simp only [Bool.not_false, Bool.true_and]
        exact h
    · rw [if_neg k1] at h ⊢
      exact Ends.no k1 h
theorem implValuesHold_ev (vs cells : List Int) (hx : vs.length ≤ 1000000) (kind value : Int) (h2 : kind = 4 ∨ kind = 5 → 2 ≤ vs.length) : Ev (fun k => impl_valuesHold.f k kind cells value vs) (valuesHold kind value vs) :=
  (ivh_loop vs cells hx kind value h2 vs.length 0 0 1 (by omega)).ev
end Go.Proofs.Ytbcikbekdhdpaaa.Q
end
section
namespace Go.Proofs.Ytbcikbekdhdpaaa.Q
open Go.RowKit Go.Proofs.YtbcikbekdhdpaaaW.PrintWords
set_option linter.unusedSimpArgs false
set_option linter.unusedVariables false
abbrev PRule := S29
theorem rdP_nat {xs : List PRule} {i : Nat} (h : i < xs.length) : rd_T29 xs (i : Int) = xs[i] := by
  unfold rd_T29
  rw [Int.toNat_natCast, List.getD_eq_getElem?_getD, List.getElem?_eq_getElem h]
  rfl
theorem alive_ev : Ev (fun k => laws_alive.f k) true := by
  have h := implGridFilled_ev [1, 0, 0, 2] 2 (by simp)
  rw [show gridFilled [1, 0, 0, 2] 2 = 2 by decide] at h
  exact Ev.bind h (Ev.now _)
structure GoodRule (g : List Int) (s : Int) (r : PRule) : Prop where
  valid : ruleValid r.f0 r.f1 r.f2 s = true
  cells : ∀ c ∈ r.f1, 0 ≤ c ∧ c < (g.length : Int) ∧ rd g c ≠ 0
  few : r.f1.length ≤ 4
  two : r.f0 = 4 ∨ r.f0 = 5 → 2 ≤ r.f1.length
  holds : valuesHold r.f0 r.f2 (r.f1.map (rd g)) = true
theorem solved_all {g : List Int} {s : Int} (h : squareSolved g s = true) : (s = 2 ∨ s = 3 ∨ s = 4) ∧ (g.length : Int) = s * s ∧ (∀ v ∈ g, 1 ≤ v ∧ v ≤ s) ∧ clashB g s = false ∧ gridValid g s = true := by
  unfold squareSolved squareFits at h
  simp only [Bool.and_eq_true, decide_eq_true_eq, Bool.not_eq_true'] at h
  obtain ⟨⟨hv, hc⟩, hf⟩ := h
  obtain ⟨h3, hl, _, hin⟩ := valid_parts hv
  refine ⟨h3, hl, fun v hm => ?_, hc, hv⟩
  have e : filled g = g.length := by omega
  unfold filled at e
  have := List.countP_eq_length.1 e v hm
  have := hin v hm
  simp only [decide_eq_true_eq] at *
  omega
theorem solved_rd {g : List Int} {s c : Int} (h : squareSolved g s = true) (h0 : 0 ≤ c) (h1 : c < (g.length : Int)) : 1 ≤ rd g c ∧ rd g c ≤ s := by
  obtain ⟨_, _, hin, _, _⟩ := solved_all h
  exact hin _ (rd_mem h0 h1)
end Go.Proofs.Ytbcikbekdhdpaaa.Q
end
section
namespace Go.Proofs.Ytbcikbekdhdpaaa.Q
open Go.RowKit Go.Proofs.YtbcikbekdhdpaaaW.PrintWords
set_option linter.unusedSimpArgs false
set_option linter.unusedVariables false
abbrev Pair := S79
def nbAt (s : Int) (i : Nat) : List Pair := (if Int.tmod (i : Int) s < s - 1 then [⟨(i : Int), (i : Int) + 1⟩] else []) ++ (if Int.tdiv (i : Int) s < s - 1 then [⟨(i : Int), (i : Int) + s⟩] else [])
def nbFrom (s : Int) : Nat → Nat → List Pair
  | 0, _ => []
  | n + 1, i => nbAt s i ++ nbFrom s n (i + 1)
def nbs (s : Int) : List Pair := nbFrom s (s * s).toNat 0
def two (p : Pair) : List Int := [p.f0, p.f1]
theorem implNb_ev {s : Int} (h3 : s = 2 ∨ s = 3 ∨ s = 4) : Ev (fun k => impl_neighbours.f k s) (nbs s) := by
  rcases h3 with rfl | rfl | rfl
  · exact Ev.of (k := 20) (fun k => impl_neighbours.mono 2 k) (by kernel_rfl)
  · exact Ev.of (k := 20) (fun k => impl_neighbours.mono 3 k) (by kernel_rfl)
  · exact Ev.of (k := 20) (fun k => impl_neighbours.mono 4 k) (by kernel_rfl)
theorem specNb_ev {s : Int} (h3 : s = 2 ∨ s = 3 ∨ s = 4) : Ev (fun k => spec_l19Pairs.f k s) ((nbs s).map two) := by
  rcases h3 with rfl | rfl | rfl
  · exact Ev.of (k := 20) (fun k => spec_l19Pairs.mono 2 k) (by kernel_rfl)
  · exact Ev.of (k := 20) (fun k => spec_l19Pairs.mono 3 k) (by kernel_rfl)
  · exact Ev.of (k := 20) (fun k => spec_l19Pairs.mono 4 k) (by kernel_rfl)
def pairIn (M : Int) (p : Pair) : Bool := decide (0 ≤ p.f0 ∧ p.f0 < p.f1 ∧ p.f1 < M)
theorem nbs_all {s : Int} (h3 : s = 2 ∨ s = 3 ∨ s = 4) : (nbs s).all (pairIn (s * s)) = true ∧ ((nbs s).length : Int) = 2 * s * (s - 1) ∧ (nbs s).length ≤ 24 := by
  rcases h3 with rfl | rfl | rfl <;> exact ⟨by kernel_rfl, by kernel_rfl, of_decide_eq_true (by kernel_rfl)⟩
theorem nbs_in {s : Int} (h3 : s = 2 ∨ s = 3 ∨ s = 4) {p : Pair} (h : p ∈ nbs s) : 0 ≤ p.f0 ∧ p.f0 < p.f1 ∧ p.f1 < s * s := of_decide_eq_true (List.all_eq_true.1 (nbs_all h3).1 p h)
theorem rdN_nat {xs : List Pair} {i : Nat} (h : i < xs.length) : rd_T79 xs (i : Int) = xs[i] := by
  unfold rd_T79
  rw [Int.toNat_natCast, List.getD_eq_getElem?_getD, List.getElem?_eq_getElem h]
  rfl
theorem rdL_two {xs : List Pair} {i : Nat} (h : i < xs.length) : rd_L1 (xs.map two) (i : Int) = two xs[i] := by
  unfold rd_L1
  rw [Int.toNat_natCast, List.getD_eq_getElem?_getD, List.getElem?_map, List.getElem?_eq_getElem h]
  rfl
end Go.Proofs.Ytbcikbekdhdpaaa.Q
end
section
namespace Go.Proofs.Ytbcikbekdhdpaaa.Q
open Go.RowKit Go.Proofs.YtbcikbekdhdpaaaW.PrintWords
set_option linter.unusedSimpArgs false
set_option linter.unusedVariables false
def dist (g : List Int) (p : Pair) : Int := mx (wrap64 (rd g p.f0 - rd g p.f1)) (wrap64 (-(wrap64 (rd g p.f0 - rd g p.f1))))
def apartGo (g : List Int) (by_ : Int) : List Pair → List PRule → List PRule
  | [], acc => acc
  | p :: r, acc => if dist g p = by_ ∧ acc.length < 20 then apartGo g by_ r (acc ++ [⟨5, two p, by_⟩]) else apartGo g by_ r acc
def apartRules (g : List Int) (s by_ : Int) : List PRule := if squareSolved g s = true ∧ 0 ≤ by_ ∧ by_ < s then apartGo g by_ (nbs s) [] else []
theorem apartGo_full (g : List Int) (by_ : Int) : ∀ (l : List Pair) (acc : List PRule), 20 ≤ acc.length → apartGo g by_ l acc = acc
  | [], acc, _ => rfl
  | p :: r, acc, h => by rw [apartGo, if_neg (by omega), apartGo_full g by_ r acc h]
theorem implApart_loop {g : List Int} {by_ : Int} {l : List Pair} (hin : ∀ p ∈ l, 0 ≤ p.f0 ∧ p.f0 < (g.length : Int) ∧ 0 ≤ p.f1 ∧ p.f1 < (g.length : Int)) (hl : l.length ≤ 1000) : ∀ (n i : Nat) (acc : List PRule), i + n = l.length → acc.length ≤ 1000 →
    Ends (fun k => impl_ApartRules.l0 k g by_ acc l (l.length : Int) (i : Int)) (· = apartGo g by_ (l.drop i) acc) := by
  intro n
  induction n with
  | zero =>
    intro i acc hi ha
    refine Ends.step (fun k => by simp only [impl_ApartRules.l0]; rfl) (Ends.no (by omega) ?_)
    rw [List.drop_of_length_le (by omega)]
    exact Ends.some rfl
  | succ n ih =>
    intro i acc hi ha
    have hlt : i < l.length := by omega
    obtain ⟨a0, a1, b0, b1⟩ := hin l[i] (List.getElem_mem hlt)
    refine Ends.step (fun k => by simp only [impl_ApartRules.l0]; rfl) (Ends.yes (by omega) (Ends.yes (by omega) (Ends.yes (by omega) ?_)))
    rw [rdN_nat hlt, wnext hlt (by omega), drop_get hlt, apartGo]
    refine Ends.yes a0 (Ends.yes a1 (Ends.yes b0 (Ends.yes b1 ?_)))
    by_cases hd : dist g l[i] = by_
    · refine Ends.yes hd ?_
      by_cases h20 : acc.length < 20
      · rw [if_pos ⟨hd, h20⟩]
        exact Ends.yes (by omega) (Ends.yes (by omega) (ih (i + 1) _ (by omega) (by rw [List.length_append, List.length_singleton]; omega)))
      · rw [if_neg (fun h => h20 h.2)]
        exact Ends.no (by omega) (ih (i + 1) _ (by omega) ha)
    · rw [if_neg (fun h => hd h.1)]
      exact Ends.no hd (ih (i + 1) _ (by omega) ha)
theorem nbs_cells {g : List Int} {s : Int} (h3 : s = 2 ∨ s = 3 ∨ s = 4) (hl : (g.length : Int) = s * s) : ∀ p ∈ nbs s, 0 ≤ p.f0 ∧ p.f0 < (g.length : Int) ∧ 0 ≤ p.f1 ∧ p.f1 < (g.length : Int) := fun p hp => by
  have := nbs_in h3 hp
  omega
theorem implApart_ev (g : List Int) (s by_ : Int) (hg : g.length ≤ 1000) : Ev (fun k => impl_ApartRules.f k g s by_) (apartRules g s by_) := by
  refine Ends.ev ?_
  unfold impl_ApartRules.f apartRules
  refine Ends.bindE (implSquareSolved_ev g s (by omega)) ?_
  have stop : ∀ b : Bool, b = true → Ends (fun k => impl_ApartRules.j0 k g s by_ b) (· = ([] : List PRule)) := by
    intro b hb
    subst hb
    exact Ends.step (fun k => by simp only [impl_ApartRules.j0]; rfl) (Ends.tt (Ends.some rfl))
  by_cases h1 : squareSolved g s = true
  · obtain ⟨h3, hl, _, _, _⟩ := solved_all h1
    rw [h1]
    refine Ends.yes rfl ?_
    by_cases h0 : by_ < 0
    · rw [if_neg (fun h => by omega)]
      exact Ends.yes h0 (stop true rfl)
    · refine Ends.no h0 ?_
      by_cases h2 : by_ < s
      · rw [if_pos ⟨rfl, by omega, h2⟩, decide_eq_false (show ¬ by_ ≥ s by omega)]
        refine Ends.step (fun k => by simp only [impl_ApartRules.j0]; rfl) (Ends.ff ?_)
        have := nbs_all h3
        exact Ends.bindE (implNb_ev h3) (implApart_loop (nbs_cells h3 hl) (by omega) (nbs s).length 0 [] (by omega) (by simp))
      · rw [if_neg (fun h => h2 h.2.2)]
        exact stop _ (decide_eq_true (by omega))
  · rw [if_neg (fun h => h1 h.1), show squareSolved g s = false by simpa using h1]
    exact Ends.no (by decide) (stop true rfl)
theorem specApart_loop {g : List Int} {by_ : Int} {l : List Pair} (hin : ∀ p ∈ l, 0 ≤ p.f0 ∧ p.f0 < (g.length : Int) ∧ 0 ≤ p.f1 ∧ p.f1 < (g.length : Int)) (hl : l.length ≤ 1000) : ∀ (n i : Nat) (acc : List PRule), i + n = l.length → acc.length ≤ 1000 →
    Ends (fun k => spec_ApartRules.l0 k g by_ acc (i : Int) (l.map two)) (· = apartGo g by_ (l.drop i) acc) := by
  have stop : ∀ (i : Int) (acc : List PRule), Ends (fun k => spec_ApartRules.j2 k g by_ acc (l.map two) i (l.map two) false) (· = acc) := fun i acc =>
    Ends.step (fun k => by simp only [spec_ApartRules.j2]; rfl) (Ends.ff (Ends.some rfl))
  have hml : (l.map two).length = l.length := List.length_map ..
  intro n
  induction n with
  | zero =>
    intro i acc hi ha
    refine Ends.step (fun k => by simp only [spec_ApartRules.l0]; rfl) (Ends.no (by omega) ?_)
    rw [List.drop_of_length_le (by omega)]
    exact stop _ _
  | succ n ih =>
    intro i acc hi ha
    have hlt : i < l.length := by omega
    obtain ⟨a0, a1, b0, b1⟩ := hin l[i] (List.getElem_mem hlt)
    refine Ends.step (fun k => by simp only [spec_ApartRules.l0]; rfl) (Ends.yes (by omega) ?_)
    by_cases h20 : acc.length < 20
    · rw [decide_eq_true (show (acc.length : Int) < 20 by omega)]
      refine Ends.step (fun k => by simp only [spec_ApartRules.j2]; rfl) (Ends.tt (Ends.yes (by omega) (Ends.yes (by omega) ?_)))
      rw [rdL_two hlt, wnext hlt (by omega), drop_get hlt, apartGo]
      refine Ends.yes (show (0 : Int) < 2 by decide) (Ends.yes a0 (Ends.yes a1 (Ends.yes (show (1 : Int) < 2 by decide) (Ends.yes b0 (Ends.yes b1 ?_)))))
      by_cases hd : dist g l[i] = by_
      · rw [if_pos ⟨hd, h20⟩]
        exact Ends.yes hd (Ends.yes (by omega) (ih (i + 1) _ (by omega) (by rw [List.length_append, List.length_singleton]; omega)))
      · rw [if_neg (fun h => hd h.1)]
        exact Ends.no hd (ih (i + 1) _ (by omega) ha)
    · rw [decide_eq_false (show ¬ (acc.length : Int) < 20 by omega), apartGo_full g by_ _ acc (by omega)]
      exact stop _ _
theorem specApart_ev (g : List Int) (s by_ : Int) (hg : g.length ≤ 1000) : Ev (fun k => spec_ApartRules.f k g s by_) (apartRules g s by_) := by
  refine Ends.ev ?_
  unfold spec_ApartRules.f apartRules
  refine Ends.someB (Ends.bindE (specSquareSolved_ev g s (by omega)) ?_)
  have stop : Ends (fun k => spec_ApartRules.j0 k g s by_ [] true) (· = ([] : List PRule)) :=
    Ends.step (fun k => by simp only [spec_ApartRules.j0]; rfl) (Ends.tt (Ends.some rfl))
  by_cases h1 : squareSolved g s = true
  · obtain ⟨h3, hl, _, _, _⟩ := solved_all h1
    rw [h1, l1In_eq, w64 (n := s - 1) (by omega) (by omega)]
    refine Ends.yes rfl (Ends.someB ?_)
    by_cases h2 : 0 ≤ by_ ∧ by_ < s
    · rw [if_pos ⟨rfl, h2⟩, decide_eq_true (show 0 ≤ by_ ∧ by_ ≤ s - 1 by omega)]
      refine Ends.step (fun k => by simp only [spec_ApartRules.j0]; rfl) (Ends.no (by decide) ?_)
      have := nbs_all h3
      exact Ends.bindE (specNb_ev h3) (specApart_loop (nbs_cells h3 hl) (by omega) (nbs s).length 0 [] (by omega) (by simp))
    · rw [if_neg (fun h => h2 h.2), decide_eq_false (show ¬ (0 ≤ by_ ∧ by_ ≤ s - 1) by omega)]
      exact stop
  · rw [if_neg (fun h => h1 h.1), show squareSolved g s = false by simpa using h1]
    exact Ends.no (by decide) stop
theorem two_in {c : Int} {p : Pair} (h : c ∈ two p) : c = p.f0 ∨ c = p.f1 := by simpa [two] using h
theorem dist_eq {g : List Int} {s : Int} (hg : squareSolved g s = true) {p : Pair} (h : 0 ≤ p.f0 ∧ p.f0 < (g.length : Int) ∧ 0 ≤ p.f1 ∧ p.f1 < (g.length : Int)) :
    (1 ≤ rd g p.f0 ∧ rd g p.f0 ≤ 4 ∧ 1 ≤ rd g p.f1 ∧ rd g p.f1 ≤ 4) ∧ dist g p = mx (rd g p.f0 - rd g p.f1) (rd g p.f1 - rd g p.f0) ∧ 0 ≤ dist g p := by
  obtain ⟨h3, _⟩ := solved_all hg
  have va := solved_rd hg h.1 h.2.1
  have vb := solved_rd hg h.2.2.1 h.2.2.2
  have e : dist g p = mx (rd g p.f0 - rd g p.f1) (rd g p.f1 - rd g p.f0) := by
    unfold dist
    rw [w64 (n := rd g p.f0 - rd g p.f1) (by omega) (by omega), w64 (by omega) (by omega), show -(rd g p.f0 - rd g p.f1) = rd g p.f1 - rd g p.f0 by omega]
  refine ⟨by omega, e, ?_⟩
  rw [e]; unfold mx; split <;> omega
theorem apart_good {g : List Int} {s by_ : Int} (hg : squareSolved g s = true) (h0 : 0 ≤ by_) (h1 : by_ < s) {p : Pair} (hp : p ∈ nbs s) (hd : dist g p = by_) : GoodRule g s ⟨5, two p, by_⟩ := by
  obtain ⟨h3, hl, _, _, _⟩ := solved_all hg
  have hin := nbs_in h3 hp
  have hc := nbs_cells h3 hl p hp
  obtain ⟨hv, hde, _⟩ := dist_eq hg hc
  refine ⟨?_, fun c hcm => ?_, by show (2 : Nat) ≤ 4; decide, fun _ => by show 2 ≤ 2; decide, ?_⟩
  · have hsz : sizeIn s = true := decide_eq_true (by omega)
    show (sizeIn s && cellsOk (s * s - 1) [] [p.f0, p.f1] && kindOk 5 2 by_ s) = true
    rw [hsz]
    have hne : ¬ p.f1 = p.f0 := by omega
    simp [cellsOk, kindOk, hne]
    omega
  · rcases two_in hcm with rfl | rfl
    · exact ⟨hc.1, hc.2.1, by omega⟩
    · exact ⟨hc.2.2.1, hc.2.2.2, by omega⟩
  · show ((if (5 : Int) = 1 then _ else true) && holdEnd 5 by_ [rd g p.f0, rd g p.f1] _ _) = true
    unfold holdEnd
    show (mx (wrap64 (rd g p.f0 - rd g p.f1)) (wrap64 (rd g p.f1 - rd g p.f0)) == by_) = true
    rw [w64 (by omega) (by omega), w64 (by omega) (by omega), ← hde, hd]
    simp
theorem apartGo_good {g : List Int} {s by_ : Int} (hg : squareSolved g s = true) (h0 : 0 ≤ by_) (h1 : by_ < s) : ∀ (l : List Pair) (acc : List PRule), (∀ p ∈ l, p ∈ nbs s) → (∀ r ∈ acc, GoodRule g s r ∧ r.f0 = 5 ∧ r.f2 = by_) → acc.length ≤ 20 →
    (∀ r ∈ apartGo g by_ l acc, GoodRule g s r ∧ r.f0 = 5 ∧ r.f2 = by_) ∧ (apartGo g by_ l acc).length = min (acc.length + l.countP (fun p => decide (dist g p = by_))) 20
  | [], acc, _, ha, h20 => ⟨ha, by rw [apartGo, List.countP_nil]; omega⟩
  | p :: r, acc, hl, ha, h20 => by
    have hp := hl p (by simp)
    have hr : ∀ q ∈ r, q ∈ nbs s := fun q hq => hl q (List.mem_cons_of_mem _ hq)
    rw [apartGo, List.countP_cons]
    by_cases hd : dist g p = by_
    · rw [decide_eq_true hd, if_pos rfl]
      by_cases hlt : acc.length < 20
      · rw [if_pos ⟨hd, hlt⟩]
        obtain ⟨i1, i2⟩ := apartGo_good hg h0 h1 r (acc ++ [⟨5, two p, by_⟩]) hr (fun x hx => by
          rcases List.mem_append.1 hx with hx | hx
          · exact ha x hx
          · rw [List.mem_singleton.1 hx]; exact ⟨apart_good hg h0 h1 hp hd, rfl, rfl⟩) (by rw [List.length_append, List.length_singleton]; omega)
        refine ⟨i1, ?_⟩
        rw [i2, List.length_append, List.length_singleton]
        congr 1; omega
      · rw [if_neg (fun h => hlt h.2)]
        obtain ⟨i1, i2⟩ := apartGo_good hg h0 h1 r acc hr ha h20
        exact ⟨i1, by rw [i2]; omega⟩
    · rw [decide_eq_false hd, if_neg (fun h => hd h.1), if_neg (by decide)]
      exact apartGo_good hg h0 h1 r acc hr ha h20
structure CellK (s : Int) (len i : Nat) : Prop where
  tm : Int.tmod (i : Int) s = (i : Int) % s
  td : Int.tdiv (i : Int) s = (i : Int) / s
  td' : wrap64 ((i : Int) / s) = (i : Int) / s
  w1 : wrap64 ((i : Int) + 1) = (i : Int) + 1
  ws : wrap64 ((i : Int) + s) = (i : Int) + s
  wm : wrap64 (s - 1) = s - 1
  z : ¬ s = 0
  i0 : 0 ≤ (i : Int)
  i1 : (i : Int) < (len : Int)
  r1 : (i : Int) % s < s - 1 → (i : Int) + 1 < (len : Int)
  b0 : 0 ≤ (i : Int) + s
  b1 : (i : Int) / s < s - 1 → (i : Int) + s < (len : Int)
end Go.Proofs.Ytbcikbekdhdpaaa.Q
end
section
namespace Go.Proofs.Ytbcikbekdhdpaaa.Q
open Go.RowKit Go.Proofs.YtbcikbekdhdpaaaW.PrintWords
set_option linter.unusedSimpArgs false
set_option linter.unusedVariables false
def lessRule (g : List Int) (p : Pair) : PRule := if rd g p.f0 > rd g p.f1 then ⟨4, [p.f1, p.f0], 0⟩ else ⟨4, [p.f0, p.f1], 0⟩
def lessRules (g : List Int) (s many : Int) : List PRule := if squareSolved g s = true ∧ 0 ≤ many ∧ many ≤ 20 then ((nbs s).map (lessRule g)).take many.toNat else []
theorem nbs_cells5 {g : List Int} {s : Int} (h3 : s = 2 ∨ s = 3 ∨ s = 4) (hl : (g.length : Int) = s * s) : ∀ p ∈ nbs s, 0 ≤ p.f0 ∧ p.f0 < (g.length : Int) ∧ 0 ≤ p.f1 ∧ p.f1 < (g.length : Int) := fun p hp => by
  have := nbs_in h3 hp
  omega
theorem implRule_eq (l : List PRule) : impl_Rule.f l = some l := by
  unfold impl_Rule.f
  rw [if_pos (by omega), if_pos (by omega), Int.toNat_natCast, List.take_length]
theorem implLess_loop {g : List Int} {many : Int} (hm : 0 ≤ many) {l : List Pair} (hin : ∀ p ∈ l, 0 ≤ p.f0 ∧ p.f0 < (g.length : Int) ∧ 0 ≤ p.f1 ∧ p.f1 < (g.length : Int)) (hl : l.length ≤ 1000) : ∀ (n i : Nat), i + n = l.length →
    Ends (fun k => impl_LessRules.l0 k g many ((l.take i).map (lessRule g)) l (l.length : Int) (i : Int)) (· = (l.map (lessRule g)).take many.toNat) := by
  intro n
  induction n with
  | zero =>
    intro i hi
    refine Ends.step (fun k => by simp only [impl_LessRules.l0]; rfl) (Ends.no (by omega) ?_)
    rw [List.take_of_length_le (by omega)]
    have hml : (l.map (lessRule g)).length = l.length := List.length_map ..
    have hmn : 0 ≤ mn many ((l.map (lessRule g)).length : Int) ∧ mn many ((l.map (lessRule g)).length : Int) ≤ ((l.map (lessRule g)).length : Int) ∧ (mn many ((l.map (lessRule g)).length : Int) = many ∨ (mn many ((l.map (lessRule g)).length : Int) = ((l.map (lessRule g)).length : Int) ∧ ((l.map (lessRule g)).length : Int) ≤ many)) := by
      unfold mn; split <;> omega
    obtain ⟨m0, m1, m2⟩ := hmn
    refine Ends.yes m0 (Ends.yes m1 ?_)
    rw [implRule_eq]
    refine Ends.someB (Ends.some ?_)
    rcases m2 with e | ⟨e, h⟩
    · rw [e]
    · rw [e, Int.toNat_natCast, List.take_length, List.take_of_length_le (by omega)]
  | succ n ih =>
    intro i hi
    have hlt : i < l.length := by omega
    obtain ⟨a0, a1, b0, b1⟩ := hin l[i] (List.getElem_mem hlt)
    have h := ih (i + 1) (by omega)
    rw [take_succ_get hlt, List.map_append] at h
    have hlen : ((l.take i).map (lessRule g)).length < 3518437208883 := by rw [List.length_map, List.length_take]; omega
    refine Ends.step (fun k => by simp only [impl_LessRules.l0]; rfl) (Ends.yes (by omega) (Ends.yes (by omega) (Ends.yes (by omega) ?_)))
    rw [rdN_nat hlt, wnext hlt (by omega)]
    refine Ends.yes a0 (Ends.yes a1 (Ends.yes b0 (Ends.yes b1 ?_)))
    by_cases hd : rd g l[i].f0 > rd g l[i].f1
    · refine Ends.yes hd (Ends.yes hlen ?_)
      have e : [l[i]].map (lessRule g) = [⟨4, [l[i].f1, l[i].f0], 0⟩] := by rw [List.map_cons, List.map_nil, lessRule, if_pos hd]
      rw [e] at h
      exact h
    · refine Ends.no hd (Ends.yes hlen ?_)
      have e : [l[i]].map (lessRule g) = [⟨4, [l[i].f0, l[i].f1], 0⟩] := by rw [List.map_cons, List.map_nil, lessRule, if_neg hd]
      rw [e] at h
      exact h
theorem implLess_ev (g : List Int) (s many : Int) (hg : g.length ≤ 1000) : Ev (fun k => impl_LessRules.f k g s many) (lessRules g s many) := by
  refine Ends.ev ?_
  unfold impl_LessRules.f lessRules
  refine Ends.bindE (implSquareSolved_ev g s (by omega)) ?_
  have stop : ∀ b : Bool, b = true → Ends (fun k => impl_LessRules.j0 k g s many b) (· = ([] : List PRule)) := by
    intro b hb
    subst hb
    exact Ends.step (fun k => by simp only [impl_LessRules.j0]; rfl) (Ends.tt (Ends.some rfl))
  by_cases h1 : squareSolved g s = true
  · obtain ⟨h3, hl, _, _, _⟩ := solved_all h1
    rw [h1]
    refine Ends.yes rfl ?_
    by_cases h0 : many < 0
    · rw [if_neg (fun h => by omega)]
      exact Ends.yes h0 (stop true rfl)
    · refine Ends.no h0 ?_
      by_cases h2 : many ≤ 20
      · rw [if_pos ⟨rfl, by omega, h2⟩, decide_eq_false (show ¬ many > 20 by omega)]
        refine Ends.step (fun k => by simp only [impl_LessRules.j0]; rfl) (Ends.ff ?_)
        have := nbs_all h3
        exact Ends.bindE (implNb_ev h3) (implLess_loop (by omega) (nbs_cells5 h3 hl) (by omega) (nbs s).length 0 (by omega))
      · rw [if_neg (fun h => h2 h.2.2)]
        exact stop _ (decide_eq_true (by omega))
  · rw [if_neg (fun h => h1 h.1), show squareSolved g s = false by simpa using h1]
    exact Ends.no (by decide) (stop true rfl)
theorem lineVals_ne {g : List Int} {s : Int} (hg : squareSolved g s = true) {p : Pair} (hp : p ∈ nbs s) : rd g p.f0 ≠ rd g p.f1 := by
  obtain ⟨h3, hl, _, hc, _⟩ := solved_all hg
  have hin := nbs_cells5 h3 hl p hp
  have vb := solved_rd hg hin.2.2.1 hin.2.2.2
  -- the two cells stand one behind the other in some line
  have hline : ∃ (l : Nat) (a b : Nat), (l : Int) < 2 * s ∧ a < b ∧ (b : Int) < s ∧ lineAt s (l : Int) a = p.f0 ∧ lineAt s (l : Int) b = p.f1 := by
    have all : (nbs s).all (fun p => (List.range 8).any fun l => (List.range 4).any fun a => decide ((l : Int) < 2 * s ∧ ((a + 1 : Nat) : Int) < s ∧ lineAt s (l : Int) a = p.f0 ∧ lineAt s (l : Int) (a + 1) = p.f1)) = true := by
      rcases h3 with rfl | rfl | rfl <;> kernel_rfl
    have := List.all_eq_true.1 all p hp
    obtain ⟨l, _, h⟩ := List.any_eq_true.1 this
    obtain ⟨a, _, h⟩ := List.any_eq_true.1 h
    obtain ⟨x1, x2, x3, x4⟩ := of_decide_eq_true h
    exact ⟨l, a, a + 1, x1, by omega, x2, x3, x4⟩
  obtain ⟨l, a, b, hl2, hab, hb, ea, eb⟩ := hline
  have hpw := clashB_false.1 hc l hl2
  have hlen : (lineVals g s (l : Int)).length = s.toNat := by unfold lineVals; rw [List.length_map, lineC_len]
  have hget : ∀ (j : Nat) (h : j < (lineVals g s (l : Int)).length), (lineVals g s (l : Int))[j] = rd g (lineAt s (l : Int) j) := by
    intro j h
    have hj : j < (lineC s (l : Int)).length := by rw [lineC_len]; omega
    have e : (lineVals g s (l : Int))[j] = rd g ((lineC s (l : Int))[j]) := by simp only [lineVals, List.getElem_map]
    rw [e, lineC_get hj]
  have := List.pairwise_iff_getElem.1 hpw a b (by omega) (by omega) hab
  rw [hget, hget, ea, eb] at this
  exact this (by omega)
theorem less_good {g : List Int} {s : Int} (hg : squareSolved g s = true) {p : Pair} (hp : p ∈ nbs s) : GoodRule g s (lessRule g p) ∧ (lessRule g p).f0 = 4 := by
  obtain ⟨h3, hl, _, _, _⟩ := solved_all hg
  have hin := nbs_in h3 hp
  have hc := nbs_cells5 h3 hl p hp
  have va := solved_rd hg hc.1 hc.2.1
  have vb := solved_rd hg hc.2.2.1 hc.2.2.2
  have hne := lineVals_ne hg hp
  have hsz : sizeIn s = true := decide_eq_true (by omega)
  have good : ∀ a b : Int, 0 ≤ a → a < s * s → 0 ≤ b → b < s * s → a ≠ b → rd g a < rd g b → rd g a ≠ 0 → rd g b ≠ 0 → GoodRule g s ⟨4, [a, b], 0⟩ := by
    intro a b a0 a1 b0 b1 hab hlt za zb
    refine ⟨?_, fun c hcm => ?_, by show (2 : Nat) ≤ 4; decide, fun _ => by show 2 ≤ 2; decide, ?_⟩
    · show (sizeIn s && cellsOk (s * s - 1) [] [a, b] && kindOk 4 2 0 s) = true
      rw [hsz]
      have hne : ¬ b = a := fun e => hab e.symm
      simp [cellsOk, kindOk, hne]
      omega
    · rcases (by simpa using hcm : c = a ∨ c = b) with rfl | rfl
      · exact ⟨a0, by omega, za⟩
      · exact ⟨b0, by omega, zb⟩
    · show ((if (4 : Int) = 1 then _ else true) && holdEnd 4 0 [rd g a, rd g b] _ _) = true
      unfold holdEnd
      show decide (rd g a < rd g b) = true
      exact decide_eq_true hlt
  unfold lessRule
  by_cases hd : rd g p.f0 > rd g p.f1
  · rw [if_pos hd]
    exact ⟨good _ _ (by omega) (by omega) (by omega) (by omega) (by omega) hd (by omega) (by omega), rfl⟩
  · rw [if_neg hd]
    exact ⟨good _ _ (by omega) (by omega) (by omega) (by omega) (by omega) (by omega) (by omega) (by omega), rfl⟩
end Go.Proofs.Ytbcikbekdhdpaaa.Q
end
section
namespace Go.Proofs.Ytbcikbekdhdpaaa.Q
open Go.RowKit Go.Proofs.YtbcikbekdhdpaaaW.PrintWords
abbrev IRule := S29
theorem rdR_nat {xs : List IRule} {i : Nat} (h : i < xs.length) : rd_T29 xs (i : Int) = xs[i] := by
  unfold rd_T29
  rw [Int.toNat_natCast, List.getD_eq_getElem?_getD, List.getElem?_eq_getElem h]
  rfl
def puzzleValid (size : Int) (given : List Int) (rules : List IRule) : Bool := gridValid given size && decide (rules.length ≤ 20) && rules.all (fun r => ruleValid r.f0 r.f1 r.f2 size)
theorem ipv_loop (s : Int) (given : List Int) (rules : List IRule) (hr : rules.length ≤ 9223372036854775807) (hc : ∀ r ∈ rules, r.f1.length ≤ 9223372036854775807) : ∀ n i : Nat, i + n = rules.length →
    Ev (fun k => impl_PuzzleValid.l0 k rules (rules.length : Int) (i : Int) s given rules) ((rules.drop i).all (fun r => ruleValid r.f0 r.f1 r.f2 s)) := by
  intro n
  induction n with
  | zero =>
    intro i hi
    rw [List.drop_of_length_le (by omega), List.all_nil]
    exact Ev.step (fun k => by simp only [impl_PuzzleValid.l0]; rw [if_neg (by omega)]) (Ev.now _)
  | succ n ih =>
    intro i hi
    have hlt : i < rules.length := by omega
    rw [drop_get hlt, List.all_cons]
    refine Ev.step (fun k => by simp only [impl_PuzzleValid.l0]; rw [if_pos (by omega), if_pos (by omega), if_pos (by omega), rdR_nat hlt, wnext hlt hr]) (Ev.bind (implRuleValid_ev _ _ _ s (hc _ (List.getElem_mem hlt))) ?_)
    by_cases h : ruleValid rules[i].f0 rules[i].f1 rules[i].f2 s = true
    · rw [h, Bool.true_and]
      exact Ev.congr (fun k => by rw [if_pos rfl]) (ih (i + 1) (by omega))
    · have h' : ruleValid rules[i].f0 rules[i].f1 rules[i].f2 s = false := by simpa using h
      rw [h', Bool.false_and]
      exact Ev.congr (fun k => by rw [if_neg (by decide)]) (Ev.now _)
theorem implPuzzleValid_ev (s : Int) (given : List Int) (rules : List IRule) (hg : given.length ≤ 9223372036854775807) (hr : rules.length ≤ 9223372036854775807) (hc : ∀ r ∈ rules, r.f1.length ≤ 9223372036854775807) : Ev (fun k => impl_PuzzleValid.f k s given rules) (puzzleValid s given rules) := by
  have hj : Ev (fun k => impl_PuzzleValid.j0 k true s given rules) false := Ev.step (fun k => by simp only [impl_PuzzleValid.j0]; rw [if_pos trivial]) (Ev.now _)
  unfold puzzleValid
  refine Ev.bind (implGridValid_ev given s hg) ?_
  by_cases h : gridValid given s = true
  · rw [h, Bool.true_and]
    refine Ev.congr (f := fun k => impl_PuzzleValid.j0 k (decide ((rules.length : Int) > 20)) s given rules) (fun k => by rw [if_pos rfl]) ?_
    by_cases hl : rules.length ≤ 20
    · rw [decide_eq_true hl, Bool.true_and, decide_eq_false (by omega)]
      have h2 := ipv_loop s given rules hr hc rules.length 0 (by omega)
      rw [List.drop_zero] at h2
      exact Ev.step (fun k => by simp only [impl_PuzzleValid.j0]; rw [if_neg (by decide)]; rfl) h2
    · rw [decide_eq_false hl, Bool.false_and, decide_eq_true (by omega)]
      exact hj
  · have h' : gridValid given s = false := by simpa using h
    rw [h', Bool.false_and, Bool.false_and]
    exact Ev.congr (fun k => by rw [if_neg (by decide)]) hj
end Go.Proofs.Ytbcikbekdhdpaaa.Q
end
section
namespace Go.Proofs.Ytbcikbekdhdpaaa.Q
open Go.RowKit Go.Proofs.YtbcikbekdhdpaaaW.PrintWords
set_option linter.unusedSimpArgs false
set_option linter.unusedVariables false
theorem bit_one : ∀ u v : Fin 5, 1 ≤ u.val → 1 ≤ v.val → (bitAt (shl .i64 1 (u.val : Int)) (v.val : Int) = decide (u.val = v.val)) := by decide +kernel
theorem bitAt_one {u v : Int} (hu : 1 ≤ u ∧ u ≤ 4) (hv : 1 ≤ v ∧ v ≤ 4) : bitAt (shl .i64 1 u) v = decide (u = v) := by
  have h := bit_one ⟨u.toNat, by omega⟩ ⟨v.toNat, by omega⟩ (by show 1 ≤ u.toNat; omega) (by show 1 ≤ v.toNat; omega)
  dsimp only at h
  rw [Int.toNat_of_nonneg (by omega), Int.toNat_of_nonneg (by omega)] at h
  rw [h, decide_eq_decide]
  omega
theorem or_one : ∀ u : Fin 5, 1 ≤ u.val → Go.bits .or .i64 0 (shl .i64 1 (u.val : Int)) ≠ 0 := by decide +kernel
theorem foldS_one {f : Int → Two → Option Two} {u : Int} (hu : u = 1 ∨ u = 2 ∨ u = 3 ∨ u = 4) (h : ∀ v t, (v = 1 ∨ v = 2 ∨ v = 3 ∨ v = 4) → v ≠ u → f v t = some t) (s : Two) : foldS f [1, 2, 3, 4] s = f u s := by
  have hb : ∀ o : Option Two, (o.bind fun t => some t) = o := fun o => by cases o <;> rfl
  have e : ∀ (l : List Int) (t : Two), (∀ v ∈ l, (v = 1 ∨ v = 2 ∨ v = 3 ∨ v = 4) ∧ v ≠ u) → foldS f l t = some t := by
    intro l
    induction l with
    | nil => intro t _; rfl
    | cons v r ih =>
      intro t hl
      rw [foldS, h v t (hl v (by simp)).1 (hl v (by simp)).2]
      exact ih t (fun w hw => hl w (List.mem_cons_of_mem _ hw))
  have e2 : ∀ (l : List Int), (∀ v ∈ l, (v = 1 ∨ v = 2 ∨ v = 3 ∨ v = 4) ∧ v ≠ u) → ∀ s, foldS f (u :: l) s = f u s := by
    intro l hl s
    rw [foldS]
    cases hf : f u s with
    | none => rfl
    | some t => exact e l t hl
  rcases hu with rfl | rfl | rfl | rfl
  · exact e2 [2, 3, 4] (by simp) s
  · rw [foldS, h 1 s (by simp) (by decide)]
    exact e2 [3, 4] (by simp) s
  · rw [foldS, h 1 s (by simp) (by decide), Option.bind_some, foldS, h 2 s (by simp) (by decide)]
    exact e2 [4] (by simp) s
  · rw [foldS, h 1 s (by simp) (by decide), Option.bind_some, foldS, h 2 s (by simp) (by decide), Option.bind_some, foldS, h 3 s (by simp) (by decide)]
    exact e2 [] (by simp) s
theorem tryF_one {kind value : Int} {cells vs : List Int} (hv : ∀ v ∈ vs, 1 ≤ v ∧ v ≤ 4) (hh : Ev (fun k => impl_valuesHold.f k kind cells value vs) true) : ∀ (m i : Nat) (vals outs : List Int), i + m = vs.length → vals.length = vs.length → vals.take i = vs.take i →
    Ev (fun k => tryF k kind cells value (vs.map (fun v => shl .i64 1 v)) m (vals, outs)) (vs, orAll outs vs)
  | 0, i, vals, outs, hi, hl, ht => by
    have e : vals = vs := by
      rw [List.take_of_length_le (by omega), List.take_of_length_le (by omega)] at ht
      exact ht
    subst e
    have hp : vals.all (fun v => decide (0 ≤ v)) = true := List.all_eq_true.2 (fun v hm => decide_eq_true (by have := hv v hm; omega))
    exact Ev.congr (fun k => by rw [tryF]) (Ev.bind hh (Ev.congr (f := fun _ => some (vals, orAll outs vals)) (fun k => by rw [if_pos hp, if_pos rfl]) (Ev.now _)))
  | m + 1, i, vals, outs, hi, hl, ht => by
    have hlt : i < vs.length := by omega
    have hu := hv vs[i] (List.getElem_mem hlt)
    have hml : (vs.map (fun v => shl .i64 1 v)).length = vs.length := List.length_map ..
    have hrd : rd (vs.map (fun v => shl .i64 1 v)) (((vs.map (fun v => shl .i64 1 v)).length : Int) - ((m + 1 : Nat) : Int)) = shl .i64 1 vs[i] := by
      rw [hml, show (vs.length : Int) - ((m + 1 : Nat) : Int) = (i : Int) by omega, rd_nat (by omega), List.getElem_map]
    have hidx : (vs.map (fun v => shl .i64 1 v)).length - (m + 1) = i := by rw [hml]; omega
    have ih := tryF_one hv hh m (i + 1) (vals.set i vs[i]) outs (by omega) (by rw [List.length_set]; exact hl) (set_upto vs vals i hlt hl vs[i] rfl ht)
    refine Ev.congr (fun k => ?_) ih
    rw [tryF, foldS_one (u := vs[i]) (by omega) (fun v t h4 hne => ?_) (vals, outs)]
    · rw [hrd, bitAt_one hu hu, decide_eq_true rfl, if_pos rfl, hidx]
    · rw [hrd, bitAt_one hu (by omega), decide_eq_false (fun e => hne e.symm), if_neg (by decide)]
theorem orAll_head {outs vs : List Int} (h : 0 < vs.length) (ho : outs.length = vs.length) (hz : rd outs 0 = 0) (hv : ∀ v ∈ vs, 1 ≤ v ∧ v ≤ 4) : 0 < (orAll outs vs).length ∧ rd (orAll outs vs) 0 ≠ 0 := by
  unfold orAll
  refine ⟨by rw [orUpto_len]; omega, ?_⟩
  cases vs with
  | nil => exact absurd h (by decide)
  | cons v vs =>
    cases outs with
    | nil => cases ho
    | cons o os =>
      have hv1 := hv v (by simp)
      have ho : o = 0 := hz
      subst ho
      have := or_one ⟨v.toNat, by omega⟩ (by show 1 ≤ v.toNat; omega)
      dsimp only at this
      rw [Int.toNat_of_nonneg (by omega)] at this
      exact this
theorem ruleMasks_one {kind value : Int} {cells vs : List Int} (h0 : 0 < vs.length) (h4 : vs.length ≤ 4) (hv : ∀ v ∈ vs, 1 ≤ v ∧ v ≤ 4) (hh : Ev (fun k => impl_valuesHold.f k kind cells value vs) true) :
    Ends (fun k => impl_ruleMasks.f k kind cells value (vs.map (fun v => shl .i64 1 v))) (fun r => 0 < r.length ∧ rd r 0 ≠ 0) := by
  have hml : (vs.map (fun v => shl .i64 1 v)).length = vs.length := List.length_map ..
  unfold impl_ruleMasks.f
  rw [hml]
  refine Ends.yes h0 (Ends.yes (by omega) (Ends.bindE (tryF_one hv hh vs.length 0 _ _ (by omega) (by simp) rfl) (Ends.some ?_)))
  refine orAll_head h0 (by simp) ?_ hv
  cases hn : vs.length with
  | zero => rfl
  | succ n => rfl
theorem canHold_good {g : List Int} {s : Int} (hg : squareSolved g s = true) {r : PRule} (h : GoodRule g s r) (h0 : 0 < r.f1.length) : Ev (fun k => impl_canHold.f k r.f0 r.f1 r.f2 g s) true := by
  obtain ⟨hval, hcells, hfew, htwo, hholds⟩ := h
  have hvs : ∀ v ∈ r.f1.map (rd g), 1 ≤ v ∧ v ≤ 4 := by
    intro v hv
    obtain ⟨c, hc, rfl⟩ := List.mem_map.1 hv
    obtain ⟨h3, _⟩ := solved_all hg
    have := solved_rd hg (hcells c hc).1 (hcells c hc).2.1
    omega
  have hev := implValuesHold_ev (r.f1.map (rd g)) r.f1 (by rw [List.length_map]; omega) r.f0 r.f2 (by rw [List.length_map]; exact htwo)
  rw [hholds] at hev
  have hrm := ruleMasks_one (cells := r.f1) (by rw [List.length_map]; exact h0) (by rw [List.length_map]; exact hfew) hvs hev
  rw [List.map_map] at hrm
  have loop : ∀ n i : Nat, i + n = r.f1.length → Ends (fun k => impl_canHold.l0 k g s ((r.f1.take i).map ((fun v => shl .i64 1 v) ∘ rd g)) r.f1 (r.f1.length : Int) (i : Int) r.f0 r.f1 r.f2) (· = true) := by
    intro n
    induction n with
    | zero =>
      intro i hi
      refine Ends.step (fun k => by simp only [impl_canHold.l0]; rfl) (Ends.no (by omega) ?_)
      rw [List.take_of_length_le (by omega)]
      refine Ends.bind hrm (fun x hx => Ends.yes (by omega) (Ends.some ?_))
      exact bne_iff_ne.2 hx.2
    | succ n ih =>
      intro i hi
      have hlt : i < r.f1.length := by omega
      obtain ⟨c0, c1, cz⟩ := hcells r.f1[i] (List.getElem_mem hlt)
      have := solved_rd hg c0 c1
      have h := ih (i + 1) (by omega)
      rw [take_succ_get hlt, List.map_append] at h
      refine Ends.step (fun k => by simp only [impl_canHold.l0]; rfl) (Ends.yes (by omega) (Ends.yes (by omega) (Ends.yes (by omega) ?_)))
      rw [rd_nat hlt, wnext hlt (by omega)]
      exact Ends.yes c0 (Ends.yes c1 (Ends.yes (by omega) (Ends.yes (by omega) (Ends.yes (by rw [List.length_map, List.length_take]; omega) h))))
  exact (loop r.f1.length 0 (by omega)).ev
theorem zeros_valid {g : List Int} {s : Int} (hg : squareSolved g s = true) : gridValid (List.replicate g.length 0) s = true := by
  obtain ⟨h3, hl, _, _, _⟩ := solved_all hg
  unfold gridValid
  rw [show sizeIn s = true from decide_eq_true (by omega), List.length_replicate, decide_eq_true hl]
  refine List.all_eq_true.2 (fun v hv => ?_)
  rw [List.eq_of_mem_replicate hv]
  exact decide_eq_true (by omega)
theorem solved_ev {g : List Int} {s : Int} (hg : squareSolved g s = true) {xs : List PRule} (h20 : xs.length ≤ 20) (hx : ∀ r ∈ xs, GoodRule g s r ∧ 0 < r.f1.length) : Ev (fun k => impl_PuzzleSolved.f k s (List.replicate g.length 0) xs g) true := by
  obtain ⟨h3, hl, hin, hc, hgv⟩ := solved_all hg
  have hl16 := sq_in h3 hl
  have hsf : squareFits g s = true := by unfold squareFits; rw [hgv, hc]; rfl
  have hfit : Ev (fun k => impl_PuzzleFits.f k s (List.replicate g.length 0) xs g) true := by
    refine Ends.ev ?_
    unfold impl_PuzzleFits.f
    have hpv := implPuzzleValid_ev s (List.replicate g.length 0) xs (by rw [List.length_replicate]; omega) (by omega) (fun r hr => by have := (hx r hr).1.few; omega)
    have e : puzzleValid s (List.replicate g.length 0) xs = true := by
      unfold puzzleValid
      rw [zeros_valid hg, decide_eq_true h20]
      exact List.all_eq_true.2 (fun r hr => (hx r hr).1.valid)
    rw [e] at hpv
    have hsq := implSquareFits_ev g s (by omega)
    rw [hsf] at hsq
    refine Ends.bindE hpv (Ends.yes rfl (Ends.bindE hsq (Ends.step (fun k => by simp only [impl_PuzzleFits.j0]; rfl) (Ends.no (by decide) ?_))))
    have l1 : ∀ n i : Nat, i + n = xs.length → Ends (fun k => impl_PuzzleFits.l1 k g xs (xs.length : Int) (i : Int) s (List.replicate g.length 0) xs) (· = true) := by
      intro n
      induction n with
      | zero =>
        intro i hi
        exact Ends.step (fun k => by simp only [impl_PuzzleFits.l1]; rfl) (Ends.no (by omega) (Ends.some rfl))
      | succ n ih =>
        intro i hi
        have hlt : i < xs.length := by omega
        obtain ⟨a, b⟩ := hx xs[i] (List.getElem_mem hlt)
        refine Ends.step (fun k => by simp only [impl_PuzzleFits.l1]; rfl) (Ends.yes (by omega) (Ends.yes (by omega) (Ends.yes (by omega) ?_)))
        rw [rdP_nat hlt, wnext hlt (by omega)]
        exact Ends.bindE (canHold_good hg a b) (Ends.yes rfl (ih (i + 1) (by omega)))
    have l0 : ∀ n i : Nat, i + n = g.length → Ends (fun k => impl_PuzzleFits.l0 k g g (g.length : Int) (i : Int) s (List.replicate g.length 0) xs) (· = true) := by
      intro n
      induction n with
      | zero =>
        intro i hi
        exact Ends.step (fun k => by simp only [impl_PuzzleFits.l0]; rfl) (Ends.no (by omega) (l1 xs.length 0 (by omega)))
      | succ n ih =>
        intro i hi
        have hlt : i < g.length := by omega
        have hz : rd (List.replicate g.length 0) (i : Int) = 0 := by rw [rd_nat (by rw [List.length_replicate]; exact hlt), List.getElem_replicate]
        refine Ends.step (fun k => by simp only [impl_PuzzleFits.l0]; rfl) (Ends.yes (by omega) (Ends.yes (by omega) (Ends.yes (by omega) ?_)))
        rw [hz, wnext hlt (by omega), List.length_replicate]
        have h := ih (i + 1) (by omega)
        exact Ends.dec (fun _ => Ends.yes (by omega) (Ends.no (by decide) h)) (fun _ => h)
    exact l0 g.length 0 (by omega)
  refine Ends.ev ?_
  unfold impl_PuzzleSolved.f
  refine Ends.bindE hfit (Ends.yes rfl ?_)
  have hf := implGridFilled_ev g s (by omega)
  have e : gridFilled g s = (g.length : Int) := by
    unfold gridFilled
    rw [if_pos hgv]
    unfold filled
    rw [List.countP_eq_length.2 (fun v hv => decide_eq_true (by have := hin v hv; omega))]
  rw [e] at hf
  exact Ends.bindE hf (Ends.some (by simp))
theorem pure_FnRulesGrid (l0 : List Int) (hb : ∀ x ∈ l0, (Lit.int .u8 x).wf = true) : ∃ k, laws_FnRulesGrid.f k l0 = some true := by
  refine Ends.rounds ?_
  unfold laws_FnRulesGrid.f
  refine Ends.dec (fun _ => Ends.some rfl) (fun _ => ?_)
  refine Ends.bind (drawApart_e (byte_wf hb)) ?_
  rintro ⟨g, s, by_⟩ ⟨hg16, hs0, hs1, hb0, hb1⟩
  dsimp only at hg16 hs0 hs1 hb0 hb1 ⊢
  refine Ends.bindE (implApart_ev g s by_ (by omega)) (Ends.bindE (specApart_ev g s by_ (by omega)) (Ends.yes rfl ?_))
  refine Ends.bindE (specSquareSolved_ev g s (by omega)) ?_
  by_cases h1 : squareSolved g s = true
  · rw [h1]
    obtain ⟨h3, hl, _, _, _⟩ := solved_all h1
    have hnb := nbs_all h3
    refine Ends.yes rfl (Ends.bindE (implLess_ev g s 6 (by omega)) (Ends.someB ?_))
    -- both lists are good
    have hless : ∀ r ∈ lessRules g s 6, GoodRule g s r ∧ 0 < r.f1.length := fun r hr => by
      unfold lessRules at hr
      rw [if_pos ⟨h1, by decide, by decide⟩] at hr
      obtain ⟨p, hp, rfl⟩ := List.mem_map.1 (List.mem_of_mem_take hr)
      have hg := less_good h1 hp
      exact ⟨hg.1, by have := hg.1.two (.inl hg.2); omega⟩
    have hll : (lessRules g s 6).length ≤ 6 := by
      unfold lessRules
      rw [if_pos ⟨h1, by decide, by decide⟩, List.length_take]
      exact Nat.min_le_left _ _
    have hap : (∀ r ∈ apartRules g s by_, GoodRule g s r ∧ 0 < r.f1.length) ∧ (apartRules g s by_).length ≤ 20 := by
      unfold apartRules
      by_cases h : squareSolved g s = true ∧ 0 ≤ by_ ∧ by_ < s
      · rw [if_pos h]
        obtain ⟨i1, i2⟩ := apartGo_good h1 h.2.1 h.2.2 (nbs s) [] (fun _ h => h) (by simp) (by simp)
        exact ⟨fun r hr => ⟨(i1 r hr).1, by have := (i1 r hr).1.two (.inr (i1 r hr).2.1); omega⟩, by rw [i2]; omega⟩
      · rw [if_neg h]
        exact ⟨by simp, by simp⟩
    refine Ends.yes (by rw [List.length_nil]; omega) (Ends.someB ?_)
    rw [List.nil_append]
    refine Ends.yes (by have := hap.2; omega) (Ends.someB ?_)
    refine Ends.dec (fun _ => Ends.some rfl) (fun h20 => ?_)
    refine Ends.yes (by omega) (Ends.yes (by omega) ?_)
    rw [Int.toNat_natCast]
    refine Ends.bindE (solved_ev h1 (by omega) (fun r hr => ?_)) (Ends.some rfl)
    rcases List.mem_append.1 hr with hr | hr
    · exact hless r hr
    · exact hap.1 r hr
  · rw [show squareSolved g s = false by simpa using h1]
    exact Ends.no (by decide) (Ends.bindE alive_ev (Ends.some rfl))
end Go.Proofs.Ytbcikbekdhdpaaa.Q
end
