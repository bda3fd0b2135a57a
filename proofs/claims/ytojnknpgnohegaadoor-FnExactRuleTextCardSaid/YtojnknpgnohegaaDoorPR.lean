/- Plain laws on the texts of rules: the program's and the reference's are one. -/
import Derived.Test.YtojnknpgnohegaaDoorPB
import Derived.Test.YtojnknpgnohegaaDoorPH
import Derived.Test.YtojnknpgnohegaaDoorQ6
import Derived.Test.YtojnknpgnohegaaDoorQ8
import Derived.Test.YtojnknpgnohegaaDoorQ9
namespace Go.Proofs.YtojnknpgnohegaaDoor.Q
open Go.RowKit Go.Proofs.YtojnknpgnohegaaDoorW.PrintWords

theorem str_append (a b : List Int) : strOfNums (a ++ b) = strOfNums a ++ strOfNums b := by
  unfold strOfNums
  apply ByteArray.ext
  rw [ByteArray.data_append]
  simp
theorem str_size (a : List Int) : (strOfNums a).size = a.length := by
  unfold strOfNums ByteArray.size
  simp
/-- The decimal digits, as the reference makes them. -/
theorem number_loop : ∀ (n : Nat) (acc : ByteArray), n + acc.size ≤ 1000000000000 → Ev (fun k => spec_l22Number.l0 k (n : Int) acc) (if 9 < n then ⟨(Lib.decDigits (n / 10)).toArray⟩ ++ acc else acc) := by
  intro n
  induction n using Nat.strongRecOn with
  | _ n ih =>
    intro acc ha
    by_cases h : 9 < n
    · rw [if_pos h]
      have e1 : Int.tdiv (n : Int) 10 = ((n / 10 : Nat) : Int) := by rw [Int.tdiv_eq_ediv_of_nonneg (by omega)]; omega
      have e2 : wrap64 ((n / 10 : Nat) : Int) = ((n / 10 : Nat) : Int) := w64 (by omega) (by omega)
      have e3 : Int.tmod ((n / 10 : Nat) : Int) 10 = ((n / 10 % 10 : Nat) : Int) := by rw [Int.tmod_eq_emod_of_nonneg (by omega)]; omega
      have e4 : wrap64 (48 + ((n / 10 % 10 : Nat) : Int)) % 256 = 48 + ((n / 10 % 10 : Nat) : Int) := by rw [w64 (by omega) (by omega)]; omega
      have hs : (strOfNums [48 + ((n / 10 % 10 : Nat) : Int)] ++ acc).size = 1 + acc.size := by rw [ByteArray.size_append, str_size]; rfl
      have h1 := ih (n / 10) (by omega) (strOfNums [48 + ((n / 10 % 10 : Nat) : Int)] ++ acc) (by rw [hs]; omega)
      have e5 : (if 9 < n / 10 then (⟨(Lib.decDigits (n / 10 / 10)).toArray⟩ : ByteArray) ++ (strOfNums [48 + ((n / 10 % 10 : Nat) : Int)] ++ acc) else strOfNums [48 + ((n / 10 % 10 : Nat) : Int)] ++ acc) = ⟨(Lib.decDigits (n / 10)).toArray⟩ ++ acc := by
        have ed : strOfNums [48 + ((n / 10 % 10 : Nat) : Int)] = ⟨[UInt8.ofNat (48 + n / 10 % 10)].toArray⟩ := by
          unfold strOfNums
          simp only [List.map_cons, List.map_nil]
          rw [show (48 + ((n / 10 % 10 : Nat) : Int)).toNat = 48 + n / 10 % 10 by omega]
        rw [ed]
        by_cases h2 : 9 < n / 10
        · rw [if_pos h2, ← ByteArray.append_assoc]
          congr 1
          rw [Lib.decDigits.eq_1 (n / 10), dif_neg (by omega)]
          apply ByteArray.ext
          rw [ByteArray.data_append]
          simp
        · rw [if_neg h2]
          congr 1
          rw [Lib.decDigits.eq_1 (n / 10), dif_pos (by omega), Nat.mod_eq_of_lt (by omega)]
      rw [e5] at h1
      exact Ev.step (fun k => by
        simp only [spec_l22Number.l0]
        rw [if_pos (by omega), e1, e2, e3, e4]
        simp only [Option.bind_some]
        rw [if_pos (by rw [str_size]; simp only [List.length_singleton]; omega)]) h1
    · rw [if_neg h]
      exact Ev.step (fun k => by simp only [spec_l22Number.l0]; rw [if_neg (by omega)]) (Ev.now _)
theorem number_ev (n : Int) (h0 : 0 ≤ n) (h1 : n ≤ 100000) : Ev (fun k => spec_l22Number.f k n) ⟨(Lib.itoa n).toArray⟩ := by
  obtain ⟨m, rfl⟩ := Int.eq_ofNat_of_zero_le h0
  have e3 : Int.tmod (m : Int) 10 = ((m % 10 : Nat) : Int) := by rw [Int.tmod_eq_emod_of_nonneg (by omega)]; omega
  have e4 : wrap64 (48 + ((m % 10 : Nat) : Int)) % 256 = 48 + ((m % 10 : Nat) : Int) := by rw [w64 (by omega) (by omega)]; omega
  have h := number_loop m (strOfNums [48 + ((m % 10 : Nat) : Int)]) (by rw [str_size]; simp only [List.length_singleton]; omega)
  have ed : strOfNums [48 + ((m % 10 : Nat) : Int)] = ⟨[UInt8.ofNat (48 + m % 10)].toArray⟩ := by
    unfold strOfNums
    simp only [List.map_cons, List.map_nil]
    rw [show (48 + ((m % 10 : Nat) : Int)).toNat = 48 + m % 10 by omega]
  have e : (if 9 < m then (⟨(Lib.decDigits (m / 10)).toArray⟩ : ByteArray) ++ strOfNums [48 + ((m % 10 : Nat) : Int)] else strOfNums [48 + ((m % 10 : Nat) : Int)]) = ⟨(Lib.itoa (m : Int)).toArray⟩ := by
    unfold Lib.itoa
    rw [if_neg (show ¬ ((m : Int) < 0) by omega), Int.toNat_natCast, ed, Lib.decDigits.eq_1 m]
    by_cases h2 : 9 < m
    · rw [if_pos h2, dif_neg (by omega)]
      apply ByteArray.ext
      rw [ByteArray.data_append]
      simp
    · rw [if_neg h2, dif_pos (by omega), Nat.mod_eq_of_lt (by omega)]
  rw [e] at h
  exact Ev.congr (fun k => by unfold spec_l22Number.f; rw [e3, e4]) h
theorem itoa_eq (n : Int) (h0 : 0 ≤ n) (h1 : n ≤ 100000) : strconv_Itoa.f n = some ⟨(Lib.itoa n).toArray⟩ := by
  unfold strconv_Itoa.f
  rw [if_pos (by omega), if_pos (by omega)]
theorem decDigits_len : ∀ n : Nat, (Lib.decDigits n).length ≤ n + 1 := by
  intro n
  induction n using Nat.strongRecOn with
  | _ n ih =>
    rw [Lib.decDigits]
    by_cases h : n < 10
    · rw [dif_pos h]; simp
    · rw [dif_neg h]
      have := ih (n / 10) (by omega)
      simp only [List.length_append, List.length_singleton]
      omega
theorem itoa_size (n : Int) (h0 : 0 ≤ n) (h1 : n ≤ 100000) : (⟨(Lib.itoa n).toArray⟩ : ByteArray).size ≤ 100001 := by
  unfold Lib.itoa
  rw [if_neg (by omega)]
  have := decDigits_len n.toNat
  show (Lib.decDigits n.toNat).toArray.size ≤ 100001
  simp only [List.size_toArray]
  omega

/-! the text of a valid rule -/
/-- The letters' part. -/
def lettersOf (kind : Int) (cells : List Int) : List Int := bt (⟨#[100, 115, 112, 108, 97]⟩ : ByteArray) (kind - 1) :: cells.map fun c => 97 + c
def ruleT (kind : Int) (cells : List Int) (value : Int) : ByteArray :=
  if kind = 2 ∨ kind = 3 ∨ kind = 5 then (strOfNums (lettersOf kind cells) ++ (⟨#[61]⟩ : ByteArray)) ++ ⟨(Lib.itoa value).toArray⟩ else strOfNums (lettersOf kind cells)
/-- What a valid rule is known to be. -/
structure RuleIn (kind : Int) (cells : List Int) (value : Int) : Prop where
  k0 : 1 ≤ kind
  k1 : kind ≤ 5
  len : cells.length ≤ 4
  cell : ∀ c ∈ cells, 0 ≤ c ∧ c ≤ 15
  v0 : 0 ≤ value
  v1 : value ≤ 256
theorem cellsOk_mem {M : Int} : ∀ (xs pre : List Int), cellsOk M pre xs = true → ∀ c ∈ xs, 0 ≤ c ∧ c ≤ M
  | [], _, _, c, hc => by simp at hc
  | x :: r, pre, h, c, hc => by
    simp only [cellsOk, Bool.and_eq_true, decide_eq_true_eq] at h
    rcases List.mem_cons.1 hc with rfl | hc
    · exact h.1.1
    · exact cellsOk_mem r _ h.2 c hc
theorem kindOk_in {kind n value size : Int} (hs : 2 ≤ size ∧ size ≤ 4) (h : kindOk kind n value size = true) : 1 ≤ kind ∧ kind ≤ 5 ∧ n ≤ 4 ∧ 0 ≤ value ∧ value ≤ 256 := by
  have h3 : size = 2 ∨ size = 3 ∨ size = 4 := by omega
  unfold kindOk at h
  split at h
  · simp only [Bool.and_eq_true, decide_eq_true_eq] at h; omega
  · split at h
    · rename_i hk
      simp only [Bool.and_eq_true, decide_eq_true_eq] at h
      rcases h3 with rfl | rfl | rfl <;> (rcases hk with rfl | rfl <;> omega)
    · split at h
      · simp only [Bool.and_eq_true, decide_eq_true_eq] at h; omega
      · split at h
        · simp only [Bool.and_eq_true, decide_eq_true_eq] at h; omega
        · cases h
theorem ruleIn_of {kind : Int} {cells : List Int} {value : Int} (h : ruleValid kind cells value 4 = true) : RuleIn kind cells value := by
  unfold ruleValid at h
  simp only [Bool.and_eq_true] at h
  obtain ⟨⟨_, h2⟩, h3⟩ := h
  obtain ⟨a, b, c, d, e⟩ := kindOk_in ⟨by omega, by omega⟩ h3
  exact ⟨a, b, by omega, fun c hc => by have := cellsOk_mem _ _ h2 c hc; omega, d, e⟩
theorem byte97 {c : Int} (h : 0 ≤ c ∧ c ≤ 15) : wrap64 (97 + c) % 256 = 97 + c := by rw [w64 (by omega) (by omega)]; omega
theorem itoaT {v : Int} (h0 : 0 ≤ v) (h1 : v ≤ 256) : (⟨(Lib.itoa v).toArray⟩ : ByteArray).size ≤ 100001 := itoa_size v h0 (by omega)

theorem irt_loop {kind : Int} {cells : List Int} {value : Int} (h : RuleIn kind cells value) : ∀ n i : Nat, i + n = cells.length → ∀ out : List Int, out.length ≤ 1 + i →
    Ev (fun k => impl_RuleText.l0 k out cells (cells.length : Int) (i : Int) kind cells value) (if kind = 2 ∨ kind = 3 ∨ kind = 5 then (strOfNums (out ++ (cells.drop i).map fun c => 97 + c) ++ (⟨#[61]⟩ : ByteArray)) ++ ⟨(Lib.itoa value).toArray⟩ else strOfNums (out ++ (cells.drop i).map fun c => 97 + c)) := by
  intro n
  have hlen := h.len
  have h0 := h.v0
  have h1 := h.v1
  induction n with
  | zero =>
    intro i hi out ho
    rw [List.drop_of_length_le (by omega), List.map_nil, List.append_nil]
    have hz := itoaT h0 h1
    have hs : (strOfNums out).size ≤ 5 := by rw [str_size]; omega
    have hs2 : ((strOfNums out) ++ (⟨#[61]⟩ : ByteArray)).size ≤ 6 := by rw [ByteArray.size_append]; exact Nat.add_le_add hs (Nat.le_refl 1)
    refine Ev.step (f := fun _ => some _) (fun k => ?_) (Ev.now _)
    simp only [impl_RuleText.l0, itoa_eq value h0 (by omega), Option.bind_some]
    rw [if_neg (by omega)]
    by_cases e2 : kind = 2
    · rw [if_pos e2, if_pos (by omega), if_pos (by omega), if_pos (Or.inl e2)]
    · rw [if_neg e2]
      by_cases e3 : kind = 3
      · rw [if_pos e3, if_pos (by omega), if_pos (by omega), if_pos (Or.inr (Or.inl e3))]
      · rw [if_neg e3]
        by_cases e5 : kind = 5
        · rw [if_pos e5, if_pos (by omega), if_pos (by omega), if_pos (Or.inr (Or.inr e5))]
        · rw [if_neg e5, if_neg (by rintro (h | h | h) <;> contradiction)]
  | succ n ih =>
    intro i hi out ho
    have hlt : i < cells.length := by omega
    have hc := h.cell cells[i] (List.getElem_mem hlt)
    have h2 := ih (i + 1) (by omega) (out ++ [97 + cells[i]]) (by simp only [List.length_append, List.length_singleton]; omega)
    rw [drop_get hlt, List.map_cons, List.append_cons]
    exact Ev.step (fun k => by simp only [impl_RuleText.l0]; rw [if_pos (by omega), if_pos (by omega), if_pos (by omega), if_pos (by omega), rd_nat hlt, byte97 hc, wnext hlt (by omega)]) h2
theorem implRuleText_ev (kind : Int) (cells : List Int) (value : Int) (hx : cells.length ≤ 9223372036854775807) :
    Ev (fun k => impl_RuleText.f k kind cells value) (if ruleValid kind cells value 4 = true then ruleT kind cells value else ⟨#[]⟩) := by
  refine Ev.bind (implRuleValid_ev kind cells value 4 hx) ?_
  by_cases hv : ruleValid kind cells value 4 = true
  · have h := ruleIn_of hv
    obtain ⟨a, b⟩ := (⟨h.k0, h.k1⟩ : 1 ≤ kind ∧ kind ≤ 5)
    have e1 : wrap64 (kind - 1) = kind - 1 := w64 (by omega) (by omega)
    have h2 := irt_loop h cells.length 0 (by omega) [bt (⟨#[100, 115, 112, 108, 97]⟩ : ByteArray) (kind - 1)] (by simp)
    rw [hv, if_pos rfl]
    unfold ruleT lettersOf
    exact Ev.congr (fun k => by rw [if_pos rfl, e1, if_pos (by omega), if_pos (by omega)]; rfl) h2
  · have hv' : ruleValid kind cells value 4 = false := by simpa using hv
    rw [hv', if_neg (by decide)]
    exact Ev.congr (fun k => by rw [if_neg (by decide)]) (Ev.now _)
theorem srt_loop {kind : Int} {cells : List Int} {value : Int} (h : RuleIn kind cells value) : ∀ n i : Nat, i + n = cells.length → ∀ out : List Int, out.length ≤ 1 + i →
    Ev (fun k => spec_RuleText.l0 k (strOfNums out) (i : Int) kind cells value) (if kind = 2 ∨ kind = 3 ∨ kind = 5 then (strOfNums (out ++ (cells.drop i).map fun c => 97 + c) ++ (⟨#[61]⟩ : ByteArray)) ++ ⟨(Lib.itoa value).toArray⟩ else strOfNums (out ++ (cells.drop i).map fun c => 97 + c)) := by
  intro n
  have hlen := h.len
  have h0 := h.v0
  have h1 := h.v1
  induction n with
  | zero =>
    intro i hi out ho
    rw [List.drop_of_length_le (by omega), List.map_nil, List.append_nil]
    have hz := itoaT h0 h1
    have hs : (strOfNums out).size ≤ 5 := by rw [str_size]; omega
    have hs2 : ((strOfNums out) ++ (⟨#[61]⟩ : ByteArray)).size ≤ 6 := by rw [ByteArray.size_append]; exact Nat.add_le_add hs (Nat.le_refl 1)
    have hn := number_ev value h0 (by omega)
    by_cases e2 : kind = 2
    · rw [if_pos (Or.inl e2)]
      refine Ev.step (fun k => by simp only [spec_RuleText.l0]; rw [if_neg (by omega), if_pos e2, if_pos (by omega)]) (Ev.bind hn ?_)
      exact Ev.congr (fun k => by rw [if_pos (by omega)]) (Ev.now _)
    · by_cases e3 : kind = 3
      · rw [if_pos (Or.inr (Or.inl e3))]
        refine Ev.step (fun k => by simp only [spec_RuleText.l0]; rw [if_neg (by omega), if_neg e2, if_pos e3, if_pos (by omega)]) (Ev.bind hn ?_)
        exact Ev.congr (fun k => by rw [if_pos (by omega)]) (Ev.now _)
      · by_cases e5 : kind = 5
        · rw [if_pos (Or.inr (Or.inr e5))]
          refine Ev.step (fun k => by simp only [spec_RuleText.l0]; rw [if_neg (by omega), if_neg e2, if_neg e3, if_pos e5, if_pos (by omega)]) (Ev.bind hn ?_)
          exact Ev.congr (fun k => by rw [if_pos (by omega)]) (Ev.now _)
        · rw [if_neg (by rintro (h | h | h) <;> contradiction)]
          exact Ev.step (fun k => by simp only [spec_RuleText.l0]; rw [if_neg (by omega), if_neg e2, if_neg e3, if_neg e5]) (Ev.now _)
  | succ n ih =>
    intro i hi out ho
    have hlt : i < cells.length := by omega
    have hc := h.cell cells[i] (List.getElem_mem hlt)
    have h2 := ih (i + 1) (by omega) (out ++ [97 + cells[i]]) (by simp only [List.length_append, List.length_singleton]; omega)
    rw [drop_get hlt, List.map_cons, List.append_cons]
    exact Ev.step (fun k => by
      simp only [spec_RuleText.l0]
      rw [if_pos (by omega), if_pos (by omega), rd_nat hlt, byte97 hc, wnext hlt (by omega)]
      simp only [Option.bind_some]
      rw [if_pos (by rw [str_size, str_size]; simp only [List.length_singleton]; omega), ← str_append]) h2
theorem letter_cut : ∀ kind : Int, 1 ≤ kind → kind ≤ 5 → (⟨#[100, 115, 112, 108, 97]⟩ : ByteArray).extract (kind - 1).toNat kind.toNat = strOfNums [bt (⟨#[100, 115, 112, 108, 97]⟩ : ByteArray) (kind - 1)] := by
  intro kind h0 h1
  have : kind = 1 ∨ kind = 2 ∨ kind = 3 ∨ kind = 4 ∨ kind = 5 := by omega
  rcases this with rfl | rfl | rfl | rfl | rfl <;> rfl
theorem specRuleText_ev (kind : Int) (cells : List Int) (value : Int) (hx : cells.length ≤ 9223372036854775807) :
    Ev (fun k => spec_RuleText.f k kind cells value) (if ruleValid kind cells value 4 = true then ruleT kind cells value else ⟨#[]⟩) := by
  refine Ev.bind (specRuleValid_ev kind cells value 4 hx) ?_
  by_cases hv : ruleValid kind cells value 4 = true
  · have h := ruleIn_of hv
    obtain ⟨a, b⟩ := (⟨h.k0, h.k1⟩ : 1 ≤ kind ∧ kind ≤ 5)
    have e1 : wrap64 (kind - 1) = kind - 1 := w64 (by omega) (by omega)
    have h2 := srt_loop h cells.length 0 (by omega) [bt (⟨#[100, 115, 112, 108, 97]⟩ : ByteArray) (kind - 1)] (by simp)
    rw [hv, if_pos rfl]
    unfold ruleT lettersOf
    exact Ev.congr (fun k => by rw [if_pos rfl, e1, if_pos (by omega), if_pos (by omega), if_pos (by omega), letter_cut kind a b]; rfl) h2
  · have hv' : ruleValid kind cells value 4 = false := by simpa using hv
    rw [hv', if_neg (by decide)]
    exact Ev.congr (fun k => by rw [if_neg (by decide)]) (Ev.now _)
theorem toRule_ev (a : Int) (xs : List Int) (c : Int) (hx : xs.length ≤ 1048576) : Ev (fun k => laws_toRule.f k a xs c) (a, xs, c) := Ev.bind (toIntS_ev xs hx) (Ev.now _)
theorem eqRule_refl (a : Int) (xs : List Int) (c : Int) (hx : xs.length ≤ 9223372036854775807) : Ev (fun k => laws_eqRule.f k a xs c a xs c) true := by
  have h := eqIntS_ev xs xs hx
  rw [decide_eq_true rfl] at h
  refine Ev.congr (f := fun k => (laws_eqIntS.f k xs xs).bind fun t => if t = true then (if c = c then some true else some false) else some false) (fun k => by unfold laws_eqRule.f; rw [if_pos rfl]) (Ev.bind h ?_)
  exact Ev.congr (fun k => by rw [if_pos rfl, if_pos rfl]) (Ev.now _)
theorem szRule_eq (a : Int) (xs : List Int) (c left : Int) (hx : xs.length ≤ 9223372036854775807) (h0 : 0 ≤ left) (h1 : left ≤ 1048576) : laws_szRule.f a xs c left = some (if left < xs.length then -1 else left - xs.length) := by
  unfold laws_szRule.f
  rw [szIntS_eq xs left hx h0 h1]
  simp only [Option.bind_some]
  by_cases h : left < xs.length
  · rw [if_pos h, if_pos (by omega)]
  · rw [if_neg h, if_neg (by omega)]
theorem pure_FnExactRuleText (a : Int) (xs : List Int) (c : Int) (_ : (Lit.int .i64 a).wf = true) (hx : xs.length ≤ 9223372036854775807) (_ : ∀ x ∈ xs, (Lit.int .i64 x).wf = true) (_ : (Lit.int .i64 c).wf = true) : ∃ k, laws_FnExactRuleText.f k a xs c = some true := by
  apply Ev.rounds
  unfold laws_FnExactRuleText.f
  rw [szRule_eq a xs c 1048576 hx (by omega) (by omega)]
  simp only [Option.bind_some]
  by_cases h : (1048576 : Int) < xs.length
  · rw [if_pos h]
    exact Ev.congr (fun k => by rw [if_pos (by omega)]) (Ev.now _)
  · rw [if_neg h]
    refine Ev.congr (fun k => by rw [if_neg (by omega)]) ?_
    refine Ev.bind (toRule_ev a xs c (by omega)) ?_
    refine Ev.bind (specRuleText_ev a xs c hx) ?_
    refine Ev.bind (toRule_ev a xs c (by omega)) ?_
    refine Ev.bind (implRuleText_ev a xs c hx) ?_
    refine Ev.congr (fun k => by rw [if_pos rfl]) ?_
    refine Ev.bind (toRule_ev a xs c (by omega)) ?_
    refine Ev.bind (eqRule_refl a xs c hx) ?_
    exact Ev.congr (fun k => by rw [if_pos rfl]) (Ev.now _)
end Go.Proofs.YtojnknpgnohegaaDoor.Q
