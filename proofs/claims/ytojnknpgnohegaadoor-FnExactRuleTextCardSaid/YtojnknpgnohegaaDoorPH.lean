/- Plain laws on the texts of hints. -/
import Derived.Test.YtojnknpgnohegaaDoorPB
import Derived.Test.YtojnknpgnohegaaDoorQ3
import Derived.Test.YtojnknpgnohegaaDoorQ4
namespace Go.Proofs.YtojnknpgnohegaaDoor.Q
open Go.RowKit Go.Proofs.YtojnknpgnohegaaDoorW.PrintWords

/-- The text of a hint. -/
def hintT (a b c : Int) : ByteArray := (((((⟨#[99, 101, 108, 108, 32]⟩ : ByteArray) ++ (strOfNums [97 + b])) ++ (⟨#[32, 105, 115, 32]⟩ : ByteArray)) ++ (strOfNums [48 + c])) ++ (⟨#[32, 98, 121, 32]⟩ : ByteArray)) ++ (strOfNums [48 + a])
def HintIn (a b c : Int) : Prop := 0 ≤ a ∧ a ≤ 4 ∧ 0 ≤ b ∧ b ≤ 15 ∧ 1 ≤ c ∧ c ≤ 4
theorem size_one (n : Int) : (strOfNums [n]).size = 1 := rfl
theorem size_lit5 : (⟨#[99, 101, 108, 108, 32]⟩ : ByteArray).size = 5 := rfl
theorem size_lit4a : (⟨#[32, 105, 115, 32]⟩ : ByteArray).size = 4 := rfl
theorem size_lit4b : (⟨#[32, 98, 121, 32]⟩ : ByteArray).size = 4 := rfl
theorem mod_byte {n : Int} (h0 : 0 ≤ n) (h1 : n ≤ 200) (m : Int) (hm : 0 ≤ m) (hm1 : m ≤ 55) : wrap64 (m + n) % 256 = m + n ∨ 256 ≤ m + n := by
  rw [w64 (by omega) (by omega)]; omega
theorem itoa_digit {n : Int} (h0 : 0 ≤ n) (h1 : n ≤ 9) : strconv_Itoa.f n = some (strOfNums [48 + n]) := by
  unfold strconv_Itoa.f
  rw [if_pos (by omega), if_pos (by omega)]
  unfold Lib.itoa
  rw [if_neg (by omega), Lib.decDigits, dif_pos (by omega)]
  unfold strOfNums
  have e : (48 + n).toNat = 48 + n.toNat := by omega
  simp only [List.map_cons, List.map_nil, e]
theorem spec_in {a b c : Int} (h : HintIn a b c) : spec_HintText.f a b c = some (hintT a b c) := by
  obtain ⟨h1, h2, h3, h4, h5, h6⟩ := h
  unfold spec_HintText.f
  simp only [l1In_eq, Option.bind_some]
  have e1 : wrap64 (97 + b) % 256 = 97 + b := by rw [w64 (by omega) (by omega)]; omega
  have e2 : wrap64 (48 + c) % 256 = 48 + c := by rw [w64 (by omega) (by omega)]; omega
  have e3 : wrap64 (48 + a) % 256 = 48 + a := by rw [w64 (by omega) (by omega)]; omega
  rw [if_pos (decide_eq_true ⟨h1, h2⟩), if_pos (decide_eq_true ⟨h3, h4⟩), if_pos (decide_eq_true ⟨h5, h6⟩), e1, e2, e3]
  simp only [ByteArray.size_append, size_one, size_lit5, size_lit4a, size_lit4b]
  rfl
theorem spec_out {a b c : Int} (h : ¬ HintIn a b c) : spec_HintText.f a b c = some ⟨#[]⟩ := by
  unfold spec_HintText.f
  simp only [l1In_eq, Option.bind_some]
  by_cases h1 : 0 ≤ a ∧ a ≤ 4
  · rw [if_pos (decide_eq_true h1)]
    by_cases h2 : 0 ≤ b ∧ b ≤ 15
    · rw [if_pos (decide_eq_true h2)]
      by_cases h3 : 1 ≤ c ∧ c ≤ 4
      · exact absurd ⟨h1.1, h1.2, h2.1, h2.2, h3.1, h3.2⟩ h
      · rw [if_neg (by simpa using h3)]
    · rw [if_neg (by simpa using h2)]
  · rw [if_neg (by simpa using h1)]
theorem impl_in {a b c : Int} (k : Nat) (h : HintIn a b c) : impl_HintText.f (k + 1) a b c = some (hintT a b c) := by
  obtain ⟨h1, h2, h3, h4, h5, h6⟩ := h
  unfold impl_HintText.f
  rw [if_neg (by omega), if_neg (by omega), if_neg (by omega), if_neg (by omega), if_neg (by omega), decide_eq_false (by omega)]
  simp only [impl_HintText.j0]
  have e1 : wrap64 (97 + b) % 256 = 97 + b := by rw [w64 (by omega) (by omega)]; omega
  rw [if_neg (by decide), e1]
  simp only [Option.bind_some, itoa_digit (n := c) (by omega) (by omega), itoa_digit (n := a) (by omega) (by omega)]
  simp only [ByteArray.size_append, size_one, size_lit5, size_lit4a, size_lit4b]
  rfl
theorem impl_out {a b c : Int} (k : Nat) (h : ¬ HintIn a b c) : impl_HintText.f (k + 1) a b c = some ⟨#[]⟩ := by
  have e : ∀ x y z, impl_HintText.j0 (k + 1) true x y z = some ⟨#[]⟩ := fun x y z => by simp only [impl_HintText.j0]; rw [if_pos trivial]
  unfold impl_HintText.f
  simp only [e]
  by_cases h1 : a < 0
  · rw [if_pos h1]
  by_cases h2 : a > 4
  · rw [if_neg h1, if_pos h2]
  by_cases h3 : b < 0
  · rw [if_neg h1, if_neg h2, if_pos h3]
  by_cases h4 : b > 15
  · rw [if_neg h1, if_neg h2, if_neg h3, if_pos h4]
  by_cases h5 : c < 1
  · rw [if_neg h1, if_neg h2, if_neg h3, if_neg h4, if_pos h5]
  · have h6 : c > 4 := by
      rcases Int.lt_or_le 4 c with h6 | h6
      · exact h6
      · exact absurd ⟨by omega, by omega, by omega, by omega, by omega, h6⟩ h
    rw [if_neg h1, if_neg h2, if_neg h3, if_neg h4, if_neg h5, decide_eq_true h6, e]
theorem exact_pure (a b c : Int) : laws_FnExactHintText.f 1 a b c = some true := by
  unfold laws_FnExactHintText.f laws_toHint.f
  simp only [Option.bind_some]
  by_cases h : HintIn a b c
  · rw [spec_in h, impl_in 0 h]; simp only [Option.bind_some, if_true]
  · rw [spec_out h, impl_out 0 h]; simp only [Option.bind_some, if_true]

/-- 'alive' answers true. -/
theorem alive_ok : laws_alive.f 20 = some true := by decide +kernel
theorem hint_size (a b c : Int) : (hintT a b c).size = 16 := by
  unfold hintT
  simp only [ByteArray.size_append, size_one, size_lit5, size_lit4a, size_lit4b]
theorem hint_at5 (a b c : Int) : (hintT a b c).data.toList[5]? = some (UInt8.ofNat (97 + b).toNat) := by
  unfold hintT strOfNums
  simp only [ByteArray.data_append, Array.toList_append]
  rfl
theorem hint_ne {a b c b' : Int} (h0 : 0 ≤ b) (h1 : b ≤ 15) (h2 : 0 ≤ b') (h3 : b' ≤ 15) (h : b ≠ b') : (hintT a b c).toList ≠ (hintT a b' c).toList := by
  intro e
  have e1 : (hintT a b c).data.toList = (hintT a b' c).data.toList := by simpa [ByteArray.toList_eq] using e
  have h4 := hint_at5 a b c
  rw [e1, hint_at5] at h4
  have h5 := Option.some.inj h4
  have h6 := congrArg UInt8.toNat h5
  simp only [UInt8.toNat_ofNat'] at h6
  omega
theorem toList_data (s : ByteArray) : s.toList = s.data.toList := by simp [ByteArray.toList_eq]
theorem draw_ok (k : Nat) (l : List Int) (hl : ∀ x ∈ l, 0 ≤ x ∧ x ≤ 255) : ∃ a b c, -9 ≤ a ∧ a ≤ 9 ∧ -20 ≤ b ∧ b ≤ 20 ∧ 0 ≤ c ∧ c ≤ 9 ∧ spec_DrawHintText.f (k + 1) l = some (a, b, c) := by
  obtain ⟨s, hs, ho⟩ := open_ok l hl
  obtain ⟨r1, a1, b1, h1⟩ := pick_ok k s 0 6 hs (by omega) (by omega) (by omega)
  obtain ⟨r2, a2, b2, h2⟩ := pick_ok k s (0 + 1) 9 hs (by omega) (by omega) (by omega)
  obtain ⟨r3, a3, b3, h3⟩ := pick_ok k s (0 + 1 + 1) 17 hs (by omega) (by omega) (by omega)
  obtain ⟨r4, a4, b4, h4⟩ := pick_ok k s (0 + 1 + 1 + 1) 9 hs (by omega) (by omega) (by omega)
  obtain ⟨r5, a5, b5, h5⟩ := pick_ok k s (0 + 1 + 1 + 1 + 1) 6 hs (by omega) (by omega) (by omega)
  have d2 := tdiv_in (n := 8) a2 (by omega)
  have d4 := tdiv_in (n := 8) a4 (by omega)
  refine ⟨r1 - Int.tdiv r2 8, r3 - Int.tdiv r4 8, r5, by omega, by omega, by omega, by omega, by omega, by omega, ?_⟩
  unfold spec_DrawHintText.f
  rw [ho]; simp only [Option.bind_some]
  rw [h1]; simp only [Option.bind_some]
  rw [h2]; simp only [Option.bind_some]
  rw [h3]; simp only [Option.bind_some]
  rw [h4]; simp only [Option.bind_some]
  rw [h5]; simp only [Option.bind_some]
  rw [w64 (n := Int.tdiv r2 8) (by omega) (by omega), w64 (n := Int.tdiv r4 8) (by omega) (by omega), w64 (by omega) (by omega), w64 (by omega) (by omega)]
theorem hint_pure (l : List Int) (hl : ∀ x ∈ l, (Lit.int .u8 x).wf = true) : laws_FnHintText.f 20 l = some true := by
  unfold laws_FnHintText.f
  by_cases h0 : (l.length : Int) > 1048576
  · rw [if_pos h0]
  rw [if_neg h0]
  obtain ⟨a, b, c, ha, ha1, hb, hb1, hc, hc1, hd⟩ := draw_ok 19 l (byte_wf hl)
  rw [hd]; simp only [Option.bind_some]
  by_cases h : HintIn a b c
  · rw [impl_in 19 h, spec_in h]; simp only [Option.bind_some, if_true]
    have hs := hint_size a b c
    rw [if_neg, if_pos (by rw [hs]; rfl), w64 (by omega) (by omega)]
    · have h' : HintIn a (15 - b) c := by obtain ⟨h1, h2, h3, h4, h5, h6⟩ := h; exact ⟨h1, h2, by omega, by omega, h5, h6⟩
      rw [impl_in 19 h']; simp only [Option.bind_some]
      have hne := hint_ne (a := a) (c := c) h'.2.2.1 h'.2.2.2.1 h.2.2.1 h.2.2.2.1 (by omega)
      rw [bne_iff_ne.2 hne]
    · intro e
      have h5 := hint_at5 a b c
      rw [← toList_data, e] at h5
      cases h5
  · rw [impl_out 19 h, spec_out h]; simp only [Option.bind_some, if_true]
    rw [if_pos (by rw [toList_data]), alive_ok]; rfl
theorem pure_FnExactHintText (a b c : Int) : ∃ k, laws_FnExactHintText.f k a b c = some true := ⟨1, exact_pure a b c⟩
theorem pure_FnHintText (l : List Int) (hl : ∀ x ∈ l, (Lit.int .u8 x).wf = true) : ∃ k, laws_FnHintText.f k l = some true := ⟨20, hint_pure l hl⟩
end Go.Proofs.YtojnknpgnohegaaDoor.Q
