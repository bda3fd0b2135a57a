/- Plain laws on drawn numbers: a reader of a code never fails, and answers a number below its bound. -/
import Derived.Test.YtojnknpgnohegaaDoorQ3
import Derived.Laws.BitsLemmas
namespace Go.Proofs.YtojnknpgnohegaaDoor.Q
open Go.RowKit Go.Proofs.YtojnknpgnohegaaDoorW.PrintWords

theorem w64 {n : Int} (h0 : -9223372036854775808 ≤ n) (h1 : n ≤ 9223372036854775807) : wrap64 n = n := by unfold wrap64; omega
theorem xor_nonneg {a b : Int} (ha : 0 ≤ a) (ha1 : a < 4611686018427387904) (hb : 0 ≤ b) (hb1 : b < 4611686018427387904) : 0 ≤ Go.bits .xor .i64 a b ∧ Go.bits .xor .i64 a b < 4611686018427387904 := by
  obtain ⟨x, rfl⟩ := Int.eq_ofNat_of_zero_le ha
  obtain ⟨y, rfl⟩ := Int.eq_ofNat_of_zero_le hb
  have hx : x < 2 ^ 62 := by have : (2 : Nat) ^ 62 = 4611686018427387904 := by decide
                             omega
  have hy : y < 2 ^ 62 := by have : (2 : Nat) ^ 62 = 4611686018427387904 := by decide
                             omega
  have hx' : x % 2 ^ IntKind.i64.bits = x := Nat.mod_eq_of_lt (Nat.lt_of_lt_of_le hx (by decide))
  have hy' : y % 2 ^ IntKind.i64.bits = y := Nat.mod_eq_of_lt (Nat.lt_of_lt_of_le hy (by decide))
  have h : Go.bits .xor .i64 (x : Int) (y : Int) = IntKind.i64.wrap ((x ^^^ y : Nat) : Int) := by
    simp only [Go.bits, BitVec.ofInt_natCast, BitVec.toNat_xor, BitVec.toNat_ofNat, hx', hy']
  have hz : x ^^^ y < 2 ^ 62 := Nat.xor_lt_two_pow hx hy
  have e : (2 : Nat) ^ 62 = 4611686018427387904 := by decide
  rw [h, IntKind.wrap_i64]
  omega

/-- A code: bytes, at most 2000 of them. -/
def Code (s : List Int) : Prop := s.length ≤ 2000 ∧ ∀ x ∈ s, 0 ≤ x ∧ x ≤ 255
theorem rd_code {s : List Int} (h : Code s) (i : Int) : 0 ≤ rd s i ∧ rd s i ≤ 255 := by
  unfold rd
  rw [List.getD_eq_getElem?_getD]
  rcases Nat.lt_or_ge i.toNat s.length with hi | hi
  · rw [List.getElem?_eq_getElem hi]
    exact h.2 _ (List.getElem_mem hi)
  · rw [List.getElem?_eq_none hi]
    exact ⟨by simp, by simp⟩
theorem tmod_in {x n : Int} (hx : 0 ≤ x) (hn : 1 ≤ n) : 0 ≤ Int.tmod x n ∧ Int.tmod x n < n := ⟨Int.tmod_nonneg _ hx, Int.tmod_lt_of_pos _ (by omega)⟩
theorem tdiv_in {x n : Int} (hx : 0 ≤ x) (hn : 1 ≤ n) : 0 ≤ Int.tdiv x n ∧ Int.tdiv x n ≤ x := by
  rw [Int.tdiv_eq_ediv_of_nonneg hx]
  exact ⟨Int.ediv_nonneg hx (by omega), Int.ediv_le_self _ hx⟩

theorem pick_ok (k : Nat) (s : List Int) (p n : Int) (hs : Code s) (hp : 0 ≤ p) (hp1 : p ≤ 1000000000) (hn : 1 ≤ n) :
    ∃ r, 0 ≤ r ∧ r < n ∧ spec_l20Rd_pick.f (k + 1) s p n = some (r, p + 1) := by
  have e1 : wrap64 (p + 1) = p + 1 := w64 (by omega) (by omega)
  have hl := hs.1
  unfold spec_l20Rd_pick.f
  rw [if_neg (by omega), e1]
  by_cases h0 : s.length = 0
  · refine ⟨0, by omega, by omega, ?_⟩
    rw [h0]
    rfl
  · have hb : (((s.length : Nat) : Int) == 0) = false := by simp; intro h; simp [h] at h0
    rw [hb]
    have e2 : wrap64 (p + 1 - 1) = p := by rw [w64 (by omega) (by omega)]; omega
    simp only [spec_l20Rd_pick.j0, e2]
    rw [if_neg (by decide)]
    by_cases h1 : p < (s.length : Int)
    · rw [if_pos h1, if_pos hp, if_neg (by omega)]
      have hr := rd_code hs p
      rw [w64 (n := rd s p) (by omega) (by omega)]
      obtain ⟨a, b⟩ := tmod_in (n := n) hr.1 hn
      exact ⟨_, a, b, rfl⟩
    · have hl1 : (1 : Int) ≤ (s.length : Int) := by omega
      obtain ⟨a1, b1⟩ := tmod_in hp hl1
      have e3 : wrap64 (p * 7) = p * 7 := w64 (by omega) (by omega)
      have e4 : wrap64 (p * 7 + 3) = p * 7 + 3 := w64 (by omega) (by omega)
      obtain ⟨a2, b2⟩ := tmod_in (x := p * 7 + 3) (by omega) hl1
      obtain ⟨c1, c2⟩ := tdiv_in hp hl1
      rw [if_neg h1, if_neg (by omega)]
      simp only [e3, e4]
      rw [if_pos a1, if_pos b1, if_pos a2, if_pos b2, if_neg (by omega)]
      generalize Int.tmod p (s.length : Int) = i at *
      generalize Int.tmod (p * 7 + 3) (s.length : Int) = j at *
      generalize Int.tdiv p (s.length : Int) = q at *
      obtain ⟨r1, r2⟩ := rd_code hs i
      obtain ⟨r3, r4⟩ := rd_code hs j
      generalize rd s i = u at *
      generalize rd s j = v at *
      rw [w64 (n := u) (by omega) (by omega), w64 (n := v) (by omega) (by omega), w64 (n := q) (by omega) (by omega)]
      rw [w64 (n := u * 131) (by omega) (by omega), w64 (n := v * 1117) (by omega) (by omega), w64 (n := p * 29) (by omega) (by omega), w64 (n := q * 53) (by omega) (by omega)]
      rw [w64 (n := u * 131 + v * 1117) (by omega) (by omega), w64 (n := u * 131 + v * 1117 + p * 29) (by omega) (by omega), w64 (n := u * 131 + v * 1117 + p * 29 + q * 53) (by omega) (by omega)]
      obtain ⟨x, hx⟩ : ∃ x, x = u * 131 + v * 1117 + p * 29 + q * 53 := ⟨_, rfl⟩
      rw [← hx]
      have hx0 : 0 ≤ x := by omega
      have hx1 : x < 1000000000000 := by omega
      obtain ⟨d1, d2⟩ := tdiv_in (n := 64) hx0 (by omega)
      rw [w64 (n := Int.tdiv x 64) (by omega) (by omega)]
      obtain ⟨y1, y2⟩ := xor_nonneg (b := Int.tdiv x 64) hx0 (by omega) d1 (by omega)
      obtain ⟨z1, z2⟩ := tmod_in (n := n) y1 hn
      exact ⟨_, z1, z2, rfl⟩
theorem open_ok (l : List Int) (hl : ∀ x ∈ l, 0 ≤ x ∧ x ≤ 255) : ∃ s, Code s ∧ spec_l20Open.f l = some (s, 0) := by
  unfold spec_l20Open.f
  by_cases h : (l.length : Int) > 2000
  · rw [if_pos h, if_pos (by omega)]
    exact ⟨_, ⟨by rw [List.length_take]; omega, fun x hx => hl x (List.mem_of_mem_take hx)⟩, rfl⟩
  · rw [if_neg h]
    exact ⟨l, ⟨by omega, hl⟩, rfl⟩
theorem byte_wf {l : List Int} (h : ∀ x ∈ l, (Lit.int .u8 x).wf = true) : ∀ x ∈ l, 0 ≤ x ∧ x ≤ 255 := by
  intro x hx
  have := h x hx
  have e1 : IntKind.u8.min = 0 := rfl
  have e2 : IntKind.u8.max = 255 := rfl
  simp [Lit.wf, e1, e2] at this
  omega
theorem int_wf {x : Int} (h : (Lit.int .i64 x).wf = true) : -9223372036854775808 ≤ x ∧ x ≤ 9223372036854775807 := by
  have e1 : IntKind.i64.min = -9223372036854775808 := rfl
  have e2 : IntKind.i64.max = 9223372036854775807 := rfl
  simp [Lit.wf, e1, e2] at h
  omega
end Go.Proofs.YtojnknpgnohegaaDoor.Q
