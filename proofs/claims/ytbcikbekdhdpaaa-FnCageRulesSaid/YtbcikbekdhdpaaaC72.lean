/- laws.FnCageRules: for every input it returns true and leaves its argument as it was. -/
import Derived.Test.YtbcikbekdhdpaaaC71
section
namespace Go.Proofs.Ytbcikbekdhdpaaa.Q
open Go.RowKit Go.Proofs.YtbcikbekdhdpaaaW.PrintWords Go.Proofs.YtbcikbekdhdpaaaW.PrintLast Go.Proofs.YtbcikbekdhdpaaaW.PrintMore
attribute [local go_sem] max2_int min2_int max_two min_two max_three min_three max_four min_four   -- for this text's walks alone
set_option linter.unusedVariables false
set_option linter.unusedSimpArgs false
def IsS9003 (w0 W : World) (g : Nat) (f0 : Int) : Prop := W.heap[g]? = some (.cells #[.int .i64 f0] 3 (0, 0)) ∧ w0.heap.size ≤ g
theorem IsS9003.grown {w0 W : World} {g : Nat} {f0 : Int} {W1 : World} {row : Option Nat} (h : IsS9003 w0 W g f0) (hw : W.grownBy W1 row) (hne : some g ≠ row) : IsS9003 w0 W1 g f0 := by
  obtain ⟨hb, hg⟩ := h
  exact ⟨blk_grown hb hw hne, hg⟩
theorem IsS9003.fresh {w0 W : World} {g : Nat} {f0 : Int} (h : IsS9003 w0 W g f0) : ∀ k, W.heap.size ≤ k → k ≠ g := by
  obtain ⟨hb, hg⟩ := h
  exact Kd.freshB hb
theorem IsS9003.below {w0 W : World} {g : Nat} {f0 : Int} {W1 : World} (h : IsS9003 w0 W g f0) (hw : Below W.heap.size W W1) : IsS9003 w0 W1 g f0 := h.grown (grown_of_below hw none) (by simp)
theorem IsS9003.alloc {w0 W : World} {g : Nat} {f0 : Int} (h : IsS9003 w0 W g f0) (o : Obj) : IsS9003 w0 (W.alloc o) g f0 := h.below (below_alloc (Below.refl _ _) o)
theorem IsS9003.drewN {w0 W : World} {g : Nat} {f0 : Int} (h : IsS9003 w0 W g f0) (m : Nat) : IsS9003 w0 (W.drewN m) g f0 := h
theorem IsS9003.drew {w0 W : World} {g : Nat} {f0 : Int} (h : IsS9003 w0 W g f0) : IsS9003 w0 W.drew g f0 := h
theorem IsS9003.lt {w0 W : World} {g : Nat} {f0 : Int} (h : IsS9003 w0 W g f0) : g < W.heap.size := by
  obtain ⟨hb, hg⟩ := h
  exact blk_lt hb
theorem IsS9003.ge {w0 W : World} {g : Nat} {f0 : Int} (h : IsS9003 w0 W g f0) : w0.heap.size ≤ g := by
  obtain ⟨hb, hg⟩ := h
  exact hg
theorem cellS9003_0 {W : World} {g : Nat} {f0 : Int} (h : W.heap[g]? = some (.cells #[.int .i64 f0] 3 (0, 0))) : W.cell? ⟨g, 0, none⟩ = some (.int .i64 f0) := (blk_cell h 0).trans rfl
theorem IsS9003.set_0 {w0 W : World} {g : Nat} {f0 : Int} (h : IsS9003 w0 W g f0) (x : Int) : IsS9003 w0 (W.setCell ⟨g, 0, none⟩ (.int .i64 x)) g x := by
  obtain ⟨hb, hg⟩ := h
  exact ⟨by simpa using blk_set hb 0 (.int .i64 x), hg⟩
mutual
def spec_l2Search.l0 : Nat → List Int → Int → Int → Int → Int → Option (List Int × Int)
  | 0, _, _, _, _, _ => none
  | k + 1, x0, x1, x2, x9, x4000 => if x9 ≤ x1 then ((some (([] : List Int) : List Int)).bind fun y167 => (if y167.length + x0.length < 17592186044416 then ((some (y167 ++ x0 : List Int)).bind fun y170 => (if 0 ≤ x2 then (if x2 < (y170.length : Int) then ((some (y170.set (x2 : Int).toNat x9 : List Int)).bind fun y173 => ((spec_l2Clash.f k y173 x1).bind fun t174 => (if t174 = true then (spec_l2Search.l0 k x0 x1 x2 (wrap64 (x9 + 1)) x4000) else ((spec_l2Search.f k y173 x1 (wrap64 (x2 + 1)) x4000).bind fun bt175 => (if (bt175.1.length : Int) > 0 then (some (bt175.1, bt175.2)) else (spec_l2Search.l0 k x0 x1 x2 (wrap64 (x9 + 1)) bt175.2)))))) else (none)) else (none))) else (none))) else (some (([] : List Int), x4000))
def spec_l2Search.f : Nat → List Int → Int → Int → Int → Option (List Int × Int)
  | 0, _, _, _, _ => none
  | k + 1, l0, a1, a2, s3_0 => if a2 = (l0.length : Int) then (if s3_0 = 0 then (some (l0, s3_0)) else (some (([] : List Int), wrap64 (s3_0 - 1)))) else (spec_l2Search.l0 k l0 a1 a2 1 s3_0)
end
set_option maxHeartbeats 8000000 in
set_option maxRecDepth 100000 in
theorem spec_l2Search.calls (k : Nat) : ∀ (P0_ : Nat → Prop) (u9000_ : Value) (l0 : List Int) (a1 : Int) (a2 : Int) (g : Nat) (s3_0 : Int) (r1 : List Int) (r2 : Int) (w0 w : World) (hI : IsS9003 w0 w g s3_0) (hB : Below w0.heap.size w0 w) (ho0 : Kd.R (Kd.int .i64) 3 w w0.heap.size P0_ u9000_ l0) (hPg : ¬ P0_ g) (h : spec_l2Search.f k l0 a1 a2 s3_0 = some (r1, r2)),
    Calls Try.prog 109 #[u9000_, .int .i64 a1, .int .i64 a2, .pointer (some ⟨g, 0, none⟩)] w fun e w' => ∃ v0_ : Value, e = .returned (v0_) ∧ Kd.R (Kd.int .i64) 3 w' w0.heap.size (fun k_ => (P0_ k_ ∨ w.heap.size ≤ k_)) v0_ r1 ∧ IsS9003 w0 w' g r2 ∧ Below w0.heap.size w0 w' ∧ Kept w w' (fun k_ => (P0_ k_) ∨ k_ = g) := by
  induction k using Nat.strongRecOn with
  | _ k ih =>
  intro P0_ u9000_ l0 a1 a2 g s3_0 r1 r2 w0 w hI hB ho0 hPg h
  cases k with
  | zero => exact absurd h (by simp [spec_l2Search.f])
  | succ k =>
  simp only [spec_l2Search.f] at h
  have HO0 := Aside0.mk (show Kd.R (Kd.int .i64) 3 w w0.heap.size (fun k_ => (P0_ k_ ∨ w.heap.size ≤ k_)) u9000_ l0 from Kd.R_mono ho0 (fun k_ hk => (.inl hk)))
  have HI3 := Aside0.mk hI
  have HPG := Aside0.mk hPg
  have HGW := Aside0.mk (IsS9003.lt hI)
  have HL := Aside0.mk hB.size
  clear hI
  have HK := Aside0.mk (Kept.refl w (fun k_ => (P0_ k_) ∨ k_ = g))
  have HW0 := Aside0.mk hB.size
  have HB := Aside0.mk hB
  clear hB
  have H : (if a2 = (l0.length : Int) then (if s3_0 = 0 then (some (l0, s3_0)) else (some (([] : List Int), wrap64 (s3_0 - 1)))) else (spec_l2Search.l0 k l0 a1 a2 1 s3_0)) = some (r1, r2) := h
  clear h
  by_cases c5 : a2 = (l0.length : Int)
  · rw [if_pos c5] at H
    have c5b0 : (a2 == (l0.length : Int)) = true := beq_iff_eq.mpr c5
    have c5b1 : (a2 != (l0.length : Int)) = false := bne_eq_false_iff_eq.mpr c5
    clear c5
    by_cases c6 : s3_0 = 0
    · rw [if_pos c6] at H
      have c6b0 : (s3_0 == 0) = true := beq_iff_eq.mpr c6
      have c6b1 : (s3_0 != 0) = false := bne_eq_false_iff_eq.mpr c6
      clear c6
      simp only [Option.some.injEq, Prod.mk.injEq] at H
      obtain ⟨rfl, rfl⟩ := H
      obtain ⟨Ao7, co7, eo7⟩ := Kd.R_slice HO0.out
      subst eo7
      obtain ⟨HGz8, hgz8⟩ := HI3.out
      have hcz8_0 := cellS9003_0 HGz8
      have hfz8_0 := blk_frozen HGz8 0
      clear HGz8 hgz8
      go_enter Try.func109, Try.ntmps109
      go_wp2
      go_ret
      exact ⟨_, by first | rfl | (simp [errW_none, errW_some] <;> rfl) | (simp [*, errW_none, errW_some] <;> rfl), by (with_reducible repeat (first | apply Kd.R_alloc | apply Kd.R_drewN | apply Kd.R_drew)); exact HO0.out, by repeat (first | (with_reducible first | exact HI3.out | apply IsS9003.alloc | apply IsS9003.drewN | apply IsS9003.drew | apply IsS9003.set_0) | exact HI3.out), by repeat (first | (with_reducible first | exact HB.out | apply below_alloc | apply pw_below_drewN | apply below_drew1 | refine below_set ?_ (IsS9003.ge HI3.out)) | exact HB.out), by repeat (first | (with_reducible first | exact HK.out | apply Kept.alloc | apply Kept.drewN | apply Kept.drew | refine Kept.setCell ?_ (.inl (.inr rfl)) _) | exact HK.out)⟩
    · rw [if_neg c6] at H
      have c6b0 : (s3_0 == 0) = false := beq_eq_false_iff_ne.mpr c6
      have c6b1 : (s3_0 != 0) = true := bne_iff_ne.mpr c6
      simp only [Option.some.injEq, Prod.mk.injEq] at H
      obtain ⟨rfl, rfl⟩ := H
      obtain ⟨Ao9, co9, eo9⟩ := Kd.R_slice HO0.out
      subst eo9
      obtain ⟨HGz10, hgz10⟩ := HI3.out
      have hcz10_0 := cellS9003_0 HGz10
      have hfz10_0 := blk_frozen HGz10 0
      clear HGz10 hgz10
      go_enter Try.func109, Try.ntmps109
      go_wp2
      go_ret
      exact ⟨_, by first | rfl | (simp [errW_none, errW_some] <;> rfl) | (simp [*, errW_none, errW_some] <;> rfl), by first | exact Kd.R_nil _ _ _ _ _ | exact Kd.N_nil _ _ _ _ _ | exact Kd.V_nil _ _ _ _ _ | exact Kd.Q_nil _ _ _ _ _ | exact Kd.S_nil _ _ _ _ _, by repeat (first | (with_reducible first | exact HI3.out | apply IsS9003.alloc | apply IsS9003.drewN | apply IsS9003.drew | apply IsS9003.set_0) | exact HI3.out), by repeat (first | (with_reducible first | exact HB.out | apply below_alloc | apply pw_below_drewN | apply below_drew1 | refine below_set ?_ (IsS9003.ge HI3.out)) | exact HB.out), by repeat (first | (with_reducible first | exact HK.out | apply Kept.alloc | apply Kept.drewN | apply Kept.drew | refine Kept.setCell ?_ (.inl (.inr rfl)) _) | exact HK.out)⟩
  · rw [if_neg c5] at H
    have c5b0 : (a2 == (l0.length : Int)) = false := beq_eq_false_iff_ne.mpr c5
    have c5b1 : (a2 != (l0.length : Int)) = true := bne_iff_ne.mpr c5
    have H' := Aside0.mk H
    clear H
    obtain ⟨Ao11, co11, eo11⟩ := Kd.R_slice HO0.out
    subst eo11
    go_enter Try.func109, Try.ntmps109
    go_wp2
    go_loopg [9] k (fun kq v9 w' => ∃ (x0_1 : List Int) (x9_1 : Int) (x4000_1 : Int), v9 = .int .i64 x9_1 ∧ Aside0 (spec_l2Search.l0 kq x0_1 a1 a2 x9_1 x4000_1 = some (r1, r2)) ∧ Aside0 (kq ≤ k) ∧ Aside0 (Kd.R (Kd.int .i64) 3 w' w0.heap.size (fun k_ => (P0_ k_ ∨ w.heap.size ≤ k_)) (.slice Ao11 l0.length co11) x0_1) ∧ Aside0 (IsS9003 w0 w' g x4000_1) ∧ Aside0 (Kept w w' (fun k_ => (P0_ k_) ∨ k_ = g)) ∧ Aside0 (Below w0.heap.size w0 w'))
    case atStart => exact ⟨(l0), (1), (s3_0), (by first | rfl | (simp; done) | (simp [*]; done)), H', ⟨Nat.le_refl _⟩, ⟨by (with_reducible repeat (first | apply Kd.R_alloc | apply Kd.R_drewN | apply Kd.R_drew)); exact HO0.out⟩, ⟨by repeat (first | (with_reducible first | exact HI3.out | apply IsS9003.alloc | apply IsS9003.drewN | apply IsS9003.drew | apply IsS9003.set_0) | exact HI3.out)⟩, ⟨by repeat (first | (with_reducible first | exact HK.out | apply Kept.alloc | apply Kept.drewN | apply Kept.drew | refine Kept.setCell ?_ (.inl (.inr rfl)) _) | exact HK.out)⟩, ⟨by repeat (first | (with_reducible first | exact HB.out | apply below_alloc | apply pw_below_drewN | apply below_drew1 | refine below_set ?_ (IsS9003.ge HI3.out)) | exact HB.out)⟩⟩
    case round =>
      clear H'
      try clear c1
      try clear p2
      try clear c5
      try clear c5b0
      try clear c5b1
      try clear c6
      try clear c6b0
      try clear c6b1
      try clear p6
      try clear c10
      try clear hcz10_0
      try clear hcz8_0
      try clear hfz10_0
      try clear hfz8_0
      obtain ⟨x0_1, x9_1, x4000_1, rfl, HA, HK1, HO_0, HI3, HK, HB⟩ := hrel
      have hl0_1 := (Kd.R_reads' HO_0.out).1
      rw [hl0_1] at HO_0
      (try simp only [hl0_1])
      cases gk with
      | zero => exact absurd HA.out (by simp [spec_l2Search.l0])
      | succ k1 =>
        have H := HA.out
        clear HA
        simp only [spec_l2Search.l0] at H
        by_cases c12 : x9_1 ≤ a1
        · rw [if_pos c12] at H
          have c12b0 : decide (x9_1 ≤ a1) = true := decide_eq_true c12
          clear c12
          obtain ⟨y167, hy167⟩ : ∃ y_ : List Int, y_ = (([] : List Int)) := ⟨_, rfl⟩
          replace H : (if y167.length + x0_1.length < 17592186044416 then ((some (y167 ++ x0_1 : List Int)).bind fun y170 => (if 0 ≤ a2 then (if a2 < (y170.length : Int) then ((some (y170.set (a2 : Int).toNat x9_1 : List Int)).bind fun y173 => ((spec_l2Clash.f k1 y173 a1).bind fun t174 => (if t174 = true then (spec_l2Search.l0 k1 x0_1 a1 a2 (wrap64 (x9_1 + 1)) x4000_1) else ((spec_l2Search.f k1 y173 a1 (wrap64 (a2 + 1)) x4000_1).bind fun bt175 => (if (bt175.1.length : Int) > 0 then (some (bt175.1, bt175.2)) else (spec_l2Search.l0 k1 x0_1 a1 a2 (wrap64 (x9_1 + 1)) bt175.2)))))) else (none)) else (none))) else (none)) = some (r1, r2) := by first | (rw [hy167]; with_reducible exact H) | (have H2_ := (Option.bind_some _ _).symm.trans H; rw [hy167]; with_reducible exact H2_) | (have H2_ := (Option.bind_some _ _).symm.trans H; with_reducible exact H2_) | with_reducible exact H | (rw [hy167]; exact H) | exact H
          have Ny167 := Aside0.mk hy167
          clear hy167
          by_cases c13 : y167.length + x0_1.length < 17592186044416
          · rw [if_pos c13] at H
            have LMc13 := Aside0.mk c13
            clear c13
            obtain ⟨y170, hy170⟩ : ∃ y_ : List Int, y_ = (y167 ++ x0_1) := ⟨_, rfl⟩
            replace H : (if 0 ≤ a2 then (if a2 < (y170.length : Int) then ((some (y170.set (a2 : Int).toNat x9_1 : List Int)).bind fun y173 => ((spec_l2Clash.f k1 y173 a1).bind fun t174 => (if t174 = true then (spec_l2Search.l0 k1 x0_1 a1 a2 (wrap64 (x9_1 + 1)) x4000_1) else ((spec_l2Search.f k1 y173 a1 (wrap64 (a2 + 1)) x4000_1).bind fun bt175 => (if (bt175.1.length : Int) > 0 then (some (bt175.1, bt175.2)) else (spec_l2Search.l0 k1 x0_1 a1 a2 (wrap64 (x9_1 + 1)) bt175.2)))))) else (none)) else (none)) = some (r1, r2) := by first | (rw [hy170]; with_reducible exact H) | (have H2_ := (Option.bind_some _ _).symm.trans H; rw [hy170]; with_reducible exact H2_) | (have H2_ := (Option.bind_some _ _).symm.trans H; with_reducible exact H2_) | with_reducible exact H | (rw [hy170]; exact H) | exact H
            have Ny170 := Aside0.mk hy170
            clear hy170
            by_cases c14 : 0 ≤ a2
            · rw [if_pos c14] at H
              have c14b0 : decide (0 ≤ a2) = true := decide_eq_true c14
              clear c14
              by_cases c15 : a2 < (y170.length : Int)
              · rw [if_pos c15] at H
                have c15b0 : decide (a2 < (y170.length : Int)) = true := decide_eq_true c15
                clear c15
                obtain ⟨y173, hy173⟩ : ∃ y_ : List Int, y_ = (y170.set (a2 : Int).toNat x9_1) := ⟨_, rfl⟩
                replace H : ((spec_l2Clash.f k1 y173 a1).bind fun t174 => (if t174 = true then (spec_l2Search.l0 k1 x0_1 a1 a2 (wrap64 (x9_1 + 1)) x4000_1) else ((spec_l2Search.f k1 y173 a1 (wrap64 (a2 + 1)) x4000_1).bind fun bt175 => (if (bt175.1.length : Int) > 0 then (some (bt175.1, bt175.2)) else (spec_l2Search.l0 k1 x0_1 a1 a2 (wrap64 (x9_1 + 1)) bt175.2))))) = some (r1, r2) := by first | (rw [hy173]; with_reducible exact H) | (have H2_ := (Option.bind_some _ _).symm.trans H; rw [hy173]; with_reducible exact H2_) | (have H2_ := (Option.bind_some _ _).symm.trans H; with_reducible exact H2_) | with_reducible exact H | (rw [hy173]; exact H) | exact H
                have Ny173 := Aside0.mk hy173
                clear hy173
                replace H := Option.bind_eq_some_iff.mp H
                obtain ⟨t174, A170, H⟩ := H
                replace H : (if t174 = true then (spec_l2Search.l0 k1 x0_1 a1 a2 (wrap64 (x9_1 + 1)) x4000_1) else ((spec_l2Search.f k1 y173 a1 (wrap64 (a2 + 1)) x4000_1).bind fun bt175 => (if (bt175.1.length : Int) > 0 then (some (bt175.1, bt175.2)) else (spec_l2Search.l0 k1 x0_1 a1 a2 (wrap64 (x9_1 + 1)) bt175.2)))) = some (r1, r2) := H
                have A17 := Aside0.mk A170
                clear A170
                by_cases c18 : t174 = true
                · subst c18
                  have H1 : (spec_l2Search.l0 k1 x0_1 a1 a2 (wrap64 (x9_1 + 1)) x4000_1) = some (r1, r2) := by rw [if_pos rfl] at H; exact H
                  clear H
                  have H := H1
                  clear H1
                  have H' := Aside0.mk H
                  clear H
                  go_wp2_with (first | ((with_reducible refine gate_dst (N := 32) rfl ?_); refine Kd.R_lit (Kd.int .i64) _ 3 ?hg (N := 32) ?hd (xs := ([] : List Int)) (inner := []) (ok := fun _ => True) (okp := fun _ => True) ?hr ?hp (fun _ hk => hk) trivial (Below.refl _ _) (Nat.le_refl _) (by simp) ?_; (case hd => rfl); (case hg => rfl); (case hr => first | (go_simp; done) | (go_simp; rfl)); (case hp => exact (Reps.none _ _)); intro v168 w19 ho20 hb hg_ hnew_; clear hg_ hnew_; (first | rw [← Ny167.out] at ho20 | (simp only [Int.reduceToNat] at ho20; rw [← Ny167.out] at ho20)); have n0_ := Aside0.mk (Kd.R_elder' (by (with_reducible repeat (first | apply Kd.R_alloc | apply Kd.R_drewN | apply Kd.R_drew)); exact HO_0.out) (Kd.R_base ho20) hb); have n1_ := Aside0.mk (Kd.R_lower (Kd.R_new' (Kd.R_newM (M := fun k_ => (P0_ k_ ∨ w.heap.size ≤ k_)) ho20 (by first | exact HK.out.1 | exact (show Kept w _ (fun k_ => (P0_ k_) ∨ k_ = g) from by repeat (first | (with_reducible first | exact HK.out | apply Kept.alloc | apply Kept.drewN | apply Kept.drew | refine Kept.setCell ?_ (.inl (.inr rfl)) _) | exact HK.out)).1) (fun k_ h_ => .inr h_)) (Kd.R_lt (by (with_reducible repeat (first | apply Kd.R_alloc | apply Kd.R_drewN | apply Kd.R_drew)); exact HO_0.out))) (below_size (by repeat (first | (with_reducible first | exact HB.out | apply below_alloc | apply pw_below_drewN | apply below_drew1 | refine below_set ?_ (IsS9003.ge HI3.out)) | exact HB.out)))); have n2_ := Aside0.mk (IsS9003.below (by repeat (first | (with_reducible first | exact HI3.out | apply IsS9003.alloc | apply IsS9003.drewN | apply IsS9003.drew | apply IsS9003.set_0) | exact HI3.out)) hb); have n3_ := Aside0.mk (Kept.below (S := (fun k_ => (P0_ k_) ∨ k_ = g)) (by repeat (first | (with_reducible first | exact HK.out | apply Kept.alloc | apply Kept.drewN | apply Kept.drew | refine Kept.setCell ?_ (.inl (.inr rfl)) _) | exact HK.out)) hb); have n4_ := Aside0.mk (below_step (by repeat (first | (with_reducible first | exact HB.out | apply below_alloc | apply pw_below_drewN | apply below_drew1 | refine below_set ?_ (IsS9003.ge HI3.out)) | exact HB.out)) hb); clear HO_0; clear HI3; clear HK; clear HB; have HO_0 := n0_; have HO169 := n1_; have HI3 := n2_; have HK := n3_; have HB := n4_; clear n0_ n1_ n2_ n3_ n4_; clear hb ho20) | ((with_reducible refine gate_builtin (b := .append) (xs := #[.tmp 32, .tmp 33]) rfl ?_); at_builtin; refine Kd.R_append_rows (Kd.int .i64) (w0 := w0) w0.heap.size rfl (.tmp 32) (.tmp 33) 23 3 (.int .i64 0) 8 rfl Try.underlying23 info3 rfl (by decide) (by omega) v168 y167 x0_1 _ _ _ (fun k_ => (P0_ k_ ∨ w.heap.size ≤ k_) ∧ some k_ ≠ (.slice Ao11 x0_1.length co11 : Value).ownBlock) (fun _ => False) rfl rfl ?aO ?aR (fun _ _ h => h) (fun _ h => h.elim) ?aF ?aB ?aS ?aL ?_; (case aR => repeat (first | exact (Kd.R_reads' HO_0.out).2.2 | (with_reducible refine Kd.C_alloc ?_ _) | (with_reducible refine Kd.C_drewN ?_ _) | (with_reducible refine Kd.C_drew ?_))); (case aB => exact (by repeat (first | (with_reducible first | exact HB.out | apply below_alloc | apply pw_below_drewN | apply below_drew1 | refine below_set ?_ (IsS9003.ge HI3.out)) | exact HB.out))); (case aF => exact (fun k_ hk => ⟨(.inr (Nat.le_trans (by first | exact HK.out.1 | exact (show Kept w _ (fun k_ => (P0_ k_) ∨ k_ = g) from by repeat (first | (with_reducible first | exact HK.out | apply Kept.alloc | apply Kept.drewN | apply Kept.drew | refine Kept.setCell ?_ (.inl (.inr rfl)) _) | exact HK.out)).1) hk)), Kd.fresh' (Kd.R_lt (by (with_reducible repeat (first | apply Kd.R_alloc | apply Kd.R_drewN | apply Kd.R_drew)); exact HO_0.out)) k_ hk⟩)); (case aO => exact (by (with_reducible repeat (first | apply Kd.R_alloc | apply Kd.R_drewN | apply Kd.R_drew)); exact Kd.R_mono HO169.out (fun _ hk => ⟨hk.1.1, hk.2⟩))); (case aS => exact (below_size (by repeat (first | (with_reducible first | exact HB.out | apply below_alloc | apply pw_below_drewN | apply below_drew1 | refine below_set ?_ (IsS9003.ge HI3.out)) | exact HB.out)))); (case aL => have := LMc13.out; omega); intro v171 w21 ho hb hg hat; rw [← Ny170.out] at ho; have n0_ := Aside0.mk (Kd.R_after (ok := (fun k_ => (P0_ k_ ∨ w.heap.size ≤ k_))) (by (with_reducible repeat (first | apply Kd.R_alloc | apply Kd.R_drewN | apply Kd.R_drew)); exact HO_0.out) hg hat); have n1_ := Aside0.mk (IsS9003.grown (by repeat (first | (with_reducible first | exact HI3.out | apply IsS9003.alloc | apply IsS9003.drewN | apply IsS9003.drew | apply IsS9003.set_0) | exact HI3.out)) hg (R_neG HO169.out (by intro k_ hk_ e_; subst e_; first | exact gnG HPG.out HGW.out hk_ | exact gnG HPG.out HGW.out hk_.1 | exact gnG HPG.out HGW.out hk_.1.1 | exact gnG HPG.out HGW.out hk_.1.1.1 | exact gnG HPG.out HGW.out hk_.1.1.1.1))); have n2_ := Aside0.mk (hb); have n3_ := Aside0.mk (Kept.of_grown (S := (fun k_ => (P0_ k_) ∨ k_ = g)) hg (by repeat (first | (with_reducible first | exact HK.out | apply Kept.alloc | apply Kept.drewN | apply Kept.drew | refine Kept.setCell ?_ (.inl (.inr rfl)) _) | exact HK.out)) (fun k_ e_ => Or.imp_left Or.inl ((HO169.out.1 k_ e_).1.1))); have n4_ := Aside0.mk (ho); clear HO_0; clear HI3; clear HB; clear HK; clear HO169; have HO_0 := n0_; have HI3 := n1_; have HB := n2_; have HK := n3_; have HO172 := n4_; clear n0_ n1_ n2_ n3_ n4_; clear ho hb hg hat; have p16 : 0 ≤ (a2 : Int) := of_decide_eq_true (by first | (with_reducible assumption) | assumption); have q16 : (a2 : Int) < ((y170.length : Int) : Int) := of_decide_eq_true (by first | (with_reducible assumption) | assumption); obtain ⟨go16, co16, eo16, gb16, gl16, cl16, HG16⟩ := Kd.R_form HO172.out (by omega); (first | cases eo16 | (injection eo16 with ea_ en_ ec_; (first | subst ea_ | (injection ea_ with ea_; subst ea_)); subst ec_; clear en_)); have GB16 := Aside0.mk gb16; have GG16 := Aside0.mk HG16; clear gb16 gl16 HG16; have HMgo16 := Aside0.mk (show (P0_ go16 ∨ w.heap.size ≤ go16) from (HO172.out.1 _ rfl).1); obtain ⟨hx16_0, hf16_0⟩ := Kd.R_celln 0 HO172.out (a2 : Int) p16 q16; replace p16 := eq_true p16; replace q16 := eq_true q16; obtain ⟨hy22_, hz22_⟩ := Kd.R_celln 0 HO172.out (a2 : Int) (of_decide_eq_true (by first | (with_reducible assumption) | assumption)) (of_decide_eq_true (by first | (with_reducible assumption) | assumption)); have HP22 := Kd.R_putg HO172.out (a2 : Int) x9_1) | ((with_reducible refine gate_store (t := 3) (p := 38) rfl ?_); refine store_event (t := 3) (p := 38) (v := ?vo_w23) (w1 := (w21.setCell ⟨go16, (a2 : Int).toNat, none⟩ (.int .i64 x9_1))) ?hg ?ho ?hn ?hr ?_; (case ho => rfl); (case hg => rfl); (case hn => rfl); (case hr => first | (go_simp; done) | (go_simp; rfl)); intro w23 hw; have hg : w21.grownBy w23 (some go16) := (by rw [hw]; exact HP22.2); have hp_ : Kd.R (Kd.int .i64) 3 w23 w0.heap.size (fun k_ => (P0_ k_ ∨ w.heap.size ≤ k_) ∧ some k_ ≠ (.slice Ao11 x0_1.length co11 : Value).ownBlock) (.slice (some ⟨go16, 0, none⟩) y170.length co16) y173 := (by rw [hw, Ny173.out]; exact HP22.1); clear HP22; have n0_ := Aside0.mk (Kd.R_after (v := (.slice (some ⟨go16, 0, none⟩) y170.length co16)) (v1 := (.slice (some ⟨go16, 0, none⟩) y170.length co16)) (ok := (fun k_ => (P0_ k_ ∨ w.heap.size ≤ k_))) (by (with_reducible repeat (first | apply Kd.R_alloc | apply Kd.R_drewN | apply Kd.R_drew)); exact HO_0.out) hg (.inl rfl)); have n1_ := Aside0.mk (IsS9003.grown (by repeat (first | (with_reducible first | exact HI3.out | apply IsS9003.alloc | apply IsS9003.drewN | apply IsS9003.drew | apply IsS9003.set_0) | exact HI3.out)) hg (R_neG HO172.out (by intro k_ hk_ e_; subst e_; first | exact gnG HPG.out HGW.out hk_ | exact gnG HPG.out HGW.out hk_.1 | exact gnG HPG.out HGW.out hk_.1.1 | exact gnG HPG.out HGW.out hk_.1.1.1 | exact gnG HPG.out HGW.out hk_.1.1.1.1))); have n2_ := Aside0.mk (hp_); have n3_ := Aside0.mk ((by rw [hw]; exact below_set (HB.out) GB16.out : Below w0.heap.size w0 w23)); have n4_ := Aside0.mk (Kept.of_grown (S := (fun k_ => (P0_ k_) ∨ k_ = g)) hg (by repeat (first | (with_reducible first | exact HK.out | apply Kept.alloc | apply Kept.drewN | apply Kept.drew | refine Kept.setCell ?_ (.inl (.inr rfl)) _) | exact HK.out)) (fun k_ e_ => Or.imp_left Or.inl ((HO172.out.1 k_ e_).1))); clear HO_0; clear HI3; clear HO172; clear HB; clear HK; have HO_0 := n0_; have HI3 := n1_; have HO172 := n2_; have HB := n3_; have HK := n4_; clear n0_ n1_ n2_ n3_ n4_; clear hg hw hp_) | ((with_reducible refine gate_callee (f := 92) rfl ?_); refine goesL_ (some 41) rfl rfl Try.func92 (by kernel_rfl) rfl #[.slice (some ⟨go16, 0, none⟩) y173.length co16, .int .i64 a1] rfl (by (try simp only [List.map_toArray, List.map_cons, List.map_nil]); first | done | (rw [show y173.length = y170.length from (Kd.R_reads' HO172.out).1.symm] <;> rfl) | rfl | (simp only [List.length_drop, List.length_take]; rfl)) ?_; (with_reducible refine (spec_l2Clash.calls k1 _ _ y173 a1 true _ ?side1 ?side2 A17.out).mono ?_); (case side1 => repeat (first | exact (Kd.R_reads' HO172.out).2.2 | (with_reducible refine Kd.C_alloc ?_ _) | (with_reducible refine Kd.C_drewN ?_ _) | (with_reducible refine Kd.C_drew ?_))); (case side2 => rw [show y173.length = y170.length from (Kd.R_reads' HO172.out).1.symm]; exact (Kd.R_reads' HO172.out).2.1); rintro e w24 ⟨rfl, hb⟩; refine ⟨_, rfl, ?_⟩; have n0_ := Aside0.mk (Kd.R_below (by (with_reducible repeat (first | apply Kd.R_alloc | apply Kd.R_drewN | apply Kd.R_drew)); exact HO_0.out) hb); have n1_ := Aside0.mk (Kd.R_below (by (with_reducible repeat (first | apply Kd.R_alloc | apply Kd.R_drewN | apply Kd.R_drew)); exact HO172.out) hb); have n2_ := Aside0.mk (IsS9003.below (by repeat (first | (with_reducible first | exact HI3.out | apply IsS9003.alloc | apply IsS9003.drewN | apply IsS9003.drew | apply IsS9003.set_0) | exact HI3.out)) hb); have n3_ := Aside0.mk (Kept.below (S := (fun k_ => (P0_ k_) ∨ k_ = g)) (by repeat (first | (with_reducible first | exact HK.out | apply Kept.alloc | apply Kept.drewN | apply Kept.drew | refine Kept.setCell ?_ (.inl (.inr rfl)) _) | exact HK.out)) hb); have n4_ := Aside0.mk (below_step (by repeat (first | (with_reducible first | exact HB.out | apply below_alloc | apply pw_below_drewN | apply below_drew1 | refine below_set ?_ (IsS9003.ge HI3.out)) | exact HB.out)) hb); clear HO_0; clear HO172; clear HI3; clear HK; clear HB; have HO_0 := n0_; have HO172 := n1_; have HI3 := n2_; have HK := n3_; have HB := n4_; clear n0_ n1_ n2_ n3_ n4_; (try clear hb); (try clear hb2); (try clear hk); (try clear hi)))
                  (try simp only [← hl0_1])
                  go_roundg k1
                  case measure => have := HK1.out; omega
                  case rel => exact ⟨(x0_1), (wrap64 (x9_1 + 1)), (x4000_1), (by first | rfl | (simp; done) | (simp [*]; done)), H', ⟨by have := HK1.out; omega⟩, ⟨by (try simp only [hl0_1]); (with_reducible repeat (first | apply Kd.R_alloc | apply Kd.R_drewN | apply Kd.R_drew)); exact Kd.R_mono HO_0.out (fun _ hk => hk.1)⟩, ⟨by repeat (first | (with_reducible first | exact HI3.out | apply IsS9003.alloc | apply IsS9003.drewN | apply IsS9003.drew | apply IsS9003.set_0) | exact HI3.out)⟩, ⟨by repeat (first | (with_reducible first | exact HK.out | apply Kept.alloc | apply Kept.drewN | apply Kept.drew | refine Kept.setCell ?_ (.inl (.inr rfl)) _) | exact HK.out)⟩, ⟨by repeat (first | (with_reducible first | exact HB.out | apply below_alloc | apply pw_below_drewN | apply below_drew1 | refine below_set ?_ (IsS9003.ge HI3.out)) | exact HB.out)⟩⟩
                · replace c18 := Bool.eq_false_iff.mpr c18
                  subst c18
                  have H1 : ((spec_l2Search.f k1 y173 a1 (wrap64 (a2 + 1)) x4000_1).bind fun bt175 => (if (bt175.1.length : Int) > 0 then (some (bt175.1, bt175.2)) else (spec_l2Search.l0 k1 x0_1 a1 a2 (wrap64 (x9_1 + 1)) bt175.2))) = some (r1, r2) := by rw [if_neg (show ¬ (false = true) by decide)] at H; exact H
                  clear H
                  have H := H1
                  clear H1
                  replace H := Option.bind_eq_some_iff.mp H
                  obtain ⟨⟨t175, t178⟩, A250, H⟩ := H
                  replace H : (if (t175.length : Int) > 0 then (some (t175, t178)) else (spec_l2Search.l0 k1 x0_1 a1 a2 (wrap64 (x9_1 + 1)) t178)) = some (r1, r2) := H
                  have A25 := Aside0.mk A250
                  clear A250
                  by_cases c26 : (t175.length : Int) > 0
                  · rw [if_pos c26] at H
                    have c26b0 : decide (0 < (t175.length : Int)) = true := decide_eq_true c26
                    have c26b1 : decide (0 < t175.length) = true := decide_eq_true (by omega)
                    clear c26
                    simp only [Option.some.injEq, Prod.mk.injEq] at H
                    obtain ⟨rfl, rfl⟩ := H
                    go_wp2_with (first | ((with_reducible refine gate_dst (N := 32) rfl ?_); refine Kd.R_lit (Kd.int .i64) _ 3 ?hg (N := 32) ?hd (xs := ([] : List Int)) (inner := []) (ok := fun _ => True) (okp := fun _ => True) ?hr ?hp (fun _ hk => hk) trivial (Below.refl _ _) (Nat.le_refl _) (by simp) ?_; (case hd => rfl); (case hg => rfl); (case hr => first | (go_simp; done) | (go_simp; rfl)); (case hp => exact (Reps.none _ _)); intro v168 w27 ho28 hb hg_ hnew_; clear hg_ hnew_; (first | rw [← Ny167.out] at ho28 | (simp only [Int.reduceToNat] at ho28; rw [← Ny167.out] at ho28)); have n0_ := Aside0.mk (Kd.R_elder' (by (with_reducible repeat (first | apply Kd.R_alloc | apply Kd.R_drewN | apply Kd.R_drew)); exact HO_0.out) (Kd.R_base ho28) hb); have n1_ := Aside0.mk (Kd.R_lower (Kd.R_new' (Kd.R_newM (M := fun k_ => (P0_ k_ ∨ w.heap.size ≤ k_)) ho28 (by first | exact HK.out.1 | exact (show Kept w _ (fun k_ => (P0_ k_) ∨ k_ = g) from by repeat (first | (with_reducible first | exact HK.out | apply Kept.alloc | apply Kept.drewN | apply Kept.drew | refine Kept.setCell ?_ (.inl (.inr rfl)) _) | exact HK.out)).1) (fun k_ h_ => .inr h_)) (Kd.R_lt (by (with_reducible repeat (first | apply Kd.R_alloc | apply Kd.R_drewN | apply Kd.R_drew)); exact HO_0.out))) (below_size (by repeat (first | (with_reducible first | exact HB.out | apply below_alloc | apply pw_below_drewN | apply below_drew1 | refine below_set ?_ (IsS9003.ge HI3.out)) | exact HB.out)))); have n2_ := Aside0.mk (IsS9003.below (by repeat (first | (with_reducible first | exact HI3.out | apply IsS9003.alloc | apply IsS9003.drewN | apply IsS9003.drew | apply IsS9003.set_0) | exact HI3.out)) hb); have n3_ := Aside0.mk (Kept.below (S := (fun k_ => (P0_ k_) ∨ k_ = g)) (by repeat (first | (with_reducible first | exact HK.out | apply Kept.alloc | apply Kept.drewN | apply Kept.drew | refine Kept.setCell ?_ (.inl (.inr rfl)) _) | exact HK.out)) hb); have n4_ := Aside0.mk (below_step (by repeat (first | (with_reducible first | exact HB.out | apply below_alloc | apply pw_below_drewN | apply below_drew1 | refine below_set ?_ (IsS9003.ge HI3.out)) | exact HB.out)) hb); clear HO_0; clear HI3; clear HK; clear HB; have HO_0 := n0_; have HO169 := n1_; have HI3 := n2_; have HK := n3_; have HB := n4_; clear n0_ n1_ n2_ n3_ n4_; clear hb ho28) | ((with_reducible refine gate_builtin (b := .append) (xs := #[.tmp 32, .tmp 33]) rfl ?_); at_builtin; refine Kd.R_append_rows (Kd.int .i64) (w0 := w0) w0.heap.size rfl (.tmp 32) (.tmp 33) 23 3 (.int .i64 0) 8 rfl Try.underlying23 info3 rfl (by decide) (by omega) v168 y167 x0_1 _ _ _ (fun k_ => (P0_ k_ ∨ w.heap.size ≤ k_) ∧ some k_ ≠ (.slice Ao11 x0_1.length co11 : Value).ownBlock) (fun _ => False) rfl rfl ?aO ?aR (fun _ _ h => h) (fun _ h => h.elim) ?aF ?aB ?aS ?aL ?_; (case aR => repeat (first | exact (Kd.R_reads' HO_0.out).2.2 | (with_reducible refine Kd.C_alloc ?_ _) | (with_reducible refine Kd.C_drewN ?_ _) | (with_reducible refine Kd.C_drew ?_))); (case aB => exact (by repeat (first | (with_reducible first | exact HB.out | apply below_alloc | apply pw_below_drewN | apply below_drew1 | refine below_set ?_ (IsS9003.ge HI3.out)) | exact HB.out))); (case aF => exact (fun k_ hk => ⟨(.inr (Nat.le_trans (by first | exact HK.out.1 | exact (show Kept w _ (fun k_ => (P0_ k_) ∨ k_ = g) from by repeat (first | (with_reducible first | exact HK.out | apply Kept.alloc | apply Kept.drewN | apply Kept.drew | refine Kept.setCell ?_ (.inl (.inr rfl)) _) | exact HK.out)).1) hk)), Kd.fresh' (Kd.R_lt (by (with_reducible repeat (first | apply Kd.R_alloc | apply Kd.R_drewN | apply Kd.R_drew)); exact HO_0.out)) k_ hk⟩)); (case aO => exact (by (with_reducible repeat (first | apply Kd.R_alloc | apply Kd.R_drewN | apply Kd.R_drew)); exact Kd.R_mono HO169.out (fun _ hk => ⟨hk.1.1, hk.2⟩))); (case aS => exact (below_size (by repeat (first | (with_reducible first | exact HB.out | apply below_alloc | apply pw_below_drewN | apply below_drew1 | refine below_set ?_ (IsS9003.ge HI3.out)) | exact HB.out)))); (case aL => have := LMc13.out; omega); intro v171 w29 ho hb hg hat; rw [← Ny170.out] at ho; have n0_ := Aside0.mk (Kd.R_after (ok := (fun k_ => (P0_ k_ ∨ w.heap.size ≤ k_))) (by (with_reducible repeat (first | apply Kd.R_alloc | apply Kd.R_drewN | apply Kd.R_drew)); exact HO_0.out) hg hat); have n1_ := Aside0.mk (IsS9003.grown (by repeat (first | (with_reducible first | exact HI3.out | apply IsS9003.alloc | apply IsS9003.drewN | apply IsS9003.drew | apply IsS9003.set_0) | exact HI3.out)) hg (R_neG HO169.out (by intro k_ hk_ e_; subst e_; first | exact gnG HPG.out HGW.out hk_ | exact gnG HPG.out HGW.out hk_.1 | exact gnG HPG.out HGW.out hk_.1.1 | exact gnG HPG.out HGW.out hk_.1.1.1 | exact gnG HPG.out HGW.out hk_.1.1.1.1))); have n2_ := Aside0.mk (hb); have n3_ := Aside0.mk (Kept.of_grown (S := (fun k_ => (P0_ k_) ∨ k_ = g)) hg (by repeat (first | (with_reducible first | exact HK.out | apply Kept.alloc | apply Kept.drewN | apply Kept.drew | refine Kept.setCell ?_ (.inl (.inr rfl)) _) | exact HK.out)) (fun k_ e_ => Or.imp_left Or.inl ((HO169.out.1 k_ e_).1.1))); have n4_ := Aside0.mk (ho); clear HO_0; clear HI3; clear HB; clear HK; clear HO169; have HO_0 := n0_; have HI3 := n1_; have HB := n2_; have HK := n3_; have HO172 := n4_; clear n0_ n1_ n2_ n3_ n4_; clear ho hb hg hat; have p16 : 0 ≤ (a2 : Int) := of_decide_eq_true (by first | (with_reducible assumption) | assumption); have q16 : (a2 : Int) < ((y170.length : Int) : Int) := of_decide_eq_true (by first | (with_reducible assumption) | assumption); obtain ⟨go16, co16, eo16, gb16, gl16, cl16, HG16⟩ := Kd.R_form HO172.out (by omega); (first | cases eo16 | (injection eo16 with ea_ en_ ec_; (first | subst ea_ | (injection ea_ with ea_; subst ea_)); subst ec_; clear en_)); have GB16 := Aside0.mk gb16; have GG16 := Aside0.mk HG16; clear gb16 gl16 HG16; have HMgo16 := Aside0.mk (show (P0_ go16 ∨ w.heap.size ≤ go16) from (HO172.out.1 _ rfl).1); obtain ⟨hx16_0, hf16_0⟩ := Kd.R_celln 0 HO172.out (a2 : Int) p16 q16; replace p16 := eq_true p16; replace q16 := eq_true q16; obtain ⟨hy30_, hz30_⟩ := Kd.R_celln 0 HO172.out (a2 : Int) (of_decide_eq_true (by first | (with_reducible assumption) | assumption)) (of_decide_eq_true (by first | (with_reducible assumption) | assumption)); have HP30 := Kd.R_putg HO172.out (a2 : Int) x9_1) | ((with_reducible refine gate_store (t := 3) (p := 38) rfl ?_); refine store_event (t := 3) (p := 38) (v := ?vo_w31) (w1 := (w29.setCell ⟨go16, (a2 : Int).toNat, none⟩ (.int .i64 x9_1))) ?hg ?ho ?hn ?hr ?_; (case ho => rfl); (case hg => rfl); (case hn => rfl); (case hr => first | (go_simp; done) | (go_simp; rfl)); intro w31 hw; have hg : w29.grownBy w31 (some go16) := (by rw [hw]; exact HP30.2); have hp_ : Kd.R (Kd.int .i64) 3 w31 w0.heap.size (fun k_ => (P0_ k_ ∨ w.heap.size ≤ k_) ∧ some k_ ≠ (.slice Ao11 x0_1.length co11 : Value).ownBlock) (.slice (some ⟨go16, 0, none⟩) y170.length co16) y173 := (by rw [hw, Ny173.out]; exact HP30.1); clear HP30; have n0_ := Aside0.mk (Kd.R_after (v := (.slice (some ⟨go16, 0, none⟩) y170.length co16)) (v1 := (.slice (some ⟨go16, 0, none⟩) y170.length co16)) (ok := (fun k_ => (P0_ k_ ∨ w.heap.size ≤ k_))) (by (with_reducible repeat (first | apply Kd.R_alloc | apply Kd.R_drewN | apply Kd.R_drew)); exact HO_0.out) hg (.inl rfl)); have n1_ := Aside0.mk (IsS9003.grown (by repeat (first | (with_reducible first | exact HI3.out | apply IsS9003.alloc | apply IsS9003.drewN | apply IsS9003.drew | apply IsS9003.set_0) | exact HI3.out)) hg (R_neG HO172.out (by intro k_ hk_ e_; subst e_; first | exact gnG HPG.out HGW.out hk_ | exact gnG HPG.out HGW.out hk_.1 | exact gnG HPG.out HGW.out hk_.1.1 | exact gnG HPG.out HGW.out hk_.1.1.1 | exact gnG HPG.out HGW.out hk_.1.1.1.1))); have n2_ := Aside0.mk (hp_); have n3_ := Aside0.mk ((by rw [hw]; exact below_set (HB.out) GB16.out : Below w0.heap.size w0 w31)); have n4_ := Aside0.mk (Kept.of_grown (S := (fun k_ => (P0_ k_) ∨ k_ = g)) hg (by repeat (first | (with_reducible first | exact HK.out | apply Kept.alloc | apply Kept.drewN | apply Kept.drew | refine Kept.setCell ?_ (.inl (.inr rfl)) _) | exact HK.out)) (fun k_ e_ => Or.imp_left Or.inl ((HO172.out.1 k_ e_).1))); clear HO_0; clear HI3; clear HO172; clear HB; clear HK; have HO_0 := n0_; have HI3 := n1_; have HO172 := n2_; have HB := n3_; have HK := n4_; clear n0_ n1_ n2_ n3_ n4_; clear hg hw hp_) | ((with_reducible refine gate_callee (f := 92) rfl ?_); refine goesL_ (some 41) rfl rfl Try.func92 (by kernel_rfl) rfl #[.slice (some ⟨go16, 0, none⟩) y173.length co16, .int .i64 a1] rfl (by (try simp only [List.map_toArray, List.map_cons, List.map_nil]); first | done | (rw [show y173.length = y170.length from (Kd.R_reads' HO172.out).1.symm] <;> rfl) | rfl | (simp only [List.length_drop, List.length_take]; rfl)) ?_; (with_reducible refine (spec_l2Clash.calls k1 _ _ y173 a1 false _ ?side1 ?side2 A17.out).mono ?_); (case side1 => repeat (first | exact (Kd.R_reads' HO172.out).2.2 | (with_reducible refine Kd.C_alloc ?_ _) | (with_reducible refine Kd.C_drewN ?_ _) | (with_reducible refine Kd.C_drew ?_))); (case side2 => rw [show y173.length = y170.length from (Kd.R_reads' HO172.out).1.symm]; exact (Kd.R_reads' HO172.out).2.1); rintro e w32 ⟨rfl, hb⟩; refine ⟨_, rfl, ?_⟩; have n0_ := Aside0.mk (Kd.R_below (by (with_reducible repeat (first | apply Kd.R_alloc | apply Kd.R_drewN | apply Kd.R_drew)); exact HO_0.out) hb); have n1_ := Aside0.mk (Kd.R_below (by (with_reducible repeat (first | apply Kd.R_alloc | apply Kd.R_drewN | apply Kd.R_drew)); exact HO172.out) hb); have n2_ := Aside0.mk (IsS9003.below (by repeat (first | (with_reducible first | exact HI3.out | apply IsS9003.alloc | apply IsS9003.drewN | apply IsS9003.drew | apply IsS9003.set_0) | exact HI3.out)) hb); have n3_ := Aside0.mk (Kept.below (S := (fun k_ => (P0_ k_) ∨ k_ = g)) (by repeat (first | (with_reducible first | exact HK.out | apply Kept.alloc | apply Kept.drewN | apply Kept.drew | refine Kept.setCell ?_ (.inl (.inr rfl)) _) | exact HK.out)) hb); have n4_ := Aside0.mk (below_step (by repeat (first | (with_reducible first | exact HB.out | apply below_alloc | apply pw_below_drewN | apply below_drew1 | refine below_set ?_ (IsS9003.ge HI3.out)) | exact HB.out)) hb); clear HO_0; clear HO172; clear HI3; clear HK; clear HB; have HO_0 := n0_; have HO172 := n1_; have HI3 := n2_; have HK := n3_; have HB := n4_; clear n0_ n1_ n2_ n3_ n4_; (try clear hb); (try clear hb2); (try clear hk); (try clear hi)) | ((with_reducible refine gate_callee (f := 109) rfl ?_); refine goesL_ (some 47) rfl rfl Try.func109 (by kernel_rfl) rfl #[.slice (some ⟨go16, 0, none⟩) y170.length co16, .int .i64 a1, .int .i64 (wrap64 (a2 + 1)), .pointer (some ⟨g, 0, none⟩)] rfl (by (try simp only [List.map_toArray, List.map_cons, List.map_nil]); first | done | rfl | (simp only [List.length_drop, List.length_take]; rfl)) ?_; (with_reducible refine (ih k1 (by have := HK1.out; omega) (fun k_ => some k_ = (.slice (some ⟨go16, 0, none⟩) y170.length co16 : Value).ownBlock) (.slice (some ⟨go16, 0, none⟩) y170.length co16) y173 a1 (wrap64 (a2 + 1)) g x4000_1 t175 t178 w0 _ ?side1 ?side2 ?side3 ?side4 A25.out).mono ?_); (case side4 => exact R_neG HO172.out (by intro k_ hk_ e_; subst e_; first | exact gnG HPG.out HGW.out hk_ | exact gnG HPG.out HGW.out hk_.1 | exact gnG HPG.out HGW.out hk_.1.1 | exact gnG HPG.out HGW.out hk_.1.1.1 | exact gnG HPG.out HGW.out hk_.1.1.1.1)); (case side1 => repeat (first | (with_reducible first | exact HI3.out | apply IsS9003.alloc | apply IsS9003.drewN | apply IsS9003.drew | apply IsS9003.set_0) | exact HI3.out)); (case side2 => repeat (first | (with_reducible first | exact HB.out | apply below_alloc | apply pw_below_drewN | apply below_drew1 | refine below_set ?_ (IsS9003.ge HI3.out)) | exact HB.out)); (case side3 => exact Kd.R_tight rfl HO172.out); rintro e w33 ⟨v176, rfl, ho0, hi, hb, hkp⟩; refine ⟨_, rfl, ?_⟩; have n0_ := Aside0.mk (Kd.R_mono (ok' := fun k_ => (P0_ k_ ∨ w.heap.size ≤ k_) ∧ some k_ ≠ (v176 : Value).ownBlock) (Kd.R_keptB ((R_apG HO_0.out (by intro k_ hk_ e_; subst e_; first | exact gnG HPG.out HGW.out hk_ | exact gnG HPG.out HGW.out hk_.1 | exact gnG HPG.out HGW.out hk_.1.1 | exact gnG HPG.out HGW.out hk_.1.1.1 | exact gnG HPG.out HGW.out hk_.1.1.1.1))) hkp (fun k_ hk_ hs_ => Or.elim hs_ (fun hs_ => (hk_.1.2) hs_) (fun e_ => (hk_.2) e_))) (fun k_ hk_ => ⟨hk_.1.1.1, fun e_ => Or.elim (ho0.1 k_ e_.symm) (fun hs_ => hk_.2.1 (.inl hs_)) (fun hn_ => Nat.not_le.2 hk_.2.2 hn_)⟩)); have n1_ := Aside0.mk (hi); have n2_ := Aside0.mk (Kd.R_mono (ok' := fun k_ => (P0_ k_ ∨ w.heap.size ≤ k_) ∧ some k_ ≠ (.slice Ao11 x0_1.length co11 : Value).ownBlock) ho0 (fun k_ hk_ => ⟨Or.elim hk_ (fun hs_ => (HO172.out.1 k_ (hs_).symm).1) (fun hn_ => (.inr (Nat.le_trans (by first | exact HK.out.1 | exact (show Kept w _ (fun k_ => (P0_ k_) ∨ k_ = g) from by repeat (first | (with_reducible first | exact HK.out | apply Kept.alloc | apply Kept.drewN | apply Kept.drew | refine Kept.setCell ?_ (.inl (.inr rfl)) _) | exact HK.out)).1) hn_))), Or.elim hk_ (fun hs_ => fun e_ => ((((R_apG HO_0.out (by intro k_ hk_ e_; subst e_; first | exact gnG HPG.out HGW.out hk_ | exact gnG HPG.out HGW.out hk_.1 | exact gnG HPG.out HGW.out hk_.1.1 | exact gnG HPG.out HGW.out hk_.1.1.1 | exact gnG HPG.out HGW.out hk_.1.1.1.1))).1 k_ e_.symm).1.2) hs_) (fun hn_ => (Kd.fresh' (Kd.R_lt (by (with_reducible repeat (first | apply Kd.R_alloc | apply Kd.R_drewN | apply Kd.R_drew)); exact HO_0.out)) k_ hn_))⟩)); have n3_ := Aside0.mk (Kept.then_ (S := (fun k_ => (P0_ k_) ∨ k_ = g)) (by repeat (first | (with_reducible first | exact HK.out | apply Kept.alloc | apply Kept.drewN | apply Kept.drew | refine Kept.setCell ?_ (.inl (.inr rfl)) _) | exact HK.out)) hkp (fun k_ hs_ => Or.elim hs_ (fun hs_ => (fun e_ => Or.imp_left Or.inl ((HO172.out.1 k_ e_.symm).1)) hs_) (fun e_ => .inl (.inr e_)))); have n4_ := Aside0.mk (hb); clear HO_0; clear HI3; clear HK; clear HB; clear HO172; have HO_0 := n0_; have HI3 := n1_; have HO177 := n2_; have HK := n3_; have HB := n4_; clear n0_ n1_ n2_ n3_ n4_; (try clear hb); (try clear hkp); (try clear ho0); obtain ⟨Ao34, co34, eo34⟩ := Kd.R_slice HO177.out; subst eo34))
                    go_ret
                    exact ⟨_, by first | rfl | (simp [errW_none, errW_some] <;> rfl) | (simp [*, errW_none, errW_some] <;> rfl), by (with_reducible repeat (first | apply Kd.R_alloc | apply Kd.R_drewN | apply Kd.R_drew)); exact Kd.R_mono HO177.out (fun _ hk => hk.1), by repeat (first | (with_reducible first | exact HI3.out | apply IsS9003.alloc | apply IsS9003.drewN | apply IsS9003.drew | apply IsS9003.set_0) | exact HI3.out), by repeat (first | (with_reducible first | exact HB.out | apply below_alloc | apply pw_below_drewN | apply below_drew1 | refine below_set ?_ (IsS9003.ge HI3.out)) | exact HB.out), by repeat (first | (with_reducible first | exact HK.out | apply Kept.alloc | apply Kept.drewN | apply Kept.drew | refine Kept.setCell ?_ (.inl (.inr rfl)) _) | exact HK.out)⟩
                  · rw [if_neg c26] at H
                    have c26b0 : decide (0 < (t175.length : Int)) = false := decide_eq_false c26
                    have c26b1 : decide (0 < t175.length) = false := decide_eq_false (by omega)
                    clear c26
                    have H' := Aside0.mk H
                    clear H
                    go_wp2_with (first | ((with_reducible refine gate_dst (N := 32) rfl ?_); refine Kd.R_lit (Kd.int .i64) _ 3 ?hg (N := 32) ?hd (xs := ([] : List Int)) (inner := []) (ok := fun _ => True) (okp := fun _ => True) ?hr ?hp (fun _ hk => hk) trivial (Below.refl _ _) (Nat.le_refl _) (by simp) ?_; (case hd => rfl); (case hg => rfl); (case hr => first | (go_simp; done) | (go_simp; rfl)); (case hp => exact (Reps.none _ _)); intro v168 w35 ho36 hb hg_ hnew_; clear hg_ hnew_; (first | rw [← Ny167.out] at ho36 | (simp only [Int.reduceToNat] at ho36; rw [← Ny167.out] at ho36)); have n0_ := Aside0.mk (Kd.R_elder' (by (with_reducible repeat (first | apply Kd.R_alloc | apply Kd.R_drewN | apply Kd.R_drew)); exact HO_0.out) (Kd.R_base ho36) hb); have n1_ := Aside0.mk (Kd.R_lower (Kd.R_new' (Kd.R_newM (M := fun k_ => (P0_ k_ ∨ w.heap.size ≤ k_)) ho36 (by first | exact HK.out.1 | exact (show Kept w _ (fun k_ => (P0_ k_) ∨ k_ = g) from by repeat (first | (with_reducible first | exact HK.out | apply Kept.alloc | apply Kept.drewN | apply Kept.drew | refine Kept.setCell ?_ (.inl (.inr rfl)) _) | exact HK.out)).1) (fun k_ h_ => .inr h_)) (Kd.R_lt (by (with_reducible repeat (first | apply Kd.R_alloc | apply Kd.R_drewN | apply Kd.R_drew)); exact HO_0.out))) (below_size (by repeat (first | (with_reducible first | exact HB.out | apply below_alloc | apply pw_below_drewN | apply below_drew1 | refine below_set ?_ (IsS9003.ge HI3.out)) | exact HB.out)))); have n2_ := Aside0.mk (IsS9003.below (by repeat (first | (with_reducible first | exact HI3.out | apply IsS9003.alloc | apply IsS9003.drewN | apply IsS9003.drew | apply IsS9003.set_0) | exact HI3.out)) hb); have n3_ := Aside0.mk (Kept.below (S := (fun k_ => (P0_ k_) ∨ k_ = g)) (by repeat (first | (with_reducible first | exact HK.out | apply Kept.alloc | apply Kept.drewN | apply Kept.drew | refine Kept.setCell ?_ (.inl (.inr rfl)) _) | exact HK.out)) hb); have n4_ := Aside0.mk (below_step (by repeat (first | (with_reducible first | exact HB.out | apply below_alloc | apply pw_below_drewN | apply below_drew1 | refine below_set ?_ (IsS9003.ge HI3.out)) | exact HB.out)) hb); clear HO_0; clear HI3; clear HK; clear HB; have HO_0 := n0_; have HO169 := n1_; have HI3 := n2_; have HK := n3_; have HB := n4_; clear n0_ n1_ n2_ n3_ n4_; clear hb ho36) | ((with_reducible refine gate_builtin (b := .append) (xs := #[.tmp 32, .tmp 33]) rfl ?_); at_builtin; refine Kd.R_append_rows (Kd.int .i64) (w0 := w0) w0.heap.size rfl (.tmp 32) (.tmp 33) 23 3 (.int .i64 0) 8 rfl Try.underlying23 info3 rfl (by decide) (by omega) v168 y167 x0_1 _ _ _ (fun k_ => (P0_ k_ ∨ w.heap.size ≤ k_) ∧ some k_ ≠ (.slice Ao11 x0_1.length co11 : Value).ownBlock) (fun _ => False) rfl rfl ?aO ?aR (fun _ _ h => h) (fun _ h => h.elim) ?aF ?aB ?aS ?aL ?_; (case aR => repeat (first | exact (Kd.R_reads' HO_0.out).2.2 | (with_reducible refine Kd.C_alloc ?_ _) | (with_reducible refine Kd.C_drewN ?_ _) | (with_reducible refine Kd.C_drew ?_))); (case aB => exact (by repeat (first | (with_reducible first | exact HB.out | apply below_alloc | apply pw_below_drewN | apply below_drew1 | refine below_set ?_ (IsS9003.ge HI3.out)) | exact HB.out))); (case aF => exact (fun k_ hk => ⟨(.inr (Nat.le_trans (by first | exact HK.out.1 | exact (show Kept w _ (fun k_ => (P0_ k_) ∨ k_ = g) from by repeat (first | (with_reducible first | exact HK.out | apply Kept.alloc | apply Kept.drewN | apply Kept.drew | refine Kept.setCell ?_ (.inl (.inr rfl)) _) | exact HK.out)).1) hk)), Kd.fresh' (Kd.R_lt (by (with_reducible repeat (first | apply Kd.R_alloc | apply Kd.R_drewN | apply Kd.R_drew)); exact HO_0.out)) k_ hk⟩)); (case aO => exact (by (with_reducible repeat (first | apply Kd.R_alloc | apply Kd.R_drewN | apply Kd.R_drew)); exact Kd.R_mono HO169.out (fun _ hk => ⟨hk.1.1, hk.2⟩))); (case aS => exact (below_size (by repeat (first | (with_reducible first | exact HB.out | apply below_alloc | apply pw_below_drewN | apply below_drew1 | refine below_set ?_ (IsS9003.ge HI3.out)) | exact HB.out)))); (case aL => have := LMc13.out; omega); intro v171 w37 ho hb hg hat; rw [← Ny170.out] at ho; have n0_ := Aside0.mk (Kd.R_after (ok := (fun k_ => (P0_ k_ ∨ w.heap.size ≤ k_))) (by (with_reducible repeat (first | apply Kd.R_alloc | apply Kd.R_drewN | apply Kd.R_drew)); exact HO_0.out) hg hat); have n1_ := Aside0.mk (IsS9003.grown (by repeat (first | (with_reducible first | exact HI3.out | apply IsS9003.alloc | apply IsS9003.drewN | apply IsS9003.drew | apply IsS9003.set_0) | exact HI3.out)) hg (R_neG HO169.out (by intro k_ hk_ e_; subst e_; first | exact gnG HPG.out HGW.out hk_ | exact gnG HPG.out HGW.out hk_.1 | exact gnG HPG.out HGW.out hk_.1.1 | exact gnG HPG.out HGW.out hk_.1.1.1 | exact gnG HPG.out HGW.out hk_.1.1.1.1))); have n2_ := Aside0.mk (hb); have n3_ := Aside0.mk (Kept.of_grown (S := (fun k_ => (P0_ k_) ∨ k_ = g)) hg (by repeat (first | (with_reducible first | exact HK.out | apply Kept.alloc | apply Kept.drewN | apply Kept.drew | refine Kept.setCell ?_ (.inl (.inr rfl)) _) | exact HK.out)) (fun k_ e_ => Or.imp_left Or.inl ((HO169.out.1 k_ e_).1.1))); have n4_ := Aside0.mk (ho); clear HO_0; clear HI3; clear HB; clear HK; clear HO169; have HO_0 := n0_; have HI3 := n1_; have HB := n2_; have HK := n3_; have HO172 := n4_; clear n0_ n1_ n2_ n3_ n4_; clear ho hb hg hat; have p16 : 0 ≤ (a2 : Int) := of_decide_eq_true (by first | (with_reducible assumption) | assumption); have q16 : (a2 : Int) < ((y170.length : Int) : Int) := of_decide_eq_true (by first | (with_reducible assumption) | assumption); obtain ⟨go16, co16, eo16, gb16, gl16, cl16, HG16⟩ := Kd.R_form HO172.out (by omega); (first | cases eo16 | (injection eo16 with ea_ en_ ec_; (first | subst ea_ | (injection ea_ with ea_; subst ea_)); subst ec_; clear en_)); have GB16 := Aside0.mk gb16; have GG16 := Aside0.mk HG16; clear gb16 gl16 HG16; have HMgo16 := Aside0.mk (show (P0_ go16 ∨ w.heap.size ≤ go16) from (HO172.out.1 _ rfl).1); obtain ⟨hx16_0, hf16_0⟩ := Kd.R_celln 0 HO172.out (a2 : Int) p16 q16; replace p16 := eq_true p16; replace q16 := eq_true q16; obtain ⟨hy38_, hz38_⟩ := Kd.R_celln 0 HO172.out (a2 : Int) (of_decide_eq_true (by first | (with_reducible assumption) | assumption)) (of_decide_eq_true (by first | (with_reducible assumption) | assumption)); have HP38 := Kd.R_putg HO172.out (a2 : Int) x9_1) | ((with_reducible refine gate_store (t := 3) (p := 38) rfl ?_); refine store_event (t := 3) (p := 38) (v := ?vo_w39) (w1 := (w37.setCell ⟨go16, (a2 : Int).toNat, none⟩ (.int .i64 x9_1))) ?hg ?ho ?hn ?hr ?_; (case ho => rfl); (case hg => rfl); (case hn => rfl); (case hr => first | (go_simp; done) | (go_simp; rfl)); intro w39 hw; have hg : w37.grownBy w39 (some go16) := (by rw [hw]; exact HP38.2); have hp_ : Kd.R (Kd.int .i64) 3 w39 w0.heap.size (fun k_ => (P0_ k_ ∨ w.heap.size ≤ k_) ∧ some k_ ≠ (.slice Ao11 x0_1.length co11 : Value).ownBlock) (.slice (some ⟨go16, 0, none⟩) y170.length co16) y173 := (by rw [hw, Ny173.out]; exact HP38.1); clear HP38; have n0_ := Aside0.mk (Kd.R_after (v := (.slice (some ⟨go16, 0, none⟩) y170.length co16)) (v1 := (.slice (some ⟨go16, 0, none⟩) y170.length co16)) (ok := (fun k_ => (P0_ k_ ∨ w.heap.size ≤ k_))) (by (with_reducible repeat (first | apply Kd.R_alloc | apply Kd.R_drewN | apply Kd.R_drew)); exact HO_0.out) hg (.inl rfl)); have n1_ := Aside0.mk (IsS9003.grown (by repeat (first | (with_reducible first | exact HI3.out | apply IsS9003.alloc | apply IsS9003.drewN | apply IsS9003.drew | apply IsS9003.set_0) | exact HI3.out)) hg (R_neG HO172.out (by intro k_ hk_ e_; subst e_; first | exact gnG HPG.out HGW.out hk_ | exact gnG HPG.out HGW.out hk_.1 | exact gnG HPG.out HGW.out hk_.1.1 | exact gnG HPG.out HGW.out hk_.1.1.1 | exact gnG HPG.out HGW.out hk_.1.1.1.1))); have n2_ := Aside0.mk (hp_); have n3_ := Aside0.mk ((by rw [hw]; exact below_set (HB.out) GB16.out : Below w0.heap.size w0 w39)); have n4_ := Aside0.mk (Kept.of_grown (S := (fun k_ => (P0_ k_) ∨ k_ = g)) hg (by repeat (first | (with_reducible first | exact HK.out | apply Kept.alloc | apply Kept.drewN | apply Kept.drew | refine Kept.setCell ?_ (.inl (.inr rfl)) _) | exact HK.out)) (fun k_ e_ => Or.imp_left Or.inl ((HO172.out.1 k_ e_).1))); clear HO_0; clear HI3; clear HO172; clear HB; clear HK; have HO_0 := n0_; have HI3 := n1_; have HO172 := n2_; have HB := n3_; have HK := n4_; clear n0_ n1_ n2_ n3_ n4_; clear hg hw hp_) | ((with_reducible refine gate_callee (f := 92) rfl ?_); refine goesL_ (some 41) rfl rfl Try.func92 (by kernel_rfl) rfl #[.slice (some ⟨go16, 0, none⟩) y173.length co16, .int .i64 a1] rfl (by (try simp only [List.map_toArray, List.map_cons, List.map_nil]); first | done | (rw [show y173.length = y170.length from (Kd.R_reads' HO172.out).1.symm] <;> rfl) | rfl | (simp only [List.length_drop, List.length_take]; rfl)) ?_; (with_reducible refine (spec_l2Clash.calls k1 _ _ y173 a1 false _ ?side1 ?side2 A17.out).mono ?_); (case side1 => repeat (first | exact (Kd.R_reads' HO172.out).2.2 | (with_reducible refine Kd.C_alloc ?_ _) | (with_reducible refine Kd.C_drewN ?_ _) | (with_reducible refine Kd.C_drew ?_))); (case side2 => rw [show y173.length = y170.length from (Kd.R_reads' HO172.out).1.symm]; exact (Kd.R_reads' HO172.out).2.1); rintro e w40 ⟨rfl, hb⟩; refine ⟨_, rfl, ?_⟩; have n0_ := Aside0.mk (Kd.R_below (by (with_reducible repeat (first | apply Kd.R_alloc | apply Kd.R_drewN | apply Kd.R_drew)); exact HO_0.out) hb); have n1_ := Aside0.mk (Kd.R_below (by (with_reducible repeat (first | apply Kd.R_alloc | apply Kd.R_drewN | apply Kd.R_drew)); exact HO172.out) hb); have n2_ := Aside0.mk (IsS9003.below (by repeat (first | (with_reducible first | exact HI3.out | apply IsS9003.alloc | apply IsS9003.drewN | apply IsS9003.drew | apply IsS9003.set_0) | exact HI3.out)) hb); have n3_ := Aside0.mk (Kept.below (S := (fun k_ => (P0_ k_) ∨ k_ = g)) (by repeat (first | (with_reducible first | exact HK.out | apply Kept.alloc | apply Kept.drewN | apply Kept.drew | refine Kept.setCell ?_ (.inl (.inr rfl)) _) | exact HK.out)) hb); have n4_ := Aside0.mk (below_step (by repeat (first | (with_reducible first | exact HB.out | apply below_alloc | apply pw_below_drewN | apply below_drew1 | refine below_set ?_ (IsS9003.ge HI3.out)) | exact HB.out)) hb); clear HO_0; clear HO172; clear HI3; clear HK; clear HB; have HO_0 := n0_; have HO172 := n1_; have HI3 := n2_; have HK := n3_; have HB := n4_; clear n0_ n1_ n2_ n3_ n4_; (try clear hb); (try clear hb2); (try clear hk); (try clear hi)) | ((with_reducible refine gate_callee (f := 109) rfl ?_); refine goesL_ (some 47) rfl rfl Try.func109 (by kernel_rfl) rfl #[.slice (some ⟨go16, 0, none⟩) y170.length co16, .int .i64 a1, .int .i64 (wrap64 (a2 + 1)), .pointer (some ⟨g, 0, none⟩)] rfl (by (try simp only [List.map_toArray, List.map_cons, List.map_nil]); first | done | rfl | (simp only [List.length_drop, List.length_take]; rfl)) ?_; (with_reducible refine (ih k1 (by have := HK1.out; omega) (fun k_ => some k_ = (.slice (some ⟨go16, 0, none⟩) y170.length co16 : Value).ownBlock) (.slice (some ⟨go16, 0, none⟩) y170.length co16) y173 a1 (wrap64 (a2 + 1)) g x4000_1 t175 t178 w0 _ ?side1 ?side2 ?side3 ?side4 A25.out).mono ?_); (case side4 => exact R_neG HO172.out (by intro k_ hk_ e_; subst e_; first | exact gnG HPG.out HGW.out hk_ | exact gnG HPG.out HGW.out hk_.1 | exact gnG HPG.out HGW.out hk_.1.1 | exact gnG HPG.out HGW.out hk_.1.1.1 | exact gnG HPG.out HGW.out hk_.1.1.1.1)); (case side1 => repeat (first | (with_reducible first | exact HI3.out | apply IsS9003.alloc | apply IsS9003.drewN | apply IsS9003.drew | apply IsS9003.set_0) | exact HI3.out)); (case side2 => repeat (first | (with_reducible first | exact HB.out | apply below_alloc | apply pw_below_drewN | apply below_drew1 | refine below_set ?_ (IsS9003.ge HI3.out)) | exact HB.out)); (case side3 => exact Kd.R_tight rfl HO172.out); rintro e w41 ⟨v176, rfl, ho0, hi, hb, hkp⟩; refine ⟨_, rfl, ?_⟩; have n0_ := Aside0.mk (Kd.R_mono (ok' := fun k_ => (P0_ k_ ∨ w.heap.size ≤ k_) ∧ some k_ ≠ (v176 : Value).ownBlock) (Kd.R_keptB ((R_apG HO_0.out (by intro k_ hk_ e_; subst e_; first | exact gnG HPG.out HGW.out hk_ | exact gnG HPG.out HGW.out hk_.1 | exact gnG HPG.out HGW.out hk_.1.1 | exact gnG HPG.out HGW.out hk_.1.1.1 | exact gnG HPG.out HGW.out hk_.1.1.1.1))) hkp (fun k_ hk_ hs_ => Or.elim hs_ (fun hs_ => (hk_.1.2) hs_) (fun e_ => (hk_.2) e_))) (fun k_ hk_ => ⟨hk_.1.1.1, fun e_ => Or.elim (ho0.1 k_ e_.symm) (fun hs_ => hk_.2.1 (.inl hs_)) (fun hn_ => Nat.not_le.2 hk_.2.2 hn_)⟩)); have n1_ := Aside0.mk (hi); have n2_ := Aside0.mk (Kd.R_mono (ok' := fun k_ => (P0_ k_ ∨ w.heap.size ≤ k_) ∧ some k_ ≠ (.slice Ao11 x0_1.length co11 : Value).ownBlock) ho0 (fun k_ hk_ => ⟨Or.elim hk_ (fun hs_ => (HO172.out.1 k_ (hs_).symm).1) (fun hn_ => (.inr (Nat.le_trans (by first | exact HK.out.1 | exact (show Kept w _ (fun k_ => (P0_ k_) ∨ k_ = g) from by repeat (first | (with_reducible first | exact HK.out | apply Kept.alloc | apply Kept.drewN | apply Kept.drew | refine Kept.setCell ?_ (.inl (.inr rfl)) _) | exact HK.out)).1) hn_))), Or.elim hk_ (fun hs_ => fun e_ => ((((R_apG HO_0.out (by intro k_ hk_ e_; subst e_; first | exact gnG HPG.out HGW.out hk_ | exact gnG HPG.out HGW.out hk_.1 | exact gnG HPG.out HGW.out hk_.1.1 | exact gnG HPG.out HGW.out hk_.1.1.1 | exact gnG HPG.out HGW.out hk_.1.1.1.1))).1 k_ e_.symm).1.2) hs_) (fun hn_ => (Kd.fresh' (Kd.R_lt (by (with_reducible repeat (first | apply Kd.R_alloc | apply Kd.R_drewN | apply Kd.R_drew)); exact HO_0.out)) k_ hn_))⟩)); have n3_ := Aside0.mk (Kept.then_ (S := (fun k_ => (P0_ k_) ∨ k_ = g)) (by repeat (first | (with_reducible first | exact HK.out | apply Kept.alloc | apply Kept.drewN | apply Kept.drew | refine Kept.setCell ?_ (.inl (.inr rfl)) _) | exact HK.out)) hkp (fun k_ hs_ => Or.elim hs_ (fun hs_ => (fun e_ => Or.imp_left Or.inl ((HO172.out.1 k_ e_.symm).1)) hs_) (fun e_ => .inl (.inr e_)))); have n4_ := Aside0.mk (hb); clear HO_0; clear HI3; clear HK; clear HB; clear HO172; have HO_0 := n0_; have HI3 := n1_; have HO177 := n2_; have HK := n3_; have HB := n4_; clear n0_ n1_ n2_ n3_ n4_; (try clear hb); (try clear hkp); (try clear ho0); obtain ⟨Ao42, co42, eo42⟩ := Kd.R_slice HO177.out; subst eo42))
                    (try simp only [← hl0_1])
                    go_roundg k1
                    case measure => have := HK1.out; omega
                    case rel => exact ⟨(x0_1), (wrap64 (x9_1 + 1)), (t178), (by first | rfl | (simp; done) | (simp [*]; done)), H', ⟨by have := HK1.out; omega⟩, ⟨by (try simp only [hl0_1]); (with_reducible repeat (first | apply Kd.R_alloc | apply Kd.R_drewN | apply Kd.R_drew)); exact Kd.R_mono HO_0.out (fun _ hk => hk.1)⟩, ⟨by repeat (first | (with_reducible first | exact HI3.out | apply IsS9003.alloc | apply IsS9003.drewN | apply IsS9003.drew | apply IsS9003.set_0) | exact HI3.out)⟩, ⟨by repeat (first | (with_reducible first | exact HK.out | apply Kept.alloc | apply Kept.drewN | apply Kept.drew | refine Kept.setCell ?_ (.inl (.inr rfl)) _) | exact HK.out)⟩, ⟨by repeat (first | (with_reducible first | exact HB.out | apply below_alloc | apply pw_below_drewN | apply below_drew1 | refine below_set ?_ (IsS9003.ge HI3.out)) | exact HB.out)⟩⟩
              · rw [if_neg c15] at H
                exact absurd H (by simp)
            · rw [if_neg c14] at H
              exact absurd H (by simp)
          · rw [if_neg c13] at H
            exact absurd H (by simp)
        · rw [if_neg c12] at H
          have c12b0 : decide (x9_1 ≤ a1) = false := decide_eq_false c12
          clear c12
          simp only [Option.some.injEq, Prod.mk.injEq] at H
          obtain ⟨rfl, rfl⟩ := H
          go_wp2
          go_ret
          exact ⟨_, by first | rfl | (simp [errW_none, errW_some] <;> rfl) | (simp [*, errW_none, errW_some] <;> rfl), by first | exact Kd.R_nil _ _ _ _ _ | exact Kd.N_nil _ _ _ _ _ | exact Kd.V_nil _ _ _ _ _ | exact Kd.Q_nil _ _ _ _ _ | exact Kd.S_nil _ _ _ _ _, by repeat (first | (with_reducible first | exact HI3.out | apply IsS9003.alloc | apply IsS9003.drewN | apply IsS9003.drew | apply IsS9003.set_0) | exact HI3.out), by repeat (first | (with_reducible first | exact HB.out | apply below_alloc | apply pw_below_drewN | apply below_drew1 | refine below_set ?_ (IsS9003.ge HI3.out)) | exact HB.out), by repeat (first | (with_reducible first | exact HK.out | apply Kept.alloc | apply Kept.drewN | apply Kept.drew | refine Kept.setCell ?_ (.inl (.inr rfl)) _) | exact HK.out)⟩
def spec_SquareNumber.f (k : Nat) (a0 : Int) (a1 : Int) : Option (List Int) := (spec_l1In.f a0 2 4).bind fun t179 => (if t179 = true then (if a1 < 0 then (some (([] : List Int))) else (if 0 ≤ (wrap64 (a0 * a0)) then (if (wrap64 (a0 * a0) : Int).toNat ≤ 35184372088832 then ((spec_l2Search.f k (List.replicate (wrap64 (a0 * a0) : Int).toNat 0) a0 0 a1).bind fun bt187 => ((some (([] : List Int) : List Int)).bind fun y191 => (if y191.length + bt187.1.length < 17592186044416 then (some (y191 ++ bt187.1)) else (none)))) else (none)) else (none))) else (some (([] : List Int))))
set_option maxHeartbeats 8000000 in
set_option maxRecDepth 100000 in
theorem spec_SquareNumber.calls (k : Nat) (a0 : Int) (a1 : Int) (r : List Int) (w : World) (h : spec_SquareNumber.f k a0 a1 = some r) :
    Calls Try.prog 90 #[.int .i64 a0, .int .i64 a1] w fun e w' => ∃ v0_ : Value, e = .returned (v0_) ∧ Kd.R (Kd.int .i64) 3 w' w.heap.size (fun _ => True) v0_ r ∧ Below w.heap.size w w' := by
  have HB := Aside0.mk (Below.refl w.heap.size w)
  have H : ((spec_l1In.f a0 2 4).bind fun t179 => (if t179 = true then (if a1 < 0 then (some (([] : List Int))) else (if 0 ≤ (wrap64 (a0 * a0)) then (if (wrap64 (a0 * a0) : Int).toNat ≤ 35184372088832 then ((spec_l2Search.f k (List.replicate (wrap64 (a0 * a0) : Int).toNat 0) a0 0 a1).bind fun bt187 => ((some (([] : List Int) : List Int)).bind fun y191 => (if y191.length + bt187.1.length < 17592186044416 then (some (y191 ++ bt187.1)) else (none)))) else (none)) else (none))) else (some (([] : List Int))))) = some r := h
  clear h
  replace H := Option.bind_eq_some_iff.mp H
  obtain ⟨t179, A30, H⟩ := H
  replace H : (if t179 = true then (if a1 < 0 then (some (([] : List Int))) else (if 0 ≤ (wrap64 (a0 * a0)) then (if (wrap64 (a0 * a0) : Int).toNat ≤ 35184372088832 then ((spec_l2Search.f k (List.replicate (wrap64 (a0 * a0) : Int).toNat 0) a0 0 a1).bind fun bt187 => ((some (([] : List Int) : List Int)).bind fun y191 => (if y191.length + bt187.1.length < 17592186044416 then (some (y191 ++ bt187.1)) else (none)))) else (none)) else (none))) else (some (([] : List Int)))) = some r := H
  have A3 := Aside0.mk A30
  clear A30
  by_cases c4 : t179 = true
  · subst c4
    have H1 : (if a1 < 0 then (some (([] : List Int))) else (if 0 ≤ (wrap64 (a0 * a0)) then (if (wrap64 (a0 * a0) : Int).toNat ≤ 35184372088832 then ((spec_l2Search.f k (List.replicate (wrap64 (a0 * a0) : Int).toNat 0) a0 0 a1).bind fun bt187 => ((some (([] : List Int) : List Int)).bind fun y191 => (if y191.length + bt187.1.length < 17592186044416 then (some (y191 ++ bt187.1)) else (none)))) else (none)) else (none))) = some r := by rw [if_pos rfl] at H; exact H
    clear H
    have H := H1
    clear H1
    by_cases c5 : a1 < 0
    · rw [if_pos c5] at H
      have c5b0 : decide (a1 < 0) = true := decide_eq_true c5
      clear c5
      obtain ⟨y180, hy180⟩ : ∃ y_ : List Int, y_ = (([] : List Int)) := ⟨_, rfl⟩
      replace H : (some y180) = some r := by first | (rw [hy180]; with_reducible exact H) | (have H2_ := (Option.bind_some _ _).symm.trans H; rw [hy180]; with_reducible exact H2_) | (have H2_ := (Option.bind_some _ _).symm.trans H; with_reducible exact H2_) | with_reducible exact H | (rw [hy180]; exact H) | exact H
      have Ny180 := Aside0.mk hy180
      clear hy180
      obtain rfl := Option.some.inj H
      go_enter Try.func90, Try.ntmps90
      go_wp2_with (first | ((with_reducible refine gate_callee (f := 52) rfl ?_); refine goesL_ (some 9) rfl rfl Try.func52 (by kernel_rfl) rfl #[.int .i64 a0, .int .i64 2, .int .i64 4] rfl (by (try simp only [List.map_toArray, List.map_cons, List.map_nil]); first | done | rfl | (simp only [List.length_drop, List.length_take]; rfl)) ?_; (with_reducible refine (spec_l1In.calls a0 2 4 true _ A3.out).mono ?_); rintro e w' ⟨rfl, ⟨nd, rfl⟩⟩; refine ⟨_, rfl, ?_⟩) | ((with_reducible refine gate_dst (N := 15) rfl ?_); refine Kd.R_lit (Kd.int .i64) _ 3 ?hg (N := 15) ?hd (xs := ([] : List Int)) (inner := []) (ok := fun _ => True) (okp := fun _ => True) ?hr ?hp (fun _ hk => hk) trivial (Below.refl _ _) (Nat.le_refl _) (by simp) ?_; (case hd => rfl); (case hg => rfl); (case hr => first | (go_simp; done) | (go_simp; rfl)); (case hp => exact (Reps.none _ _)); intro v181 w6 ho7 hb hg_ hnew_; clear hg_ hnew_; (first | rw [← Ny180.out] at ho7 | (simp only [Int.reduceToNat] at ho7; rw [← Ny180.out] at ho7)); have n0_ := Aside0.mk (Kd.R_lower ho7 (below_size (by repeat (first | (with_reducible first | exact HB.out | apply below_alloc | apply pw_below_drewN | apply below_drew1) | exact HB.out)))); have n1_ := Aside0.mk (below_step (by repeat (first | (with_reducible first | exact HB.out | apply below_alloc | apply pw_below_drewN | apply below_drew1) | exact HB.out)) hb); clear HB; have HO182 := n0_; have HB := n1_; clear n0_ n1_; clear hb ho7))
      go_ret
      exact ⟨_, by first | rfl | (simp [errW_none, errW_some] <;> rfl) | (simp [*, errW_none, errW_some] <;> rfl), by (with_reducible repeat (first | apply Kd.R_alloc | apply Kd.R_drewN | apply Kd.R_drew)); exact HO182.out, by repeat (first | (with_reducible first | exact HB.out | apply below_alloc | apply pw_below_drewN | apply below_drew1) | exact HB.out)⟩
    · rw [if_neg c5] at H
      have c5b0 : decide (a1 < 0) = false := decide_eq_false c5
      clear c5
      obtain ⟨ji8, hji8⟩ : ∃ j_ : Int, (wrap64 (a0 * a0)) = j_ := ⟨_, rfl⟩
      replace H : (if 0 ≤ (ji8) then (if (ji8 : Int).toNat ≤ 35184372088832 then ((spec_l2Search.f k (List.replicate (ji8 : Int).toNat 0) a0 0 a1).bind fun bt187 => ((some (([] : List Int) : List Int)).bind fun y191 => (if y191.length + bt187.1.length < 17592186044416 then (some (y191 ++ bt187.1)) else (none)))) else (none)) else (none)) = some r := by first | (rw [hji8] at H; exact H) | (simp only [hji8] at H ⊢; exact H)
      (try rw [hji8] at A3)
      have hji8w : (IntKind.i64.wrap (a0 * a0)) = ji8 := (i64_w _).trans hji8
      by_cases c9 : 0 ≤ (ji8)
      · rw [if_pos c9] at H
        have c9b0 := eq_true c9
        have c9b1 : decide (0 ≤ (ji8)) = true := decide_eq_true c9
        clear c9
        by_cases c10 : (ji8 : Int).toNat ≤ 35184372088832
        · rw [if_pos c10] at H
          have c10b0 := eq_true c10
          have c10b1 : decide ((ji8 : Int).toNat ≤ 35184372088832) = true := decide_eq_true c10
          clear c10
          obtain ⟨y184, hy184⟩ : ∃ y_ : List Int, y_ = (List.replicate (ji8 : Int).toNat 0) := ⟨_, rfl⟩
          replace H : ((spec_l2Search.f k y184 a0 0 a1).bind fun bt187 => ((some (([] : List Int) : List Int)).bind fun y191 => (if y191.length + bt187.1.length < 17592186044416 then (some (y191 ++ bt187.1)) else (none)))) = some r := by first | (rw [hy184]; with_reducible exact H) | (have H2_ := (Option.bind_some _ _).symm.trans H; rw [hy184]; with_reducible exact H2_) | (have H2_ := (Option.bind_some _ _).symm.trans H; with_reducible exact H2_) | with_reducible exact H | (rw [hy184]; exact H) | exact H
          have Ny184 := Aside0.mk hy184
          clear hy184
          replace H := Option.bind_eq_some_iff.mp H
          obtain ⟨⟨t187, t190⟩, A110, H⟩ := H
          replace H : ((some (([] : List Int) : List Int)).bind fun y191 => (if y191.length + t187.length < 17592186044416 then (some (y191 ++ t187)) else (none))) = some r := H
          have A11 := Aside0.mk A110
          clear A110
          obtain ⟨y191, hy191⟩ : ∃ y_ : List Int, y_ = (([] : List Int)) := ⟨_, rfl⟩
          replace H : (if y191.length + t187.length < 17592186044416 then (some (y191 ++ t187)) else (none)) = some r := by first | (rw [hy191]; with_reducible exact H) | (have H2_ := (Option.bind_some _ _).symm.trans H; rw [hy191]; with_reducible exact H2_) | (have H2_ := (Option.bind_some _ _).symm.trans H; with_reducible exact H2_) | with_reducible exact H | (rw [hy191]; exact H) | exact H
          have Ny191 := Aside0.mk hy191
          clear hy191
          by_cases c12 : y191.length + t187.length < 17592186044416
          · rw [if_pos c12] at H
            have LMc12 := Aside0.mk c12
            clear c12
            obtain ⟨y194, hy194⟩ : ∃ y_ : List Int, y_ = (y191 ++ t187) := ⟨_, rfl⟩
            replace H : (some y194) = some r := by first | (rw [hy194]; with_reducible exact H) | (have H2_ := (Option.bind_some _ _).symm.trans H; rw [hy194]; with_reducible exact H2_) | (have H2_ := (Option.bind_some _ _).symm.trans H; with_reducible exact H2_) | with_reducible exact H | (rw [hy194]; exact H) | exact H
            have Ny194 := Aside0.mk hy194
            clear hy194
            obtain rfl := Option.some.inj H
            go_enter Try.func90, Try.ntmps90
            go_wp2_with (first | ((with_reducible refine gate_callee (f := 52) rfl ?_); refine goesL_ (some 9) rfl rfl Try.func52 (by kernel_rfl) rfl #[.int .i64 a0, .int .i64 2, .int .i64 4] rfl (by (try simp only [List.map_toArray, List.map_cons, List.map_nil]); first | done | rfl | (simp only [List.length_drop, List.length_take]; rfl)) ?_; (with_reducible refine (spec_l1In.calls a0 2 4 true _ A3.out).mono ?_); rintro e w' ⟨rfl, ⟨nd, rfl⟩⟩; refine ⟨_, rfl, ?_⟩) | ((with_reducible refine gate_dst (N := 5) rfl ?_); refine box_event ?hg (N := 5) ?hd (cs := #[.int .i64 0]) (t := 3) ?hr ?_; (case hd => rfl); (case hg => rfl); (case hr => first | (go_simp; done) | (go_simp; rfl)); intro gb183 hg w13 hbox hb; have n0_ := Aside0.mk (below_step (by repeat (first | (with_reducible first | exact HB.out | apply below_alloc | apply pw_below_drewN | apply below_drew1) | exact HB.out)) hb); have n1_ := Aside0.mk ((show IsS9003 w w13 gb183 0 from ⟨hbox, by rw [hg]; exact (below_size (by repeat (first | (with_reducible first | exact HB.out | apply below_alloc | apply pw_below_drewN | apply below_drew1) | exact HB.out)))⟩)); clear HB; have HB := n0_; have HI183 := n1_; clear n0_ n1_; clear hb hbox hg; obtain ⟨HGz14, hgz14⟩ := HI183.out; have hcz14_0 := cellS9003_0 HGz14; have hfz14_0 := blk_frozen HGz14 0; clear HGz14 hgz14) | ((with_reducible refine gate_dst (N := 20) rfl ?_); refine Kd.R_make (Kd.int .i64) _ 3 rfl (N := 20) rfl 23 _ _ rfl ji8 rfl rfl Try.underlying23 (.int .i64 0) 8 info3 rfl (by decide) (by omega) 0 (ok := fun k_ => k_ ≠ gb183) (okp := fun _ => False) rfl (fun _ hk => hk.elim) ?hfr (of_decide_eq_true (by first | (with_reducible assumption) | assumption)) (Nat.le_trans (Nat.mul_le_mul_right _ (of_decide_eq_true (by first | (with_reducible assumption) | assumption) : ji8.toNat ≤ 35184372088832)) (by omega)) (Below.refl _ _) (Nat.le_refl _) ?_; (case hfr => exact (IsS9003.fresh (show IsS9003 w (w13.setCell ⟨gb183, 0, none⟩ (.int .i64 a1)) gb183 a1 from by repeat (first | (with_reducible first | exact HI183.out | apply IsS9003.alloc | apply IsS9003.drewN | apply IsS9003.drew | apply IsS9003.set_0) | exact HI183.out)) _ (Nat.le_refl _))); intro v185 w15 ho16 hb hg_ hnew_; clear hg_ hnew_; (first | rw [← Ny184.out] at ho16 | (simp only [Int.reduceToNat] at ho16; rw [← Ny184.out] at ho16)); have n0_ := Aside0.mk (Kd.R_lower ho16 (below_size (by repeat (first | (with_reducible first | exact HB.out | apply below_alloc | apply pw_below_drewN | apply below_drew1 | refine below_set ?_ (IsS9003.ge HI183.out)) | exact HB.out)))); have n1_ := Aside0.mk (IsS9003.below (show IsS9003 w (w13.setCell ⟨gb183, 0, none⟩ (.int .i64 a1)) gb183 a1 from by repeat (first | (with_reducible first | exact HI183.out | apply IsS9003.alloc | apply IsS9003.drewN | apply IsS9003.drew | apply IsS9003.set_0) | exact HI183.out)) hb); have n2_ := Aside0.mk (below_step (by repeat (first | (with_reducible first | exact HB.out | apply below_alloc | apply pw_below_drewN | apply below_drew1 | refine below_set ?_ (IsS9003.ge HI183.out)) | exact HB.out)) hb); clear HI183; clear HB; have HO186 := n0_; have HI183 := n1_; have HB := n2_; clear n0_ n1_ n2_; clear hb ho16; obtain ⟨Ao17, co17, eo17⟩ := Kd.R_slice HO186.out; subst eo17) | ((with_reducible refine gate_callee (f := 109) rfl ?_); refine goesL_ (some 23) rfl rfl Try.func109 (by kernel_rfl) rfl #[.slice Ao17 y184.length co17, .int .i64 a0, .int .i64 0, .pointer (some ⟨gb183, 0, none⟩)] rfl (by (try simp only [List.map_toArray, List.map_cons, List.map_nil]); first | done | rfl | (simp only [List.length_drop, List.length_take]; rfl)) ?_; (with_reducible refine (spec_l2Search.calls k (fun k_ => some k_ = (.slice Ao17 y184.length co17 : Value).ownBlock) (.slice Ao17 y184.length co17) y184 a0 0 gb183 a1 t187 t190 w _ ?side1 ?side2 ?side3 ?side4 A11.out).mono ?_); (case side4 => exact R_neG HO186.out (fun _ h_ => h_)); (case side1 => repeat (first | (with_reducible first | exact HI183.out | apply IsS9003.alloc | apply IsS9003.drewN | apply IsS9003.drew | apply IsS9003.set_0) | exact HI183.out)); (case side2 => repeat (first | (with_reducible first | exact HB.out | apply below_alloc | apply pw_below_drewN | apply below_drew1 | refine below_set ?_ (IsS9003.ge HI183.out)) | exact HB.out)); (case side3 => exact Kd.R_tight rfl HO186.out); rintro e w18 ⟨v188, rfl, ho0, hi, hb, hkp⟩; refine ⟨_, rfl, ?_⟩; have n0_ := Aside0.mk (hi); have n1_ := Aside0.mk (Kd.R_mono (ok' := fun k_ => True) ho0 (fun k_ hk_ => trivial)); have n2_ := Aside0.mk (hb); clear HI183; clear HB; clear HO186; have HI183 := n0_; have HO189 := n1_; have HB := n2_; clear n0_ n1_ n2_; (try clear hb); (try clear hkp); (try clear ho0)) | ((with_reducible refine gate_dst (N := 24) rfl ?_); refine Kd.R_lit (Kd.int .i64) _ 3 ?hg (N := 24) ?hd (xs := ([] : List Int)) (inner := []) (ok := fun k_ => k_ ≠ gb183) (okp := fun _ => False) ?hr ?hp (fun _ hk => hk.elim) ?hfr (Below.refl _ _) (Nat.le_refl _) (by simp) ?_; (case hfr => exact (IsS9003.fresh (by repeat (first | (with_reducible first | exact HI183.out | apply IsS9003.alloc | apply IsS9003.drewN | apply IsS9003.drew | apply IsS9003.set_0) | exact HI183.out)) _ (Nat.le_refl _))); (case hd => rfl); (case hg => rfl); (case hr => first | (go_simp; done) | (go_simp; rfl)); (case hp => exact (Reps.none _ _)); intro v192 w19 ho20 hb hg_ hnew_; clear hg_ hnew_; (first | rw [← Ny191.out] at ho20 | (simp only [Int.reduceToNat] at ho20; rw [← Ny191.out] at ho20)); have n0_ := Aside0.mk (Kd.R_elder' (by (with_reducible repeat (first | apply Kd.R_alloc | apply Kd.R_drewN | apply Kd.R_drew)); exact HO189.out) (Kd.R_base ho20) hb); have n1_ := Aside0.mk (Kd.R_lower (Kd.R_new' ho20 (Kd.R_lt (by (with_reducible repeat (first | apply Kd.R_alloc | apply Kd.R_drewN | apply Kd.R_drew)); exact HO189.out))) (below_size (by repeat (first | (with_reducible first | exact HB.out | apply below_alloc | apply pw_below_drewN | apply below_drew1 | refine below_set ?_ (IsS9003.ge HI183.out)) | exact HB.out)))); have n2_ := Aside0.mk (IsS9003.below (by repeat (first | (with_reducible first | exact HI183.out | apply IsS9003.alloc | apply IsS9003.drewN | apply IsS9003.drew | apply IsS9003.set_0) | exact HI183.out)) hb); have n3_ := Aside0.mk (below_step (by repeat (first | (with_reducible first | exact HB.out | apply below_alloc | apply pw_below_drewN | apply below_drew1 | refine below_set ?_ (IsS9003.ge HI183.out)) | exact HB.out)) hb); clear HO189; clear HI183; clear HB; have HO189 := n0_; have HO193 := n1_; have HI183 := n2_; have HB := n3_; clear n0_ n1_ n2_ n3_; clear hb ho20; obtain ⟨Ao22, co22, eo22⟩ := Kd.R_slice HO189.out; subst eo22) | ((with_reducible refine gate_builtin (b := .append) (xs := #[.tmp 24, .tmp 25]) rfl ?_); at_builtin; refine Kd.R_append_rows (Kd.int .i64) (w0 := w) w.heap.size rfl (.tmp 24) (.tmp 25) 23 3 (.int .i64 0) 8 rfl Try.underlying23 info3 rfl (by decide) (by omega) v192 y191 t187 _ _ _ (fun k_ => some k_ ≠ (.slice Ao22 t187.length co22 : Value).ownBlock) (fun _ => False) rfl rfl ?aO ?aR (fun _ _ h => h) (fun _ h => h.elim) ?aF ?aB ?aS ?aL ?_; (case aR => repeat (first | exact (Kd.R_reads' HO189.out).2.2 | (with_reducible refine Kd.C_alloc ?_ _) | (with_reducible refine Kd.C_drewN ?_ _) | (with_reducible refine Kd.C_drew ?_))); (case aB => exact (by repeat (first | (with_reducible first | exact HB.out | apply below_alloc | apply pw_below_drewN | apply below_drew1 | refine below_set ?_ (IsS9003.ge HI183.out)) | exact HB.out))); (case aF => exact (fun k_ hk => Kd.fresh' (Kd.R_lt (by (with_reducible repeat (first | apply Kd.R_alloc | apply Kd.R_drewN | apply Kd.R_drew)); exact HO189.out)) k_ hk)); (case aO => exact (by (with_reducible repeat (first | apply Kd.R_alloc | apply Kd.R_drewN | apply Kd.R_drew)); exact Kd.R_mono HO193.out (fun _ hk => hk.2))); (case aS => exact (below_size (by repeat (first | (with_reducible first | exact HB.out | apply below_alloc | apply pw_below_drewN | apply below_drew1 | refine below_set ?_ (IsS9003.ge HI183.out)) | exact HB.out)))); (case aL => have := LMc12.out; omega); intro v195 w21 ho hb hg hat; rw [← Ny194.out] at ho; have n0_ := Aside0.mk (IsS9003.grown (by repeat (first | (with_reducible first | exact HI183.out | apply IsS9003.alloc | apply IsS9003.drewN | apply IsS9003.drew | apply IsS9003.set_0) | exact HI183.out)) hg (R_neG HO193.out (fun _ h_ => h_.1))); have n1_ := Aside0.mk (Kd.R_after (ok := (fun _ => True)) (by (with_reducible repeat (first | apply Kd.R_alloc | apply Kd.R_drewN | apply Kd.R_drew)); exact HO189.out) hg hat); have n2_ := Aside0.mk (hb); have n3_ := Aside0.mk (ho); clear HI183; clear HO189; clear HB; clear HO193; have HI183 := n0_; have HO189 := n1_; have HB := n2_; have HO196 := n3_; clear n0_ n1_ n2_ n3_; clear ho hb hg hat))
            go_ret
            exact ⟨_, by first | rfl | (simp [errW_none, errW_some] <;> rfl) | (simp only [← hji8]; first | rfl | (simp [errW_none, errW_some] <;> rfl)) | (simp [*, errW_none, errW_some] <;> rfl), by (with_reducible repeat (first | apply Kd.R_alloc | apply Kd.R_drewN | apply Kd.R_drew)); exact Kd.R_mono HO196.out (fun _ hk => trivial), by repeat (first | (with_reducible first | exact HB.out | apply below_alloc | apply pw_below_drewN | apply below_drew1 | refine below_set ?_ (IsS9003.ge HI183.out)) | exact HB.out)⟩
          · rw [if_neg c12] at H
            exact absurd H (by simp)
        · rw [if_neg c10] at H
          exact absurd H (by simp)
      · rw [if_neg c9] at H
        exact absurd H (by simp)
  · replace c4 := Bool.eq_false_iff.mpr c4
    subst c4
    have H1 : (some (([] : List Int))) = some r := by rw [if_neg (show ¬ (false = true) by decide)] at H; exact H
    clear H
    have H := H1
    clear H1
    obtain ⟨y197, hy197⟩ : ∃ y_ : List Int, y_ = (([] : List Int)) := ⟨_, rfl⟩
    replace H : (some y197) = some r := by first | (rw [hy197]; with_reducible exact H) | (have H2_ := (Option.bind_some _ _).symm.trans H; rw [hy197]; with_reducible exact H2_) | (have H2_ := (Option.bind_some _ _).symm.trans H; with_reducible exact H2_) | with_reducible exact H | (rw [hy197]; exact H) | exact H
    have Ny197 := Aside0.mk hy197
    clear hy197
    obtain rfl := Option.some.inj H
    go_enter Try.func90, Try.ntmps90
    go_wp2_with (first | ((with_reducible refine gate_callee (f := 52) rfl ?_); refine goesL_ (some 9) rfl rfl Try.func52 (by kernel_rfl) rfl #[.int .i64 a0, .int .i64 2, .int .i64 4] rfl (by (try simp only [List.map_toArray, List.map_cons, List.map_nil]); first | done | rfl | (simp only [List.length_drop, List.length_take]; rfl)) ?_; (with_reducible refine (spec_l1In.calls a0 2 4 false _ A3.out).mono ?_); rintro e w' ⟨rfl, ⟨nd, rfl⟩⟩; refine ⟨_, rfl, ?_⟩) | ((with_reducible refine gate_dst (N := 15) rfl ?_); refine Kd.R_lit (Kd.int .i64) _ 3 ?hg (N := 15) ?hd (xs := ([] : List Int)) (inner := []) (ok := fun _ => True) (okp := fun _ => True) ?hr ?hp (fun _ hk => hk) trivial (Below.refl _ _) (Nat.le_refl _) (by simp) ?_; (case hd => rfl); (case hg => rfl); (case hr => first | (go_simp; done) | (go_simp; rfl)); (case hp => exact (Reps.none _ _)); intro v198 w23 ho24 hb hg_ hnew_; clear hg_ hnew_; (first | rw [← Ny197.out] at ho24 | (simp only [Int.reduceToNat] at ho24; rw [← Ny197.out] at ho24)); have n0_ := Aside0.mk (Kd.R_lower ho24 (below_size (by repeat (first | (with_reducible first | exact HB.out | apply below_alloc | apply pw_below_drewN | apply below_drew1) | exact HB.out)))); have n1_ := Aside0.mk (below_step (by repeat (first | (with_reducible first | exact HB.out | apply below_alloc | apply pw_below_drewN | apply below_drew1) | exact HB.out)) hb); clear HB; have HO199 := n0_; have HB := n1_; clear n0_ n1_; clear hb ho24))
    go_ret
    exact ⟨_, by first | rfl | (simp [errW_none, errW_some] <;> rfl) | (simp [*, errW_none, errW_some] <;> rfl), by (with_reducible repeat (first | apply Kd.R_alloc | apply Kd.R_drewN | apply Kd.R_drew)); exact HO199.out, by repeat (first | (with_reducible first | exact HB.out | apply below_alloc | apply pw_below_drewN | apply below_drew1) | exact HB.out)⟩
def spec_l20Solved.f (k : Nat) (s0_0 : List Int) (s0_1 : Int) (a1 : Int) : Option (List Int × Int) := (some (([2, 12, 576] : List Int) : List Int)).bind fun y200 => (if 0 ≤ (wrap64 (a1 - 2)) then (if (wrap64 (a1 - 2)) < (y200.length : Int) then ((spec_l20Rd_pick.f k s0_0 s0_1 256).bind fun bt204 => ((spec_l20Rd_pick.f k s0_0 bt204.2 3).bind fun bt206 => (if (rd y200 (wrap64 (a1 - 2))) = 0 then (none) else ((spec_SquareNumber.f k a1 (Int.tmod (wrap64 ((wrap64 (bt204.1 * 3)) + bt206.1)) (rd y200 (wrap64 (a1 - 2))))).bind fun t208 => (some (t208, bt206.2)))))) else (none)) else (none))
set_option maxHeartbeats 8000000 in
set_option maxRecDepth 100000 in
theorem spec_l20Solved.calls (k : Nat) (g : Nat) (s0_0 : List Int) (s0_1 : Int) (a1 : Int) (r1 : List Int) (r2 : Int) (w0 w : World) (hI : IsS100 w0 w g s0_0 s0_1) (hB : Below w0.heap.size w0 w) (h : spec_l20Solved.f k s0_0 s0_1 a1 = some (r1, r2)) :
    Calls Try.prog 46 #[.pointer (some ⟨g, 0, none⟩), .int .i64 a1] w fun e w' => ∃ v0_ : Value, e = .returned (v0_) ∧ Kd.R (Kd.int .i64) 3 w' w.heap.size (fun _ => True) v0_ r1 ∧ IsS100 w0 w' g s0_0 r2 ∧ Below w0.heap.size w0 w' ∧ KeepBut w w' g none := by
  have HI0 := Aside0.mk hI
  have HK := Aside0.mk (KeepBut.refl w g none)
  have HL := Aside0.mk hB.size
  clear hI
  have HW0 := Aside0.mk hB.size
  have HB := Aside0.mk hB
  clear hB
  have H : ((some (([2, 12, 576] : List Int) : List Int)).bind fun y200 => (if 0 ≤ (wrap64 (a1 - 2)) then (if (wrap64 (a1 - 2)) < (y200.length : Int) then ((spec_l20Rd_pick.f k s0_0 s0_1 256).bind fun bt204 => ((spec_l20Rd_pick.f k s0_0 bt204.2 3).bind fun bt206 => (if (rd y200 (wrap64 (a1 - 2))) = 0 then (none) else ((spec_SquareNumber.f k a1 (Int.tmod (wrap64 ((wrap64 (bt204.1 * 3)) + bt206.1)) (rd y200 (wrap64 (a1 - 2))))).bind fun t208 => (some (t208, bt206.2)))))) else (none)) else (none))) = some (r1, r2) := h
  clear h
  obtain ⟨y200, hy200⟩ : ∃ y_ : List Int, y_ = (([2, 12, 576] : List Int)) := ⟨_, rfl⟩
  replace H : (if 0 ≤ (wrap64 (a1 - 2)) then (if (wrap64 (a1 - 2)) < (y200.length : Int) then ((spec_l20Rd_pick.f k s0_0 s0_1 256).bind fun bt204 => ((spec_l20Rd_pick.f k s0_0 bt204.2 3).bind fun bt206 => (if (rd y200 (wrap64 (a1 - 2))) = 0 then (none) else ((spec_SquareNumber.f k a1 (Int.tmod (wrap64 ((wrap64 (bt204.1 * 3)) + bt206.1)) (rd y200 (wrap64 (a1 - 2))))).bind fun t208 => (some (t208, bt206.2)))))) else (none)) else (none)) = some (r1, r2) := by first | (rw [hy200]; with_reducible exact H) | (have H2_ := (Option.bind_some _ _).symm.trans H; rw [hy200]; with_reducible exact H2_) | (have H2_ := (Option.bind_some _ _).symm.trans H; with_reducible exact H2_) | with_reducible exact H | (rw [hy200]; exact H) | exact H
  have Ny200 := Aside0.mk hy200
  clear hy200
  obtain ⟨ji3, hji3⟩ : ∃ j_ : Int, (wrap64 (a1 - 2)) = j_ := ⟨_, rfl⟩
  replace H : (if 0 ≤ (ji3) then (if (ji3) < (y200.length : Int) then ((spec_l20Rd_pick.f k s0_0 s0_1 256).bind fun bt204 => ((spec_l20Rd_pick.f k s0_0 bt204.2 3).bind fun bt206 => (if (rd y200 (ji3)) = 0 then (none) else ((spec_SquareNumber.f k a1 (Int.tmod (wrap64 ((wrap64 (bt204.1 * 3)) + bt206.1)) (rd y200 (ji3)))).bind fun t208 => (some (t208, bt206.2)))))) else (none)) else (none)) = some (r1, r2) := by first | (rw [hji3] at H; exact H) | (simp only [hji3] at H ⊢; exact H)
  have hji3w : (IntKind.i64.wrap (a1 - 2)) = ji3 := (i64_w _).trans hji3
  by_cases c4 : 0 ≤ (ji3)
  · rw [if_pos c4] at H
    have c4b0 : decide (0 ≤ (ji3)) = true := decide_eq_true c4
    clear c4
    by_cases c5 : (ji3) < (y200.length : Int)
    · rw [if_pos c5] at H
      have c5b0 : decide ((ji3) < (y200.length : Int)) = true := decide_eq_true c5
      clear c5
      replace H := Option.bind_eq_some_iff.mp H
      obtain ⟨⟨t204, t205⟩, A60, H⟩ := H
      replace H : ((spec_l20Rd_pick.f k s0_0 t205 3).bind fun bt206 => (if (rd y200 (ji3)) = 0 then (none) else ((spec_SquareNumber.f k a1 (Int.tmod (wrap64 ((wrap64 (t204 * 3)) + bt206.1)) (rd y200 (ji3)))).bind fun t208 => (some (t208, bt206.2))))) = some (r1, r2) := H
      have A6 := Aside0.mk A60
      clear A60
      replace H := Option.bind_eq_some_iff.mp H
      obtain ⟨⟨t206, t207⟩, A70, H⟩ := H
      replace H : (if (rd y200 (ji3)) = 0 then (none) else ((spec_SquareNumber.f k a1 (Int.tmod (wrap64 ((wrap64 (t204 * 3)) + t206)) (rd y200 (ji3)))).bind fun t208 => (some (t208, t207)))) = some (r1, r2) := H
      have A7 := Aside0.mk A70
      clear A70
      by_cases c8 : (rd y200 (ji3)) = 0
      · rw [if_pos c8] at H
        exact absurd H (by simp)
      · rw [if_neg c8] at H
        have c8b0 : ((rd y200 (ji3)) == 0) = false := beq_eq_false_iff_ne.mpr c8
        have c8b1 : ((rd y200 (ji3)) != 0) = true := bne_iff_ne.mpr c8
        replace H := Option.bind_eq_some_iff.mp H
        obtain ⟨t208, A90, H⟩ := H
        replace H : (some (t208, t207)) = some (r1, r2) := H
        have A9 := Aside0.mk A90
        clear A90
        simp only [Option.some.injEq, Prod.mk.injEq] at H
        obtain ⟨rfl, rfl⟩ := H
        go_enter Try.func46, Try.ntmps46
        go_wp2_with (first | ((with_reducible refine gate_dst (N := 6) rfl ?_); refine Kd.R_lit (Kd.int .i64) _ 3 ?hg (N := 6) ?hd (xs := ([2, 12, 576] : List Int)) (inner := [.int .i64 2, .int .i64 12, .int .i64 576]) (ok := fun _ => True) (okp := fun _ => True) ?hr ?hp (fun _ hk => hk) trivial (Below.refl _ _) (Nat.le_refl _) (by simp) ?_; (case hd => rfl); (case hg => rfl); (case hr => first | (go_simp; done) | (go_simp; rfl)); (case hp => exact (Reps.one (show Kd.M (Kd.int .i64) _ _ _ 2 [.int .i64 2] from rfl) (Reps.one (show Kd.M (Kd.int .i64) _ _ _ 12 [.int .i64 12] from rfl) (Reps.one (show Kd.M (Kd.int .i64) _ _ _ 576 [.int .i64 576] from rfl) (Reps.none _ _))))); intro v201 w10 ho11 hb hg_ hnew_; clear hg_ hnew_; (first | rw [← Ny200.out] at ho11 | (simp only [Int.reduceToNat] at ho11; rw [← Ny200.out] at ho11)); have n0_ := Aside0.mk (Kd.R_lower ho11 (keep_size (w := w) (g := g) (row := none) (by repeat (first | (with_reducible first | exact HK.out | apply KeepBut.set_ | apply keep_drewN | apply keep_drew | apply keep_alloc) | exact HK.out)))); have n1_ := Aside0.mk (IsS100.below (by repeat (first | (with_reducible first | exact HI0.out | apply IsS100.alloc | apply IsS100.drewN | apply IsS100.drew | apply IsS100.set_1) | exact HI0.out)) hb); have n2_ := Aside0.mk (KeepBut.trans (by repeat (first | (with_reducible first | exact HK.out | apply KeepBut.set_ | apply keep_drewN | apply keep_drew | apply keep_alloc) | exact HK.out)) (KeepBut.of_below hb g none) (.inl rfl)); have n3_ := Aside0.mk (below_step (by repeat (first | (with_reducible first | exact HB.out | apply below_alloc | apply pw_below_drewN | apply below_drew1 | refine below_set ?_ (IsS100.ge HI0.out)) | exact HB.out)) hb); clear HI0; clear HK; clear HB; have HO202 := n0_; have HI0 := n1_; have HK := n2_; have HB := n3_; clear n0_ n1_ n2_ n3_; clear hb ho11; obtain ⟨Ao12, co12, eo12⟩ := Kd.R_slice HO202.out; subst eo12; have p203 : 0 ≤ ((ji3) : Int) := of_decide_eq_true (by first | (with_reducible assumption) | assumption); have q203 : (ji3) < (y200.length : Int) := of_decide_eq_true (by first | (with_reducible assumption) | assumption); obtain ⟨ad203, e203, hx203_0⟩ := Kd.at_int (Kd.R_reads' HO202.out).2.2 (ji3) p203 q203; cases e203; replace p203 := eq_true p203; replace q203 := eq_true q203) | ((with_reducible refine gate_callee (f := 49) rfl ?_); refine goesL_ (some 13) rfl rfl Try.func49 (by kernel_rfl) rfl #[.pointer (some ⟨g, 0, none⟩), .int .i64 256] rfl (by (try simp only [List.map_toArray, List.map_cons, List.map_nil]); first | done | rfl | (simp only [List.length_drop, List.length_take]; rfl)) ?_; (with_reducible refine (spec_l20Rd_pick.calls k g s0_0 s0_1 256 t204 t205 w0 _ ?side1 ?side2 A6.out).mono ?_); (case side1 => repeat (first | (with_reducible first | exact HI0.out | apply IsS100.alloc | apply IsS100.drewN | apply IsS100.drew | apply IsS100.set_1) | exact HI0.out)); (case side2 => repeat (first | (with_reducible first | exact HB.out | apply below_alloc | apply pw_below_drewN | apply below_drew1 | refine below_set ?_ (IsS100.ge HI0.out)) | exact HB.out)); rintro e w13 ⟨rfl, hi, hb, hk⟩; refine ⟨_, rfl, ?_⟩; have n0_ := Aside0.mk (Kd.R_mono (Kd.R_keep (IsS100.apart (show IsS100 w0 _ g s0_0 s0_1 from by repeat (first | (with_reducible first | exact HI0.out | apply IsS100.alloc | apply IsS100.drewN | apply IsS100.drew | apply IsS100.set_1) | exact HI0.out)) (by (with_reducible repeat (first | apply Kd.R_alloc | apply Kd.R_drewN | apply Kd.R_drew)); exact HO202.out) (by decide)) hk (fun _ h => h.2)) (fun _ h => h.1)); have n1_ := Aside0.mk (KeepBut.trans (by repeat (first | (with_reducible first | exact HK.out | apply KeepBut.set_ | apply keep_drewN | apply keep_drew | apply keep_alloc) | exact HK.out)) hk (.inl rfl)); have n2_ := Aside0.mk (hb); have n3_ := Aside0.mk (hi); clear HO202; clear HK; clear HB; clear HI0; have HO202 := n0_; have HK := n1_; have HB := n2_; have HI0 := n3_; clear n0_ n1_ n2_ n3_; (try clear hb); (try clear hb2); (try clear hk); (try clear hi)) | ((with_reducible refine gate_callee (f := 49) rfl ?_); refine goesL_ (some 16) rfl rfl Try.func49 (by kernel_rfl) rfl #[.pointer (some ⟨g, 0, none⟩), .int .i64 3] rfl (by (try simp only [List.map_toArray, List.map_cons, List.map_nil]); first | done | rfl | (simp only [List.length_drop, List.length_take]; rfl)) ?_; (with_reducible refine (spec_l20Rd_pick.calls k g s0_0 t205 3 t206 t207 w0 _ ?side1 ?side2 A7.out).mono ?_); (case side1 => repeat (first | (with_reducible first | exact HI0.out | apply IsS100.alloc | apply IsS100.drewN | apply IsS100.drew | apply IsS100.set_1) | exact HI0.out)); (case side2 => repeat (first | (with_reducible first | exact HB.out | apply below_alloc | apply pw_below_drewN | apply below_drew1 | refine below_set ?_ (IsS100.ge HI0.out)) | exact HB.out)); rintro e w14 ⟨rfl, hi, hb, hk⟩; refine ⟨_, rfl, ?_⟩; have n0_ := Aside0.mk (Kd.R_mono (Kd.R_keep (IsS100.apart (show IsS100 w0 _ g s0_0 t205 from by repeat (first | (with_reducible first | exact HI0.out | apply IsS100.alloc | apply IsS100.drewN | apply IsS100.drew | apply IsS100.set_1) | exact HI0.out)) (by (with_reducible repeat (first | apply Kd.R_alloc | apply Kd.R_drewN | apply Kd.R_drew)); exact HO202.out) (by decide)) hk (fun _ h => h.2)) (fun _ h => h.1)); have n1_ := Aside0.mk (KeepBut.trans (by repeat (first | (with_reducible first | exact HK.out | apply KeepBut.set_ | apply keep_drewN | apply keep_drew | apply keep_alloc) | exact HK.out)) hk (.inl rfl)); have n2_ := Aside0.mk (hb); have n3_ := Aside0.mk (hi); clear HO202; clear HK; clear HB; clear HI0; have HO202 := n0_; have HK := n1_; have HB := n2_; have HI0 := n3_; clear n0_ n1_ n2_ n3_; (try clear hb); (try clear hb2); (try clear hk); (try clear hi)) | ((with_reducible refine gate_callee (f := 90) rfl ?_); refine goesL_ (some 20) rfl rfl Try.func90 (by kernel_rfl) rfl #[.int .i64 a1, .int .i64 (Int.tmod (wrap64 ((wrap64 (t204 * 3)) + t206)) (rd y200 (ji3)))] rfl (by (try simp only [List.map_toArray, List.map_cons, List.map_nil]); first | done | (simp only [hji3]; rfl) | rfl | (simp only [List.length_drop, List.length_take]; rfl)) ?_; (with_reducible refine (spec_SquareNumber.calls k a1 (Int.tmod (wrap64 ((wrap64 (t204 * 3)) + t206)) (rd y200 (ji3))) t208 _ A9.out).mono ?_); rintro e w15 ⟨v209, rfl, ho0, hb⟩; refine ⟨_, rfl, ?_⟩; have n0_ := Aside0.mk (Kd.R_elder' (by (with_reducible repeat (first | apply Kd.R_alloc | apply Kd.R_drewN | apply Kd.R_drew)); exact HO202.out) (Kd.R_base ho0) hb); have n1_ := Aside0.mk (Kd.R_lower (Kd.R_new' ho0 (Kd.R_lt (by (with_reducible repeat (first | apply Kd.R_alloc | apply Kd.R_drewN | apply Kd.R_drew)); exact HO202.out))) (keep_size (w := w) (g := g) (row := none) (by repeat (first | (with_reducible first | exact HK.out | apply KeepBut.set_ | apply keep_drewN | apply keep_drew | apply keep_alloc) | exact HK.out)))); have n2_ := Aside0.mk (IsS100.below (by repeat (first | (with_reducible first | exact HI0.out | apply IsS100.alloc | apply IsS100.drewN | apply IsS100.drew | apply IsS100.set_1) | exact HI0.out)) hb); have n3_ := Aside0.mk (KeepBut.trans (by repeat (first | (with_reducible first | exact HK.out | apply KeepBut.set_ | apply keep_drewN | apply keep_drew | apply keep_alloc) | exact HK.out)) (KeepBut.of_below hb g none) (.inl rfl)); have n4_ := Aside0.mk (below_step (by repeat (first | (with_reducible first | exact HB.out | apply below_alloc | apply pw_below_drewN | apply below_drew1 | refine below_set ?_ (IsS100.ge HI0.out)) | exact HB.out)) hb); clear HO202; clear HI0; clear HK; clear HB; have HO202 := n0_; have HO210 := n1_; have HI0 := n2_; have HK := n3_; have HB := n4_; clear n0_ n1_ n2_ n3_ n4_; (try clear hb); (try clear hb2); (try clear hk); (try clear hi); (try clear ho0)))
        go_ret
        exact ⟨_, by first | rfl | (simp [errW_none, errW_some] <;> rfl) | (simp only [← hji3]; first | rfl | (simp [errW_none, errW_some] <;> rfl)) | (simp [*, errW_none, errW_some] <;> rfl), by (with_reducible repeat (first | apply Kd.R_alloc | apply Kd.R_drewN | apply Kd.R_drew)); exact Kd.R_mono HO210.out (fun _ hk => trivial), by repeat (first | (with_reducible first | exact HI0.out | apply IsS100.alloc | apply IsS100.drewN | apply IsS100.drew | apply IsS100.set_1) | exact HI0.out), by repeat (first | (with_reducible first | exact HB.out | apply below_alloc | apply pw_below_drewN | apply below_drew1 | refine below_set ?_ (IsS100.ge HI0.out)) | exact HB.out), by repeat (first | (with_reducible first | exact HK.out | apply KeepBut.set_ | apply keep_drewN | apply keep_drew | apply keep_alloc) | exact HK.out)⟩
    · rw [if_neg c5] at H
      exact absurd H (by simp)
  · rw [if_neg c4] at H
    exact absurd H (by simp)
def spec_l20Rd_odd.f (k : Nat) (s0_0 : List Int) (s0_1 : Int) (a1 : Int) : Option (Bool × Int) := if a1 > 0 then ((spec_l20Rd_pick.f k s0_0 s0_1 a1).bind fun bt211 => (some ((bt211.1 == (wrap64 (a1 - 1))), bt211.2))) else (some (false, s0_1))
set_option maxHeartbeats 8000000 in
set_option maxRecDepth 100000 in
theorem spec_l20Rd_odd.calls (k : Nat) (g : Nat) (s0_0 : List Int) (s0_1 : Int) (a1 : Int) (r1 : Bool) (r2 : Int) (w0 w : World) (hI : IsS100 w0 w g s0_0 s0_1) (hB : Below w0.heap.size w0 w) (h : spec_l20Rd_odd.f k s0_0 s0_1 a1 = some (r1, r2)) :
    Calls Try.prog 47 #[.pointer (some ⟨g, 0, none⟩), .int .i64 a1] w fun e w' => e = .returned (.bool r1) ∧ IsS100 w0 w' g s0_0 r2 ∧ Below w0.heap.size w0 w' ∧ KeepBut w w' g none := by
  have HI0 := Aside0.mk hI
  have HK := Aside0.mk (KeepBut.refl w g none)
  have HL := Aside0.mk hB.size
  clear hI
  have HW0 := Aside0.mk hB.size
  have HB := Aside0.mk hB
  clear hB
  have H : (if a1 > 0 then ((spec_l20Rd_pick.f k s0_0 s0_1 a1).bind fun bt211 => (some ((bt211.1 == (wrap64 (a1 - 1))), bt211.2))) else (some (false, s0_1))) = some (r1, r2) := h
  clear h
  by_cases c3 : a1 > 0
  · rw [if_pos c3] at H
    have c3b0 : decide (0 < a1) = true := decide_eq_true c3
    clear c3
    replace H := Option.bind_eq_some_iff.mp H
    obtain ⟨⟨t211, t212⟩, A40, H⟩ := H
    replace H : (some ((t211 == (wrap64 (a1 - 1))), t212)) = some (r1, r2) := H
    have A4 := Aside0.mk A40
    clear A40
    simp only [Option.some.injEq, Prod.mk.injEq] at H
    obtain ⟨rfl, rfl⟩ := H
    go_enter Try.func47, Try.ntmps47
    go_wp2_with (first | (go_at_call 49; (with_reducible refine (spec_l20Rd_pick.calls k g s0_0 s0_1 a1 t211 t212 w0 _ ?side1 ?side2 A4.out).mono ?_); (case side1 => repeat (first | (with_reducible first | exact HI0.out | apply IsS100.alloc | apply IsS100.drewN | apply IsS100.drew | apply IsS100.set_1) | exact HI0.out)); (case side2 => repeat (first | (with_reducible first | exact HB.out | apply below_alloc | apply pw_below_drewN | apply below_drew1 | refine below_set ?_ (IsS100.ge HI0.out)) | exact HB.out)); rintro e w5 ⟨rfl, hi, hb, hk⟩; have n0_ := Aside0.mk (KeepBut.trans (by repeat (first | (with_reducible first | exact HK.out | apply KeepBut.set_ | apply keep_drewN | apply keep_drew | apply keep_alloc) | exact HK.out)) hk (.inl rfl)); have n1_ := Aside0.mk (hb); have n2_ := Aside0.mk (hi); clear HK; clear HB; clear HI0; have HK := n0_; have HB := n1_; have HI0 := n2_; clear n0_ n1_ n2_; (try clear hb); (try clear hb2); (try clear hk); (try clear hi)))
    go_ret
    exact ⟨by first | rfl | (simp [errW_none, errW_some] <;> rfl) | (simp [*, errW_none, errW_some] <;> rfl), by repeat (first | (with_reducible first | exact HI0.out | apply IsS100.alloc | apply IsS100.drewN | apply IsS100.drew | apply IsS100.set_1) | exact HI0.out), by repeat (first | (with_reducible first | exact HB.out | apply below_alloc | apply pw_below_drewN | apply below_drew1 | refine below_set ?_ (IsS100.ge HI0.out)) | exact HB.out), by repeat (first | (with_reducible first | exact HK.out | apply KeepBut.set_ | apply keep_drewN | apply keep_drew | apply keep_alloc) | exact HK.out)⟩
  · rw [if_neg c3] at H
    have c3b0 : decide (0 < a1) = false := decide_eq_false c3
    clear c3
    simp only [Option.some.injEq, Prod.mk.injEq] at H
    obtain ⟨rfl, rfl⟩ := H
    go_enter Try.func47, Try.ntmps47
    go_wp2
    go_ret
    exact ⟨by first | rfl | (simp [errW_none, errW_some] <;> rfl) | (simp [*, errW_none, errW_some] <;> rfl), by repeat (first | (with_reducible first | exact HI0.out | apply IsS100.alloc | apply IsS100.drewN | apply IsS100.drew | apply IsS100.set_1) | exact HI0.out), by repeat (first | (with_reducible first | exact HB.out | apply below_alloc | apply pw_below_drewN | apply below_drew1 | refine below_set ?_ (IsS100.ge HI0.out)) | exact HB.out), by repeat (first | (with_reducible first | exact HK.out | apply KeepBut.set_ | apply keep_drewN | apply keep_drew | apply keep_alloc) | exact HK.out)⟩
def spec_l20Size.f (k : Nat) (s0_0 : List Int) (s0_1 : Int) (a1 : Int) : Option (Int × Int) := (spec_l20Rd_odd.f k s0_0 s0_1 a1).bind fun bt213 => (if bt213.1 = true then ((some (([1, 5, (-1)] : List Int) : List Int)).bind fun y215 => ((spec_l20Rd_pick.f k s0_0 bt213.2 3).bind fun bt218 => (if 0 ≤ bt218.1 then (if bt218.1 < (y215.length : Int) then (some (rd y215 bt218.1, bt218.2)) else (none)) else (none)))) else ((some (([2, 3, 3, 4, 4] : List Int) : List Int)).bind fun y221 => ((spec_l20Rd_pick.f k s0_0 bt213.2 5).bind fun bt224 => (if 0 ≤ bt224.1 then (if bt224.1 < (y221.length : Int) then (some (rd y221 bt224.1, bt224.2)) else (none)) else (none)))))
set_option maxHeartbeats 8000000 in
set_option maxRecDepth 100000 in
theorem spec_l20Size.calls (k : Nat) (g : Nat) (s0_0 : List Int) (s0_1 : Int) (a1 : Int) (r1 : Int) (r2 : Int) (w0 w : World) (hI : IsS100 w0 w g s0_0 s0_1) (hB : Below w0.heap.size w0 w) (h : spec_l20Size.f k s0_0 s0_1 a1 = some (r1, r2)) :
    Calls Try.prog 45 #[.pointer (some ⟨g, 0, none⟩), .int .i64 a1] w fun e w' => e = .returned (.int .i64 r1) ∧ IsS100 w0 w' g s0_0 r2 ∧ Below w0.heap.size w0 w' ∧ KeepBut w w' g none := by
  have HI0 := Aside0.mk hI
  have HK := Aside0.mk (KeepBut.refl w g none)
  have HL := Aside0.mk hB.size
  clear hI
  have HW0 := Aside0.mk hB.size
  have HB := Aside0.mk hB
  clear hB
  have H : ((spec_l20Rd_odd.f k s0_0 s0_1 a1).bind fun bt213 => (if bt213.1 = true then ((some (([1, 5, (-1)] : List Int) : List Int)).bind fun y215 => ((spec_l20Rd_pick.f k s0_0 bt213.2 3).bind fun bt218 => (if 0 ≤ bt218.1 then (if bt218.1 < (y215.length : Int) then (some (rd y215 bt218.1, bt218.2)) else (none)) else (none)))) else ((some (([2, 3, 3, 4, 4] : List Int) : List Int)).bind fun y221 => ((spec_l20Rd_pick.f k s0_0 bt213.2 5).bind fun bt224 => (if 0 ≤ bt224.1 then (if bt224.1 < (y221.length : Int) then (some (rd y221 bt224.1, bt224.2)) else (none)) else (none)))))) = some (r1, r2) := h
  clear h
  replace H := Option.bind_eq_some_iff.mp H
  obtain ⟨⟨t213, t214⟩, A30, H⟩ := H
  replace H : (if t213 = true then ((some (([1, 5, (-1)] : List Int) : List Int)).bind fun y215 => ((spec_l20Rd_pick.f k s0_0 t214 3).bind fun bt218 => (if 0 ≤ bt218.1 then (if bt218.1 < (y215.length : Int) then (some (rd y215 bt218.1, bt218.2)) else (none)) else (none)))) else ((some (([2, 3, 3, 4, 4] : List Int) : List Int)).bind fun y221 => ((spec_l20Rd_pick.f k s0_0 t214 5).bind fun bt224 => (if 0 ≤ bt224.1 then (if bt224.1 < (y221.length : Int) then (some (rd y221 bt224.1, bt224.2)) else (none)) else (none))))) = some (r1, r2) := H
  have A3 := Aside0.mk A30
  clear A30
  by_cases c4 : t213 = true
  · subst c4
    have H1 : ((some (([1, 5, (-1)] : List Int) : List Int)).bind fun y215 => ((spec_l20Rd_pick.f k s0_0 t214 3).bind fun bt218 => (if 0 ≤ bt218.1 then (if bt218.1 < (y215.length : Int) then (some (rd y215 bt218.1, bt218.2)) else (none)) else (none)))) = some (r1, r2) := by rw [if_pos rfl] at H; exact H
    clear H
    have H := H1
    clear H1
    obtain ⟨y215, hy215⟩ : ∃ y_ : List Int, y_ = (([1, 5, (-1)] : List Int)) := ⟨_, rfl⟩
    replace H : ((spec_l20Rd_pick.f k s0_0 t214 3).bind fun bt218 => (if 0 ≤ bt218.1 then (if bt218.1 < (y215.length : Int) then (some (rd y215 bt218.1, bt218.2)) else (none)) else (none))) = some (r1, r2) := by first | (rw [hy215]; with_reducible exact H) | (have H2_ := (Option.bind_some _ _).symm.trans H; rw [hy215]; with_reducible exact H2_) | (have H2_ := (Option.bind_some _ _).symm.trans H; with_reducible exact H2_) | with_reducible exact H | (rw [hy215]; exact H) | exact H
    have Ny215 := Aside0.mk hy215
    clear hy215
    replace H := Option.bind_eq_some_iff.mp H
    obtain ⟨⟨t218, t219⟩, A50, H⟩ := H
    replace H : (if 0 ≤ t218 then (if t218 < (y215.length : Int) then (some (rd y215 t218, t219)) else (none)) else (none)) = some (r1, r2) := H
    have A5 := Aside0.mk A50
    clear A50
    by_cases c6 : 0 ≤ t218
    · rw [if_pos c6] at H
      have c6b0 : decide (0 ≤ t218) = true := decide_eq_true c6
      clear c6
      by_cases c7 : t218 < (y215.length : Int)
      · rw [if_pos c7] at H
        have c7b0 : decide (t218 < (y215.length : Int)) = true := decide_eq_true c7
        clear c7
        simp only [Option.some.injEq, Prod.mk.injEq] at H
        obtain ⟨rfl, rfl⟩ := H
        go_enter Try.func45, Try.ntmps45
        go_wp2_with (first | ((with_reducible refine gate_callee (f := 47) rfl ?_); refine goesL_ (some 7) rfl rfl Try.func47 (by kernel_rfl) rfl #[.pointer (some ⟨g, 0, none⟩), .int .i64 a1] rfl (by (try simp only [List.map_toArray, List.map_cons, List.map_nil]); first | done | rfl | (simp only [List.length_drop, List.length_take]; rfl)) ?_; (with_reducible refine (spec_l20Rd_odd.calls k g s0_0 s0_1 a1 true t214 w0 _ ?side1 ?side2 A3.out).mono ?_); (case side1 => repeat (first | (with_reducible first | exact HI0.out | apply IsS100.alloc | apply IsS100.drewN | apply IsS100.drew | apply IsS100.set_1) | exact HI0.out)); (case side2 => repeat (first | (with_reducible first | exact HB.out | apply below_alloc | apply pw_below_drewN | apply below_drew1 | refine below_set ?_ (IsS100.ge HI0.out)) | exact HB.out)); rintro e w8 ⟨rfl, hi, hb, hk⟩; refine ⟨_, rfl, ?_⟩; have n0_ := Aside0.mk (KeepBut.trans (by repeat (first | (with_reducible first | exact HK.out | apply KeepBut.set_ | apply keep_drewN | apply keep_drew | apply keep_alloc) | exact HK.out)) hk (.inl rfl)); have n1_ := Aside0.mk (hb); have n2_ := Aside0.mk (hi); clear HK; clear HB; clear HI0; have HK := n0_; have HB := n1_; have HI0 := n2_; clear n0_ n1_ n2_; (try clear hb); (try clear hb2); (try clear hk); (try clear hi)) | ((with_reducible refine gate_dst (N := 8) rfl ?_); refine Kd.R_lit (Kd.int .i64) _ 3 ?hg (N := 8) ?hd (xs := ([1, 5, (-1)] : List Int)) (inner := [.int .i64 1, .int .i64 5, .int .i64 (-1)]) (ok := fun _ => True) (okp := fun _ => True) ?hr ?hp (fun _ hk => hk) trivial (Below.refl _ _) (Nat.le_refl _) (by simp) ?_; (case hd => rfl); (case hg => rfl); (case hr => first | (go_simp; done) | (go_simp; rfl)); (case hp => exact (Reps.one (show Kd.M (Kd.int .i64) _ _ _ 1 [.int .i64 1] from rfl) (Reps.one (show Kd.M (Kd.int .i64) _ _ _ 5 [.int .i64 5] from rfl) (Reps.one (show Kd.M (Kd.int .i64) _ _ _ (-1) [.int .i64 (-1)] from rfl) (Reps.none _ _))))); intro v216 w9 ho10 hb hg_ hnew_; clear hg_ hnew_; (first | rw [← Ny215.out] at ho10 | (simp only [Int.reduceToNat] at ho10; rw [← Ny215.out] at ho10)); have n0_ := Aside0.mk (Kd.R_lower ho10 (keep_size (w := w) (g := g) (row := none) (by repeat (first | (with_reducible first | exact HK.out | apply KeepBut.set_ | apply keep_drewN | apply keep_drew | apply keep_alloc) | exact HK.out)))); have n1_ := Aside0.mk (IsS100.below (by repeat (first | (with_reducible first | exact HI0.out | apply IsS100.alloc | apply IsS100.drewN | apply IsS100.drew | apply IsS100.set_1) | exact HI0.out)) hb); have n2_ := Aside0.mk (KeepBut.trans (by repeat (first | (with_reducible first | exact HK.out | apply KeepBut.set_ | apply keep_drewN | apply keep_drew | apply keep_alloc) | exact HK.out)) (KeepBut.of_below hb g none) (.inl rfl)); have n3_ := Aside0.mk (below_step (by repeat (first | (with_reducible first | exact HB.out | apply below_alloc | apply pw_below_drewN | apply below_drew1 | refine below_set ?_ (IsS100.ge HI0.out)) | exact HB.out)) hb); clear HI0; clear HK; clear HB; have HO217 := n0_; have HI0 := n1_; have HK := n2_; have HB := n3_; clear n0_ n1_ n2_ n3_; clear hb ho10) | ((with_reducible refine gate_callee (f := 49) rfl ?_); refine goesL_ (some 10) rfl rfl Try.func49 (by kernel_rfl) rfl #[.pointer (some ⟨g, 0, none⟩), .int .i64 3] rfl (by (try simp only [List.map_toArray, List.map_cons, List.map_nil]); first | done | rfl | (simp only [List.length_drop, List.length_take]; rfl)) ?_; (with_reducible refine (spec_l20Rd_pick.calls k g s0_0 t214 3 t218 t219 w0 _ ?side1 ?side2 A5.out).mono ?_); (case side1 => repeat (first | (with_reducible first | exact HI0.out | apply IsS100.alloc | apply IsS100.drewN | apply IsS100.drew | apply IsS100.set_1) | exact HI0.out)); (case side2 => repeat (first | (with_reducible first | exact HB.out | apply below_alloc | apply pw_below_drewN | apply below_drew1 | refine below_set ?_ (IsS100.ge HI0.out)) | exact HB.out)); rintro e w11 ⟨rfl, hi, hb, hk⟩; refine ⟨_, rfl, ?_⟩; have n0_ := Aside0.mk (Kd.R_mono (Kd.R_keep (IsS100.apart (show IsS100 w0 _ g s0_0 t214 from by repeat (first | (with_reducible first | exact HI0.out | apply IsS100.alloc | apply IsS100.drewN | apply IsS100.drew | apply IsS100.set_1) | exact HI0.out)) (by (with_reducible repeat (first | apply Kd.R_alloc | apply Kd.R_drewN | apply Kd.R_drew)); exact HO217.out) (by decide)) hk (fun _ h => h.2)) (fun _ h => h.1)); have n1_ := Aside0.mk (KeepBut.trans (by repeat (first | (with_reducible first | exact HK.out | apply KeepBut.set_ | apply keep_drewN | apply keep_drew | apply keep_alloc) | exact HK.out)) hk (.inl rfl)); have n2_ := Aside0.mk (hb); have n3_ := Aside0.mk (hi); clear HO217; clear HK; clear HB; clear HI0; have HO217 := n0_; have HK := n1_; have HB := n2_; have HI0 := n3_; clear n0_ n1_ n2_ n3_; (try clear hb); (try clear hb2); (try clear hk); (try clear hi); obtain ⟨Ao12, co12, eo12⟩ := Kd.R_slice HO217.out; subst eo12; have p220 : 0 ≤ (t218 : Int) := of_decide_eq_true (by first | (with_reducible assumption) | assumption); have q220 : t218 < (y215.length : Int) := of_decide_eq_true (by first | (with_reducible assumption) | assumption); obtain ⟨ad220, e220, hx220_0⟩ := Kd.at_int (Kd.R_reads' HO217.out).2.2 t218 p220 q220; cases e220; replace p220 := eq_true p220; replace q220 := eq_true q220))
        go_ret
        exact ⟨by first | rfl | (simp [errW_none, errW_some] <;> rfl) | (simp [*, errW_none, errW_some] <;> rfl), by repeat (first | (with_reducible first | exact HI0.out | apply IsS100.alloc | apply IsS100.drewN | apply IsS100.drew | apply IsS100.set_1) | exact HI0.out), by repeat (first | (with_reducible first | exact HB.out | apply below_alloc | apply pw_below_drewN | apply below_drew1 | refine below_set ?_ (IsS100.ge HI0.out)) | exact HB.out), by repeat (first | (with_reducible first | exact HK.out | apply KeepBut.set_ | apply keep_drewN | apply keep_drew | apply keep_alloc) | exact HK.out)⟩
      · rw [if_neg c7] at H
        exact absurd H (by simp)
    · rw [if_neg c6] at H
      exact absurd H (by simp)
  · replace c4 := Bool.eq_false_iff.mpr c4
    subst c4
    have H1 : ((some (([2, 3, 3, 4, 4] : List Int) : List Int)).bind fun y221 => ((spec_l20Rd_pick.f k s0_0 t214 5).bind fun bt224 => (if 0 ≤ bt224.1 then (if bt224.1 < (y221.length : Int) then (some (rd y221 bt224.1, bt224.2)) else (none)) else (none)))) = some (r1, r2) := by rw [if_neg (show ¬ (false = true) by decide)] at H; exact H
    clear H
    have H := H1
    clear H1
    obtain ⟨y221, hy221⟩ : ∃ y_ : List Int, y_ = (([2, 3, 3, 4, 4] : List Int)) := ⟨_, rfl⟩
    replace H : ((spec_l20Rd_pick.f k s0_0 t214 5).bind fun bt224 => (if 0 ≤ bt224.1 then (if bt224.1 < (y221.length : Int) then (some (rd y221 bt224.1, bt224.2)) else (none)) else (none))) = some (r1, r2) := by first | (rw [hy221]; with_reducible exact H) | (have H2_ := (Option.bind_some _ _).symm.trans H; rw [hy221]; with_reducible exact H2_) | (have H2_ := (Option.bind_some _ _).symm.trans H; with_reducible exact H2_) | with_reducible exact H | (rw [hy221]; exact H) | exact H
    have Ny221 := Aside0.mk hy221
    clear hy221
    replace H := Option.bind_eq_some_iff.mp H
    obtain ⟨⟨t224, t225⟩, A130, H⟩ := H
    replace H : (if 0 ≤ t224 then (if t224 < (y221.length : Int) then (some (rd y221 t224, t225)) else (none)) else (none)) = some (r1, r2) := H
    have A13 := Aside0.mk A130
    clear A130
    by_cases c14 : 0 ≤ t224
    · rw [if_pos c14] at H
      have c14b0 : decide (0 ≤ t224) = true := decide_eq_true c14
      clear c14
      by_cases c15 : t224 < (y221.length : Int)
      · rw [if_pos c15] at H
        have c15b0 : decide (t224 < (y221.length : Int)) = true := decide_eq_true c15
        clear c15
        simp only [Option.some.injEq, Prod.mk.injEq] at H
        obtain ⟨rfl, rfl⟩ := H
        go_enter Try.func45, Try.ntmps45
        go_wp2_with (first | ((with_reducible refine gate_callee (f := 47) rfl ?_); refine goesL_ (some 7) rfl rfl Try.func47 (by kernel_rfl) rfl #[.pointer (some ⟨g, 0, none⟩), .int .i64 a1] rfl (by (try simp only [List.map_toArray, List.map_cons, List.map_nil]); first | done | rfl | (simp only [List.length_drop, List.length_take]; rfl)) ?_; (with_reducible refine (spec_l20Rd_odd.calls k g s0_0 s0_1 a1 false t214 w0 _ ?side1 ?side2 A3.out).mono ?_); (case side1 => repeat (first | (with_reducible first | exact HI0.out | apply IsS100.alloc | apply IsS100.drewN | apply IsS100.drew | apply IsS100.set_1) | exact HI0.out)); (case side2 => repeat (first | (with_reducible first | exact HB.out | apply below_alloc | apply pw_below_drewN | apply below_drew1 | refine below_set ?_ (IsS100.ge HI0.out)) | exact HB.out)); rintro e w16 ⟨rfl, hi, hb, hk⟩; refine ⟨_, rfl, ?_⟩; have n0_ := Aside0.mk (KeepBut.trans (by repeat (first | (with_reducible first | exact HK.out | apply KeepBut.set_ | apply keep_drewN | apply keep_drew | apply keep_alloc) | exact HK.out)) hk (.inl rfl)); have n1_ := Aside0.mk (hb); have n2_ := Aside0.mk (hi); clear HK; clear HB; clear HI0; have HK := n0_; have HB := n1_; have HI0 := n2_; clear n0_ n1_ n2_; (try clear hb); (try clear hb2); (try clear hk); (try clear hi)) | ((with_reducible refine gate_dst (N := 13) rfl ?_); refine Kd.R_lit (Kd.int .i64) _ 3 ?hg (N := 13) ?hd (xs := ([2, 3, 3, 4, 4] : List Int)) (inner := [.int .i64 2, .int .i64 3, .int .i64 3, .int .i64 4, .int .i64 4]) (ok := fun _ => True) (okp := fun _ => True) ?hr ?hp (fun _ hk => hk) trivial (Below.refl _ _) (Nat.le_refl _) (by simp) ?_; (case hd => rfl); (case hg => rfl); (case hr => first | (go_simp; done) | (go_simp; rfl)); (case hp => exact (Reps.one (show Kd.M (Kd.int .i64) _ _ _ 2 [.int .i64 2] from rfl) (Reps.one (show Kd.M (Kd.int .i64) _ _ _ 3 [.int .i64 3] from rfl) (Reps.one (show Kd.M (Kd.int .i64) _ _ _ 3 [.int .i64 3] from rfl) (Reps.one (show Kd.M (Kd.int .i64) _ _ _ 4 [.int .i64 4] from rfl) (Reps.one (show Kd.M (Kd.int .i64) _ _ _ 4 [.int .i64 4] from rfl) (Reps.none _ _))))))); intro v222 w17 ho18 hb hg_ hnew_; clear hg_ hnew_; (first | rw [← Ny221.out] at ho18 | (simp only [Int.reduceToNat] at ho18; rw [← Ny221.out] at ho18)); have n0_ := Aside0.mk (Kd.R_lower ho18 (keep_size (w := w) (g := g) (row := none) (by repeat (first | (with_reducible first | exact HK.out | apply KeepBut.set_ | apply keep_drewN | apply keep_drew | apply keep_alloc) | exact HK.out)))); have n1_ := Aside0.mk (IsS100.below (by repeat (first | (with_reducible first | exact HI0.out | apply IsS100.alloc | apply IsS100.drewN | apply IsS100.drew | apply IsS100.set_1) | exact HI0.out)) hb); have n2_ := Aside0.mk (KeepBut.trans (by repeat (first | (with_reducible first | exact HK.out | apply KeepBut.set_ | apply keep_drewN | apply keep_drew | apply keep_alloc) | exact HK.out)) (KeepBut.of_below hb g none) (.inl rfl)); have n3_ := Aside0.mk (below_step (by repeat (first | (with_reducible first | exact HB.out | apply below_alloc | apply pw_below_drewN | apply below_drew1 | refine below_set ?_ (IsS100.ge HI0.out)) | exact HB.out)) hb); clear HI0; clear HK; clear HB; have HO223 := n0_; have HI0 := n1_; have HK := n2_; have HB := n3_; clear n0_ n1_ n2_ n3_; clear hb ho18) | ((with_reducible refine gate_callee (f := 49) rfl ?_); refine goesL_ (some 15) rfl rfl Try.func49 (by kernel_rfl) rfl #[.pointer (some ⟨g, 0, none⟩), .int .i64 5] rfl (by (try simp only [List.map_toArray, List.map_cons, List.map_nil]); first | done | rfl | (simp only [List.length_drop, List.length_take]; rfl)) ?_; (with_reducible refine (spec_l20Rd_pick.calls k g s0_0 t214 5 t224 t225 w0 _ ?side1 ?side2 A13.out).mono ?_); (case side1 => repeat (first | (with_reducible first | exact HI0.out | apply IsS100.alloc | apply IsS100.drewN | apply IsS100.drew | apply IsS100.set_1) | exact HI0.out)); (case side2 => repeat (first | (with_reducible first | exact HB.out | apply below_alloc | apply pw_below_drewN | apply below_drew1 | refine below_set ?_ (IsS100.ge HI0.out)) | exact HB.out)); rintro e w19 ⟨rfl, hi, hb, hk⟩; refine ⟨_, rfl, ?_⟩; have n0_ := Aside0.mk (Kd.R_mono (Kd.R_keep (IsS100.apart (show IsS100 w0 _ g s0_0 t214 from by repeat (first | (with_reducible first | exact HI0.out | apply IsS100.alloc | apply IsS100.drewN | apply IsS100.drew | apply IsS100.set_1) | exact HI0.out)) (by (with_reducible repeat (first | apply Kd.R_alloc | apply Kd.R_drewN | apply Kd.R_drew)); exact HO223.out) (by decide)) hk (fun _ h => h.2)) (fun _ h => h.1)); have n1_ := Aside0.mk (KeepBut.trans (by repeat (first | (with_reducible first | exact HK.out | apply KeepBut.set_ | apply keep_drewN | apply keep_drew | apply keep_alloc) | exact HK.out)) hk (.inl rfl)); have n2_ := Aside0.mk (hb); have n3_ := Aside0.mk (hi); clear HO223; clear HK; clear HB; clear HI0; have HO223 := n0_; have HK := n1_; have HB := n2_; have HI0 := n3_; clear n0_ n1_ n2_ n3_; (try clear hb); (try clear hb2); (try clear hk); (try clear hi); obtain ⟨Ao20, co20, eo20⟩ := Kd.R_slice HO223.out; subst eo20; have p226 : 0 ≤ (t224 : Int) := of_decide_eq_true (by first | (with_reducible assumption) | assumption); have q226 : t224 < (y221.length : Int) := of_decide_eq_true (by first | (with_reducible assumption) | assumption); obtain ⟨ad226, e226, hx226_0⟩ := Kd.at_int (Kd.R_reads' HO223.out).2.2 t224 p226 q226; cases e226; replace p226 := eq_true p226; replace q226 := eq_true q226))
        go_ret
        exact ⟨by first | rfl | (simp [errW_none, errW_some] <;> rfl) | (simp [*, errW_none, errW_some] <;> rfl), by repeat (first | (with_reducible first | exact HI0.out | apply IsS100.alloc | apply IsS100.drewN | apply IsS100.drew | apply IsS100.set_1) | exact HI0.out), by repeat (first | (with_reducible first | exact HB.out | apply below_alloc | apply pw_below_drewN | apply below_drew1 | refine below_set ?_ (IsS100.ge HI0.out)) | exact HB.out), by repeat (first | (with_reducible first | exact HK.out | apply KeepBut.set_ | apply keep_drewN | apply keep_drew | apply keep_alloc) | exact HK.out)⟩
      · rw [if_neg c15] at H
        exact absurd H (by simp)
    · rw [if_neg c14] at H
      exact absurd H (by simp)
def spec_BoxRegions.l0 : Nat → List Int → Int → Option (List Int)
  | 0, _, _ => none
  | k + 1, x1, x2 => if x2 < 16 then (if x1.length < 17592186044416 then (spec_BoxRegions.l0 k (x1 ++ [wrap64 ((wrap64 ((wrap64 (Int.tdiv x2 8)) * 2)) + (wrap64 (Int.tdiv (Int.tmod x2 4) 2)))]) (wrap64 (x2 + 1))) else (none)) else (some x1)
def spec_BoxRegions.f (k : Nat)  : Option (List Int) := spec_BoxRegions.l0 k (([] : List Int)) 0
theorem spec_BoxRegions.mono_l : ∀ k, (∀ y0 y1, LeO (spec_BoxRegions.l0 k y0 y1) (spec_BoxRegions.l0 (k + 1) y0 y1))
  | 0 => fun _ _ r h => by simp [spec_BoxRegions.l0] at h
  | k + 1 => by
    have ih0 := spec_BoxRegions.mono_l k
    · intro y0 y1
      unfold spec_BoxRegions.l0
      repeat' first
      | (with_reducible exact ih0 _ _)
      | (with_reducible exact LeO.refl _)
      | (with_reducible exact LeO.none _)
      | (with_reducible refine LeO.ite ?_ ?_)
      | (with_reducible refine LeO.bind ?_ (fun _ => ?_))
      | exact ih0 _ _
      | exact LeO.none _
      | refine LeO.ite ?_ ?_
      | refine LeO.bind ?_ (fun _ => ?_)
theorem spec_BoxRegions.mono : ∀ k, LeO (spec_BoxRegions.f k ) (spec_BoxRegions.f (k + 1) ) := by
  intro  k
  have ih0 := spec_BoxRegions.mono_l k
  unfold spec_BoxRegions.f
  repeat' first
      | (with_reducible exact ih0 _ _)
      | (with_reducible exact LeO.refl _)
      | (with_reducible exact LeO.none _)
      | (with_reducible refine LeO.ite ?_ ?_)
      | (with_reducible refine LeO.bind ?_ (fun _ => ?_))
      | exact ih0 _ _
      | exact LeO.none _
      | refine LeO.ite ?_ ?_
      | refine LeO.bind ?_ (fun _ => ?_)
set_option maxHeartbeats 8000000 in
set_option maxRecDepth 100000 in
theorem spec_BoxRegions.calls (k : Nat)  (r : List Int) (w : World) (h : spec_BoxRegions.f k  = some r) :
    Calls Try.prog 96 #[] w fun e w' => ∃ v0_ : Value, e = .returned (v0_) ∧ Kd.R (Kd.int .i64) 3 w' w.heap.size (fun _ => True) v0_ r ∧ Below w.heap.size w w' := by
  have HB := Aside0.mk (Below.refl w.heap.size w)
  have H : (spec_BoxRegions.l0 k (([] : List Int)) 0) = some r := h
  clear h
  obtain ⟨y227, hy227⟩ : ∃ y_ : List Int, y_ = (([] : List Int)) := ⟨_, rfl⟩
  replace H : (spec_BoxRegions.l0 k y227 0) = some r := by first | (rw [hy227]; with_reducible exact H) | (have H2_ := (Option.bind_some _ _).symm.trans H; rw [hy227]; with_reducible exact H2_) | (have H2_ := (Option.bind_some _ _).symm.trans H; with_reducible exact H2_) | with_reducible exact H | (rw [hy227]; exact H) | exact H
  have Ny227 := Aside0.mk hy227
  clear hy227
  have H' := Aside0.mk H
  clear H
  go_enter Try.func96, Try.ntmps96
  go_wp2_with (first | ((with_reducible refine gate_dst (N := 3) rfl ?_); refine Kd.R_lit (Kd.int .i64) _ 3 ?hg (N := 3) ?hd (xs := ([] : List Int)) (inner := []) (ok := fun _ => True) (okp := fun _ => True) ?hr ?hp (fun _ hk => hk) trivial (Below.refl _ _) (Nat.le_refl _) (by simp) ?_; (case hd => rfl); (case hg => rfl); (case hr => first | (go_simp; done) | (go_simp; rfl)); (case hp => exact (Reps.none _ _)); intro v228 w1 ho2 hb hg_ hnew_; clear hg_ hnew_; (first | rw [← Ny227.out] at ho2 | (simp only [Int.reduceToNat] at ho2; rw [← Ny227.out] at ho2)); have n0_ := Aside0.mk (Kd.R_lower ho2 (below_size (by repeat (first | (with_reducible first | exact HB.out | apply below_alloc | apply pw_below_drewN | apply below_drew1) | exact HB.out)))); have n1_ := Aside0.mk (below_step (by repeat (first | (with_reducible first | exact HB.out | apply below_alloc | apply pw_below_drewN | apply below_drew1) | exact HB.out)) hb); clear HB; have HO229 := n0_; have HB := n1_; clear n0_ n1_; clear hb ho2))
  go_loopg [1, 2] k (fun kq v1 v2 w' => ∃ (x1_1 : List Int) (x2_1 : Int), v2 = .int .i64 x2_1 ∧ Aside0 (spec_BoxRegions.l0 kq x1_1 x2_1 = some r) ∧ Aside0 (kq ≤ k) ∧ Aside0 (Kd.R (Kd.int .i64) 3 w' w.heap.size (fun _ => True) v1 x1_1) ∧ Aside0 (Below w.heap.size w w'))
  case atStart => exact ⟨(y227), (0), (by first | rfl | (simp; done) | (simp [*]; done)), H', ⟨Nat.le_refl _⟩, ⟨by (with_reducible repeat (first | apply Kd.R_alloc | apply Kd.R_drewN | apply Kd.R_drew)); exact HO229.out⟩, ⟨by repeat (first | (with_reducible first | exact HB.out | apply below_alloc | apply pw_below_drewN | apply below_drew1) | exact HB.out)⟩⟩
  case round =>
    clear H'
    try clear p2
    obtain ⟨x1_1, x2_1, rfl, HA, HK1, HO_1, HB⟩ := hrel
    cases gk with
    | zero => exact absurd HA.out (by simp [spec_BoxRegions.l0])
    | succ k1 =>
      have H := HA.out
      clear HA
      simp only [spec_BoxRegions.l0] at H
      by_cases c3 : x2_1 < 16
      · rw [if_pos c3] at H
        have c3b0 : decide (x2_1 < 16) = true := decide_eq_true c3
        clear c3
        by_cases c4 : x1_1.length < 17592186044416
        · rw [if_pos c4] at H
          have LMc4 := Aside0.mk c4
          clear c4
          obtain ⟨y230, hy230⟩ : ∃ y_ : List Int, y_ = (x1_1 ++ [wrap64 ((wrap64 ((wrap64 (Int.tdiv x2_1 8)) * 2)) + (wrap64 (Int.tdiv (Int.tmod x2_1 4) 2)))]) := ⟨_, rfl⟩
          replace H : (spec_BoxRegions.l0 k1 y230 (wrap64 (x2_1 + 1))) = some r := by first | (rw [hy230]; with_reducible exact H) | (have H2_ := (Option.bind_some _ _).symm.trans H; rw [hy230]; with_reducible exact H2_) | (have H2_ := (Option.bind_some _ _).symm.trans H; with_reducible exact H2_) | with_reducible exact H | (rw [hy230]; exact H) | exact H
          have Ny230 := Aside0.mk hy230
          clear hy230
          have H' := Aside0.mk H
          clear H
          go_wp2_with (first | ((with_reducible refine gate_builtin (b := .append) (xs := #[.tmp 8, .tmp 16]) rfl ?_); at_builtin; refine Kd.R_append (Kd.int .i64) (w0 := w) w.heap.size rfl (.tmp 8) (.tmp 16) 23 3 (.int .i64 0) 8 rfl Try.underlying23 info3 rfl (by decide) (by omega) u1 x1_1 (wrap64 ((wrap64 ((wrap64 (Int.tdiv x2_1 8)) * 2)) + (wrap64 (Int.tdiv (Int.tmod x2_1 4) 2)))) [.int .i64 (wrap64 ((wrap64 ((wrap64 (Int.tdiv x2_1 8)) * 2)) + (wrap64 (Int.tdiv (Int.tmod x2_1 4) 2))))] (fun _ => True) (fun _ => False) rfl rfl ?aP (fun _ hk => hk.elim) ?aF ?aO ?aB ?aS ?aL ?_; (case aP => exact rfl); (case aB => exact (by repeat (first | (with_reducible first | exact HB.out | apply below_alloc | apply pw_below_drewN | apply below_drew1) | exact HB.out))); (case aF => exact (fun _ _ => trivial)); (case aO => exact (by (with_reducible repeat (first | apply Kd.R_alloc | apply Kd.R_drewN | apply Kd.R_drew)); exact HO_1.out)); (case aS => exact (below_size (by repeat (first | (with_reducible first | exact HB.out | apply below_alloc | apply pw_below_drewN | apply below_drew1) | exact HB.out)))); (case aL => have := LMc4.out; omega); intro v231 w5 ho hb hg hat; rw [← Ny230.out] at ho; have n0_ := Aside0.mk (hb); have n1_ := Aside0.mk (ho); clear HB; clear HO_1; have HB := n0_; have HO232 := n1_; clear n0_ n1_; clear ho hb hg hat))
          go_roundg k1
          case measure => have := HK1.out; omega
          case rel => exact ⟨(y230), (wrap64 (x2_1 + 1)), (by first | rfl | (simp; done) | (simp [*]; done)), H', ⟨by have := HK1.out; omega⟩, ⟨by (with_reducible repeat (first | apply Kd.R_alloc | apply Kd.R_drewN | apply Kd.R_drew)); exact HO232.out⟩, ⟨by repeat (first | (with_reducible first | exact HB.out | apply below_alloc | apply pw_below_drewN | apply below_drew1) | exact HB.out)⟩⟩
        · rw [if_neg c4] at H
          exact absurd H (by simp)
      · rw [if_neg c3] at H
        have c3b0 : decide (x2_1 < 16) = false := decide_eq_false c3
        clear c3
        obtain rfl := Option.some.inj H
        go_wp2
        go_ret
        exact ⟨_, by first | rfl | (simp [errW_none, errW_some] <;> rfl) | (simp [*, errW_none, errW_some] <;> rfl), by (with_reducible repeat (first | apply Kd.R_alloc | apply Kd.R_drewN | apply Kd.R_drew)); exact HO_1.out, by repeat (first | (with_reducible first | exact HB.out | apply below_alloc | apply pw_below_drewN | apply below_drew1) | exact HB.out)⟩
end Go.Proofs.Ytbcikbekdhdpaaa.Q
end
section
namespace Go.Proofs.Ytbcikbekdhdpaaa.Q
open Go.RowKit Go.Proofs.YtbcikbekdhdpaaaW.PrintWords Go.Proofs.YtbcikbekdhdpaaaW.PrintLast Go.Proofs.YtbcikbekdhdpaaaW.PrintMore
attribute [local go_sem] max2_int min2_int max_two min_two max_three min_three max_four min_four   -- for this text's walks alone
set_option linter.unusedVariables false
set_option linter.unusedSimpArgs false
mutual
def spec_l20Regions.l0 : Nat → Int → Int → List Int → Int → List Int → Int → Option (List Int × Int × Int)
  | 0, _, _, _, _, _, _ => none
  | k + 1, x1, x6, x7, x8, x1000, x1001 => if x8 < (wrap64 (x6 * x6)) then (if x6 = 0 then (none) else (if x8 > 0 then ((spec_l20Rd_pick.f k x1000 x1001 4).bind fun bt238 => (spec_l20Regions.j1 k x1 x6 x7 x8 (wrap64 (Int.tdiv x8 x6)) (bt238.1 == 0) x1000 bt238.2)) else (spec_l20Regions.j1 k x1 x6 x7 x8 (wrap64 (Int.tdiv x8 x6)) false x1000 x1001))) else (if x6 = 4 then ((spec_l20Rd_pick.f k x1000 x1001 3).bind fun bt251 => (spec_l20Regions.j3 k x1 x6 x7 (bt251.1 == 0) x1000 bt251.2)) else (spec_l20Regions.j3 k x1 x6 x7 false x1000 x1001))
def spec_l20Regions.j1 : Nat → Int → Int → List Int → Int → Int → Bool → List Int → Int → Option (List Int × Int × Int)
  | 0, _, _, _, _, _, _, _, _ => none
  | k + 1, x1, x6, x7, x8, x9, x29, x1000, x1001 => if x29 = true then (if 0 ≤ (wrap64 (x8 - 1)) then (if (wrap64 (x8 - 1)) < (x7.length : Int) then (spec_l20Regions.j2 k x1 x6 x7 x8 (rd x7 (wrap64 (x8 - 1))) x1000 x1001) else (none)) else (none)) else (spec_l20Regions.j2 k x1 x6 x7 x8 x9 x1000 x1001)
def spec_l20Regions.j2 : Nat → Int → Int → List Int → Int → Int → List Int → Int → Option (List Int × Int × Int)
  | 0, _, _, _, _, _, _, _ => none
  | k + 1, x1, x6, x7, x8, x9, x1000, x1001 => (spec_l20Rd_pick.f k x1000 x1001 6).bind fun bt241 => (if bt241.1 = 0 then ((spec_l20Rd_pick.f k x1000 bt241.2 x6).bind fun bt243 => (if x7.length < 17592186044416 then (spec_l20Regions.l0 k x1 x6 (x7 ++ [bt243.1]) (wrap64 (x8 + 1)) x1000 bt243.2) else (none))) else (if x7.length < 17592186044416 then (spec_l20Regions.l0 k x1 x6 (x7 ++ [x9]) (wrap64 (x8 + 1)) x1000 bt241.2) else (none)))
def spec_l20Regions.j3 : Nat → Int → Int → List Int → Bool → List Int → Int → Option (List Int × Int × Int)
  | 0, _, _, _, _, _, _ => none
  | k + 1, x1, x6, x7, x51, x1000, x1001 => if x51 = true then ((spec_BoxRegions.f k).bind fun t253 => (spec_l20Regions.j4 k x1 x6 t253 x1000 x1001)) else (spec_l20Regions.j4 k x1 x6 x7 x1000 x1001)
def spec_l20Regions.j4 : Nat → Int → Int → List Int → List Int → Int → Option (List Int × Int × Int)
  | 0, _, _, _, _, _ => none
  | k + 1, x1, x6, x7, x1000, x1001 => (spec_l20Rd_odd.f k x1000 x1001 x1).bind fun bt256 => (if bt256.1 = true then ((spec_l20Rd_pick.f k x1000 bt256.2 3).bind fun bt258 => (if bt258.1 = 0 then ((spec_l20Rd_pick.f k x1000 bt258.2 (x7.length : Int)).bind fun bt260 => ((some (([(-1), x6] : List Int) : List Int)).bind fun y262 => ((spec_l20Rd_pick.f k x1000 bt260.2 2).bind fun bt265 => (if 0 ≤ bt265.1 then (if bt265.1 < (y262.length : Int) then (if 0 ≤ bt260.1 then (if bt260.1 < (x7.length : Int) then (some ((x7.set (bt260.1 : Int).toNat (rd y262 bt265.1)), x6, bt265.2)) else (none)) else (none)) else (none)) else (none))))) else (if bt258.1 = 1 then (if 1 ≤ (x7.length : Int) then (some ((x7.drop (1 : Int).toNat), x6, bt258.2)) else (none)) else ((spec_l20Size.f k x1000 bt258.2 1).bind fun bt272 => (some (x7, bt272.1, bt272.2)))))) else (some (x7, x6, bt256.2)))
end
def spec_l20Regions.f (k : Nat) (s0_0 : List Int) (s0_1 : Int) (a1 : Int) : Option (List Int × Int × Int) := (spec_l20Size.f k s0_0 s0_1 0).bind fun bt233 => (spec_l20Regions.l0 k a1 bt233.1 (([] : List Int)) 0 s0_0 bt233.2)
set_option maxHeartbeats 8000000 in
set_option maxRecDepth 100000 in
theorem spec_l20Regions.calls (k : Nat) (g : Nat) (s0_0 : List Int) (s0_1 : Int) (a1 : Int) (r1 : List Int) (r2 : Int) (r3 : Int) (w0 w : World) (hI : IsS100 w0 w g s0_0 s0_1) (hB : Below w0.heap.size w0 w) (h : spec_l20Regions.f k s0_0 s0_1 a1 = some (r1, r2, r3)) :
    Calls Try.prog 61 #[.pointer (some ⟨g, 0, none⟩), .int .i64 a1] w fun e w' => ∃ v0_ : Value, e = .returned (.tuple #[v0_, .int .i64 r2]) ∧ Kd.Q (Kd.int .i64) 3 w' w.heap.size (fun _ => True) v0_ r1 ∧ IsS100 w0 w' g s0_0 r3 ∧ Below w0.heap.size w0 w' ∧ KeepBut w w' g none := by
  have HI0 := Aside0.mk hI
  have HK := Aside0.mk (KeepBut.refl w g none)
  have HL := Aside0.mk hB.size
  clear hI
  have HW0 := Aside0.mk hB.size
  have HB := Aside0.mk hB
  clear hB
  have H : ((spec_l20Size.f k s0_0 s0_1 0).bind fun bt233 => (spec_l20Regions.l0 k a1 bt233.1 (([] : List Int)) 0 s0_0 bt233.2)) = some (r1, r2, r3) := h
  clear h
  replace H := Option.bind_eq_some_iff.mp H
  obtain ⟨⟨t233, t234⟩, A30, H⟩ := H
  replace H : (spec_l20Regions.l0 k a1 t233 (([] : List Int)) 0 s0_0 t234) = some (r1, r2, r3) := H
  have A3 := Aside0.mk A30
  clear A30
  obtain ⟨y235, hy235⟩ : ∃ y_ : List Int, y_ = (([] : List Int)) := ⟨_, rfl⟩
  replace H : (spec_l20Regions.l0 k a1 t233 y235 0 s0_0 t234) = some (r1, r2, r3) := by first | (rw [hy235]; with_reducible exact H) | (have H2_ := (Option.bind_some _ _).symm.trans H; rw [hy235]; with_reducible exact H2_) | (have H2_ := (Option.bind_some _ _).symm.trans H; with_reducible exact H2_) | with_reducible exact H | (rw [hy235]; exact H) | exact H
  have Ny235 := Aside0.mk hy235
  clear hy235
  have H' := Aside0.mk H
  clear H
  go_enter Try.func61, Try.ntmps61
  go_wp2_with (first | ((with_reducible refine gate_callee (f := 45) rfl ?_); refine goesL_ (some 11) rfl rfl Try.func45 (by kernel_rfl) rfl #[.pointer (some ⟨g, 0, none⟩), .int .i64 0] rfl (by (try simp only [List.map_toArray, List.map_cons, List.map_nil]); first | done | rfl | (simp only [List.length_drop, List.length_take]; rfl)) ?_; (with_reducible refine (spec_l20Size.calls k g s0_0 s0_1 0 t233 t234 w0 _ ?side1 ?side2 A3.out).mono ?_); (case side1 => repeat (first | (with_reducible first | exact HI0.out | apply IsS100.alloc | apply IsS100.drewN | apply IsS100.drew | apply IsS100.set_1) | exact HI0.out)); (case side2 => repeat (first | (with_reducible first | exact HB.out | apply below_alloc | apply pw_below_drewN | apply below_drew1 | refine below_set ?_ (IsS100.ge HI0.out)) | exact HB.out)); rintro e w4 ⟨rfl, hi, hb, hk⟩; refine ⟨_, rfl, ?_⟩; have n0_ := Aside0.mk (KeepBut.trans (by repeat (first | (with_reducible first | exact HK.out | apply KeepBut.set_ | apply keep_drewN | apply keep_drew | apply keep_alloc) | exact HK.out)) hk (.inl rfl)); have n1_ := Aside0.mk (hb); have n2_ := Aside0.mk (hi); clear HK; clear HB; clear HI0; have HK := n0_; have HB := n1_; have HI0 := n2_; clear n0_ n1_ n2_; (try clear hb); (try clear hb2); (try clear hk); (try clear hi)) | ((with_reducible refine gate_dst (N := 12) rfl ?_); refine Kd.R_lit (Kd.int .i64) _ 3 ?hg (N := 12) ?hd (xs := ([] : List Int)) (inner := []) (ok := fun _ => True) (okp := fun _ => True) ?hr ?hp (fun _ hk => hk) trivial (Below.refl _ _) (Nat.le_refl _) (by simp) ?_; (case hd => rfl); (case hg => rfl); (case hr => first | (go_simp; done) | (go_simp; rfl)); (case hp => exact (Reps.none _ _)); intro v236 w5 ho6 hb hg_ hnew_; clear hg_ hnew_; (first | rw [← Ny235.out] at ho6 | (simp only [Int.reduceToNat] at ho6; rw [← Ny235.out] at ho6)); have n0_ := Aside0.mk (Kd.R_lower ho6 (keep_size (w := w) (g := g) (row := none) (by repeat (first | (with_reducible first | exact HK.out | apply KeepBut.set_ | apply keep_drewN | apply keep_drew | apply keep_alloc) | exact HK.out)))); have n1_ := Aside0.mk (IsS100.below (by repeat (first | (with_reducible first | exact HI0.out | apply IsS100.alloc | apply IsS100.drewN | apply IsS100.drew | apply IsS100.set_1) | exact HI0.out)) hb); have n2_ := Aside0.mk (KeepBut.trans (by repeat (first | (with_reducible first | exact HK.out | apply KeepBut.set_ | apply keep_drewN | apply keep_drew | apply keep_alloc) | exact HK.out)) (KeepBut.of_below hb g none) (.inl rfl)); have n3_ := Aside0.mk (below_step (by repeat (first | (with_reducible first | exact HB.out | apply below_alloc | apply pw_below_drewN | apply below_drew1 | refine below_set ?_ (IsS100.ge HI0.out)) | exact HB.out)) hb); clear HI0; clear HK; clear HB; have HO237 := n0_; have HI0 := n1_; have HK := n2_; have HB := n3_; clear n0_ n1_ n2_ n3_; clear hb ho6))
  go_loopg [7, 8] k (fun kq v7 v8 w' => ∃ (x7_1 : List Int) (x8_1 : Int) (x1001_1 : Int), v8 = .int .i64 x8_1 ∧ Aside0 (spec_l20Regions.l0 kq a1 t233 x7_1 x8_1 s0_0 x1001_1 = some (r1, r2, r3)) ∧ Aside0 (kq ≤ k) ∧ Aside0 (Kd.Q (Kd.int .i64) 3 w' w.heap.size (fun _ => True) v7 x7_1) ∧ Aside0 (IsS100 w0 w' g s0_0 x1001_1) ∧ Aside0 (KeepBut w w' g none) ∧ Aside0 (Below w0.heap.size w0 w'))
  case atStart => exact ⟨(y235), (0), (t234), (by first | rfl | (simp; done) | (simp [*]; done)), H', ⟨Nat.le_refl _⟩, ⟨Kd.Q_of_R (by (with_reducible repeat (first | apply Kd.R_alloc | apply Kd.R_drewN | apply Kd.R_drew)); exact HO237.out)⟩, ⟨by repeat (first | (with_reducible first | exact HI0.out | apply IsS100.alloc | apply IsS100.drewN | apply IsS100.drew | apply IsS100.set_1) | exact HI0.out)⟩, ⟨by repeat (first | (with_reducible first | exact HK.out | apply KeepBut.set_ | apply keep_drewN | apply keep_drew | apply keep_alloc) | exact HK.out)⟩, ⟨by repeat (first | (with_reducible first | exact HB.out | apply below_alloc | apply pw_below_drewN | apply below_drew1 | refine below_set ?_ (IsS100.ge HI0.out)) | exact HB.out)⟩⟩
  case round =>
    clear H'
    try clear p2
    try clear c4
    try clear c6
    obtain ⟨x7_1, x8_1, x1001_1, rfl, HA, HK1, HO_7, HI0, HK, HB⟩ := hrel
    cases gk with
    | zero => exact absurd HA.out (by simp [spec_l20Regions.l0])
    | succ k1 =>
      have H := HA.out
      clear HA
      simp only [spec_l20Regions.l0] at H
      by_cases c7 : x8_1 < (wrap64 (t233 * t233))
      · rw [if_pos c7] at H
        have c7b0 : decide (x8_1 < (wrap64 (t233 * t233))) = true := decide_eq_true c7
        clear c7
        by_cases c8 : t233 = 0
        · rw [if_pos c8] at H
          exact absurd H (by simp)
        · rw [if_neg c8] at H
          have c8b0 : (t233 == 0) = false := beq_eq_false_iff_ne.mpr c8
          have c8b1 : (t233 != 0) = true := bne_iff_ne.mpr c8
          have HC9 := Aside0.mk H
          clear H
          go_upto_region 7 with (fail)
          go_cut [29] (fun v29 wc => ∃ (kq : Nat) (x29_8 : Bool) (x1001_8 : Int), v29 = .bool x29_8 ∧ Aside0 (spec_l20Regions.j1 kq a1 t233 x7_1 x8_1 (wrap64 (Int.tdiv x8_1 t233)) x29_8 s0_0 x1001_8 = some (r1, r2, r3)) ∧ Aside0 (kq ≤ k1) ∧ Aside0 (Kd.Q (Kd.int .i64) 3 wc w.heap.size (fun _ => True) u7 x7_1) ∧ Aside0 (IsS100 w0 wc g s0_0 x1001_8) ∧ Aside0 (KeepBut w wc g none) ∧ Aside0 (Below w0.heap.size w0 wc))
          case first =>
            have H := HC9.out
            clear HC9
            by_cases c10 : x8_1 > 0
            · rw [if_pos c10] at H
              have c10b0 : decide (0 < x8_1) = true := decide_eq_true c10
              clear c10
              (first | rw [c10b0] | (simp only [i64_w, i32_w]; rw [c10b0]) | skip)
              replace H := Option.bind_eq_some_iff.mp H
              obtain ⟨⟨t238, t239⟩, A110, H⟩ := H
              replace H : (spec_l20Regions.j1 k1 a1 t233 x7_1 x8_1 (wrap64 (Int.tdiv x8_1 t233)) (t238 == 0) s0_0 t239) = some (r1, r2, r3) := H
              have A11 := Aside0.mk A110
              clear A110
              have H' := Aside0.mk H
              clear H
              go_wp2_with (first | (go_at_call 49; (with_reducible refine (spec_l20Rd_pick.calls k1 g s0_0 x1001_1 4 t238 t239 w0 _ ?side1 ?side2 A11.out).mono ?_); (case side1 => repeat (first | (with_reducible first | exact HI0.out | apply IsS100.alloc | apply IsS100.drewN | apply IsS100.drew | apply IsS100.set_1) | exact HI0.out)); (case side2 => repeat (first | (with_reducible first | exact HB.out | apply below_alloc | apply pw_below_drewN | apply below_drew1 | refine below_set ?_ (IsS100.ge HI0.out)) | exact HB.out)); rintro e w12 ⟨rfl, hi, hb, hk⟩; have n0_ := Aside0.mk (Kd.Q_mono (Kd.Q_keep (IsS100.apartQ (show IsS100 w0 _ g s0_0 x1001_1 from by repeat (first | (with_reducible first | exact HI0.out | apply IsS100.alloc | apply IsS100.drewN | apply IsS100.drew | apply IsS100.set_1) | exact HI0.out)) (by (with_reducible repeat (first | apply Kd.Q_alloc | apply Kd.Q_drewN | apply Kd.Q_drew)); exact HO_7.out) (by decide)) hk (fun _ h => h.2)) (fun _ h => h.1)); have n1_ := Aside0.mk (KeepBut.trans (by repeat (first | (with_reducible first | exact HK.out | apply KeepBut.set_ | apply keep_drewN | apply keep_drew | apply keep_alloc) | exact HK.out)) hk (.inl rfl)); have n2_ := Aside0.mk (hb); have n3_ := Aside0.mk (hi); clear HO_7; clear HK; clear HB; clear HI0; have HO_7 := n0_; have HK := n1_; have HB := n2_; have HI0 := n3_; clear n0_ n1_ n2_ n3_; (try clear hb); (try clear hb2); (try clear hk); (try clear hi)))
              go_meet
              case rel => exact ⟨_, ((t238 == 0)), (t239), (by first | rfl | (simp; done) | (simp [*]; done)), H', ⟨by have := HK1.out; first | omega | exact Nat.le_refl _⟩, ⟨by (with_reducible repeat (first | apply Kd.Q_alloc | apply Kd.Q_drewN | apply Kd.Q_drew)); exact HO_7.out⟩, ⟨by repeat (first | (with_reducible first | exact HI0.out | apply IsS100.alloc | apply IsS100.drewN | apply IsS100.drew | apply IsS100.set_1) | exact HI0.out)⟩, ⟨by repeat (first | (with_reducible first | exact HK.out | apply KeepBut.set_ | apply keep_drewN | apply keep_drew | apply keep_alloc) | exact HK.out)⟩, ⟨by repeat (first | (with_reducible first | exact HB.out | apply below_alloc | apply pw_below_drewN | apply below_drew1 | refine below_set ?_ (IsS100.ge HI0.out)) | exact HB.out)⟩⟩
            · rw [if_neg c10] at H
              have c10b0 : decide (0 < x8_1) = false := decide_eq_false c10
              clear c10
              (first | rw [c10b0] | (simp only [i64_w, i32_w]; rw [c10b0]) | skip)
              have H' := Aside0.mk H
              clear H
              go_wp2
              go_meet
              case rel => exact ⟨_, (false), (x1001_1), (by first | rfl | (simp; done) | (simp [*]; done)), H', ⟨by have := HK1.out; first | omega | exact Nat.le_refl _⟩, ⟨by (with_reducible repeat (first | apply Kd.Q_alloc | apply Kd.Q_drewN | apply Kd.Q_drew)); exact HO_7.out⟩, ⟨by repeat (first | (with_reducible first | exact HI0.out | apply IsS100.alloc | apply IsS100.drewN | apply IsS100.drew | apply IsS100.set_1) | exact HI0.out)⟩, ⟨by repeat (first | (with_reducible first | exact HK.out | apply KeepBut.set_ | apply keep_drewN | apply keep_drew | apply keep_alloc) | exact HK.out)⟩, ⟨by repeat (first | (with_reducible first | exact HB.out | apply below_alloc | apply pw_below_drewN | apply below_drew1 | refine below_set ?_ (IsS100.ge HI0.out)) | exact HB.out)⟩⟩
          case rest =>
            clear HC9
            try clear c1
            try clear p2
            try clear c4
            try clear c6
            try clear p6
            try clear c7
            try clear c7b0
            try clear c8
            try clear c8b0
            try clear c8b1
            try clear c10
            try clear c10b0
            try clear p2
            obtain ⟨kq, x29_8, x1001_8, rfl, HA, HJ8, HO_7, HI0, HK, HB⟩ := hcut
            cases kq with
            | zero => exact absurd HA.out (by simp [spec_l20Regions.j1])
            | succ kj8 =>
              have H := HA.out
              clear HA
              simp only [spec_l20Regions.j1] at H
              have HC13 := Aside0.mk H
              clear H
              go_upto_if 29 with (fail)
              go_cut [9] (fun v9 wc => ∃ (kq : Nat) (x9_12 : Int), v9 = .int .i64 x9_12 ∧ Aside0 (spec_l20Regions.j2 kq a1 t233 x7_1 x8_1 x9_12 s0_0 x1001_8 = some (r1, r2, r3)) ∧ Aside0 (kq ≤ kj8) ∧ Aside0 (Kd.Q (Kd.int .i64) 3 wc w.heap.size (fun _ => True) u7 x7_1) ∧ Aside0 (IsS100 w0 wc g s0_0 x1001_8) ∧ Aside0 (KeepBut w wc g none) ∧ Aside0 (Below w0.heap.size w0 wc))
              case first =>
                have H := HC13.out
                clear HC13
                by_cases c14 : x29_8 = true
                · subst c14
                  have H1 : (if 0 ≤ (wrap64 (x8_1 - 1)) then (if (wrap64 (x8_1 - 1)) < (x7_1.length : Int) then (spec_l20Regions.j2 kj8 a1 t233 x7_1 x8_1 (rd x7_1 (wrap64 (x8_1 - 1))) s0_0 x1001_8) else (none)) else (none)) = some (r1, r2, r3) := by rw [if_pos rfl] at H; exact H
                  clear H
                  have H := H1
                  clear H1
                  obtain ⟨ji15, hji15⟩ : ∃ j_ : Int, (wrap64 (x8_1 - 1)) = j_ := ⟨_, rfl⟩
                  replace H : (if 0 ≤ (ji15) then (if (ji15) < (x7_1.length : Int) then (spec_l20Regions.j2 kj8 a1 t233 x7_1 x8_1 (rd x7_1 (ji15)) s0_0 x1001_8) else (none)) else (none)) = some (r1, r2, r3) := by first | (rw [hji15] at H; exact H) | (simp only [hji15] at H ⊢; exact H)
                  have hji15w : (IntKind.i64.wrap (x8_1 - 1)) = ji15 := (i64_w _).trans hji15
                  by_cases c16 : 0 ≤ (ji15)
                  · rw [if_pos c16] at H
                    have c16b0 : decide (0 ≤ (ji15)) = true := decide_eq_true c16
                    clear c16
                    (first | rw [c16b0] | (simp only [i64_w, i32_w]; rw [c16b0]) | skip)
                    by_cases c17 : (ji15) < (x7_1.length : Int)
                    · rw [if_pos c17] at H
                      have c17b0 : decide ((ji15) < (x7_1.length : Int)) = true := decide_eq_true c17
                      clear c17
                      have H' := Aside0.mk H
                      clear H
                      obtain ⟨Ao18, co18, eo18, _⟩ := Kd.Q_slice HO_7.out
                      subst eo18
                      have p240 : 0 ≤ ((ji15) : Int) := of_decide_eq_true (by first | (with_reducible assumption) | assumption)
                      have q240 : (ji15) < (x7_1.length : Int) := of_decide_eq_true (by first | (with_reducible assumption) | assumption)
                      obtain ⟨ad240, e240, hx240_0⟩ := Kd.at_int (Kd.Q_reads' HO_7.out).2.2 (ji15) p240 q240
                      cases e240
                      replace p240 := eq_true p240
                      replace q240 := eq_true q240
                      go_wp2
                      go_meet
                      case rel => exact ⟨_, (rd x7_1 (ji15)), (by first | rfl | (simp; done) | (simp only [← hji15] <;> (first | rfl | simp)) | (simp [*]; done)), H', ⟨by have := HK1.out; have := HJ8.out; first | omega | exact Nat.le_refl _⟩, ⟨by (with_reducible repeat (first | apply Kd.Q_alloc | apply Kd.Q_drewN | apply Kd.Q_drew)); exact HO_7.out⟩, ⟨by repeat (first | (with_reducible first | exact HI0.out | apply IsS100.alloc | apply IsS100.drewN | apply IsS100.drew | apply IsS100.set_1) | exact HI0.out)⟩, ⟨by repeat (first | (with_reducible first | exact HK.out | apply KeepBut.set_ | apply keep_drewN | apply keep_drew | apply keep_alloc) | exact HK.out)⟩, ⟨by repeat (first | (with_reducible first | exact HB.out | apply below_alloc | apply pw_below_drewN | apply below_drew1 | refine below_set ?_ (IsS100.ge HI0.out)) | exact HB.out)⟩⟩
                    · rw [if_neg c17] at H
                      exact absurd H (by simp)
                  · rw [if_neg c16] at H
                    exact absurd H (by simp)
                · replace c14 := Bool.eq_false_iff.mpr c14
                  subst c14
                  have H1 : (spec_l20Regions.j2 kj8 a1 t233 x7_1 x8_1 (wrap64 (Int.tdiv x8_1 t233)) s0_0 x1001_8) = some (r1, r2, r3) := by rw [if_neg (show ¬ (false = true) by decide)] at H; exact H
                  clear H
                  have H := H1
                  clear H1
                  have H' := Aside0.mk H
                  clear H
                  go_wp2
                  go_meet
                  case rel => exact ⟨_, ((wrap64 (Int.tdiv x8_1 t233))), (by first | rfl | (simp; done) | (simp [*]; done)), H', ⟨by have := HK1.out; have := HJ8.out; first | omega | exact Nat.le_refl _⟩, ⟨by (with_reducible repeat (first | apply Kd.Q_alloc | apply Kd.Q_drewN | apply Kd.Q_drew)); exact HO_7.out⟩, ⟨by repeat (first | (with_reducible first | exact HI0.out | apply IsS100.alloc | apply IsS100.drewN | apply IsS100.drew | apply IsS100.set_1) | exact HI0.out)⟩, ⟨by repeat (first | (with_reducible first | exact HK.out | apply KeepBut.set_ | apply keep_drewN | apply keep_drew | apply keep_alloc) | exact HK.out)⟩, ⟨by repeat (first | (with_reducible first | exact HB.out | apply below_alloc | apply pw_below_drewN | apply below_drew1 | refine below_set ?_ (IsS100.ge HI0.out)) | exact HB.out)⟩⟩
              case rest =>
                clear HC13
                try clear c1
                try clear p2
                try clear q2
                try clear hx2
                try clear c4
                try clear c6
                try clear p6
                try clear c7
                try clear c7b0
                try clear c8
                try clear c8b0
                try clear c8b1
                try clear c10
                try clear c10b0
                try clear c14
                try clear c16
                try clear c16b0
                try clear c17
                try clear c17b0
                try clear hx240_0
                try clear p2
                try clear p240
                try clear p6
                try clear q240
                obtain ⟨kq, x9_12, rfl, HA, HJ12, HO_7, HI0, HK, HB⟩ := hcut
                cases kq with
                | zero => exact absurd HA.out (by simp [spec_l20Regions.j2])
                | succ kj12 =>
                  have H := HA.out
                  clear HA
                  simp only [spec_l20Regions.j2] at H
                  replace H := Option.bind_eq_some_iff.mp H
                  obtain ⟨⟨t241, t242⟩, A190, H⟩ := H
                  replace H : (if t241 = 0 then ((spec_l20Rd_pick.f kj12 s0_0 t242 t233).bind fun bt243 => (if x7_1.length < 17592186044416 then (spec_l20Regions.l0 kj12 a1 t233 (x7_1 ++ [bt243.1]) (wrap64 (x8_1 + 1)) s0_0 bt243.2) else (none))) else (if x7_1.length < 17592186044416 then (spec_l20Regions.l0 kj12 a1 t233 (x7_1 ++ [x9_12]) (wrap64 (x8_1 + 1)) s0_0 t242) else (none))) = some (r1, r2, r3) := H
                  have A19 := Aside0.mk A190
                  clear A190
                  by_cases c20 : t241 = 0
                  · rw [if_pos c20] at H
                    have c20b0 : (t241 == 0) = true := beq_iff_eq.mpr c20
                    have c20b1 : (t241 != 0) = false := bne_eq_false_iff_eq.mpr c20
                    clear c20
                    replace H := Option.bind_eq_some_iff.mp H
                    obtain ⟨⟨t243, t244⟩, A210, H⟩ := H
                    replace H : (if x7_1.length < 17592186044416 then (spec_l20Regions.l0 kj12 a1 t233 (x7_1 ++ [t243]) (wrap64 (x8_1 + 1)) s0_0 t244) else (none)) = some (r1, r2, r3) := H
                    have A21 := Aside0.mk A210
                    clear A210
                    by_cases c22 : x7_1.length < 17592186044416
                    · rw [if_pos c22] at H
                      have LMc22 := Aside0.mk c22
                      clear c22
                      obtain ⟨y245, hy245⟩ : ∃ y_ : List Int, y_ = (x7_1 ++ [t243]) := ⟨_, rfl⟩
                      replace H : (spec_l20Regions.l0 kj12 a1 t233 y245 (wrap64 (x8_1 + 1)) s0_0 t244) = some (r1, r2, r3) := by first | (rw [hy245]; with_reducible exact H) | (have H2_ := (Option.bind_some _ _).symm.trans H; rw [hy245]; with_reducible exact H2_) | (have H2_ := (Option.bind_some _ _).symm.trans H; with_reducible exact H2_) | with_reducible exact H | (rw [hy245]; exact H) | exact H
                      have Ny245 := Aside0.mk hy245
                      clear hy245
                      have H' := Aside0.mk H
                      clear H
                      go_wp2_with (first | ((with_reducible refine gate_callee (f := 49) rfl ?_); refine goesL_ (some 36) rfl rfl Try.func49 (by kernel_rfl) rfl #[.pointer (some ⟨g, 0, none⟩), .int .i64 6] rfl (by (try simp only [List.map_toArray, List.map_cons, List.map_nil]); first | done | rfl | (simp only [List.length_drop, List.length_take]; rfl)) ?_; (with_reducible refine (spec_l20Rd_pick.calls kj12 g s0_0 x1001_8 6 t241 t242 w0 _ ?side1 ?side2 A19.out).mono ?_); (case side1 => repeat (first | (with_reducible first | exact HI0.out | apply IsS100.alloc | apply IsS100.drewN | apply IsS100.drew | apply IsS100.set_1) | exact HI0.out)); (case side2 => repeat (first | (with_reducible first | exact HB.out | apply below_alloc | apply pw_below_drewN | apply below_drew1 | refine below_set ?_ (IsS100.ge HI0.out)) | exact HB.out)); rintro e w23 ⟨rfl, hi, hb, hk⟩; refine ⟨_, rfl, ?_⟩; have n0_ := Aside0.mk (Kd.Q_mono (Kd.Q_keep (IsS100.apartQ (show IsS100 w0 _ g s0_0 x1001_8 from by repeat (first | (with_reducible first | exact HI0.out | apply IsS100.alloc | apply IsS100.drewN | apply IsS100.drew | apply IsS100.set_1) | exact HI0.out)) (by (with_reducible repeat (first | apply Kd.Q_alloc | apply Kd.Q_drewN | apply Kd.Q_drew)); exact HO_7.out) (by decide)) hk (fun _ h => h.2)) (fun _ h => h.1)); have n1_ := Aside0.mk (KeepBut.trans (by repeat (first | (with_reducible first | exact HK.out | apply KeepBut.set_ | apply keep_drewN | apply keep_drew | apply keep_alloc) | exact HK.out)) hk (.inl rfl)); have n2_ := Aside0.mk (hb); have n3_ := Aside0.mk (hi); clear HO_7; clear HK; clear HB; clear HI0; have HO_7 := n0_; have HK := n1_; have HB := n2_; have HI0 := n3_; clear n0_ n1_ n2_ n3_; (try clear hb); (try clear hb2); (try clear hk); (try clear hi)) | ((with_reducible refine gate_callee (f := 49) rfl ?_); refine goesL_ (some 40) rfl rfl Try.func49 (by kernel_rfl) rfl #[.pointer (some ⟨g, 0, none⟩), .int .i64 t233] rfl (by (try simp only [List.map_toArray, List.map_cons, List.map_nil]); first | done | rfl | (simp only [List.length_drop, List.length_take]; rfl)) ?_; (with_reducible refine (spec_l20Rd_pick.calls kj12 g s0_0 t242 t233 t243 t244 w0 _ ?side1 ?side2 A21.out).mono ?_); (case side1 => repeat (first | (with_reducible first | exact HI0.out | apply IsS100.alloc | apply IsS100.drewN | apply IsS100.drew | apply IsS100.set_1) | exact HI0.out)); (case side2 => repeat (first | (with_reducible first | exact HB.out | apply below_alloc | apply pw_below_drewN | apply below_drew1 | refine below_set ?_ (IsS100.ge HI0.out)) | exact HB.out)); rintro e w24 ⟨rfl, hi, hb, hk⟩; refine ⟨_, rfl, ?_⟩; have n0_ := Aside0.mk (Kd.Q_mono (Kd.Q_keep (IsS100.apartQ (show IsS100 w0 _ g s0_0 t242 from by repeat (first | (with_reducible first | exact HI0.out | apply IsS100.alloc | apply IsS100.drewN | apply IsS100.drew | apply IsS100.set_1) | exact HI0.out)) (by (with_reducible repeat (first | apply Kd.Q_alloc | apply Kd.Q_drewN | apply Kd.Q_drew)); exact HO_7.out) (by decide)) hk (fun _ h => h.2)) (fun _ h => h.1)); have n1_ := Aside0.mk (KeepBut.trans (by repeat (first | (with_reducible first | exact HK.out | apply KeepBut.set_ | apply keep_drewN | apply keep_drew | apply keep_alloc) | exact HK.out)) hk (.inl rfl)); have n2_ := Aside0.mk (hb); have n3_ := Aside0.mk (hi); clear HO_7; clear HK; clear HB; clear HI0; have HO_7 := n0_; have HK := n1_; have HB := n2_; have HI0 := n3_; clear n0_ n1_ n2_ n3_; (try clear hb); (try clear hb2); (try clear hk); (try clear hi)) | ((with_reducible refine gate_builtin (b := .append) (xs := #[.tmp 41, .tmp 43]) rfl ?_); at_builtin; refine Kd.Q_append (Kd.int .i64) w.heap.size rfl (.tmp 41) (.tmp 43) 23 3 (.int .i64 0) 8 rfl Try.underlying23 info3 rfl (by decide) (by omega) u7 x7_1 t243 [.int .i64 t243] (fun _ => True) (fun _ => False) rfl rfl ?aP (fun _ hk => hk.elim) ?aF ?aO (Below.refl _ _) ?aS ?aL ?_; (case aP => exact rfl); (case aF => exact (fun _ _ => trivial)); (case aO => exact (by (with_reducible repeat (first | apply Kd.Q_alloc | apply Kd.Q_drewN | apply Kd.Q_drew)); exact HO_7.out)); (case aS => exact (keep_size (w := w) (g := g) (row := none) (by repeat (first | (with_reducible first | exact HK.out | apply KeepBut.set_ | apply keep_drewN | apply keep_drew | apply keep_alloc) | exact HK.out)))); (case aL => have := LMc22.out; omega); intro v246 w25 ho hb hg hat; rw [← Ny245.out] at ho; have n0_ := Aside0.mk (IsS100.grown (by repeat (first | (with_reducible first | exact HI0.out | apply IsS100.alloc | apply IsS100.drewN | apply IsS100.drew | apply IsS100.set_1) | exact HI0.out)) hg (IsS100.own_neQ HI0.out HO_7.out (by decide))); have n1_ := Aside0.mk (below_weaken (by repeat (first | (with_reducible first | exact HB.out | apply below_alloc | apply pw_below_drewN | apply below_drew1 | refine below_set ?_ (IsS100.ge HI0.out)) | exact HB.out)) HL.out hb); have n2_ := Aside0.mk (KeepBut.trans (by repeat (first | (with_reducible first | exact HK.out | apply KeepBut.set_ | apply keep_drewN | apply keep_drew | apply keep_alloc) | exact HK.out)) (KeepBut.of_grown hg g) (Kd.Q_base2 HO_7.out)); have n3_ := Aside0.mk (ho); clear HI0; clear HB; clear HK; clear HO_7; have HI0 := n0_; have HB := n1_; have HK := n2_; have HO247 := n3_; clear n0_ n1_ n2_ n3_; clear ho hb hg hat))
                      go_roundg kj12
                      case measure => have := HK1.out; have := HJ8.out; have := HJ12.out; omega
                      case rel => exact ⟨(y245), (wrap64 (x8_1 + 1)), (t244), (by first | rfl | (simp; done) | (simp [*]; done)), H', ⟨by have := HK1.out; have := HJ8.out; have := HJ12.out; omega⟩, ⟨by (with_reducible repeat (first | apply Kd.Q_alloc | apply Kd.Q_drewN | apply Kd.Q_drew)); exact HO247.out⟩, ⟨by repeat (first | (with_reducible first | exact HI0.out | apply IsS100.alloc | apply IsS100.drewN | apply IsS100.drew | apply IsS100.set_1) | exact HI0.out)⟩, ⟨by repeat (first | (with_reducible first | exact HK.out | apply KeepBut.set_ | apply keep_drewN | apply keep_drew | apply keep_alloc) | exact HK.out)⟩, ⟨by repeat (first | (with_reducible first | exact HB.out | apply below_alloc | apply pw_below_drewN | apply below_drew1 | refine below_set ?_ (IsS100.ge HI0.out)) | exact HB.out)⟩⟩
                    · rw [if_neg c22] at H
                      exact absurd H (by simp)
                  · rw [if_neg c20] at H
                    have c20b0 : (t241 == 0) = false := beq_eq_false_iff_ne.mpr c20
                    have c20b1 : (t241 != 0) = true := bne_iff_ne.mpr c20
                    by_cases c26 : x7_1.length < 17592186044416
                    · rw [if_pos c26] at H
                      have LMc26 := Aside0.mk c26
                      clear c26
                      obtain ⟨y248, hy248⟩ : ∃ y_ : List Int, y_ = (x7_1 ++ [x9_12]) := ⟨_, rfl⟩
                      replace H : (spec_l20Regions.l0 kj12 a1 t233 y248 (wrap64 (x8_1 + 1)) s0_0 t242) = some (r1, r2, r3) := by first | (rw [hy248]; with_reducible exact H) | (have H2_ := (Option.bind_some _ _).symm.trans H; rw [hy248]; with_reducible exact H2_) | (have H2_ := (Option.bind_some _ _).symm.trans H; with_reducible exact H2_) | with_reducible exact H | (rw [hy248]; exact H) | exact H
                      have Ny248 := Aside0.mk hy248
                      clear hy248
                      have H' := Aside0.mk H
                      clear H
                      go_wp2_with (first | ((with_reducible refine gate_callee (f := 49) rfl ?_); refine goesL_ (some 36) rfl rfl Try.func49 (by kernel_rfl) rfl #[.pointer (some ⟨g, 0, none⟩), .int .i64 6] rfl (by (try simp only [List.map_toArray, List.map_cons, List.map_nil]); first | done | rfl | (simp only [List.length_drop, List.length_take]; rfl)) ?_; (with_reducible refine (spec_l20Rd_pick.calls kj12 g s0_0 x1001_8 6 t241 t242 w0 _ ?side1 ?side2 A19.out).mono ?_); (case side1 => repeat (first | (with_reducible first | exact HI0.out | apply IsS100.alloc | apply IsS100.drewN | apply IsS100.drew | apply IsS100.set_1) | exact HI0.out)); (case side2 => repeat (first | (with_reducible first | exact HB.out | apply below_alloc | apply pw_below_drewN | apply below_drew1 | refine below_set ?_ (IsS100.ge HI0.out)) | exact HB.out)); rintro e w27 ⟨rfl, hi, hb, hk⟩; refine ⟨_, rfl, ?_⟩; have n0_ := Aside0.mk (Kd.Q_mono (Kd.Q_keep (IsS100.apartQ (show IsS100 w0 _ g s0_0 x1001_8 from by repeat (first | (with_reducible first | exact HI0.out | apply IsS100.alloc | apply IsS100.drewN | apply IsS100.drew | apply IsS100.set_1) | exact HI0.out)) (by (with_reducible repeat (first | apply Kd.Q_alloc | apply Kd.Q_drewN | apply Kd.Q_drew)); exact HO_7.out) (by decide)) hk (fun _ h => h.2)) (fun _ h => h.1)); have n1_ := Aside0.mk (KeepBut.trans (by repeat (first | (with_reducible first | exact HK.out | apply KeepBut.set_ | apply keep_drewN | apply keep_drew | apply keep_alloc) | exact HK.out)) hk (.inl rfl)); have n2_ := Aside0.mk (hb); have n3_ := Aside0.mk (hi); clear HO_7; clear HK; clear HB; clear HI0; have HO_7 := n0_; have HK := n1_; have HB := n2_; have HI0 := n3_; clear n0_ n1_ n2_ n3_; (try clear hb); (try clear hb2); (try clear hk); (try clear hi)) | ((with_reducible refine gate_builtin (b := .append) (xs := #[.tmp 41, .tmp 43]) rfl ?_); at_builtin; refine Kd.Q_append (Kd.int .i64) w.heap.size rfl (.tmp 41) (.tmp 43) 23 3 (.int .i64 0) 8 rfl Try.underlying23 info3 rfl (by decide) (by omega) u7 x7_1 x9_12 [.int .i64 x9_12] (fun _ => True) (fun _ => False) rfl rfl ?aP (fun _ hk => hk.elim) ?aF ?aO (Below.refl _ _) ?aS ?aL ?_; (case aP => exact rfl); (case aF => exact (fun _ _ => trivial)); (case aO => exact (by (with_reducible repeat (first | apply Kd.Q_alloc | apply Kd.Q_drewN | apply Kd.Q_drew)); exact HO_7.out)); (case aS => exact (keep_size (w := w) (g := g) (row := none) (by repeat (first | (with_reducible first | exact HK.out | apply KeepBut.set_ | apply keep_drewN | apply keep_drew | apply keep_alloc) | exact HK.out)))); (case aL => have := LMc26.out; omega); intro v249 w28 ho hb hg hat; rw [← Ny248.out] at ho; have n0_ := Aside0.mk (IsS100.grown (by repeat (first | (with_reducible first | exact HI0.out | apply IsS100.alloc | apply IsS100.drewN | apply IsS100.drew | apply IsS100.set_1) | exact HI0.out)) hg (IsS100.own_neQ HI0.out HO_7.out (by decide))); have n1_ := Aside0.mk (below_weaken (by repeat (first | (with_reducible first | exact HB.out | apply below_alloc | apply pw_below_drewN | apply below_drew1 | refine below_set ?_ (IsS100.ge HI0.out)) | exact HB.out)) HL.out hb); have n2_ := Aside0.mk (KeepBut.trans (by repeat (first | (with_reducible first | exact HK.out | apply KeepBut.set_ | apply keep_drewN | apply keep_drew | apply keep_alloc) | exact HK.out)) (KeepBut.of_grown hg g) (Kd.Q_base2 HO_7.out)); have n3_ := Aside0.mk (ho); clear HI0; clear HB; clear HK; clear HO_7; have HI0 := n0_; have HB := n1_; have HK := n2_; have HO250 := n3_; clear n0_ n1_ n2_ n3_; clear ho hb hg hat))
                      go_roundg kj12
                      case measure => have := HK1.out; have := HJ8.out; have := HJ12.out; omega
                      case rel => exact ⟨(y248), (wrap64 (x8_1 + 1)), (t242), (by first | rfl | (simp; done) | (simp [*]; done)), H', ⟨by have := HK1.out; have := HJ8.out; have := HJ12.out; omega⟩, ⟨by (with_reducible repeat (first | apply Kd.Q_alloc | apply Kd.Q_drewN | apply Kd.Q_drew)); exact HO250.out⟩, ⟨by repeat (first | (with_reducible first | exact HI0.out | apply IsS100.alloc | apply IsS100.drewN | apply IsS100.drew | apply IsS100.set_1) | exact HI0.out)⟩, ⟨by repeat (first | (with_reducible first | exact HK.out | apply KeepBut.set_ | apply keep_drewN | apply keep_drew | apply keep_alloc) | exact HK.out)⟩, ⟨by repeat (first | (with_reducible first | exact HB.out | apply below_alloc | apply pw_below_drewN | apply below_drew1 | refine below_set ?_ (IsS100.ge HI0.out)) | exact HB.out)⟩⟩
                    · rw [if_neg c26] at H
                      exact absurd H (by simp)
      · rw [if_neg c7] at H
        have c7b0 : decide (x8_1 < (wrap64 (t233 * t233))) = false := decide_eq_false c7
        clear c7
        have HC29 := Aside0.mk H
        clear H
        go_upto_region 12 with (fail)
        go_cut [51] (fun v51 wc => ∃ (kq : Nat) (x51_28 : Bool) (x1001_28 : Int), v51 = .bool x51_28 ∧ Aside0 (spec_l20Regions.j3 kq a1 t233 x7_1 x51_28 s0_0 x1001_28 = some (r1, r2, r3)) ∧ Aside0 (kq ≤ k1) ∧ Aside0 (Kd.Q (Kd.int .i64) 3 wc w.heap.size (fun _ => True) u7 x7_1) ∧ Aside0 (IsS100 w0 wc g s0_0 x1001_28) ∧ Aside0 (KeepBut w wc g none) ∧ Aside0 (Below w0.heap.size w0 wc))
        case first =>
          have H := HC29.out
          clear HC29
          by_cases c30 : t233 = 4
          · rw [if_pos c30] at H
            have c30b0 : (t233 == 4) = true := beq_iff_eq.mpr c30
            have c30b1 : (t233 != 4) = false := bne_eq_false_iff_eq.mpr c30
            clear c30
            (first | rw [c30b0] | (simp only [i64_w, i32_w]; rw [c30b0]) | skip)
            replace H := Option.bind_eq_some_iff.mp H
            obtain ⟨⟨t251, t252⟩, A310, H⟩ := H
            replace H : (spec_l20Regions.j3 k1 a1 t233 x7_1 (t251 == 0) s0_0 t252) = some (r1, r2, r3) := H
            have A31 := Aside0.mk A310
            clear A310
            have H' := Aside0.mk H
            clear H
            go_wp2_with (first | (go_at_call 49; (with_reducible refine (spec_l20Rd_pick.calls k1 g s0_0 x1001_1 3 t251 t252 w0 _ ?side1 ?side2 A31.out).mono ?_); (case side1 => repeat (first | (with_reducible first | exact HI0.out | apply IsS100.alloc | apply IsS100.drewN | apply IsS100.drew | apply IsS100.set_1) | exact HI0.out)); (case side2 => repeat (first | (with_reducible first | exact HB.out | apply below_alloc | apply pw_below_drewN | apply below_drew1 | refine below_set ?_ (IsS100.ge HI0.out)) | exact HB.out)); rintro e w32 ⟨rfl, hi, hb, hk⟩; have n0_ := Aside0.mk (Kd.Q_mono (Kd.Q_keep (IsS100.apartQ (show IsS100 w0 _ g s0_0 x1001_1 from by repeat (first | (with_reducible first | exact HI0.out | apply IsS100.alloc | apply IsS100.drewN | apply IsS100.drew | apply IsS100.set_1) | exact HI0.out)) (by (with_reducible repeat (first | apply Kd.Q_alloc | apply Kd.Q_drewN | apply Kd.Q_drew)); exact HO_7.out) (by decide)) hk (fun _ h => h.2)) (fun _ h => h.1)); have n1_ := Aside0.mk (KeepBut.trans (by repeat (first | (with_reducible first | exact HK.out | apply KeepBut.set_ | apply keep_drewN | apply keep_drew | apply keep_alloc) | exact HK.out)) hk (.inl rfl)); have n2_ := Aside0.mk (hb); have n3_ := Aside0.mk (hi); clear HO_7; clear HK; clear HB; clear HI0; have HO_7 := n0_; have HK := n1_; have HB := n2_; have HI0 := n3_; clear n0_ n1_ n2_ n3_; (try clear hb); (try clear hb2); (try clear hk); (try clear hi)))
            go_meet
            case rel => exact ⟨_, ((t251 == 0)), (t252), (by first | rfl | (simp; done) | (simp [*]; done)), H', ⟨by have := HK1.out; first | omega | exact Nat.le_refl _⟩, ⟨by (with_reducible repeat (first | apply Kd.Q_alloc | apply Kd.Q_drewN | apply Kd.Q_drew)); exact HO_7.out⟩, ⟨by repeat (first | (with_reducible first | exact HI0.out | apply IsS100.alloc | apply IsS100.drewN | apply IsS100.drew | apply IsS100.set_1) | exact HI0.out)⟩, ⟨by repeat (first | (with_reducible first | exact HK.out | apply KeepBut.set_ | apply keep_drewN | apply keep_drew | apply keep_alloc) | exact HK.out)⟩, ⟨by repeat (first | (with_reducible first | exact HB.out | apply below_alloc | apply pw_below_drewN | apply below_drew1 | refine below_set ?_ (IsS100.ge HI0.out)) | exact HB.out)⟩⟩
          · rw [if_neg c30] at H
            have c30b0 : (t233 == 4) = false := beq_eq_false_iff_ne.mpr c30
            have c30b1 : (t233 != 4) = true := bne_iff_ne.mpr c30
            (first | rw [c30b0] | (simp only [i64_w, i32_w]; rw [c30b0]) | skip)
            have H' := Aside0.mk H
            clear H
            go_wp2
            go_meet
            case rel => exact ⟨_, (false), (x1001_1), (by first | rfl | (simp; done) | (simp [*]; done)), H', ⟨by have := HK1.out; first | omega | exact Nat.le_refl _⟩, ⟨by (with_reducible repeat (first | apply Kd.Q_alloc | apply Kd.Q_drewN | apply Kd.Q_drew)); exact HO_7.out⟩, ⟨by repeat (first | (with_reducible first | exact HI0.out | apply IsS100.alloc | apply IsS100.drewN | apply IsS100.drew | apply IsS100.set_1) | exact HI0.out)⟩, ⟨by repeat (first | (with_reducible first | exact HK.out | apply KeepBut.set_ | apply keep_drewN | apply keep_drew | apply keep_alloc) | exact HK.out)⟩, ⟨by repeat (first | (with_reducible first | exact HB.out | apply below_alloc | apply pw_below_drewN | apply below_drew1 | refine below_set ?_ (IsS100.ge HI0.out)) | exact HB.out)⟩⟩
        case rest =>
          clear HC29
          try clear c1
          try clear c2
          try clear p2
          try clear q2
          try clear hx2
          try clear c3
          try clear c4
          try clear c6
          try clear p6
          try clear c7
          try clear c7b0
          try clear c8
          try clear c8b0
          try clear c8b1
          try clear c10
          try clear c10b0
          try clear c14
          try clear c16
          try clear c16b0
          try clear c17
          try clear c17b0
          try clear c20
          try clear c20b0
          try clear c20b1
          try clear c22
          try clear p24
          try clear q24
          try clear hx24
          try clear c26
          try clear c30
          try clear c30b0
          try clear c30b1
          try clear hx240_0
          try clear p2
          try clear p240
          try clear p6
          try clear q2
          try clear q240
          obtain ⟨kq, x51_28, x1001_28, rfl, HA, HJ28, HO_7, HI0, HK, HB⟩ := hcut
          cases kq with
          | zero => exact absurd HA.out (by simp [spec_l20Regions.j3])
          | succ kj28 =>
            have H := HA.out
            clear HA
            simp only [spec_l20Regions.j3] at H
            have HC33 := Aside0.mk H
            clear H
            go_upto_if 51 with (fail)
            go_cut [7] (fun v7 wc => ∃ (kq : Nat) (x7_32 : List Int), Aside0 (spec_l20Regions.j4 kq a1 t233 x7_32 s0_0 x1001_28 = some (r1, r2, r3)) ∧ Aside0 (kq ≤ kj28) ∧ Aside0 (Kd.Q (Kd.int .i64) 3 wc w.heap.size (fun _ => True) v7 x7_32) ∧ Aside0 (IsS100 w0 wc g s0_0 x1001_28) ∧ Aside0 (KeepBut w wc g none) ∧ Aside0 (Below w0.heap.size w0 wc))
            case first =>
              have H := HC33.out
              clear HC33
              by_cases c34 : x51_28 = true
              · subst c34
                have H1 : ((spec_BoxRegions.f kj28).bind fun t253 => (spec_l20Regions.j4 kj28 a1 t233 t253 s0_0 x1001_28)) = some (r1, r2, r3) := by rw [if_pos rfl] at H; exact H
                clear H
                have H := H1
                clear H1
                replace H := Option.bind_eq_some_iff.mp H
                obtain ⟨t253, A350, H⟩ := H
                replace H : (spec_l20Regions.j4 kj28 a1 t233 t253 s0_0 x1001_28) = some (r1, r2, r3) := H
                have A35 := Aside0.mk A350
                clear A350
                have H' := Aside0.mk H
                clear H
                go_wp2_with (first | ((with_reducible refine gate_callee (f := 96) rfl ?_); refine goesL_ (some 52) rfl rfl Try.func96 (by kernel_rfl) rfl #[] rfl (by (try simp only [List.map_toArray, List.map_cons, List.map_nil]); first | done | rfl | (simp only [List.length_drop, List.length_take]; rfl)) ?_; (with_reducible refine (spec_BoxRegions.calls kj28  t253 _ A35.out).mono ?_); rintro e w36 ⟨v254, rfl, ho0, hb⟩; refine ⟨_, rfl, ?_⟩; have n0_ := Aside0.mk (Kd.Q_elder' (by (with_reducible repeat (first | apply Kd.Q_alloc | apply Kd.Q_drewN | apply Kd.Q_drew)); exact HO_7.out) (Kd.R_base ho0) hb); have n1_ := Aside0.mk (Kd.R_lower (Kd.R_new' ho0 (Kd.Q_lt (by (with_reducible repeat (first | apply Kd.Q_alloc | apply Kd.Q_drewN | apply Kd.Q_drew)); exact HO_7.out))) (keep_size (w := w) (g := g) (row := none) (by repeat (first | (with_reducible first | exact HK.out | apply KeepBut.set_ | apply keep_drewN | apply keep_drew | apply keep_alloc) | exact HK.out)))); have n2_ := Aside0.mk (IsS100.below (by repeat (first | (with_reducible first | exact HI0.out | apply IsS100.alloc | apply IsS100.drewN | apply IsS100.drew | apply IsS100.set_1) | exact HI0.out)) hb); have n3_ := Aside0.mk (KeepBut.trans (by repeat (first | (with_reducible first | exact HK.out | apply KeepBut.set_ | apply keep_drewN | apply keep_drew | apply keep_alloc) | exact HK.out)) (KeepBut.of_below hb g none) (.inl rfl)); have n4_ := Aside0.mk (below_step (by repeat (first | (with_reducible first | exact HB.out | apply below_alloc | apply pw_below_drewN | apply below_drew1 | refine below_set ?_ (IsS100.ge HI0.out)) | exact HB.out)) hb); clear HO_7; clear HI0; clear HK; clear HB; have HO_7 := n0_; have HO255 := n1_; have HI0 := n2_; have HK := n3_; have HB := n4_; clear n0_ n1_ n2_ n3_ n4_; (try clear hb); (try clear hb2); (try clear hk); (try clear hi); (try clear ho0)))
                go_meet
                case rel => exact ⟨_, (t253), H', ⟨by have := HK1.out; have := HJ28.out; first | omega | exact Nat.le_refl _⟩, ⟨Kd.Q_of_R (by (with_reducible repeat (first | apply Kd.R_alloc | apply Kd.R_drewN | apply Kd.R_drew)); exact Kd.R_mono HO255.out (fun _ hk => trivial))⟩, ⟨by repeat (first | (with_reducible first | exact HI0.out | apply IsS100.alloc | apply IsS100.drewN | apply IsS100.drew | apply IsS100.set_1) | exact HI0.out)⟩, ⟨by repeat (first | (with_reducible first | exact HK.out | apply KeepBut.set_ | apply keep_drewN | apply keep_drew | apply keep_alloc) | exact HK.out)⟩, ⟨by repeat (first | (with_reducible first | exact HB.out | apply below_alloc | apply pw_below_drewN | apply below_drew1 | refine below_set ?_ (IsS100.ge HI0.out)) | exact HB.out)⟩⟩
              · replace c34 := Bool.eq_false_iff.mpr c34
                subst c34
                have H1 : (spec_l20Regions.j4 kj28 a1 t233 x7_1 s0_0 x1001_28) = some (r1, r2, r3) := by rw [if_neg (show ¬ (false = true) by decide)] at H; exact H
                clear H
                have H := H1
                clear H1
                have H' := Aside0.mk H
                clear H
                go_wp2
                go_meet
                case rel => exact ⟨_, (x7_1), H', ⟨by have := HK1.out; have := HJ28.out; first | omega | exact Nat.le_refl _⟩, ⟨by (with_reducible repeat (first | apply Kd.Q_alloc | apply Kd.Q_drewN | apply Kd.Q_drew)); exact HO_7.out⟩, ⟨by repeat (first | (with_reducible first | exact HI0.out | apply IsS100.alloc | apply IsS100.drewN | apply IsS100.drew | apply IsS100.set_1) | exact HI0.out)⟩, ⟨by repeat (first | (with_reducible first | exact HK.out | apply KeepBut.set_ | apply keep_drewN | apply keep_drew | apply keep_alloc) | exact HK.out)⟩, ⟨by repeat (first | (with_reducible first | exact HB.out | apply below_alloc | apply pw_below_drewN | apply below_drew1 | refine below_set ?_ (IsS100.ge HI0.out)) | exact HB.out)⟩⟩
            case rest =>
              clear HC33
              try clear c1
              try clear c2
              try clear p2
              try clear q2
              try clear hx2
              try clear c3
              try clear c4
              try clear c6
              try clear p6
              try clear c7
              try clear c7b0
              try clear c8
              try clear c8b0
              try clear c8b1
              try clear c9
              try clear c10
              try clear c10b0
              try clear c14
              try clear c16
              try clear c16b0
              try clear c17
              try clear c17b0
              try clear c20
              try clear c20b0
              try clear c20b1
              try clear c22
              try clear p24
              try clear q24
              try clear hx24
              try clear c26
              try clear c30
              try clear c30b0
              try clear c30b1
              try clear c34
              try clear hx240_0
              try clear p2
              try clear p24
              try clear p240
              try clear p6
              try clear q2
              try clear q24
              try clear q240
              obtain ⟨kq, x7_32, HA, HJ32, HO_7, HI0, HK, HB⟩ := hcut
              cases kq with
              | zero => exact absurd HA.out (by simp [spec_l20Regions.j4])
              | succ kj32 =>
                have H := HA.out
                clear HA
                simp only [spec_l20Regions.j4] at H
                replace H := Option.bind_eq_some_iff.mp H
                obtain ⟨⟨t256, t257⟩, A370, H⟩ := H
                replace H : (if t256 = true then ((spec_l20Rd_pick.f kj32 s0_0 t257 3).bind fun bt258 => (if bt258.1 = 0 then ((spec_l20Rd_pick.f kj32 s0_0 bt258.2 (x7_32.length : Int)).bind fun bt260 => ((some (([(-1), t233] : List Int) : List Int)).bind fun y262 => ((spec_l20Rd_pick.f kj32 s0_0 bt260.2 2).bind fun bt265 => (if 0 ≤ bt265.1 then (if bt265.1 < (y262.length : Int) then (if 0 ≤ bt260.1 then (if bt260.1 < (x7_32.length : Int) then (some ((x7_32.set (bt260.1 : Int).toNat (rd y262 bt265.1)), t233, bt265.2)) else (none)) else (none)) else (none)) else (none))))) else (if bt258.1 = 1 then (if 1 ≤ (x7_32.length : Int) then (some ((x7_32.drop (1 : Int).toNat), t233, bt258.2)) else (none)) else ((spec_l20Size.f kj32 s0_0 bt258.2 1).bind fun bt272 => (some (x7_32, bt272.1, bt272.2)))))) else (some (x7_32, t233, t257))) = some (r1, r2, r3) := H
                have A37 := Aside0.mk A370
                clear A370
                by_cases c38 : t256 = true
                · subst c38
                  have H1 : ((spec_l20Rd_pick.f kj32 s0_0 t257 3).bind fun bt258 => (if bt258.1 = 0 then ((spec_l20Rd_pick.f kj32 s0_0 bt258.2 (x7_32.length : Int)).bind fun bt260 => ((some (([(-1), t233] : List Int) : List Int)).bind fun y262 => ((spec_l20Rd_pick.f kj32 s0_0 bt260.2 2).bind fun bt265 => (if 0 ≤ bt265.1 then (if bt265.1 < (y262.length : Int) then (if 0 ≤ bt260.1 then (if bt260.1 < (x7_32.length : Int) then (some ((x7_32.set (bt260.1 : Int).toNat (rd y262 bt265.1)), t233, bt265.2)) else (none)) else (none)) else (none)) else (none))))) else (if bt258.1 = 1 then (if 1 ≤ (x7_32.length : Int) then (some ((x7_32.drop (1 : Int).toNat), t233, bt258.2)) else (none)) else ((spec_l20Size.f kj32 s0_0 bt258.2 1).bind fun bt272 => (some (x7_32, bt272.1, bt272.2)))))) = some (r1, r2, r3) := by rw [if_pos rfl] at H; exact H
                  clear H
                  have H := H1
                  clear H1
                  replace H := Option.bind_eq_some_iff.mp H
                  obtain ⟨⟨t258, t259⟩, A390, H⟩ := H
                  replace H : (if t258 = 0 then ((spec_l20Rd_pick.f kj32 s0_0 t259 (x7_32.length : Int)).bind fun bt260 => ((some (([(-1), t233] : List Int) : List Int)).bind fun y262 => ((spec_l20Rd_pick.f kj32 s0_0 bt260.2 2).bind fun bt265 => (if 0 ≤ bt265.1 then (if bt265.1 < (y262.length : Int) then (if 0 ≤ bt260.1 then (if bt260.1 < (x7_32.length : Int) then (some ((x7_32.set (bt260.1 : Int).toNat (rd y262 bt265.1)), t233, bt265.2)) else (none)) else (none)) else (none)) else (none))))) else (if t258 = 1 then (if 1 ≤ (x7_32.length : Int) then (some ((x7_32.drop (1 : Int).toNat), t233, t259)) else (none)) else ((spec_l20Size.f kj32 s0_0 t259 1).bind fun bt272 => (some (x7_32, bt272.1, bt272.2))))) = some (r1, r2, r3) := H
                  have A39 := Aside0.mk A390
                  clear A390
                  by_cases c40 : t258 = 0
                  · rw [if_pos c40] at H
                    have c40b0 : (t258 == 0) = true := beq_iff_eq.mpr c40
                    have c40b1 : (t258 != 0) = false := bne_eq_false_iff_eq.mpr c40
                    clear c40
                    replace H := Option.bind_eq_some_iff.mp H
                    obtain ⟨⟨t260, t261⟩, A410, H⟩ := H
                    replace H : ((some (([(-1), t233] : List Int) : List Int)).bind fun y262 => ((spec_l20Rd_pick.f kj32 s0_0 t261 2).bind fun bt265 => (if 0 ≤ bt265.1 then (if bt265.1 < (y262.length : Int) then (if 0 ≤ t260 then (if t260 < (x7_32.length : Int) then (some ((x7_32.set (t260 : Int).toNat (rd y262 bt265.1)), t233, bt265.2)) else (none)) else (none)) else (none)) else (none)))) = some (r1, r2, r3) := H
                    have A41 := Aside0.mk A410
                    clear A410
                    obtain ⟨y262, hy262⟩ : ∃ y_ : List Int, y_ = (([(-1), t233] : List Int)) := ⟨_, rfl⟩
                    replace H : ((spec_l20Rd_pick.f kj32 s0_0 t261 2).bind fun bt265 => (if 0 ≤ bt265.1 then (if bt265.1 < (y262.length : Int) then (if 0 ≤ t260 then (if t260 < (x7_32.length : Int) then (some ((x7_32.set (t260 : Int).toNat (rd y262 bt265.1)), t233, bt265.2)) else (none)) else (none)) else (none)) else (none))) = some (r1, r2, r3) := by first | (rw [hy262]; with_reducible exact H) | (have H2_ := (Option.bind_some _ _).symm.trans H; rw [hy262]; with_reducible exact H2_) | (have H2_ := (Option.bind_some _ _).symm.trans H; with_reducible exact H2_) | with_reducible exact H | (rw [hy262]; exact H) | exact H
                    have Ny262 := Aside0.mk hy262
                    clear hy262
                    replace H := Option.bind_eq_some_iff.mp H
                    obtain ⟨⟨t265, t266⟩, A420, H⟩ := H
                    replace H : (if 0 ≤ t265 then (if t265 < (y262.length : Int) then (if 0 ≤ t260 then (if t260 < (x7_32.length : Int) then (some ((x7_32.set (t260 : Int).toNat (rd y262 t265)), t233, t266)) else (none)) else (none)) else (none)) else (none)) = some (r1, r2, r3) := H
                    have A42 := Aside0.mk A420
                    clear A420
                    by_cases c43 : 0 ≤ t265
                    · rw [if_pos c43] at H
                      have c43b0 : decide (0 ≤ t265) = true := decide_eq_true c43
                      clear c43
                      by_cases c44 : t265 < (y262.length : Int)
                      · rw [if_pos c44] at H
                        have c44b0 : decide (t265 < (y262.length : Int)) = true := decide_eq_true c44
                        clear c44
                        by_cases c45 : 0 ≤ t260
                        · rw [if_pos c45] at H
                          have c45b0 : decide (0 ≤ t260) = true := decide_eq_true c45
                          clear c45
                          by_cases c46 : t260 < (x7_32.length : Int)
                          · rw [if_pos c46] at H
                            have c46b0 : decide (t260 < (x7_32.length : Int)) = true := decide_eq_true c46
                            clear c46
                            obtain ⟨y268, hy268⟩ : ∃ y_ : List Int, y_ = (x7_32.set (t260 : Int).toNat (rd y262 t265)) := ⟨_, rfl⟩
                            replace H : (some (y268, t233, t266)) = some (r1, r2, r3) := by first | (rw [hy268]; with_reducible exact H) | (have H2_ := (Option.bind_some _ _).symm.trans H; rw [hy268]; with_reducible exact H2_) | (have H2_ := (Option.bind_some _ _).symm.trans H; with_reducible exact H2_) | with_reducible exact H | (rw [hy268]; exact H) | exact H
                            have Ny268 := Aside0.mk hy268
                            clear hy268
                            simp only [Option.some.injEq, Prod.mk.injEq] at H
                            obtain ⟨rfl, rfl, rfl⟩ := H
                            go_wp2_with (first | ((with_reducible refine gate_callee (f := 47) rfl ?_); refine goesL_ (some 55) rfl rfl Try.func47 (by kernel_rfl) rfl #[.pointer (some ⟨g, 0, none⟩), .int .i64 a1] rfl (by (try simp only [List.map_toArray, List.map_cons, List.map_nil]); first | done | rfl | (simp only [List.length_drop, List.length_take]; rfl)) ?_; (with_reducible refine (spec_l20Rd_odd.calls kj32 g s0_0 x1001_28 a1 true t257 w0 _ ?side1 ?side2 A37.out).mono ?_); (case side1 => repeat (first | (with_reducible first | exact HI0.out | apply IsS100.alloc | apply IsS100.drewN | apply IsS100.drew | apply IsS100.set_1) | exact HI0.out)); (case side2 => repeat (first | (with_reducible first | exact HB.out | apply below_alloc | apply pw_below_drewN | apply below_drew1 | refine below_set ?_ (IsS100.ge HI0.out)) | exact HB.out)); rintro e w48 ⟨rfl, hi, hb, hk⟩; refine ⟨_, rfl, ?_⟩; have n0_ := Aside0.mk (Kd.Q_mono (Kd.Q_keep (IsS100.apartQ (show IsS100 w0 _ g s0_0 x1001_28 from by repeat (first | (with_reducible first | exact HI0.out | apply IsS100.alloc | apply IsS100.drewN | apply IsS100.drew | apply IsS100.set_1) | exact HI0.out)) (by (with_reducible repeat (first | apply Kd.Q_alloc | apply Kd.Q_drewN | apply Kd.Q_drew)); exact HO_7.out) (by decide)) hk (fun _ h => h.2)) (fun _ h => h.1)); have n1_ := Aside0.mk (KeepBut.trans (by repeat (first | (with_reducible first | exact HK.out | apply KeepBut.set_ | apply keep_drewN | apply keep_drew | apply keep_alloc) | exact HK.out)) hk (.inl rfl)); have n2_ := Aside0.mk (hb); have n3_ := Aside0.mk (hi); clear HO_7; clear HK; clear HB; clear HI0; have HO_7 := n0_; have HK := n1_; have HB := n2_; have HI0 := n3_; clear n0_ n1_ n2_ n3_; (try clear hb); (try clear hb2); (try clear hk); (try clear hi)) | ((with_reducible refine gate_callee (f := 49) rfl ?_); refine goesL_ (some 57) rfl rfl Try.func49 (by kernel_rfl) rfl #[.pointer (some ⟨g, 0, none⟩), .int .i64 3] rfl (by (try simp only [List.map_toArray, List.map_cons, List.map_nil]); first | done | rfl | (simp only [List.length_drop, List.length_take]; rfl)) ?_; (with_reducible refine (spec_l20Rd_pick.calls kj32 g s0_0 t257 3 t258 t259 w0 _ ?side1 ?side2 A39.out).mono ?_); (case side1 => repeat (first | (with_reducible first | exact HI0.out | apply IsS100.alloc | apply IsS100.drewN | apply IsS100.drew | apply IsS100.set_1) | exact HI0.out)); (case side2 => repeat (first | (with_reducible first | exact HB.out | apply below_alloc | apply pw_below_drewN | apply below_drew1 | refine below_set ?_ (IsS100.ge HI0.out)) | exact HB.out)); rintro e w49 ⟨rfl, hi, hb, hk⟩; refine ⟨_, rfl, ?_⟩; have n0_ := Aside0.mk (Kd.Q_mono (Kd.Q_keep (IsS100.apartQ (show IsS100 w0 _ g s0_0 t257 from by repeat (first | (with_reducible first | exact HI0.out | apply IsS100.alloc | apply IsS100.drewN | apply IsS100.drew | apply IsS100.set_1) | exact HI0.out)) (by (with_reducible repeat (first | apply Kd.Q_alloc | apply Kd.Q_drewN | apply Kd.Q_drew)); exact HO_7.out) (by decide)) hk (fun _ h => h.2)) (fun _ h => h.1)); have n1_ := Aside0.mk (KeepBut.trans (by repeat (first | (with_reducible first | exact HK.out | apply KeepBut.set_ | apply keep_drewN | apply keep_drew | apply keep_alloc) | exact HK.out)) hk (.inl rfl)); have n2_ := Aside0.mk (hb); have n3_ := Aside0.mk (hi); clear HO_7; clear HK; clear HB; clear HI0; have HO_7 := n0_; have HK := n1_; have HB := n2_; have HI0 := n3_; clear n0_ n1_ n2_ n3_; (try clear hb); (try clear hb2); (try clear hk); (try clear hi); obtain ⟨Ao50, co50, eo50, _⟩ := Kd.Q_slice HO_7.out; subst eo50) | ((with_reducible refine gate_callee (f := 49) rfl ?_); refine goesL_ (some 66) rfl rfl Try.func49 (by kernel_rfl) rfl #[.pointer (some ⟨g, 0, none⟩), .int .i64 (x7_32.length : Int)] rfl (by (try simp only [List.map_toArray, List.map_cons, List.map_nil]); first | done | rfl | (simp only [List.length_drop, List.length_take]; rfl)) ?_; (with_reducible refine (spec_l20Rd_pick.calls kj32 g s0_0 t259 (x7_32.length : Int) t260 t261 w0 _ ?side1 ?side2 A41.out).mono ?_); (case side1 => repeat (first | (with_reducible first | exact HI0.out | apply IsS100.alloc | apply IsS100.drewN | apply IsS100.drew | apply IsS100.set_1) | exact HI0.out)); (case side2 => repeat (first | (with_reducible first | exact HB.out | apply below_alloc | apply pw_below_drewN | apply below_drew1 | refine below_set ?_ (IsS100.ge HI0.out)) | exact HB.out)); rintro e w51 ⟨rfl, hi, hb, hk⟩; refine ⟨_, rfl, ?_⟩; have n0_ := Aside0.mk (Kd.Q_mono (Kd.Q_keep (IsS100.apartQ (show IsS100 w0 _ g s0_0 t259 from by repeat (first | (with_reducible first | exact HI0.out | apply IsS100.alloc | apply IsS100.drewN | apply IsS100.drew | apply IsS100.set_1) | exact HI0.out)) (by (with_reducible repeat (first | apply Kd.Q_alloc | apply Kd.Q_drewN | apply Kd.Q_drew)); exact HO_7.out) (by decide)) hk (fun _ h => h.2)) (fun _ h => h.1)); have n1_ := Aside0.mk (KeepBut.trans (by repeat (first | (with_reducible first | exact HK.out | apply KeepBut.set_ | apply keep_drewN | apply keep_drew | apply keep_alloc) | exact HK.out)) hk (.inl rfl)); have n2_ := Aside0.mk (hb); have n3_ := Aside0.mk (hi); clear HO_7; clear HK; clear HB; clear HI0; have HO_7 := n0_; have HK := n1_; have HB := n2_; have HI0 := n3_; clear n0_ n1_ n2_ n3_; (try clear hb); (try clear hb2); (try clear hk); (try clear hi)) | ((with_reducible refine gate_dst (N := 68) rfl ?_); refine Kd.R_lit (Kd.int .i64) _ 3 ?hg (N := 68) ?hd (xs := ([(-1), t233] : List Int)) (inner := [.int .i64 (-1), .int .i64 t233]) (ok := fun _ => True) (okp := fun _ => True) ?hr ?hp (fun _ hk => hk) trivial (Below.refl _ _) (Nat.le_refl _) (by simp) ?_; (case hd => rfl); (case hg => rfl); (case hr => first | (go_simp; done) | (go_simp; rfl)); (case hp => exact (Reps.one (show Kd.M (Kd.int .i64) _ _ _ (-1) [.int .i64 (-1)] from rfl) (Reps.one (show Kd.M (Kd.int .i64) _ _ _ t233 [.int .i64 t233] from rfl) (Reps.none _ _)))); intro v263 w52 ho53 hb hg_ hnew_; clear hg_ hnew_; (first | rw [← Ny262.out] at ho53 | (simp only [Int.reduceToNat] at ho53; rw [← Ny262.out] at ho53)); have n0_ := Aside0.mk (Kd.Q_elder' (by (with_reducible repeat (first | apply Kd.Q_alloc | apply Kd.Q_drewN | apply Kd.Q_drew)); exact HO_7.out) (Kd.R_base ho53) hb); have n1_ := Aside0.mk (Kd.R_lower (Kd.R_new' ho53 (Kd.Q_lt (by (with_reducible repeat (first | apply Kd.Q_alloc | apply Kd.Q_drewN | apply Kd.Q_drew)); exact HO_7.out))) (keep_size (w := w) (g := g) (row := none) (by repeat (first | (with_reducible first | exact HK.out | apply KeepBut.set_ | apply keep_drewN | apply keep_drew | apply keep_alloc) | exact HK.out)))); have n2_ := Aside0.mk (IsS100.below (by repeat (first | (with_reducible first | exact HI0.out | apply IsS100.alloc | apply IsS100.drewN | apply IsS100.drew | apply IsS100.set_1) | exact HI0.out)) hb); have n3_ := Aside0.mk (KeepBut.trans (by repeat (first | (with_reducible first | exact HK.out | apply KeepBut.set_ | apply keep_drewN | apply keep_drew | apply keep_alloc) | exact HK.out)) (KeepBut.of_below hb g none) (.inl rfl)); have n4_ := Aside0.mk (below_step (by repeat (first | (with_reducible first | exact HB.out | apply below_alloc | apply pw_below_drewN | apply below_drew1 | refine below_set ?_ (IsS100.ge HI0.out)) | exact HB.out)) hb); clear HO_7; clear HI0; clear HK; clear HB; have HO_7 := n0_; have HO264 := n1_; have HI0 := n2_; have HK := n3_; have HB := n4_; clear n0_ n1_ n2_ n3_ n4_; clear hb ho53) | ((with_reducible refine gate_callee (f := 49) rfl ?_); refine goesL_ (some 70) rfl rfl Try.func49 (by kernel_rfl) rfl #[.pointer (some ⟨g, 0, none⟩), .int .i64 2] rfl (by (try simp only [List.map_toArray, List.map_cons, List.map_nil]); first | done | rfl | (simp only [List.length_drop, List.length_take]; rfl)) ?_; (with_reducible refine (spec_l20Rd_pick.calls kj32 g s0_0 t261 2 t265 t266 w0 _ ?side1 ?side2 A42.out).mono ?_); (case side1 => repeat (first | (with_reducible first | exact HI0.out | apply IsS100.alloc | apply IsS100.drewN | apply IsS100.drew | apply IsS100.set_1) | exact HI0.out)); (case side2 => repeat (first | (with_reducible first | exact HB.out | apply below_alloc | apply pw_below_drewN | apply below_drew1 | refine below_set ?_ (IsS100.ge HI0.out)) | exact HB.out)); rintro e w54 ⟨rfl, hi, hb, hk⟩; refine ⟨_, rfl, ?_⟩; have n0_ := Aside0.mk (Kd.Q_mono (Kd.Q_keep (IsS100.apartQ (show IsS100 w0 _ g s0_0 t261 from by repeat (first | (with_reducible first | exact HI0.out | apply IsS100.alloc | apply IsS100.drewN | apply IsS100.drew | apply IsS100.set_1) | exact HI0.out)) (by (with_reducible repeat (first | apply Kd.Q_alloc | apply Kd.Q_drewN | apply Kd.Q_drew)); exact HO_7.out) (by decide)) hk (fun _ h => h.2)) (fun _ h => h.1)); have n1_ := Aside0.mk (Kd.R_mono (Kd.R_keep (IsS100.apart (show IsS100 w0 _ g s0_0 t261 from by repeat (first | (with_reducible first | exact HI0.out | apply IsS100.alloc | apply IsS100.drewN | apply IsS100.drew | apply IsS100.set_1) | exact HI0.out)) (by (with_reducible repeat (first | apply Kd.R_alloc | apply Kd.R_drewN | apply Kd.R_drew)); exact HO264.out) (by decide)) hk (fun _ h => h.2)) (fun _ h => h.1)); have n2_ := Aside0.mk (KeepBut.trans (by repeat (first | (with_reducible first | exact HK.out | apply KeepBut.set_ | apply keep_drewN | apply keep_drew | apply keep_alloc) | exact HK.out)) hk (.inl rfl)); have n3_ := Aside0.mk (hb); have n4_ := Aside0.mk (hi); clear HO_7; clear HO264; clear HK; clear HB; clear HI0; have HO_7 := n0_; have HO264 := n1_; have HK := n2_; have HB := n3_; have HI0 := n4_; clear n0_ n1_ n2_ n3_ n4_; (try clear hb); (try clear hb2); (try clear hk); (try clear hi); obtain ⟨Ao55, co55, eo55⟩ := Kd.R_slice HO264.out; subst eo55; have p267 : 0 ≤ (t265 : Int) := of_decide_eq_true (by first | (with_reducible assumption) | assumption); have q267 : t265 < (y262.length : Int) := of_decide_eq_true (by first | (with_reducible assumption) | assumption); obtain ⟨ad267, e267, hx267_0⟩ := Kd.at_int (Kd.R_reads' HO264.out).2.2 t265 p267 q267; cases e267; replace p267 := eq_true p267; replace q267 := eq_true q267; have p47 : 0 ≤ (t260 : Int) := of_decide_eq_true (by first | (with_reducible assumption) | assumption); have q47 : (t260 : Int) < ((x7_32.length : Int) : Int) := of_decide_eq_true (by first | (with_reducible assumption) | assumption); obtain ⟨go47, oo47, co47, eo47, gb47, gl47, cl47, HG47⟩ := Kd.Q_form HO_7.out (by omega); (first | cases eo47 | (injection eo47 with ea_ en_ ec_; (first | subst ea_ | (injection ea_ with ea_; subst ea_)); subst ec_; clear en_)); have GB47 := Aside0.mk gb47; have GG47 := Aside0.mk HG47; clear gb47 gl47 HG47; obtain ⟨hx47_0, hf47_0⟩ := Kd.Q_cell 0 HO_7.out (t260 : Int) p47 q47; replace p47 := eq_true p47; replace q47 := eq_true q47; have n_ := Aside0.mk (Kd.Q_mono (ok' := (fun k_ => some k_ ≠ (.slice (some ad267) y262.length co55 : Value).ownBlock)) HO_7.out (fun k_ hk => hk.2)); clear HO_7; have HO_7 := n_; clear n_; obtain ⟨hy56_, hz56_⟩ := Kd.Q_cell 0 HO_7.out (t260 : Int) (of_decide_eq_true (by first | (with_reducible assumption) | assumption)) (of_decide_eq_true (by first | (with_reducible assumption) | assumption)); have HP56 := Kd.Q_putg HO_7.out (t260 : Int) (of_decide_eq_true (by first | (with_reducible assumption) | assumption)) (by have h_ : (t260 : Int) < ((x7_32.length : Int) : Int) := of_decide_eq_true (by first | (with_reducible assumption) | assumption); first | exact h_ | (have e_ := (Kd.Q_reads' HO_7.out).1; omega) | simpa using h_) (rd y262 t265)) | ((with_reducible refine gate_store (t := 3) (p := 73) rfl ?_); refine store_event (t := 3) (p := 73) (v := ?vo_w57) (w1 := (w54.setCell ⟨go47, oo47 + (t260 : Int).toNat, none⟩ (.int .i64 (rd y262 t265)))) ?hg ?ho ?hn ?hr ?_; (case ho => rfl); (case hg => rfl); (case hn => rfl); (case hr => first | (go_simp; done) | (go_simp; rfl)); intro w57 hw; have hg : w54.grownBy w57 (some go47) := (by rw [hw]; exact HP56.2); have hp_ : Kd.Q (Kd.int .i64) 3 w57 w.heap.size (fun k_ => some k_ ≠ (.slice (some ad267) y262.length co55 : Value).ownBlock) (.slice (some ⟨go47, oo47, none⟩) x7_32.length co50) y268 := (by rw [hw, Ny268.out]; exact HP56.1); clear HP56; have n0_ := Aside0.mk (hp_); have n1_ := Aside0.mk (IsS100.grown (by repeat (first | (with_reducible first | exact HI0.out | apply IsS100.alloc | apply IsS100.drewN | apply IsS100.drew | apply IsS100.set_1) | exact HI0.out)) hg (IsS100.own_neQ HI0.out HO_7.out (by decide))); have n2_ := Aside0.mk (Kd.R_after (v := (.slice (some ⟨go47, oo47, none⟩) x7_32.length co50)) (v1 := (.slice (some ⟨go47, oo47, none⟩) x7_32.length co50)) (ok := (fun _ => True)) (by (with_reducible repeat (first | apply Kd.R_alloc | apply Kd.R_drewN | apply Kd.R_drew)); exact HO264.out) hg (.inl rfl)); have n3_ := Aside0.mk ((by rw [hw]; exact below_set (HB.out) (Nat.le_trans HL.out GB47.out) : Below w0.heap.size w0 w57)); have n4_ := Aside0.mk (KeepBut.trans (by repeat (first | (with_reducible first | exact HK.out | apply KeepBut.set_ | apply keep_drewN | apply keep_drew | apply keep_alloc) | exact HK.out)) (KeepBut.of_grown hg g) (Kd.Q_base2 HO_7.out)); clear HO_7; clear HI0; clear HO264; clear HB; clear HK; have HO_7 := n0_; have HI0 := n1_; have HO264 := n2_; have HB := n3_; have HK := n4_; clear n0_ n1_ n2_ n3_ n4_; clear hg hw hp_))
                            go_ret2
                            exact ⟨_, by first | rfl | (simp [errW_none, errW_some] <;> rfl) | (simp [*, errW_none, errW_some] <;> rfl), by (with_reducible repeat (first | apply Kd.Q_alloc | apply Kd.Q_drewN | apply Kd.Q_drew)); exact Kd.Q_mono HO_7.out (fun _ hk => trivial), by repeat (first | (with_reducible first | exact HI0.out | apply IsS100.alloc | apply IsS100.drewN | apply IsS100.drew | apply IsS100.set_1) | exact HI0.out), by repeat (first | (with_reducible first | exact HB.out | apply below_alloc | apply pw_below_drewN | apply below_drew1 | refine below_set ?_ (IsS100.ge HI0.out)) | exact HB.out), by repeat (first | (with_reducible first | exact HK.out | apply KeepBut.set_ | apply keep_drewN | apply keep_drew | apply keep_alloc) | exact HK.out)⟩
                          · rw [if_neg c46] at H
                            exact absurd H (by simp)
                        · rw [if_neg c45] at H
                          exact absurd H (by simp)
                      · rw [if_neg c44] at H
                        exact absurd H (by simp)
                    · rw [if_neg c43] at H
                      exact absurd H (by simp)
                  · rw [if_neg c40] at H
                    have c40b0 : (t258 == 0) = false := beq_eq_false_iff_ne.mpr c40
                    have c40b1 : (t258 != 0) = true := bne_iff_ne.mpr c40
                    by_cases c58 : t258 = 1
                    · rw [if_pos c58] at H
                      have c58b0 : (t258 == 1) = true := beq_iff_eq.mpr c58
                      have c58b1 : (t258 != 1) = false := bne_eq_false_iff_eq.mpr c58
                      clear c58
                      by_cases c59 : 1 ≤ (x7_32.length : Int)
                      · rw [if_pos c59] at H
                        have c59b0 := eq_true c59
                        have c59b1 : decide (1 ≤ (x7_32.length : Int)) = true := decide_eq_true c59
                        clear c59
                        obtain ⟨y269, hy269⟩ : ∃ y_ : List Int, y_ = (x7_32.drop (1 : Int).toNat) := ⟨_, rfl⟩
                        replace H : (some (y269, t233, t259)) = some (r1, r2, r3) := by first | (rw [hy269]; with_reducible exact H) | (have H2_ := (Option.bind_some _ _).symm.trans H; rw [hy269]; with_reducible exact H2_) | (have H2_ := (Option.bind_some _ _).symm.trans H; with_reducible exact H2_) | with_reducible exact H | (rw [hy269]; exact H) | exact H
                        have Ny269 := Aside0.mk hy269
                        clear hy269
                        simp only [Option.some.injEq, Prod.mk.injEq] at H
                        obtain ⟨rfl, rfl, rfl⟩ := H
                        go_wp2_with (first | ((with_reducible refine gate_callee (f := 47) rfl ?_); refine goesL_ (some 55) rfl rfl Try.func47 (by kernel_rfl) rfl #[.pointer (some ⟨g, 0, none⟩), .int .i64 a1] rfl (by (try simp only [List.map_toArray, List.map_cons, List.map_nil]); first | done | rfl | (simp only [List.length_drop, List.length_take]; rfl)) ?_; (with_reducible refine (spec_l20Rd_odd.calls kj32 g s0_0 x1001_28 a1 true t257 w0 _ ?side1 ?side2 A37.out).mono ?_); (case side1 => repeat (first | (with_reducible first | exact HI0.out | apply IsS100.alloc | apply IsS100.drewN | apply IsS100.drew | apply IsS100.set_1) | exact HI0.out)); (case side2 => repeat (first | (with_reducible first | exact HB.out | apply below_alloc | apply pw_below_drewN | apply below_drew1 | refine below_set ?_ (IsS100.ge HI0.out)) | exact HB.out)); rintro e w60 ⟨rfl, hi, hb, hk⟩; refine ⟨_, rfl, ?_⟩; have n0_ := Aside0.mk (Kd.Q_mono (Kd.Q_keep (IsS100.apartQ (show IsS100 w0 _ g s0_0 x1001_28 from by repeat (first | (with_reducible first | exact HI0.out | apply IsS100.alloc | apply IsS100.drewN | apply IsS100.drew | apply IsS100.set_1) | exact HI0.out)) (by (with_reducible repeat (first | apply Kd.Q_alloc | apply Kd.Q_drewN | apply Kd.Q_drew)); exact HO_7.out) (by decide)) hk (fun _ h => h.2)) (fun _ h => h.1)); have n1_ := Aside0.mk (KeepBut.trans (by repeat (first | (with_reducible first | exact HK.out | apply KeepBut.set_ | apply keep_drewN | apply keep_drew | apply keep_alloc) | exact HK.out)) hk (.inl rfl)); have n2_ := Aside0.mk (hb); have n3_ := Aside0.mk (hi); clear HO_7; clear HK; clear HB; clear HI0; have HO_7 := n0_; have HK := n1_; have HB := n2_; have HI0 := n3_; clear n0_ n1_ n2_ n3_; (try clear hb); (try clear hb2); (try clear hk); (try clear hi)) | ((with_reducible refine gate_callee (f := 49) rfl ?_); refine goesL_ (some 57) rfl rfl Try.func49 (by kernel_rfl) rfl #[.pointer (some ⟨g, 0, none⟩), .int .i64 3] rfl (by (try simp only [List.map_toArray, List.map_cons, List.map_nil]); first | done | rfl | (simp only [List.length_drop, List.length_take]; rfl)) ?_; (with_reducible refine (spec_l20Rd_pick.calls kj32 g s0_0 t257 3 t258 t259 w0 _ ?side1 ?side2 A39.out).mono ?_); (case side1 => repeat (first | (with_reducible first | exact HI0.out | apply IsS100.alloc | apply IsS100.drewN | apply IsS100.drew | apply IsS100.set_1) | exact HI0.out)); (case side2 => repeat (first | (with_reducible first | exact HB.out | apply below_alloc | apply pw_below_drewN | apply below_drew1 | refine below_set ?_ (IsS100.ge HI0.out)) | exact HB.out)); rintro e w61 ⟨rfl, hi, hb, hk⟩; refine ⟨_, rfl, ?_⟩; have n0_ := Aside0.mk (Kd.Q_mono (Kd.Q_keep (IsS100.apartQ (show IsS100 w0 _ g s0_0 t257 from by repeat (first | (with_reducible first | exact HI0.out | apply IsS100.alloc | apply IsS100.drewN | apply IsS100.drew | apply IsS100.set_1) | exact HI0.out)) (by (with_reducible repeat (first | apply Kd.Q_alloc | apply Kd.Q_drewN | apply Kd.Q_drew)); exact HO_7.out) (by decide)) hk (fun _ h => h.2)) (fun _ h => h.1)); have n1_ := Aside0.mk (KeepBut.trans (by repeat (first | (with_reducible first | exact HK.out | apply KeepBut.set_ | apply keep_drewN | apply keep_drew | apply keep_alloc) | exact HK.out)) hk (.inl rfl)); have n2_ := Aside0.mk (hb); have n3_ := Aside0.mk (hi); clear HO_7; clear HK; clear HB; clear HI0; have HO_7 := n0_; have HK := n1_; have HB := n2_; have HI0 := n3_; clear n0_ n1_ n2_ n3_; (try clear hb); (try clear hb2); (try clear hk); (try clear hi); obtain ⟨Ao62, co62, eo62, _⟩ := Kd.Q_slice HO_7.out; subst eo62; have q63 : (1 : Int) ≤ ((x7_32.length : Int) : Int) := of_decide_eq_true (by first | (with_reducible assumption) | assumption); obtain ⟨i063, hi063, _, hsz63, _⟩ := info_parts info3; have hcut63 := cut_from (P := Try.prog) 23 3 .i64 Try.underlying23 hi063 1 hsz63 Ao62 x7_32.length co62 1 (by omega) q63; have hr63 := Kd.Q_drop (k := (1 : Int).toNat) HO_7.out (by omega); obtain ⟨A63, hA63⟩ : ∃ A1, A1 = (if co62 = (1 : Int).toNat then Ao62 else (Ao62 : Option Addr).map (·.add ((1 : Int).toNat * 1))) := ⟨_, rfl⟩; obtain ⟨c63, hc63⟩ : ∃ c1, c1 = co62 - (1 : Int).toNat := ⟨_, rfl⟩; have hy63 : y269.length = x7_32.length - (1 : Int).toNat := (by rw [Ny269.out, List.length_drop]); rw [← Ny269.out] at hr63; rw [← hy63, ← hA63, ← hc63] at hcut63; replace hr63 : Kd.Q (Kd.int .i64) 3 w61 w.heap.size (fun _ => True) (.slice A63 y269.length c63) y269 := (by rw [hA63, hc63, hy63]; exact hr63); have HE63 : Aside0 ((Value.slice A63 y269.length c63).ownBlock = (.slice Ao62 x7_32.length co62 : Value).ownBlock) := ⟨by rw [hA63]; split <;> (cases (Ao62 : Option Addr) <;> rfl)⟩; clear hy63 hi063 hsz63 HO_7 hA63 hc63; have HO271 := Aside0.mk hr63; clear hr63; replace q63 := eq_true q63))
                        go_ret2
                        exact ⟨_, by first | rfl | (simp [errW_none, errW_some] <;> rfl) | (simp [*, errW_none, errW_some] <;> rfl), by (with_reducible repeat (first | apply Kd.Q_alloc | apply Kd.Q_drewN | apply Kd.Q_drew)); exact HO271.out, by repeat (first | (with_reducible first | exact HI0.out | apply IsS100.alloc | apply IsS100.drewN | apply IsS100.drew | apply IsS100.set_1) | exact HI0.out), by repeat (first | (with_reducible first | exact HB.out | apply below_alloc | apply pw_below_drewN | apply below_drew1 | refine below_set ?_ (IsS100.ge HI0.out)) | exact HB.out), by repeat (first | (with_reducible first | exact HK.out | apply KeepBut.set_ | apply keep_drewN | apply keep_drew | apply keep_alloc) | exact HK.out)⟩
                      · rw [if_neg c59] at H
                        exact absurd H (by simp)
                    · rw [if_neg c58] at H
                      have c58b0 : (t258 == 1) = false := beq_eq_false_iff_ne.mpr c58
                      have c58b1 : (t258 != 1) = true := bne_iff_ne.mpr c58
                      replace H := Option.bind_eq_some_iff.mp H
                      obtain ⟨⟨t272, t273⟩, A640, H⟩ := H
                      replace H : (some (x7_32, t272, t273)) = some (r1, r2, r3) := H
                      have A64 := Aside0.mk A640
                      clear A640
                      simp only [Option.some.injEq, Prod.mk.injEq] at H
                      obtain ⟨rfl, rfl, rfl⟩ := H
                      go_wp2_with (first | ((with_reducible refine gate_callee (f := 47) rfl ?_); refine goesL_ (some 55) rfl rfl Try.func47 (by kernel_rfl) rfl #[.pointer (some ⟨g, 0, none⟩), .int .i64 a1] rfl (by (try simp only [List.map_toArray, List.map_cons, List.map_nil]); first | done | rfl | (simp only [List.length_drop, List.length_take]; rfl)) ?_; (with_reducible refine (spec_l20Rd_odd.calls kj32 g s0_0 x1001_28 a1 true t257 w0 _ ?side1 ?side2 A37.out).mono ?_); (case side1 => repeat (first | (with_reducible first | exact HI0.out | apply IsS100.alloc | apply IsS100.drewN | apply IsS100.drew | apply IsS100.set_1) | exact HI0.out)); (case side2 => repeat (first | (with_reducible first | exact HB.out | apply below_alloc | apply pw_below_drewN | apply below_drew1 | refine below_set ?_ (IsS100.ge HI0.out)) | exact HB.out)); rintro e w65 ⟨rfl, hi, hb, hk⟩; refine ⟨_, rfl, ?_⟩; have n0_ := Aside0.mk (Kd.Q_mono (Kd.Q_keep (IsS100.apartQ (show IsS100 w0 _ g s0_0 x1001_28 from by repeat (first | (with_reducible first | exact HI0.out | apply IsS100.alloc | apply IsS100.drewN | apply IsS100.drew | apply IsS100.set_1) | exact HI0.out)) (by (with_reducible repeat (first | apply Kd.Q_alloc | apply Kd.Q_drewN | apply Kd.Q_drew)); exact HO_7.out) (by decide)) hk (fun _ h => h.2)) (fun _ h => h.1)); have n1_ := Aside0.mk (KeepBut.trans (by repeat (first | (with_reducible first | exact HK.out | apply KeepBut.set_ | apply keep_drewN | apply keep_drew | apply keep_alloc) | exact HK.out)) hk (.inl rfl)); have n2_ := Aside0.mk (hb); have n3_ := Aside0.mk (hi); clear HO_7; clear HK; clear HB; clear HI0; have HO_7 := n0_; have HK := n1_; have HB := n2_; have HI0 := n3_; clear n0_ n1_ n2_ n3_; (try clear hb); (try clear hb2); (try clear hk); (try clear hi)) | ((with_reducible refine gate_callee (f := 49) rfl ?_); refine goesL_ (some 57) rfl rfl Try.func49 (by kernel_rfl) rfl #[.pointer (some ⟨g, 0, none⟩), .int .i64 3] rfl (by (try simp only [List.map_toArray, List.map_cons, List.map_nil]); first | done | rfl | (simp only [List.length_drop, List.length_take]; rfl)) ?_; (with_reducible refine (spec_l20Rd_pick.calls kj32 g s0_0 t257 3 t258 t259 w0 _ ?side1 ?side2 A39.out).mono ?_); (case side1 => repeat (first | (with_reducible first | exact HI0.out | apply IsS100.alloc | apply IsS100.drewN | apply IsS100.drew | apply IsS100.set_1) | exact HI0.out)); (case side2 => repeat (first | (with_reducible first | exact HB.out | apply below_alloc | apply pw_below_drewN | apply below_drew1 | refine below_set ?_ (IsS100.ge HI0.out)) | exact HB.out)); rintro e w66 ⟨rfl, hi, hb, hk⟩; refine ⟨_, rfl, ?_⟩; have n0_ := Aside0.mk (Kd.Q_mono (Kd.Q_keep (IsS100.apartQ (show IsS100 w0 _ g s0_0 t257 from by repeat (first | (with_reducible first | exact HI0.out | apply IsS100.alloc | apply IsS100.drewN | apply IsS100.drew | apply IsS100.set_1) | exact HI0.out)) (by (with_reducible repeat (first | apply Kd.Q_alloc | apply Kd.Q_drewN | apply Kd.Q_drew)); exact HO_7.out) (by decide)) hk (fun _ h => h.2)) (fun _ h => h.1)); have n1_ := Aside0.mk (KeepBut.trans (by repeat (first | (with_reducible first | exact HK.out | apply KeepBut.set_ | apply keep_drewN | apply keep_drew | apply keep_alloc) | exact HK.out)) hk (.inl rfl)); have n2_ := Aside0.mk (hb); have n3_ := Aside0.mk (hi); clear HO_7; clear HK; clear HB; clear HI0; have HO_7 := n0_; have HK := n1_; have HB := n2_; have HI0 := n3_; clear n0_ n1_ n2_ n3_; (try clear hb); (try clear hb2); (try clear hk); (try clear hi)) | ((with_reducible refine gate_callee (f := 45) rfl ?_); refine goesL_ (some 59) rfl rfl Try.func45 (by kernel_rfl) rfl #[.pointer (some ⟨g, 0, none⟩), .int .i64 1] rfl (by (try simp only [List.map_toArray, List.map_cons, List.map_nil]); first | done | rfl | (simp only [List.length_drop, List.length_take]; rfl)) ?_; (with_reducible refine (spec_l20Size.calls kj32 g s0_0 t259 1 t272 t273 w0 _ ?side1 ?side2 A64.out).mono ?_); (case side1 => repeat (first | (with_reducible first | exact HI0.out | apply IsS100.alloc | apply IsS100.drewN | apply IsS100.drew | apply IsS100.set_1) | exact HI0.out)); (case side2 => repeat (first | (with_reducible first | exact HB.out | apply below_alloc | apply pw_below_drewN | apply below_drew1 | refine below_set ?_ (IsS100.ge HI0.out)) | exact HB.out)); rintro e w67 ⟨rfl, hi, hb, hk⟩; refine ⟨_, rfl, ?_⟩; have n0_ := Aside0.mk (Kd.Q_mono (Kd.Q_keep (IsS100.apartQ (show IsS100 w0 _ g s0_0 t259 from by repeat (first | (with_reducible first | exact HI0.out | apply IsS100.alloc | apply IsS100.drewN | apply IsS100.drew | apply IsS100.set_1) | exact HI0.out)) (by (with_reducible repeat (first | apply Kd.Q_alloc | apply Kd.Q_drewN | apply Kd.Q_drew)); exact HO_7.out) (by decide)) hk (fun _ h => h.2)) (fun _ h => h.1)); have n1_ := Aside0.mk (KeepBut.trans (by repeat (first | (with_reducible first | exact HK.out | apply KeepBut.set_ | apply keep_drewN | apply keep_drew | apply keep_alloc) | exact HK.out)) hk (.inl rfl)); have n2_ := Aside0.mk (hb); have n3_ := Aside0.mk (hi); clear HO_7; clear HK; clear HB; clear HI0; have HO_7 := n0_; have HK := n1_; have HB := n2_; have HI0 := n3_; clear n0_ n1_ n2_ n3_; (try clear hb); (try clear hb2); (try clear hk); (try clear hi)))
                      go_ret2
                      exact ⟨_, by first | rfl | (simp [errW_none, errW_some] <;> rfl) | (simp [*, errW_none, errW_some] <;> rfl), by (with_reducible repeat (first | apply Kd.Q_alloc | apply Kd.Q_drewN | apply Kd.Q_drew)); exact HO_7.out, by repeat (first | (with_reducible first | exact HI0.out | apply IsS100.alloc | apply IsS100.drewN | apply IsS100.drew | apply IsS100.set_1) | exact HI0.out), by repeat (first | (with_reducible first | exact HB.out | apply below_alloc | apply pw_below_drewN | apply below_drew1 | refine below_set ?_ (IsS100.ge HI0.out)) | exact HB.out), by repeat (first | (with_reducible first | exact HK.out | apply KeepBut.set_ | apply keep_drewN | apply keep_drew | apply keep_alloc) | exact HK.out)⟩
                · replace c38 := Bool.eq_false_iff.mpr c38
                  subst c38
                  have H1 : (some (x7_32, t233, t257)) = some (r1, r2, r3) := by rw [if_neg (show ¬ (false = true) by decide)] at H; exact H
                  clear H
                  have H := H1
                  clear H1
                  simp only [Option.some.injEq, Prod.mk.injEq] at H
                  obtain ⟨rfl, rfl, rfl⟩ := H
                  go_wp2_with (first | ((with_reducible refine gate_callee (f := 47) rfl ?_); refine goesL_ (some 55) rfl rfl Try.func47 (by kernel_rfl) rfl #[.pointer (some ⟨g, 0, none⟩), .int .i64 a1] rfl (by (try simp only [List.map_toArray, List.map_cons, List.map_nil]); first | done | rfl | (simp only [List.length_drop, List.length_take]; rfl)) ?_; (with_reducible refine (spec_l20Rd_odd.calls kj32 g s0_0 x1001_28 a1 false t257 w0 _ ?side1 ?side2 A37.out).mono ?_); (case side1 => repeat (first | (with_reducible first | exact HI0.out | apply IsS100.alloc | apply IsS100.drewN | apply IsS100.drew | apply IsS100.set_1) | exact HI0.out)); (case side2 => repeat (first | (with_reducible first | exact HB.out | apply below_alloc | apply pw_below_drewN | apply below_drew1 | refine below_set ?_ (IsS100.ge HI0.out)) | exact HB.out)); rintro e w68 ⟨rfl, hi, hb, hk⟩; refine ⟨_, rfl, ?_⟩; have n0_ := Aside0.mk (Kd.Q_mono (Kd.Q_keep (IsS100.apartQ (show IsS100 w0 _ g s0_0 x1001_28 from by repeat (first | (with_reducible first | exact HI0.out | apply IsS100.alloc | apply IsS100.drewN | apply IsS100.drew | apply IsS100.set_1) | exact HI0.out)) (by (with_reducible repeat (first | apply Kd.Q_alloc | apply Kd.Q_drewN | apply Kd.Q_drew)); exact HO_7.out) (by decide)) hk (fun _ h => h.2)) (fun _ h => h.1)); have n1_ := Aside0.mk (KeepBut.trans (by repeat (first | (with_reducible first | exact HK.out | apply KeepBut.set_ | apply keep_drewN | apply keep_drew | apply keep_alloc) | exact HK.out)) hk (.inl rfl)); have n2_ := Aside0.mk (hb); have n3_ := Aside0.mk (hi); clear HO_7; clear HK; clear HB; clear HI0; have HO_7 := n0_; have HK := n1_; have HB := n2_; have HI0 := n3_; clear n0_ n1_ n2_ n3_; (try clear hb); (try clear hb2); (try clear hk); (try clear hi)))
                  go_ret2
                  exact ⟨_, by first | rfl | (simp [errW_none, errW_some] <;> rfl) | (simp [*, errW_none, errW_some] <;> rfl), by (with_reducible repeat (first | apply Kd.Q_alloc | apply Kd.Q_drewN | apply Kd.Q_drew)); exact HO_7.out, by repeat (first | (with_reducible first | exact HI0.out | apply IsS100.alloc | apply IsS100.drewN | apply IsS100.drew | apply IsS100.set_1) | exact HI0.out), by repeat (first | (with_reducible first | exact HB.out | apply below_alloc | apply pw_below_drewN | apply below_drew1 | refine below_set ?_ (IsS100.ge HI0.out)) | exact HB.out), by repeat (first | (with_reducible first | exact HK.out | apply KeepBut.set_ | apply keep_drewN | apply keep_drew | apply keep_alloc) | exact HK.out)⟩
def spec_DrawCageRules.f (k : Nat) (l0 : List Int) : Option (List Int × Int × List Int × Bool) := (spec_l20Open.f l0).bind fun bt274 => ((spec_l20Regions.f k bt274.1 bt274.2 9).bind fun bt277 => ((spec_l20Solved.f k bt274.1 bt277.2.2 (mx 2 (mn 4 bt277.2.1))).bind fun bt282 => ((spec_l20Rd_odd.f k bt274.1 bt282.2 12).bind fun bt286 => (if bt286.1 = true then (if 0 < (bt282.1.length : Int) then ((spec_l20Rd_pick.f k bt274.1 bt286.2 2).bind fun bt289 => (some ((bt282.1.set (0 : Int).toNat 0), bt277.2.1, bt277.1, (bt289.1 == 0)))) else (none)) else ((spec_l20Rd_pick.f k bt274.1 bt286.2 2).bind fun bt291 => (some (bt282.1, bt277.2.1, bt277.1, (bt291.1 == 0))))))))
set_option maxHeartbeats 8000000 in
set_option maxRecDepth 100000 in
theorem spec_DrawCageRules.calls (k : Nat) (A0 : Option Addr) (c0 : Nat) (l0 : List Int) (r1 : List Int) (r2 : Int) (r3 : List Int) (r4 : Bool) (w : World) (hr0 : Kd.C (Kd.int .u8) w A0 l0.length l0) (hc0 : l0.length ≤ c0) (h : spec_DrawCageRules.f k l0 = some (r1, r2, r3, r4)) :
    Calls Try.prog 21 #[.slice A0 l0.length c0] w fun e w' => ∃ v0_ v2_ : Value, e = .returned (.tuple #[v0_, .int .i64 r2, v2_, .bool r4]) ∧ Kd.R (Kd.int .i64) 3 w' w.heap.size (fun k_ => some k_ ≠ (v2_ : Value).ownBlock) v0_ r1 ∧ Kd.Q (Kd.int .i64) 3 w' w.heap.size (fun k_ => some k_ ≠ (v0_ : Value).ownBlock) v2_ r3 ∧ Below w.heap.size w w' := by
  have HR0 := Aside0.mk hr0
  have HC0 := Aside0.mk hc0
  clear hr0 hc0
  have HB := Aside0.mk (Below.refl w.heap.size w)
  have H : ((spec_l20Open.f l0).bind fun bt274 => ((spec_l20Regions.f k bt274.1 bt274.2 9).bind fun bt277 => ((spec_l20Solved.f k bt274.1 bt277.2.2 (mx 2 (mn 4 bt277.2.1))).bind fun bt282 => ((spec_l20Rd_odd.f k bt274.1 bt282.2 12).bind fun bt286 => (if bt286.1 = true then (if 0 < (bt282.1.length : Int) then ((spec_l20Rd_pick.f k bt274.1 bt286.2 2).bind fun bt289 => (some ((bt282.1.set (0 : Int).toNat 0), bt277.2.1, bt277.1, (bt289.1 == 0)))) else (none)) else ((spec_l20Rd_pick.f k bt274.1 bt286.2 2).bind fun bt291 => (some (bt282.1, bt277.2.1, bt277.1, (bt291.1 == 0))))))))) = some (r1, r2, r3, r4) := h
  clear h
  replace H := Option.bind_eq_some_iff.mp H
  obtain ⟨⟨t274, t275⟩, A20, H⟩ := H
  replace H : ((spec_l20Regions.f k t274 t275 9).bind fun bt277 => ((spec_l20Solved.f k t274 bt277.2.2 (mx 2 (mn 4 bt277.2.1))).bind fun bt282 => ((spec_l20Rd_odd.f k t274 bt282.2 12).bind fun bt286 => (if bt286.1 = true then (if 0 < (bt282.1.length : Int) then ((spec_l20Rd_pick.f k t274 bt286.2 2).bind fun bt289 => (some ((bt282.1.set (0 : Int).toNat 0), bt277.2.1, bt277.1, (bt289.1 == 0)))) else (none)) else ((spec_l20Rd_pick.f k t274 bt286.2 2).bind fun bt291 => (some (bt282.1, bt277.2.1, bt277.1, (bt291.1 == 0)))))))) = some (r1, r2, r3, r4) := H
  have A2 := Aside0.mk A20
  clear A20
  replace H := Option.bind_eq_some_iff.mp H
  obtain ⟨⟨t277, t280, t281⟩, A30, H⟩ := H
  replace H : ((spec_l20Solved.f k t274 t281 (mx 2 (mn 4 t280))).bind fun bt282 => ((spec_l20Rd_odd.f k t274 bt282.2 12).bind fun bt286 => (if bt286.1 = true then (if 0 < (bt282.1.length : Int) then ((spec_l20Rd_pick.f k t274 bt286.2 2).bind fun bt289 => (some ((bt282.1.set (0 : Int).toNat 0), t280, t277, (bt289.1 == 0)))) else (none)) else ((spec_l20Rd_pick.f k t274 bt286.2 2).bind fun bt291 => (some (bt282.1, t280, t277, (bt291.1 == 0))))))) = some (r1, r2, r3, r4) := H
  have A3 := Aside0.mk A30
  clear A30
  obtain ⟨ji4, hji4⟩ : ∃ j_ : Int, (mn 4 t280) = j_ := ⟨_, rfl⟩
  replace H : ((spec_l20Solved.f k t274 t281 (mx 2 (ji4))).bind fun bt282 => ((spec_l20Rd_odd.f k t274 bt282.2 12).bind fun bt286 => (if bt286.1 = true then (if 0 < (bt282.1.length : Int) then ((spec_l20Rd_pick.f k t274 bt286.2 2).bind fun bt289 => (some ((bt282.1.set (0 : Int).toNat 0), t280, t277, (bt289.1 == 0)))) else (none)) else ((spec_l20Rd_pick.f k t274 bt286.2 2).bind fun bt291 => (some (bt282.1, t280, t277, (bt291.1 == 0))))))) = some (r1, r2, r3, r4) := by first | (rw [hji4] at H; exact H) | (simp only [hji4] at H ⊢; exact H)
  (try rw [hji4] at A2)
  (try rw [hji4] at A3)
  (try (have hji4h : ji4 ≤ 4 := by (rw [← hji4]; unfold mn; (repeat' split) <;> omega)))
  (try (have hji4g : ji4 ≤ 64 := by omega))
  have hji4_ : (if t280 < 4 then t280 else 4) = ji4 := hji4
  obtain ⟨ji5, hji5⟩ : ∃ j_ : Int, (mx 2 (ji4)) = j_ := ⟨_, rfl⟩
  replace H : ((spec_l20Solved.f k t274 t281 (ji5)).bind fun bt282 => ((spec_l20Rd_odd.f k t274 bt282.2 12).bind fun bt286 => (if bt286.1 = true then (if 0 < (bt282.1.length : Int) then ((spec_l20Rd_pick.f k t274 bt286.2 2).bind fun bt289 => (some ((bt282.1.set (0 : Int).toNat 0), t280, t277, (bt289.1 == 0)))) else (none)) else ((spec_l20Rd_pick.f k t274 bt286.2 2).bind fun bt291 => (some (bt282.1, t280, t277, (bt291.1 == 0))))))) = some (r1, r2, r3, r4) := by first | (rw [hji5] at H; exact H) | (simp only [hji5] at H ⊢; exact H)
  (try rw [hji5] at A2)
  (try rw [hji5] at A3)
  have hji5_ : (if 2 < (ji4) then (ji4) else 2) = ji5 := hji5
  replace H := Option.bind_eq_some_iff.mp H
  obtain ⟨⟨t282, t285⟩, A60, H⟩ := H
  replace H : ((spec_l20Rd_odd.f k t274 t285 12).bind fun bt286 => (if bt286.1 = true then (if 0 < (t282.length : Int) then ((spec_l20Rd_pick.f k t274 bt286.2 2).bind fun bt289 => (some ((t282.set (0 : Int).toNat 0), t280, t277, (bt289.1 == 0)))) else (none)) else ((spec_l20Rd_pick.f k t274 bt286.2 2).bind fun bt291 => (some (t282, t280, t277, (bt291.1 == 0)))))) = some (r1, r2, r3, r4) := H
  have A6 := Aside0.mk A60
  clear A60
  replace H := Option.bind_eq_some_iff.mp H
  obtain ⟨⟨t286, t287⟩, A70, H⟩ := H
  replace H : (if t286 = true then (if 0 < (t282.length : Int) then ((spec_l20Rd_pick.f k t274 t287 2).bind fun bt289 => (some ((t282.set (0 : Int).toNat 0), t280, t277, (bt289.1 == 0)))) else (none)) else ((spec_l20Rd_pick.f k t274 t287 2).bind fun bt291 => (some (t282, t280, t277, (bt291.1 == 0))))) = some (r1, r2, r3, r4) := H
  have A7 := Aside0.mk A70
  clear A70
  by_cases c8 : t286 = true
  · subst c8
    have H1 : (if 0 < (t282.length : Int) then ((spec_l20Rd_pick.f k t274 t287 2).bind fun bt289 => (some ((t282.set (0 : Int).toNat 0), t280, t277, (bt289.1 == 0)))) else (none)) = some (r1, r2, r3, r4) := by rw [if_pos rfl] at H; exact H
    clear H
    have H := H1
    clear H1
    by_cases c9 : 0 < (t282.length : Int)
    · rw [if_pos c9] at H
      have c9b0 : decide (0 < (t282.length : Int)) = true := decide_eq_true c9
      have c9b1 : decide (0 < t282.length) = true := decide_eq_true (by omega)
      clear c9
      obtain ⟨y288, hy288⟩ : ∃ y_ : List Int, y_ = (t282.set (0 : Int).toNat 0) := ⟨_, rfl⟩
      replace H : ((spec_l20Rd_pick.f k t274 t287 2).bind fun bt289 => (some (y288, t280, t277, (bt289.1 == 0)))) = some (r1, r2, r3, r4) := by first | (rw [hy288]; with_reducible exact H) | (have H2_ := (Option.bind_some _ _).symm.trans H; rw [hy288]; with_reducible exact H2_) | (have H2_ := (Option.bind_some _ _).symm.trans H; with_reducible exact H2_) | with_reducible exact H | (rw [hy288]; exact H) | exact H
      have Ny288 := Aside0.mk hy288
      clear hy288
      replace H := Option.bind_eq_some_iff.mp H
      obtain ⟨⟨t289, t290⟩, A110, H⟩ := H
      replace H : (some (y288, t280, t277, (t289 == 0))) = some (r1, r2, r3, r4) := H
      have A11 := Aside0.mk A110
      clear A110
      simp only [Option.some.injEq, Prod.mk.injEq] at H
      obtain ⟨rfl, rfl, rfl, rfl⟩ := H
      go_enter Try.func21, Try.ntmps21
      go_wp2_with (first | ((with_reducible refine gate_callee (f := 44) rfl ?_); refine goesL_ (some 12) rfl rfl Try.func44 (by kernel_rfl) rfl #[.slice A0 l0.length c0] rfl (by (try simp only [List.map_toArray, List.map_cons, List.map_nil]); first | done | rfl | (simp only [List.length_drop, List.length_take]; rfl)) ?_; (with_reducible refine (spec_l20Open.calls _ _ l0 t274 t275 w _ ?side1 ?side2 ?side3 A2.out).mono ?_); (case side1 => repeat (first | (with_reducible first | exact HB.out | apply below_alloc | apply pw_below_drewN | apply below_drew1) | exact HB.out)); (case side2 => exact HR0.out); (case side3 => exact HC0.out); rintro e w12 ⟨g276, rfl, hi, hb, hb2⟩; refine ⟨_, rfl, ?_⟩; have n0_ := Aside0.mk (hb); have n1_ := Aside0.mk (hi); clear HB; have HB := n0_; have HI276 := n1_; clear n0_ n1_; (try clear hb); (try clear hb2); (try clear hk); (try clear hi)) | ((with_reducible refine gate_callee (f := 61) rfl ?_); refine goesL_ (some 15) rfl rfl Try.func61 (by kernel_rfl) rfl #[.pointer (some ⟨g276, 0, none⟩), .int .i64 9] rfl (by (try simp only [List.map_toArray, List.map_cons, List.map_nil]); first | done | rfl | (simp only [List.length_drop, List.length_take]; rfl)) ?_; (with_reducible refine (spec_l20Regions.calls k g276 t274 t275 9 t277 t280 t281 w _ ?side1 ?side2 A3.out).mono ?_); (case side1 => repeat (first | (with_reducible first | exact HI276.out | apply IsS100.alloc | apply IsS100.drewN | apply IsS100.drew | apply IsS100.set_1) | exact HI276.out)); (case side2 => repeat (first | (with_reducible first | exact HB.out | apply below_alloc | apply pw_below_drewN | apply below_drew1 | refine below_set ?_ (IsS100.ge HI276.out)) | exact HB.out)); rintro e w13 ⟨v278, rfl, ho0, hi, hb, hk⟩; refine ⟨_, rfl, ?_⟩; have n0_ := Aside0.mk (Kd.Q_lower ho0 (below_size (by repeat (first | (with_reducible first | exact HB.out | apply below_alloc | apply pw_below_drewN | apply below_drew1 | refine below_set ?_ (IsS100.ge HI276.out)) | exact HB.out)))); have n1_ := Aside0.mk (hb); have n2_ := Aside0.mk (hi); clear HB; clear HI276; have HO279 := n0_; have HB := n1_; have HI276 := n2_; clear n0_ n1_ n2_; (try clear hb); (try clear hb2); (try clear hk); (try clear hi); (try clear ho0)) | ((with_reducible refine gate_callee (f := 46) rfl ?_); refine goesL_ (some 23) rfl rfl Try.func46 (by kernel_rfl) rfl #[.pointer (some ⟨g276, 0, none⟩), .int .i64 ji5] rfl (by (try simp only [List.map_toArray, List.map_cons, List.map_nil]); first | done | (simp only [hji5]; rfl) | rfl | (simp only [List.length_drop, List.length_take]; rfl)) ?_; (with_reducible refine (spec_l20Solved.calls k g276 t274 t281 ji5 t282 t285 w _ ?side1 ?side2 A6.out).mono ?_); (case side1 => repeat (first | (with_reducible first | exact HI276.out | apply IsS100.alloc | apply IsS100.drewN | apply IsS100.drew | apply IsS100.set_1) | exact HI276.out)); (case side2 => repeat (first | (with_reducible first | exact HB.out | apply below_alloc | apply pw_below_drewN | apply below_drew1 | refine below_set ?_ (IsS100.ge HI276.out)) | exact HB.out)); rintro e w14 ⟨v283, rfl, ho0, hi, hb, hk⟩; refine ⟨_, rfl, ?_⟩; have n0_ := Aside0.mk (Kd.Q_mono (Kd.Q_told (Kd.Q_oldK (IsS100.apartQ (show IsS100 w _ g276 t274 t281 from by repeat (first | (with_reducible first | exact HI276.out | apply IsS100.alloc | apply IsS100.drewN | apply IsS100.drew | apply IsS100.set_1) | exact HI276.out)) (by (with_reducible repeat (first | apply Kd.Q_alloc | apply Kd.Q_drewN | apply Kd.Q_drew)); exact HO279.out) (by decide)) hk) (Kd.R_base ho0)) (fun _ h_ => h_.1)); have n1_ := Aside0.mk (Kd.R_lower (Kd.R_new' ho0 (Kd.Q_lt (by (with_reducible repeat (first | apply Kd.Q_alloc | apply Kd.Q_drewN | apply Kd.Q_drew)); exact HO279.out))) (below_size (by repeat (first | (with_reducible first | exact HB.out | apply below_alloc | apply pw_below_drewN | apply below_drew1 | refine below_set ?_ (IsS100.ge HI276.out)) | exact HB.out)))); have n2_ := Aside0.mk (hb); have n3_ := Aside0.mk (hi); clear HO279; clear HB; clear HI276; have HO279 := n0_; have HO284 := n1_; have HB := n2_; have HI276 := n3_; clear n0_ n1_ n2_ n3_; (try clear hb); (try clear hb2); (try clear hk); (try clear hi); (try clear ho0)) | ((with_reducible refine gate_callee (f := 47) rfl ?_); refine goesL_ (some 25) rfl rfl Try.func47 (by kernel_rfl) rfl #[.pointer (some ⟨g276, 0, none⟩), .int .i64 12] rfl (by (try simp only [List.map_toArray, List.map_cons, List.map_nil]); first | done | rfl | (simp only [List.length_drop, List.length_take]; rfl)) ?_; (with_reducible refine (spec_l20Rd_odd.calls k g276 t274 t285 12 true t287 w _ ?side1 ?side2 A7.out).mono ?_); (case side1 => repeat (first | (with_reducible first | exact HI276.out | apply IsS100.alloc | apply IsS100.drewN | apply IsS100.drew | apply IsS100.set_1) | exact HI276.out)); (case side2 => repeat (first | (with_reducible first | exact HB.out | apply below_alloc | apply pw_below_drewN | apply below_drew1 | refine below_set ?_ (IsS100.ge HI276.out)) | exact HB.out)); rintro e w15 ⟨rfl, hi, hb, hk⟩; refine ⟨_, rfl, ?_⟩; have n0_ := Aside0.mk (Kd.Q_mono (Kd.Q_keep (IsS100.apartQ (show IsS100 w _ g276 t274 t285 from by repeat (first | (with_reducible first | exact HI276.out | apply IsS100.alloc | apply IsS100.drewN | apply IsS100.drew | apply IsS100.set_1) | exact HI276.out)) (by (with_reducible repeat (first | apply Kd.Q_alloc | apply Kd.Q_drewN | apply Kd.Q_drew)); exact HO279.out) (by decide)) hk (fun _ h => h.2)) (fun _ h => h.1)); have n1_ := Aside0.mk (Kd.R_mono (Kd.R_keep (IsS100.apart (show IsS100 w _ g276 t274 t285 from by repeat (first | (with_reducible first | exact HI276.out | apply IsS100.alloc | apply IsS100.drewN | apply IsS100.drew | apply IsS100.set_1) | exact HI276.out)) (by (with_reducible repeat (first | apply Kd.R_alloc | apply Kd.R_drewN | apply Kd.R_drew)); exact HO284.out) (by decide)) hk (fun _ h => h.2)) (fun _ h => h.1)); have n2_ := Aside0.mk (hb); have n3_ := Aside0.mk (hi); clear HO279; clear HO284; clear HB; clear HI276; have HO279 := n0_; have HO284 := n1_; have HB := n2_; have HI276 := n3_; clear n0_ n1_ n2_ n3_; (try clear hb); (try clear hb2); (try clear hk); (try clear hi); have p10 : 0 ≤ (0 : Int) := (by omega); have q10 : (0 : Int) < ((t282.length : Int) : Int) := of_decide_eq_true (by first | (with_reducible assumption) | assumption); have qi10 : (0 < t282.length) = True := eq_true (by omega); obtain ⟨go10, co10, eo10, gb10, gl10, cl10, HG10⟩ := Kd.R_form HO284.out (by omega); (first | cases eo10 | (injection eo10 with ea_ en_ ec_; (first | subst ea_ | (injection ea_ with ea_; subst ea_)); subst ec_; clear en_)); have GB10 := Aside0.mk gb10; have GG10 := Aside0.mk HG10; clear gb10 gl10 HG10; obtain ⟨hx10_0, hf10_0⟩ := Kd.R_celln 0 HO284.out (0 : Int) p10 q10; (try rw [show ((0 : Int)).toNat = 0 from rfl] at hx10_0); (try simp only [Nat.reduceMul, Nat.zero_mul, Nat.zero_add, Nat.reduceAdd] at hx10_0); (try rw [show ((0 : Int)).toNat = 0 from rfl] at hf10_0); (try simp only [Nat.reduceMul, Nat.zero_mul, Nat.zero_add, Nat.reduceAdd] at hf10_0); replace p10 := eq_true p10; replace q10 := eq_true q10; have n_ := Aside0.mk (Kd.R_mono (ok' := (fun k_ => some k_ ≠ (v278 : Value).ownBlock)) HO284.out (fun k_ hk => hk.2)); clear HO284; have HO284 := n_; clear n_; obtain ⟨hy16_, hz16_⟩ := Kd.R_celln 0 HO284.out (0 : Int) (by omega) (of_decide_eq_true (by first | (with_reducible assumption) | assumption)); (try simp only [Int.reduceToNat, Int.toNat_zero, Int.toNat_ofNat, Nat.reduceMul, Nat.zero_mul, Nat.zero_add] at hy16_ hz16_); (try rw [show ((0 : Int)).toNat = 0 from rfl] at hy16_); (try rw [show ((0 : Int)).toNat = 0 from rfl] at hz16_); have HP16 := Kd.R_putg HO284.out (0 : Int) 0) | ((with_reducible refine gate_store (t := 3) (p := 27) rfl ?_); refine store_event (t := 3) (p := 27) (v := ?vo_w17) (w1 := (w15.setCell ⟨go10, (0 : Int).toNat, none⟩ (.int .i64 0))) ?hg ?ho ?hn ?hr ?_; (case ho => rfl); (case hg => rfl); (case hn => rfl); (case hr => first | (go_simp; done) | (go_simp; rfl)); intro w17 hw; have hg : w15.grownBy w17 (some go10) := (by rw [hw]; exact HP16.2); have hp_ : Kd.R (Kd.int .i64) 3 w17 w.heap.size (fun k_ => some k_ ≠ (v278 : Value).ownBlock) (.slice (some ⟨go10, 0, none⟩) t282.length co10) y288 := (by rw [hw, Ny288.out]; exact HP16.1); clear HP16; have n0_ := Aside0.mk (IsS100.grown (by repeat (first | (with_reducible first | exact HI276.out | apply IsS100.alloc | apply IsS100.drewN | apply IsS100.drew | apply IsS100.set_1) | exact HI276.out)) hg (IsS100.own_ne HI276.out HO284.out (by decide))); have n1_ := Aside0.mk (Kd.Q_after (v := (.slice (some ⟨go10, 0, none⟩) t282.length co10)) (v1 := (.slice (some ⟨go10, 0, none⟩) t282.length co10)) (ok := (fun _ => True)) (by (with_reducible repeat (first | apply Kd.Q_alloc | apply Kd.Q_drewN | apply Kd.Q_drew)); exact HO279.out) hg (.inl rfl)); have n2_ := Aside0.mk (hp_); have n3_ := Aside0.mk ((by rw [hw]; exact below_set (HB.out) GB10.out : Below w.heap.size w w17)); clear HI276; clear HO279; clear HO284; clear HB; have HI276 := n0_; have HO279 := n1_; have HO284 := n2_; have HB := n3_; clear n0_ n1_ n2_ n3_; clear hg hw hp_) | ((with_reducible refine gate_callee (f := 49) rfl ?_); refine goesL_ (some 32) rfl rfl Try.func49 (by kernel_rfl) rfl #[.pointer (some ⟨g276, 0, none⟩), .int .i64 2] rfl (by (try simp only [List.map_toArray, List.map_cons, List.map_nil]); first | done | rfl | (simp only [List.length_drop, List.length_take]; rfl)) ?_; (with_reducible refine (spec_l20Rd_pick.calls k g276 t274 t287 2 t289 t290 w _ ?side1 ?side2 A11.out).mono ?_); (case side1 => repeat (first | (with_reducible first | exact HI276.out | apply IsS100.alloc | apply IsS100.drewN | apply IsS100.drew | apply IsS100.set_1) | exact HI276.out)); (case side2 => repeat (first | (with_reducible first | exact HB.out | apply below_alloc | apply pw_below_drewN | apply below_drew1 | refine below_set ?_ (IsS100.ge HI276.out)) | exact HB.out)); rintro e w18 ⟨rfl, hi, hb, hk⟩; refine ⟨_, rfl, ?_⟩; have n0_ := Aside0.mk (Kd.Q_mono (Kd.Q_keep (IsS100.apartQ (show IsS100 w _ g276 t274 t287 from by repeat (first | (with_reducible first | exact HI276.out | apply IsS100.alloc | apply IsS100.drewN | apply IsS100.drew | apply IsS100.set_1) | exact HI276.out)) (by (with_reducible repeat (first | apply Kd.Q_alloc | apply Kd.Q_drewN | apply Kd.Q_drew)); exact HO279.out) (by decide)) hk (fun _ h => h.2)) (fun _ h => h.1)); have n1_ := Aside0.mk (Kd.R_mono (Kd.R_keep (IsS100.apart (show IsS100 w _ g276 t274 t287 from by repeat (first | (with_reducible first | exact HI276.out | apply IsS100.alloc | apply IsS100.drewN | apply IsS100.drew | apply IsS100.set_1) | exact HI276.out)) (by (with_reducible repeat (first | apply Kd.R_alloc | apply Kd.R_drewN | apply Kd.R_drew)); exact HO284.out) (by decide)) hk (fun _ h => h.2)) (fun _ h => h.1)); have n2_ := Aside0.mk (hb); have n3_ := Aside0.mk (hi); clear HO279; clear HO284; clear HB; clear HI276; have HO279 := n0_; have HO284 := n1_; have HB := n2_; have HI276 := n3_; clear n0_ n1_ n2_ n3_; (try clear hb); (try clear hb2); (try clear hk); (try clear hi)))
      refine bodyPost_ret (results_list (rs := [.tmp 2, .tmp 3, .tmp 4, .tmp 5]) rfl (by simp) (.tmp (.tmp (.tmp (.tmp .nil))))) rfl ?_
      exact ⟨_, _, by first | rfl | (simp [errW_none, errW_some] <;> rfl) | (simp only [← hji4, ← hji5]; first | rfl | (simp [errW_none, errW_some] <;> rfl)) | (simp [*, errW_none, errW_some] <;> rfl), by (with_reducible repeat (first | apply Kd.R_alloc | apply Kd.R_drewN | apply Kd.R_drew)); exact HO284.out, by (with_reducible repeat (first | apply Kd.Q_alloc | apply Kd.Q_drewN | apply Kd.Q_drew)); exact Kd.Q_mono HO279.out (fun _ hk => hk.2), by repeat (first | (with_reducible first | exact HB.out | apply below_alloc | apply pw_below_drewN | apply below_drew1 | refine below_set ?_ (IsS100.ge HI276.out)) | exact HB.out)⟩
    · rw [if_neg c9] at H
      exact absurd H (by simp)
  · replace c8 := Bool.eq_false_iff.mpr c8
    subst c8
    have H1 : ((spec_l20Rd_pick.f k t274 t287 2).bind fun bt291 => (some (t282, t280, t277, (bt291.1 == 0)))) = some (r1, r2, r3, r4) := by rw [if_neg (show ¬ (false = true) by decide)] at H; exact H
    clear H
    have H := H1
    clear H1
    replace H := Option.bind_eq_some_iff.mp H
    obtain ⟨⟨t291, t292⟩, A190, H⟩ := H
    replace H : (some (t282, t280, t277, (t291 == 0))) = some (r1, r2, r3, r4) := H
    have A19 := Aside0.mk A190
    clear A190
    simp only [Option.some.injEq, Prod.mk.injEq] at H
    obtain ⟨rfl, rfl, rfl, rfl⟩ := H
    go_enter Try.func21, Try.ntmps21
    go_wp2_with (first | ((with_reducible refine gate_callee (f := 44) rfl ?_); refine goesL_ (some 12) rfl rfl Try.func44 (by kernel_rfl) rfl #[.slice A0 l0.length c0] rfl (by (try simp only [List.map_toArray, List.map_cons, List.map_nil]); first | done | rfl | (simp only [List.length_drop, List.length_take]; rfl)) ?_; (with_reducible refine (spec_l20Open.calls _ _ l0 t274 t275 w _ ?side1 ?side2 ?side3 A2.out).mono ?_); (case side1 => repeat (first | (with_reducible first | exact HB.out | apply below_alloc | apply pw_below_drewN | apply below_drew1) | exact HB.out)); (case side2 => exact HR0.out); (case side3 => exact HC0.out); rintro e w20 ⟨g276, rfl, hi, hb, hb2⟩; refine ⟨_, rfl, ?_⟩; have n0_ := Aside0.mk (hb); have n1_ := Aside0.mk (hi); clear HB; have HB := n0_; have HI276 := n1_; clear n0_ n1_; (try clear hb); (try clear hb2); (try clear hk); (try clear hi)) | ((with_reducible refine gate_callee (f := 61) rfl ?_); refine goesL_ (some 15) rfl rfl Try.func61 (by kernel_rfl) rfl #[.pointer (some ⟨g276, 0, none⟩), .int .i64 9] rfl (by (try simp only [List.map_toArray, List.map_cons, List.map_nil]); first | done | rfl | (simp only [List.length_drop, List.length_take]; rfl)) ?_; (with_reducible refine (spec_l20Regions.calls k g276 t274 t275 9 t277 t280 t281 w _ ?side1 ?side2 A3.out).mono ?_); (case side1 => repeat (first | (with_reducible first | exact HI276.out | apply IsS100.alloc | apply IsS100.drewN | apply IsS100.drew | apply IsS100.set_1) | exact HI276.out)); (case side2 => repeat (first | (with_reducible first | exact HB.out | apply below_alloc | apply pw_below_drewN | apply below_drew1 | refine below_set ?_ (IsS100.ge HI276.out)) | exact HB.out)); rintro e w21 ⟨v278, rfl, ho0, hi, hb, hk⟩; refine ⟨_, rfl, ?_⟩; have n0_ := Aside0.mk (Kd.Q_lower ho0 (below_size (by repeat (first | (with_reducible first | exact HB.out | apply below_alloc | apply pw_below_drewN | apply below_drew1 | refine below_set ?_ (IsS100.ge HI276.out)) | exact HB.out)))); have n1_ := Aside0.mk (hb); have n2_ := Aside0.mk (hi); clear HB; clear HI276; have HO279 := n0_; have HB := n1_; have HI276 := n2_; clear n0_ n1_ n2_; (try clear hb); (try clear hb2); (try clear hk); (try clear hi); (try clear ho0)) | ((with_reducible refine gate_callee (f := 46) rfl ?_); refine goesL_ (some 23) rfl rfl Try.func46 (by kernel_rfl) rfl #[.pointer (some ⟨g276, 0, none⟩), .int .i64 ji5] rfl (by (try simp only [List.map_toArray, List.map_cons, List.map_nil]); first | done | (simp only [hji5]; rfl) | rfl | (simp only [List.length_drop, List.length_take]; rfl)) ?_; (with_reducible refine (spec_l20Solved.calls k g276 t274 t281 ji5 t282 t285 w _ ?side1 ?side2 A6.out).mono ?_); (case side1 => repeat (first | (with_reducible first | exact HI276.out | apply IsS100.alloc | apply IsS100.drewN | apply IsS100.drew | apply IsS100.set_1) | exact HI276.out)); (case side2 => repeat (first | (with_reducible first | exact HB.out | apply below_alloc | apply pw_below_drewN | apply below_drew1 | refine below_set ?_ (IsS100.ge HI276.out)) | exact HB.out)); rintro e w22 ⟨v283, rfl, ho0, hi, hb, hk⟩; refine ⟨_, rfl, ?_⟩; have n0_ := Aside0.mk (Kd.Q_mono (Kd.Q_told (Kd.Q_oldK (IsS100.apartQ (show IsS100 w _ g276 t274 t281 from by repeat (first | (with_reducible first | exact HI276.out | apply IsS100.alloc | apply IsS100.drewN | apply IsS100.drew | apply IsS100.set_1) | exact HI276.out)) (by (with_reducible repeat (first | apply Kd.Q_alloc | apply Kd.Q_drewN | apply Kd.Q_drew)); exact HO279.out) (by decide)) hk) (Kd.R_base ho0)) (fun _ h_ => h_.1)); have n1_ := Aside0.mk (Kd.R_lower (Kd.R_new' ho0 (Kd.Q_lt (by (with_reducible repeat (first | apply Kd.Q_alloc | apply Kd.Q_drewN | apply Kd.Q_drew)); exact HO279.out))) (below_size (by repeat (first | (with_reducible first | exact HB.out | apply below_alloc | apply pw_below_drewN | apply below_drew1 | refine below_set ?_ (IsS100.ge HI276.out)) | exact HB.out)))); have n2_ := Aside0.mk (hb); have n3_ := Aside0.mk (hi); clear HO279; clear HB; clear HI276; have HO279 := n0_; have HO284 := n1_; have HB := n2_; have HI276 := n3_; clear n0_ n1_ n2_ n3_; (try clear hb); (try clear hb2); (try clear hk); (try clear hi); (try clear ho0)) | ((with_reducible refine gate_callee (f := 47) rfl ?_); refine goesL_ (some 25) rfl rfl Try.func47 (by kernel_rfl) rfl #[.pointer (some ⟨g276, 0, none⟩), .int .i64 12] rfl (by (try simp only [List.map_toArray, List.map_cons, List.map_nil]); first | done | rfl | (simp only [List.length_drop, List.length_take]; rfl)) ?_; (with_reducible refine (spec_l20Rd_odd.calls k g276 t274 t285 12 false t287 w _ ?side1 ?side2 A7.out).mono ?_); (case side1 => repeat (first | (with_reducible first | exact HI276.out | apply IsS100.alloc | apply IsS100.drewN | apply IsS100.drew | apply IsS100.set_1) | exact HI276.out)); (case side2 => repeat (first | (with_reducible first | exact HB.out | apply below_alloc | apply pw_below_drewN | apply below_drew1 | refine below_set ?_ (IsS100.ge HI276.out)) | exact HB.out)); rintro e w23 ⟨rfl, hi, hb, hk⟩; refine ⟨_, rfl, ?_⟩; have n0_ := Aside0.mk (Kd.Q_mono (Kd.Q_keep (IsS100.apartQ (show IsS100 w _ g276 t274 t285 from by repeat (first | (with_reducible first | exact HI276.out | apply IsS100.alloc | apply IsS100.drewN | apply IsS100.drew | apply IsS100.set_1) | exact HI276.out)) (by (with_reducible repeat (first | apply Kd.Q_alloc | apply Kd.Q_drewN | apply Kd.Q_drew)); exact HO279.out) (by decide)) hk (fun _ h => h.2)) (fun _ h => h.1)); have n1_ := Aside0.mk (Kd.R_mono (Kd.R_keep (IsS100.apart (show IsS100 w _ g276 t274 t285 from by repeat (first | (with_reducible first | exact HI276.out | apply IsS100.alloc | apply IsS100.drewN | apply IsS100.drew | apply IsS100.set_1) | exact HI276.out)) (by (with_reducible repeat (first | apply Kd.R_alloc | apply Kd.R_drewN | apply Kd.R_drew)); exact HO284.out) (by decide)) hk (fun _ h => h.2)) (fun _ h => h.1)); have n2_ := Aside0.mk (hb); have n3_ := Aside0.mk (hi); clear HO279; clear HO284; clear HB; clear HI276; have HO279 := n0_; have HO284 := n1_; have HB := n2_; have HI276 := n3_; clear n0_ n1_ n2_ n3_; (try clear hb); (try clear hb2); (try clear hk); (try clear hi)) | ((with_reducible refine gate_callee (f := 49) rfl ?_); refine goesL_ (some 32) rfl rfl Try.func49 (by kernel_rfl) rfl #[.pointer (some ⟨g276, 0, none⟩), .int .i64 2] rfl (by (try simp only [List.map_toArray, List.map_cons, List.map_nil]); first | done | rfl | (simp only [List.length_drop, List.length_take]; rfl)) ?_; (with_reducible refine (spec_l20Rd_pick.calls k g276 t274 t287 2 t291 t292 w _ ?side1 ?side2 A19.out).mono ?_); (case side1 => repeat (first | (with_reducible first | exact HI276.out | apply IsS100.alloc | apply IsS100.drewN | apply IsS100.drew | apply IsS100.set_1) | exact HI276.out)); (case side2 => repeat (first | (with_reducible first | exact HB.out | apply below_alloc | apply pw_below_drewN | apply below_drew1 | refine below_set ?_ (IsS100.ge HI276.out)) | exact HB.out)); rintro e w24 ⟨rfl, hi, hb, hk⟩; refine ⟨_, rfl, ?_⟩; have n0_ := Aside0.mk (Kd.Q_mono (Kd.Q_keep (IsS100.apartQ (show IsS100 w _ g276 t274 t287 from by repeat (first | (with_reducible first | exact HI276.out | apply IsS100.alloc | apply IsS100.drewN | apply IsS100.drew | apply IsS100.set_1) | exact HI276.out)) (by (with_reducible repeat (first | apply Kd.Q_alloc | apply Kd.Q_drewN | apply Kd.Q_drew)); exact HO279.out) (by decide)) hk (fun _ h => h.2)) (fun _ h => h.1)); have n1_ := Aside0.mk (Kd.R_mono (Kd.R_keep (IsS100.apart (show IsS100 w _ g276 t274 t287 from by repeat (first | (with_reducible first | exact HI276.out | apply IsS100.alloc | apply IsS100.drewN | apply IsS100.drew | apply IsS100.set_1) | exact HI276.out)) (by (with_reducible repeat (first | apply Kd.R_alloc | apply Kd.R_drewN | apply Kd.R_drew)); exact HO284.out) (by decide)) hk (fun _ h => h.2)) (fun _ h => h.1)); have n2_ := Aside0.mk (hb); have n3_ := Aside0.mk (hi); clear HO279; clear HO284; clear HB; clear HI276; have HO279 := n0_; have HO284 := n1_; have HB := n2_; have HI276 := n3_; clear n0_ n1_ n2_ n3_; (try clear hb); (try clear hb2); (try clear hk); (try clear hi)))
    refine bodyPost_ret (results_list (rs := [.tmp 2, .tmp 3, .tmp 4, .tmp 5]) rfl (by simp) (.tmp (.tmp (.tmp (.tmp .nil))))) rfl ?_
    exact ⟨_, _, by first | rfl | (simp [errW_none, errW_some] <;> rfl) | (simp only [← hji4, ← hji5]; first | rfl | (simp [errW_none, errW_some] <;> rfl)) | (simp [*, errW_none, errW_some] <;> rfl), by (with_reducible repeat (first | apply Kd.R_alloc | apply Kd.R_drewN | apply Kd.R_drew)); exact Kd.R_mono HO284.out (fun _ hk => hk.2), by (with_reducible repeat (first | apply Kd.Q_alloc | apply Kd.Q_drewN | apply Kd.Q_drew)); exact Kd.Q_mono HO279.out (fun _ hk => hk.2), by repeat (first | (with_reducible first | exact HB.out | apply below_alloc | apply pw_below_drewN | apply below_drew1 | refine below_set ?_ (IsS100.ge HI276.out)) | exact HB.out)⟩
end Go.Proofs.Ytbcikbekdhdpaaa.Q
end
section
namespace Go.Proofs.Ytbcikbekdhdpaaa.Q
open Go.RowKit Go.Proofs.YtbcikbekdhdpaaaW.PrintWords Go.Proofs.YtbcikbekdhdpaaaW.PrintLast Go.Proofs.YtbcikbekdhdpaaaW.PrintMore
attribute [local go_sem] max2_int min2_int max_two min_two max_three min_three max_four min_four   -- for this text's walks alone
set_option linter.unusedVariables false
set_option linter.unusedSimpArgs false
mutual
def impl_LineCells.j0 : Nat → Int → Int → Bool → Option (List Int)
  | 0, _, _, _ => none
  | k + 1, x0, x1, x19 => if x19 = true then (some ([] : List Int)) else (if 0 ≤ x0 then (if (x0 : Int).toNat ≤ 35184372088832 then (impl_LineCells.l0 k x0 x1 (([] : List Int)) x0 0) else (none)) else (none))
def impl_LineCells.l0 : Nat → Int → Int → List Int → Int → Int → Option (List Int)
  | 0, _, _, _, _, _ => none
  | k + 1, x0, x1, x5, x22, x23 => if x23 < x22 then (if x1 < x0 then (if x5.length < 17592186044416 then (impl_LineCells.l0 k x0 x1 (x5 ++ [wrap64 ((wrap64 (x1 * x0)) + x23)]) x22 (wrap64 (x23 + 1))) else (none)) else (if x5.length < 17592186044416 then (impl_LineCells.l0 k x0 x1 (x5 ++ [wrap64 ((wrap64 ((wrap64 (x23 * x0)) + x1)) - x0)]) x22 (wrap64 (x23 + 1))) else (none))) else (some x5)
end
def impl_LineCells.f (k : Nat) (a0 : Int) (a1 : Int) : Option (List Int) := (impl_sizeOk.f a0).bind fun t293 => (if t293 = true then (if a1 < 0 then (impl_LineCells.j0 k a0 a1 true) else (impl_LineCells.j0 k a0 a1 (decide (a1 ≥ (wrap64 (2 * a0)))))) else (impl_LineCells.j0 k a0 a1 true))
set_option maxHeartbeats 8000000 in
set_option maxRecDepth 100000 in
theorem impl_LineCells.calls (k : Nat) (a0 : Int) (a1 : Int) (r : List Int) (w : World) (h : impl_LineCells.f k a0 a1 = some r) :
    Calls Try.prog 110 #[.int .i64 a0, .int .i64 a1] w fun e w' => ∃ v0_ : Value, e = .returned (v0_) ∧ Kd.R (Kd.int .i64) 3 w' w.heap.size (fun _ => True) v0_ r ∧ Below w.heap.size w w' := by
  have HB := Aside0.mk (Below.refl w.heap.size w)
  have H : ((impl_sizeOk.f a0).bind fun t293 => (if t293 = true then (if a1 < 0 then (impl_LineCells.j0 k a0 a1 true) else (impl_LineCells.j0 k a0 a1 (decide (a1 ≥ (wrap64 (2 * a0)))))) else (impl_LineCells.j0 k a0 a1 true))) = some r := h
  clear h
  have HC3 := Aside0.mk H
  clear H
  go_enter Try.func110, Try.ntmps110
  go_upto_region 1 with (fail)
  go_cut [19] (fun v19 wc => ∃ (kq : Nat) (x19_2 : Bool), v19 = .bool x19_2 ∧ Aside0 (impl_LineCells.j0 kq a0 a1 x19_2 = some r) ∧ Aside0 (kq ≤ k) ∧ Aside0 (Below w.heap.size w wc))
  case first =>
    have H := HC3.out
    clear HC3
    replace H := Option.bind_eq_some_iff.mp H
    obtain ⟨t293, A40, H⟩ := H
    replace H : (if t293 = true then (if a1 < 0 then (impl_LineCells.j0 k a0 a1 true) else (impl_LineCells.j0 k a0 a1 (decide (a1 ≥ (wrap64 (2 * a0)))))) else (impl_LineCells.j0 k a0 a1 true)) = some r := H
    have A4 := Aside0.mk A40
    clear A40
    by_cases c5 : t293 = true
    · subst c5
      have H1 : (if a1 < 0 then (impl_LineCells.j0 k a0 a1 true) else (impl_LineCells.j0 k a0 a1 (decide (a1 ≥ (wrap64 (2 * a0)))))) = some r := by rw [if_pos rfl] at H; exact H
      clear H
      have H := H1
      clear H1
      by_cases c6 : a1 < 0
      · rw [if_pos c6] at H
        have c6b0 : decide (a1 < 0) = true := decide_eq_true c6
        clear c6
        (first | rw [c6b0] | (simp only [i64_w, i32_w]; rw [c6b0]) | skip)
        have H' := Aside0.mk H
        clear H
        go_wp2_with (first | ((with_reducible refine gate_callee (f := 93) rfl ?_); refine goesL_ (some 8) rfl rfl Try.func93 (by kernel_rfl) rfl #[.int .i64 a0] rfl (by (try simp only [List.map_toArray, List.map_cons, List.map_nil]); first | done | rfl | (simp only [List.length_drop, List.length_take]; rfl)) ?_; (with_reducible refine (impl_sizeOk.calls a0 true _ A4.out).mono ?_); rintro e w' ⟨rfl, ⟨nd, rfl⟩⟩; refine ⟨_, rfl, ?_⟩))
        go_meet
        case rel => exact ⟨_, (true), (by first | rfl | (simp; done) | (simp [*]; done)), H', ⟨by first | omega | exact Nat.le_refl _⟩, ⟨by repeat (first | (with_reducible first | exact HB.out | apply below_alloc | apply pw_below_drewN | apply below_drew1) | exact HB.out)⟩⟩
      · rw [if_neg c6] at H
        have c6b0 : decide (a1 < 0) = false := decide_eq_false c6
        clear c6
        (first | rw [c6b0] | (simp only [i64_w, i32_w]; rw [c6b0]) | skip)
        have H' := Aside0.mk H
        clear H
        go_wp2_with (first | ((with_reducible refine gate_callee (f := 93) rfl ?_); refine goesL_ (some 8) rfl rfl Try.func93 (by kernel_rfl) rfl #[.int .i64 a0] rfl (by (try simp only [List.map_toArray, List.map_cons, List.map_nil]); first | done | rfl | (simp only [List.length_drop, List.length_take]; rfl)) ?_; (with_reducible refine (impl_sizeOk.calls a0 true _ A4.out).mono ?_); rintro e w' ⟨rfl, ⟨nd, rfl⟩⟩; refine ⟨_, rfl, ?_⟩))
        go_meet
        case rel => exact ⟨_, (decide (a1 ≥ (wrap64 (2 * a0)))), (by first | rfl | (simp; done) | (simp [*]; done)), H', ⟨by first | omega | exact Nat.le_refl _⟩, ⟨by repeat (first | (with_reducible first | exact HB.out | apply below_alloc | apply pw_below_drewN | apply below_drew1) | exact HB.out)⟩⟩
    · replace c5 := Bool.eq_false_iff.mpr c5
      subst c5
      have H1 : (impl_LineCells.j0 k a0 a1 true) = some r := by rw [if_neg (show ¬ (false = true) by decide)] at H; exact H
      clear H
      have H := H1
      clear H1
      have H' := Aside0.mk H
      clear H
      go_wp2_with (first | ((with_reducible refine gate_callee (f := 93) rfl ?_); refine goesL_ (some 8) rfl rfl Try.func93 (by kernel_rfl) rfl #[.int .i64 a0] rfl (by (try simp only [List.map_toArray, List.map_cons, List.map_nil]); first | done | rfl | (simp only [List.length_drop, List.length_take]; rfl)) ?_; (with_reducible refine (impl_sizeOk.calls a0 false _ A4.out).mono ?_); rintro e w' ⟨rfl, ⟨nd, rfl⟩⟩; refine ⟨_, rfl, ?_⟩))
      go_meet
      case rel => exact ⟨_, (true), (by first | rfl | (simp; done) | (simp [*]; done)), H', ⟨by first | omega | exact Nat.le_refl _⟩, ⟨by repeat (first | (with_reducible first | exact HB.out | apply below_alloc | apply pw_below_drewN | apply below_drew1) | exact HB.out)⟩⟩
  case rest =>
    clear HC3
    try clear c1
    try clear p2
    try clear c5
    try clear c6
    try clear c6b0
    try clear p6
    obtain ⟨kq, x19_2, rfl, HA, HJ2, HB⟩ := hcut
    cases kq with
    | zero => exact absurd HA.out (by simp [impl_LineCells.j0])
    | succ kj2 =>
      have H := HA.out
      clear HA
      simp only [impl_LineCells.j0] at H
      by_cases c7 : x19_2 = true
      · subst c7
        have H1 : (some ([] : List Int)) = some r := by rw [if_pos rfl] at H; exact H
        clear H
        have H := H1
        clear H1
        obtain rfl := Option.some.inj H
        go_wp2
        go_ret
        exact ⟨_, by first | rfl | (simp [errW_none, errW_some] <;> rfl) | (simp [*, errW_none, errW_some] <;> rfl), by first | exact Kd.R_nil _ _ _ _ _ | exact Kd.N_nil _ _ _ _ _ | exact Kd.V_nil _ _ _ _ _ | exact Kd.Q_nil _ _ _ _ _ | exact Kd.S_nil _ _ _ _ _, by repeat (first | (with_reducible first | exact HB.out | apply below_alloc | apply pw_below_drewN | apply below_drew1) | exact HB.out)⟩
      · replace c7 := Bool.eq_false_iff.mpr c7
        subst c7
        have H1 : (if 0 ≤ a0 then (if (a0 : Int).toNat ≤ 35184372088832 then (impl_LineCells.l0 kj2 a0 a1 (([] : List Int)) a0 0) else (none)) else (none)) = some r := by rw [if_neg (show ¬ (false = true) by decide)] at H; exact H
        clear H
        have H := H1
        clear H1
        by_cases c8 : 0 ≤ a0
        · rw [if_pos c8] at H
          have c8b0 := eq_true c8
          have c8b1 : decide (0 ≤ a0) = true := decide_eq_true c8
          clear c8
          by_cases c9 : (a0 : Int).toNat ≤ 35184372088832
          · rw [if_pos c9] at H
            have c9b0 := eq_true c9
            have c9b1 : decide ((a0 : Int).toNat ≤ 35184372088832) = true := decide_eq_true c9
            clear c9
            obtain ⟨y294, hy294⟩ : ∃ y_ : List Int, y_ = (([] : List Int)) := ⟨_, rfl⟩
            replace H : (impl_LineCells.l0 kj2 a0 a1 y294 a0 0) = some r := by first | (rw [hy294]; with_reducible exact H) | (have H2_ := (Option.bind_some _ _).symm.trans H; rw [hy294]; with_reducible exact H2_) | (have H2_ := (Option.bind_some _ _).symm.trans H; with_reducible exact H2_) | with_reducible exact H | (rw [hy294]; exact H) | exact H
            have Ny294 := Aside0.mk hy294
            clear hy294
            have H' := Aside0.mk H
            clear H
            go_wp2_with (first | ((with_reducible refine gate_dst (N := 21) rfl ?_); refine Kd.R_make0 (Kd.int .i64) _ 3 rfl (N := 21) rfl 23 _ _ rfl a0 rfl rfl Try.underlying23 (.int .i64 0) 8 info3 rfl (by decide) (by omega) 0 (ok := fun _ => True) (okp := fun _ => True) rfl (fun _ hk => hk) trivial (of_decide_eq_true (by first | (with_reducible assumption) | assumption)) (Nat.le_trans (Nat.mul_le_mul_right _ (of_decide_eq_true (by first | (with_reducible assumption) | assumption) : a0.toNat ≤ 35184372088832)) (by omega)) (Below.refl _ _) (Nat.le_refl _) ?_; intro v295 w10 ho11 hb hg_ hnew_; clear hg_ hnew_; (first | rw [← Ny294.out] at ho11 | (simp only [Int.reduceToNat] at ho11; rw [← Ny294.out] at ho11)); have n0_ := Aside0.mk (Kd.R_lower ho11 (below_size (by repeat (first | (with_reducible first | exact HB.out | apply below_alloc | apply pw_below_drewN | apply below_drew1) | exact HB.out)))); have n1_ := Aside0.mk (below_step (by repeat (first | (with_reducible first | exact HB.out | apply below_alloc | apply pw_below_drewN | apply below_drew1) | exact HB.out)) hb); clear HB; have HO296 := n0_; have HB := n1_; clear n0_ n1_; clear hb ho11))
            go_loopg [5, 23] kj2 (fun kq v5 v23 w' => ∃ (x5_2 : List Int) (x23_2 : Int), v23 = .int .i64 x23_2 ∧ Aside0 (impl_LineCells.l0 kq a0 a1 x5_2 a0 x23_2 = some r) ∧ Aside0 (kq ≤ kj2) ∧ Aside0 (Kd.R (Kd.int .i64) 3 w' w.heap.size (fun _ => True) v5 x5_2) ∧ Aside0 (Below w.heap.size w w'))
            case atStart => exact ⟨(y294), (0), (by first | rfl | (simp; done) | (simp [*]; done)), H', ⟨Nat.le_refl _⟩, ⟨by (with_reducible repeat (first | apply Kd.R_alloc | apply Kd.R_drewN | apply Kd.R_drew)); exact HO296.out⟩, ⟨by repeat (first | (with_reducible first | exact HB.out | apply below_alloc | apply pw_below_drewN | apply below_drew1) | exact HB.out)⟩⟩
            case round =>
              clear H'
              try clear c1
              try clear p2
              try clear c5
              try clear c6
              try clear c6b0
              try clear p6
              try clear c7
              try clear c8
              try clear c8b0
              try clear c8b1
              try clear c9
              try clear c9b0
              try clear c9b1
              try clear c11
              try clear p2
              try clear p6
              obtain ⟨x5_2, x23_2, rfl, HA, HK2, HO_5, HB⟩ := hrel
              cases gk with
              | zero => exact absurd HA.out (by simp [impl_LineCells.l0])
              | succ k2 =>
                have H := HA.out
                clear HA
                simp only [impl_LineCells.l0] at H
                by_cases c12 : x23_2 < a0
                · rw [if_pos c12] at H
                  have c12b0 : decide (x23_2 < a0) = true := decide_eq_true c12
                  clear c12
                  by_cases c13 : a1 < a0
                  · rw [if_pos c13] at H
                    have c13b0 : decide (a1 < a0) = true := decide_eq_true c13
                    clear c13
                    by_cases c14 : x5_2.length < 17592186044416
                    · rw [if_pos c14] at H
                      have LMc14 := Aside0.mk c14
                      clear c14
                      obtain ⟨y297, hy297⟩ : ∃ y_ : List Int, y_ = (x5_2 ++ [wrap64 ((wrap64 (a1 * a0)) + x23_2)]) := ⟨_, rfl⟩
                      replace H : (impl_LineCells.l0 k2 a0 a1 y297 a0 (wrap64 (x23_2 + 1))) = some r := by first | (rw [hy297]; with_reducible exact H) | (have H2_ := (Option.bind_some _ _).symm.trans H; rw [hy297]; with_reducible exact H2_) | (have H2_ := (Option.bind_some _ _).symm.trans H; with_reducible exact H2_) | with_reducible exact H | (rw [hy297]; exact H) | exact H
                      have Ny297 := Aside0.mk hy297
                      clear hy297
                      have H' := Aside0.mk H
                      clear H
                      go_wp2_with (first | ((with_reducible refine gate_builtin (b := .append) (xs := #[.tmp 29, .tmp 35]) rfl ?_); at_builtin; refine Kd.R_append (Kd.int .i64) (w0 := w) w.heap.size rfl (.tmp 29) (.tmp 35) 23 3 (.int .i64 0) 8 rfl Try.underlying23 info3 rfl (by decide) (by omega) u5 x5_2 (wrap64 ((wrap64 (a1 * a0)) + x23_2)) [.int .i64 (wrap64 ((wrap64 (a1 * a0)) + x23_2))] (fun _ => True) (fun _ => False) rfl rfl ?aP (fun _ hk => hk.elim) ?aF ?aO ?aB ?aS ?aL ?_; (case aP => exact rfl); (case aB => exact (by repeat (first | (with_reducible first | exact HB.out | apply below_alloc | apply pw_below_drewN | apply below_drew1) | exact HB.out))); (case aF => exact (fun _ _ => trivial)); (case aO => exact (by (with_reducible repeat (first | apply Kd.R_alloc | apply Kd.R_drewN | apply Kd.R_drew)); exact HO_5.out)); (case aS => exact (below_size (by repeat (first | (with_reducible first | exact HB.out | apply below_alloc | apply pw_below_drewN | apply below_drew1) | exact HB.out)))); (case aL => have := LMc14.out; omega); intro v298 w15 ho hb hg hat; rw [← Ny297.out] at ho; have n0_ := Aside0.mk (hb); have n1_ := Aside0.mk (ho); clear HB; clear HO_5; have HB := n0_; have HO299 := n1_; clear n0_ n1_; clear ho hb hg hat))
                      go_roundg k2
                      case measure => have := HJ2.out; have := HK2.out; omega
                      case rel => exact ⟨(y297), (wrap64 (x23_2 + 1)), (by first | rfl | (simp; done) | (simp [*]; done)), H', ⟨by have := HJ2.out; have := HK2.out; omega⟩, ⟨by (with_reducible repeat (first | apply Kd.R_alloc | apply Kd.R_drewN | apply Kd.R_drew)); exact HO299.out⟩, ⟨by repeat (first | (with_reducible first | exact HB.out | apply below_alloc | apply pw_below_drewN | apply below_drew1) | exact HB.out)⟩⟩
                    · rw [if_neg c14] at H
                      exact absurd H (by simp)
                  · rw [if_neg c13] at H
                    have c13b0 : decide (a1 < a0) = false := decide_eq_false c13
                    clear c13
                    by_cases c16 : x5_2.length < 17592186044416
                    · rw [if_pos c16] at H
                      have LMc16 := Aside0.mk c16
                      clear c16
                      obtain ⟨y300, hy300⟩ : ∃ y_ : List Int, y_ = (x5_2 ++ [wrap64 ((wrap64 ((wrap64 (x23_2 * a0)) + a1)) - a0)]) := ⟨_, rfl⟩
                      replace H : (impl_LineCells.l0 k2 a0 a1 y300 a0 (wrap64 (x23_2 + 1))) = some r := by first | (rw [hy300]; with_reducible exact H) | (have H2_ := (Option.bind_some _ _).symm.trans H; rw [hy300]; with_reducible exact H2_) | (have H2_ := (Option.bind_some _ _).symm.trans H; with_reducible exact H2_) | with_reducible exact H | (rw [hy300]; exact H) | exact H
                      have Ny300 := Aside0.mk hy300
                      clear hy300
                      have H' := Aside0.mk H
                      clear H
                      go_wp2_with (first | ((with_reducible refine gate_builtin (b := .append) (xs := #[.tmp 37, .tmp 45]) rfl ?_); at_builtin; refine Kd.R_append (Kd.int .i64) (w0 := w) w.heap.size rfl (.tmp 37) (.tmp 45) 23 3 (.int .i64 0) 8 rfl Try.underlying23 info3 rfl (by decide) (by omega) u5 x5_2 (wrap64 ((wrap64 ((wrap64 (x23_2 * a0)) + a1)) - a0)) [.int .i64 (wrap64 ((wrap64 ((wrap64 (x23_2 * a0)) + a1)) - a0))] (fun _ => True) (fun _ => False) rfl rfl ?aP (fun _ hk => hk.elim) ?aF ?aO ?aB ?aS ?aL ?_; (case aP => exact rfl); (case aB => exact (by repeat (first | (with_reducible first | exact HB.out | apply below_alloc | apply pw_below_drewN | apply below_drew1) | exact HB.out))); (case aF => exact (fun _ _ => trivial)); (case aO => exact (by (with_reducible repeat (first | apply Kd.R_alloc | apply Kd.R_drewN | apply Kd.R_drew)); exact HO_5.out)); (case aS => exact (below_size (by repeat (first | (with_reducible first | exact HB.out | apply below_alloc | apply pw_below_drewN | apply below_drew1) | exact HB.out)))); (case aL => have := LMc16.out; omega); intro v301 w17 ho hb hg hat; rw [← Ny300.out] at ho; have n0_ := Aside0.mk (hb); have n1_ := Aside0.mk (ho); clear HB; clear HO_5; have HB := n0_; have HO302 := n1_; clear n0_ n1_; clear ho hb hg hat))
                      go_roundg k2
                      case measure => have := HJ2.out; have := HK2.out; omega
                      case rel => exact ⟨(y300), (wrap64 (x23_2 + 1)), (by first | rfl | (simp; done) | (simp [*]; done)), H', ⟨by have := HJ2.out; have := HK2.out; omega⟩, ⟨by (with_reducible repeat (first | apply Kd.R_alloc | apply Kd.R_drewN | apply Kd.R_drew)); exact HO302.out⟩, ⟨by repeat (first | (with_reducible first | exact HB.out | apply below_alloc | apply pw_below_drewN | apply below_drew1) | exact HB.out)⟩⟩
                    · rw [if_neg c16] at H
                      exact absurd H (by simp)
                · rw [if_neg c12] at H
                  have c12b0 : decide (x23_2 < a0) = false := decide_eq_false c12
                  clear c12
                  obtain rfl := Option.some.inj H
                  go_wp2
                  go_ret
                  exact ⟨_, by first | rfl | (simp [errW_none, errW_some] <;> rfl) | (simp [*, errW_none, errW_some] <;> rfl), by (with_reducible repeat (first | apply Kd.R_alloc | apply Kd.R_drewN | apply Kd.R_drew)); exact HO_5.out, by repeat (first | (with_reducible first | exact HB.out | apply below_alloc | apply pw_below_drewN | apply below_drew1) | exact HB.out)⟩
          · rw [if_neg c9] at H
            exact absurd H (by simp)
        · rw [if_neg c8] at H
          exact absurd H (by simp)
end Go.Proofs.Ytbcikbekdhdpaaa.Q
end
