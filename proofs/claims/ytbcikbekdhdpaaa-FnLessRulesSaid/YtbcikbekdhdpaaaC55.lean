/- laws.FnLessRules: for every input it returns true and leaves its argument as it was. -/
import Derived.Test.YtbcikbekdhdpaaaC54
section
namespace Go.Proofs.Ytbcikbekdhdpaaa.Q
open Go.RowKit Go.Proofs.YtbcikbekdhdpaaaW.PrintWords Go.Proofs.YtbcikbekdhdpaaaW.PrintLast Go.Proofs.YtbcikbekdhdpaaaW.PrintMore
attribute [local go_sem] max2_int min2_int max_two min_two max_three min_three max_four min_four   -- for this text's walks alone
set_option linter.unusedVariables false
set_option linter.unusedSimpArgs false
mutual
def laws_FnLessRules.l0 : Nat → Int → Int → Int → List Int → List (S29) → List (S29) → Option (Bool)
  | 0, _, _, _, _, _, _ => none
  | k + 1, x4, x5, x8, x15, x21, x25 => if x8 < (x21.length : Int) then (if 0 ≤ x8 then (if ((rd_T29 x21 x8).f0) = 4 then (if x8 < (x25.length : Int) then ((laws_sameInts.f k ((rd_T29 x21 x8).f1) ((rd_T29 x25 x8).f1)).bind fun t688 => (if t688 = true then (laws_FnLessRules.l0 k x4 x5 (wrap64 (x8 + 1)) x15 x21 x25) else (some false))) else (none)) else (some false)) else (none)) else ((spec_SquareSolved.f k x15 x4).bind fun t689 => (if t689 = true then (if x5 < 0 then (laws_FnLessRules.j1 k x15 x4 x5 x21 true) else (laws_FnLessRules.j1 k x15 x4 x5 x21 (decide (x5 > 20)))) else (laws_FnLessRules.j1 k x15 x4 x5 x21 true)))
def laws_FnLessRules.j1 : Nat → List Int → Int → Int → List (S29) → Bool → Option (Bool)
  | 0, _, _, _, _, _ => none
  | k + 1, x3, x4, x5, x6, x68 => if x68 = true then (if (x6.length : Int) = 0 then ((laws_alive.f k).bind fun t690 => (some t690)) else (some false)) else ((laws_hold.f k x6 x3 x4).bind fun t691 => (if t691 = true then (some ((x6.length : Int) == (mn x5 (wrap64 ((wrap64 (2 * x4)) * (wrap64 (x4 - 1))))))) else (some false)))
end
def laws_FnLessRules.f (k : Nat) (l0 : List Int) : Option (Bool) := if (l0.length : Int) > 1048576 then (some true) else ((spec_DrawLessRules.f k l0).bind fun bt674 => ((impl_LessRules.f k bt674.1 bt674.2.1 bt674.2.2).bind fun t679 => ((spec_LessRules.f k bt674.1 bt674.2.1 bt674.2.2).bind fun t682 => (if (t679.length : Int) = (t682.length : Int) then (laws_FnLessRules.l0 k bt674.2.1 bt674.2.2 0 bt674.1 t679 t682) else (some false)))))
set_option maxHeartbeats 8000000 in
set_option maxRecDepth 100000 in
theorem laws_FnLessRules.calls (k : Nat) (A0 : Option Addr) (c0 : Nat) (l0 : List Int) (r : Bool) (w : World) (hr0 : Kd.C (Kd.int .u8) w A0 l0.length l0) (hc0 : l0.length ≤ c0) (h : laws_FnLessRules.f k l0 = some r) :
    Calls Try.prog 4 #[.slice A0 l0.length c0] w fun e w' => e = .returned (.bool r) ∧ Below w.heap.size w w' := by
  have HR0 := Aside0.mk hr0
  have HC0 := Aside0.mk hc0
  clear hr0 hc0
  have HB := Aside0.mk (Below.refl w.heap.size w)
  have H : (if (l0.length : Int) > 1048576 then (some true) else ((spec_DrawLessRules.f k l0).bind fun bt674 => ((impl_LessRules.f k bt674.1 bt674.2.1 bt674.2.2).bind fun t679 => ((spec_LessRules.f k bt674.1 bt674.2.1 bt674.2.2).bind fun t682 => (if (t679.length : Int) = (t682.length : Int) then (laws_FnLessRules.l0 k bt674.2.1 bt674.2.2 0 bt674.1 t679 t682) else (some false)))))) = some r := h
  clear h
  by_cases c2 : (l0.length : Int) > 1048576
  · rw [if_pos c2] at H
    have c2b0 : decide (1048576 < (l0.length : Int)) = true := decide_eq_true c2
    have c2b1 : decide (1048576 < l0.length) = true := decide_eq_true (by omega)
    clear c2
    obtain rfl := Option.some.inj H
    go_enter Try.func4, Try.ntmps4
    go_wp2
    repeat (go_quiet (fail); try go_wp2)
    go_ret
    exact ⟨by first | rfl | (simp [errW_none, errW_some] <;> rfl) | (simp [*, errW_none, errW_some] <;> rfl), by repeat (first | (with_reducible first | exact HB.out | apply below_alloc | apply pw_below_drewN | apply below_drew1) | exact HB.out)⟩
  · rw [if_neg c2] at H
    have c2b0 : decide (1048576 < (l0.length : Int)) = false := decide_eq_false c2
    have c2b1 : decide (1048576 < l0.length) = false := decide_eq_false (by omega)
    clear c2
    replace H := Option.bind_eq_some_iff.mp H
    obtain ⟨⟨t674, t675, t676⟩, A30, H⟩ := H
    replace H : ((impl_LessRules.f k t674 t675 t676).bind fun t679 => ((spec_LessRules.f k t674 t675 t676).bind fun t682 => (if (t679.length : Int) = (t682.length : Int) then (laws_FnLessRules.l0 k t675 t676 0 t674 t679 t682) else (some false)))) = some r := H
    have A3 := Aside0.mk A30
    clear A30
    replace H := Option.bind_eq_some_iff.mp H
    obtain ⟨t679, A40, H⟩ := H
    replace H : ((spec_LessRules.f k t674 t675 t676).bind fun t682 => (if (t679.length : Int) = (t682.length : Int) then (laws_FnLessRules.l0 k t675 t676 0 t674 t679 t682) else (some false))) = some r := H
    have A4 := Aside0.mk A40
    clear A40
    replace H := Option.bind_eq_some_iff.mp H
    obtain ⟨t682, A50, H⟩ := H
    replace H : (if (t679.length : Int) = (t682.length : Int) then (laws_FnLessRules.l0 k t675 t676 0 t674 t679 t682) else (some false)) = some r := H
    have A5 := Aside0.mk A50
    clear A50
    by_cases c6 : (t679.length : Int) = (t682.length : Int)
    · rw [if_pos c6] at H
      have c6b0 : ((t679.length : Int) == (t682.length : Int)) = true := beq_iff_eq.mpr c6
      have c6b1 : ((t679.length : Int) != (t682.length : Int)) = false := bne_eq_false_iff_eq.mpr c6
      have c6b2 : (t679.length == t682.length) = true := by first | simpa using c6 | (simp at c6 ⊢; omega)
      clear c6
      have H' := Aside0.mk H
      clear H
      go_enter Try.func4, Try.ntmps4
      go_wp2_with (first | (go_at_call 17; (with_reducible refine (spec_DrawLessRules.calls k _ _ l0 t674 t675 t676 _ ?side1 ?side2 A3.out).mono ?_); (case side1 => repeat (first | exact HR0.out | (with_reducible refine Kd.C_alloc ?_ _) | (with_reducible refine Kd.C_drewN ?_ _) | (with_reducible refine Kd.C_drew ?_))); (case side2 => exact HC0.out); rintro e w7 ⟨v677, rfl, ho0, hb⟩; have n0_ := Aside0.mk (Kd.Q_lower ho0 (below_size (by repeat (first | (with_reducible first | exact HB.out | apply below_alloc | apply pw_below_drewN | apply below_drew1) | exact HB.out)))); have n1_ := Aside0.mk (below_step (by repeat (first | (with_reducible first | exact HB.out | apply below_alloc | apply pw_below_drewN | apply below_drew1) | exact HB.out)) hb); clear HB; have HO678 := n0_; have HB := n1_; clear n0_ n1_; (try clear hb); (try clear hb2); (try clear hk); (try clear hi); (try clear ho0); obtain ⟨Ao8, co8, eo8, _⟩ := Kd.Q_slice HO678.out; subst eo8) | (go_at_call 18; (with_reducible refine (impl_LessRules.calls k _ _ t674 t675 t676 t679 _ ?side1 ?side2 A4.out).mono ?_); (case side1 => repeat (first | exact (Kd.Q_reads' HO678.out).2.2 | (with_reducible refine Kd.C_alloc ?_ _) | (with_reducible refine Kd.C_drewN ?_ _) | (with_reducible refine Kd.C_drew ?_))); (case side2 => exact (Kd.Q_reads' HO678.out).2.1); rintro e w9 ⟨v680, rfl, ho0, hb⟩; have n0_ := Aside0.mk (Kd.Q_below (by (with_reducible repeat (first | apply Kd.Q_alloc | apply Kd.Q_drewN | apply Kd.Q_drew)); exact HO678.out) hb); have n1_ := Aside0.mk (Kd.V_lower (Kd.V_mono (ok' := fun k_ => some k_ ≠ (.slice Ao8 t674.length co8 : Value).ownBlock) ho0 (fun k_ hk_ => (Kd.fresh' (Kd.Q_lt (by (with_reducible repeat (first | apply Kd.Q_alloc | apply Kd.Q_drewN | apply Kd.Q_drew)); exact HO678.out)) k_ hk_))) (below_size (by repeat (first | (with_reducible first | exact HB.out | apply below_alloc | apply pw_below_drewN | apply below_drew1) | exact HB.out)))); have n2_ := Aside0.mk (below_step (by repeat (first | (with_reducible first | exact HB.out | apply below_alloc | apply pw_below_drewN | apply below_drew1) | exact HB.out)) hb); clear HO678; clear HB; have HO678 := n0_; have HO681 := n1_; have HB := n2_; clear n0_ n1_ n2_; (try clear hb); (try clear hb2); (try clear hk); (try clear hi); (try clear ho0)) | (go_at_call 19; (with_reducible refine (spec_LessRules.calls k _ _ t674 t675 t676 t682 _ ?side1 ?side2 A5.out).mono ?_); (case side1 => repeat (first | exact (Kd.Q_reads' HO678.out).2.2 | (with_reducible refine Kd.C_alloc ?_ _) | (with_reducible refine Kd.C_drewN ?_ _) | (with_reducible refine Kd.C_drew ?_))); (case side2 => exact (Kd.Q_reads' HO678.out).2.1); rintro e w10 ⟨v683, rfl, ho0, hb⟩; have n0_ := Aside0.mk (Kd.Q_below (by (with_reducible repeat (first | apply Kd.Q_alloc | apply Kd.Q_drewN | apply Kd.Q_drew)); exact HO678.out) hb); have n1_ := Aside0.mk (Kd.V_elder' (by (with_reducible repeat (first | apply Kd.V_alloc | apply Kd.V_drewN | apply Kd.V_drew)); exact HO681.out) (Kd.S_base ho0) hb); have n2_ := Aside0.mk (Kd.S_lower (Kd.S_new' ho0 (Kd.Q_lt (by (with_reducible repeat (first | apply Kd.Q_alloc | apply Kd.Q_drewN | apply Kd.Q_drew)); exact HO678.out))) (below_size (by repeat (first | (with_reducible first | exact HB.out | apply below_alloc | apply pw_below_drewN | apply below_drew1) | exact HB.out)))); have n3_ := Aside0.mk (below_step (by repeat (first | (with_reducible first | exact HB.out | apply below_alloc | apply pw_below_drewN | apply below_drew1) | exact HB.out)) hb); clear HO678; clear HO681; clear HB; have HO678 := n0_; have HO681 := n1_; have HO684 := n2_; have HB := n3_; clear n0_ n1_ n2_ n3_; (try clear hb); (try clear hb2); (try clear hk); (try clear hi); (try clear ho0); obtain ⟨Ao11, co11, eo11⟩ := Kd.V_slice HO681.out; subst eo11; obtain ⟨Ao12, co12, eo12⟩ := Kd.S_slice HO684.out; subst eo12))
      repeat (go_quiet (first | (go_at_call 17; (with_reducible refine (spec_DrawLessRules.calls k _ _ l0 t674 t675 t676 _ ?side1 ?side2 A3.out).mono ?_); (case side1 => repeat (first | exact HR0.out | (with_reducible refine Kd.C_alloc ?_ _) | (with_reducible refine Kd.C_drewN ?_ _) | (with_reducible refine Kd.C_drew ?_))); (case side2 => exact HC0.out); rintro e w7 ⟨v677, rfl, ho0, hb⟩; have n0_ := Aside0.mk (Kd.Q_lower ho0 (below_size (by repeat (first | (with_reducible first | exact HB.out | apply below_alloc | apply pw_below_drewN | apply below_drew1) | exact HB.out)))); have n1_ := Aside0.mk (below_step (by repeat (first | (with_reducible first | exact HB.out | apply below_alloc | apply pw_below_drewN | apply below_drew1) | exact HB.out)) hb); clear HB; have HO678 := n0_; have HB := n1_; clear n0_ n1_; (try clear hb); (try clear hb2); (try clear hk); (try clear hi); (try clear ho0); obtain ⟨Ao8, co8, eo8, _⟩ := Kd.Q_slice HO678.out; subst eo8) | (go_at_call 18; (with_reducible refine (impl_LessRules.calls k _ _ t674 t675 t676 t679 _ ?side1 ?side2 A4.out).mono ?_); (case side1 => repeat (first | exact (Kd.Q_reads' HO678.out).2.2 | (with_reducible refine Kd.C_alloc ?_ _) | (with_reducible refine Kd.C_drewN ?_ _) | (with_reducible refine Kd.C_drew ?_))); (case side2 => exact (Kd.Q_reads' HO678.out).2.1); rintro e w9 ⟨v680, rfl, ho0, hb⟩; have n0_ := Aside0.mk (Kd.Q_below (by (with_reducible repeat (first | apply Kd.Q_alloc | apply Kd.Q_drewN | apply Kd.Q_drew)); exact HO678.out) hb); have n1_ := Aside0.mk (Kd.V_lower (Kd.V_mono (ok' := fun k_ => some k_ ≠ (.slice Ao8 t674.length co8 : Value).ownBlock) ho0 (fun k_ hk_ => (Kd.fresh' (Kd.Q_lt (by (with_reducible repeat (first | apply Kd.Q_alloc | apply Kd.Q_drewN | apply Kd.Q_drew)); exact HO678.out)) k_ hk_))) (below_size (by repeat (first | (with_reducible first | exact HB.out | apply below_alloc | apply pw_below_drewN | apply below_drew1) | exact HB.out)))); have n2_ := Aside0.mk (below_step (by repeat (first | (with_reducible first | exact HB.out | apply below_alloc | apply pw_below_drewN | apply below_drew1) | exact HB.out)) hb); clear HO678; clear HB; have HO678 := n0_; have HO681 := n1_; have HB := n2_; clear n0_ n1_ n2_; (try clear hb); (try clear hb2); (try clear hk); (try clear hi); (try clear ho0)) | (go_at_call 19; (with_reducible refine (spec_LessRules.calls k _ _ t674 t675 t676 t682 _ ?side1 ?side2 A5.out).mono ?_); (case side1 => repeat (first | exact (Kd.Q_reads' HO678.out).2.2 | (with_reducible refine Kd.C_alloc ?_ _) | (with_reducible refine Kd.C_drewN ?_ _) | (with_reducible refine Kd.C_drew ?_))); (case side2 => exact (Kd.Q_reads' HO678.out).2.1); rintro e w10 ⟨v683, rfl, ho0, hb⟩; have n0_ := Aside0.mk (Kd.Q_below (by (with_reducible repeat (first | apply Kd.Q_alloc | apply Kd.Q_drewN | apply Kd.Q_drew)); exact HO678.out) hb); have n1_ := Aside0.mk (Kd.V_elder' (by (with_reducible repeat (first | apply Kd.V_alloc | apply Kd.V_drewN | apply Kd.V_drew)); exact HO681.out) (Kd.S_base ho0) hb); have n2_ := Aside0.mk (Kd.S_lower (Kd.S_new' ho0 (Kd.Q_lt (by (with_reducible repeat (first | apply Kd.Q_alloc | apply Kd.Q_drewN | apply Kd.Q_drew)); exact HO678.out))) (below_size (by repeat (first | (with_reducible first | exact HB.out | apply below_alloc | apply pw_below_drewN | apply below_drew1) | exact HB.out)))); have n3_ := Aside0.mk (below_step (by repeat (first | (with_reducible first | exact HB.out | apply below_alloc | apply pw_below_drewN | apply below_drew1) | exact HB.out)) hb); clear HO678; clear HO681; clear HB; have HO678 := n0_; have HO681 := n1_; have HO684 := n2_; have HB := n3_; clear n0_ n1_ n2_ n3_; (try clear hb); (try clear hb2); (try clear hk); (try clear hi); (try clear ho0); obtain ⟨Ao11, co11, eo11⟩ := Kd.V_slice HO681.out; subst eo11; obtain ⟨Ao12, co12, eo12⟩ := Kd.S_slice HO684.out; subst eo12)); try go_wp2_with (first | (go_at_call 17; (with_reducible refine (spec_DrawLessRules.calls k _ _ l0 t674 t675 t676 _ ?side1 ?side2 A3.out).mono ?_); (case side1 => repeat (first | exact HR0.out | (with_reducible refine Kd.C_alloc ?_ _) | (with_reducible refine Kd.C_drewN ?_ _) | (with_reducible refine Kd.C_drew ?_))); (case side2 => exact HC0.out); rintro e w7 ⟨v677, rfl, ho0, hb⟩; have n0_ := Aside0.mk (Kd.Q_lower ho0 (below_size (by repeat (first | (with_reducible first | exact HB.out | apply below_alloc | apply pw_below_drewN | apply below_drew1) | exact HB.out)))); have n1_ := Aside0.mk (below_step (by repeat (first | (with_reducible first | exact HB.out | apply below_alloc | apply pw_below_drewN | apply below_drew1) | exact HB.out)) hb); clear HB; have HO678 := n0_; have HB := n1_; clear n0_ n1_; (try clear hb); (try clear hb2); (try clear hk); (try clear hi); (try clear ho0); obtain ⟨Ao8, co8, eo8, _⟩ := Kd.Q_slice HO678.out; subst eo8) | (go_at_call 18; (with_reducible refine (impl_LessRules.calls k _ _ t674 t675 t676 t679 _ ?side1 ?side2 A4.out).mono ?_); (case side1 => repeat (first | exact (Kd.Q_reads' HO678.out).2.2 | (with_reducible refine Kd.C_alloc ?_ _) | (with_reducible refine Kd.C_drewN ?_ _) | (with_reducible refine Kd.C_drew ?_))); (case side2 => exact (Kd.Q_reads' HO678.out).2.1); rintro e w9 ⟨v680, rfl, ho0, hb⟩; have n0_ := Aside0.mk (Kd.Q_below (by (with_reducible repeat (first | apply Kd.Q_alloc | apply Kd.Q_drewN | apply Kd.Q_drew)); exact HO678.out) hb); have n1_ := Aside0.mk (Kd.V_lower (Kd.V_mono (ok' := fun k_ => some k_ ≠ (.slice Ao8 t674.length co8 : Value).ownBlock) ho0 (fun k_ hk_ => (Kd.fresh' (Kd.Q_lt (by (with_reducible repeat (first | apply Kd.Q_alloc | apply Kd.Q_drewN | apply Kd.Q_drew)); exact HO678.out)) k_ hk_))) (below_size (by repeat (first | (with_reducible first | exact HB.out | apply below_alloc | apply pw_below_drewN | apply below_drew1) | exact HB.out)))); have n2_ := Aside0.mk (below_step (by repeat (first | (with_reducible first | exact HB.out | apply below_alloc | apply pw_below_drewN | apply below_drew1) | exact HB.out)) hb); clear HO678; clear HB; have HO678 := n0_; have HO681 := n1_; have HB := n2_; clear n0_ n1_ n2_; (try clear hb); (try clear hb2); (try clear hk); (try clear hi); (try clear ho0)) | (go_at_call 19; (with_reducible refine (spec_LessRules.calls k _ _ t674 t675 t676 t682 _ ?side1 ?side2 A5.out).mono ?_); (case side1 => repeat (first | exact (Kd.Q_reads' HO678.out).2.2 | (with_reducible refine Kd.C_alloc ?_ _) | (with_reducible refine Kd.C_drewN ?_ _) | (with_reducible refine Kd.C_drew ?_))); (case side2 => exact (Kd.Q_reads' HO678.out).2.1); rintro e w10 ⟨v683, rfl, ho0, hb⟩; have n0_ := Aside0.mk (Kd.Q_below (by (with_reducible repeat (first | apply Kd.Q_alloc | apply Kd.Q_drewN | apply Kd.Q_drew)); exact HO678.out) hb); have n1_ := Aside0.mk (Kd.V_elder' (by (with_reducible repeat (first | apply Kd.V_alloc | apply Kd.V_drewN | apply Kd.V_drew)); exact HO681.out) (Kd.S_base ho0) hb); have n2_ := Aside0.mk (Kd.S_lower (Kd.S_new' ho0 (Kd.Q_lt (by (with_reducible repeat (first | apply Kd.Q_alloc | apply Kd.Q_drewN | apply Kd.Q_drew)); exact HO678.out))) (below_size (by repeat (first | (with_reducible first | exact HB.out | apply below_alloc | apply pw_below_drewN | apply below_drew1) | exact HB.out)))); have n3_ := Aside0.mk (below_step (by repeat (first | (with_reducible first | exact HB.out | apply below_alloc | apply pw_below_drewN | apply below_drew1) | exact HB.out)) hb); clear HO678; clear HO681; clear HB; have HO678 := n0_; have HO681 := n1_; have HO684 := n2_; have HB := n3_; clear n0_ n1_ n2_ n3_; (try clear hb); (try clear hb2); (try clear hk); (try clear hi); (try clear ho0); obtain ⟨Ao11, co11, eo11⟩ := Kd.V_slice HO681.out; subst eo11; obtain ⟨Ao12, co12, eo12⟩ := Kd.S_slice HO684.out; subst eo12)))
      go_loopg [8] k (fun kq v8 w' => ∃ (x8_1 : Int), v8 = .int .i64 x8_1 ∧ Aside0 (laws_FnLessRules.l0 kq t675 t676 x8_1 t674 t679 t682 = some r) ∧ Aside0 (kq ≤ k) ∧ Aside0 (Kd.Q (Kd.int .i64) 3 w' w.heap.size (fun _ => True) (.slice Ao8 t674.length co8) t674) ∧ Aside0 (Kd.V k29 29 w' w.heap.size (fun k_ => some k_ ≠ ((.slice Ao8 t674.length co8) : Value).ownBlock ∧ some k_ ≠ ((.slice Ao12 t682.length co12) : Value).ownBlock) (.slice Ao11 t679.length co11) t679) ∧ Aside0 (Kd.S k29 29 w' w.heap.size (fun k_ => some k_ ≠ ((.slice Ao8 t674.length co8) : Value).ownBlock) (.slice Ao12 t682.length co12) t682) ∧ Aside0 (Below w.heap.size w w'))
      case atStart => exact ⟨(0), (by first | rfl | (simp; done) | (simp [*]; done)), H', ⟨Nat.le_refl _⟩, ⟨by (with_reducible repeat (first | apply Kd.Q_alloc | apply Kd.Q_drewN | apply Kd.Q_drew)); exact HO678.out⟩, ⟨by (with_reducible repeat (first | apply Kd.V_alloc | apply Kd.V_drewN | apply Kd.V_drew)); exact HO681.out⟩, ⟨by (with_reducible repeat (first | apply Kd.S_alloc | apply Kd.S_drewN | apply Kd.S_drew)); exact Kd.S_mono HO684.out (fun _ hk => hk.2)⟩, ⟨by repeat (first | (with_reducible first | exact HB.out | apply below_alloc | apply pw_below_drewN | apply below_drew1) | exact HB.out)⟩⟩
      case round =>
        clear H'
        try clear c2
        try clear c2b0
        try clear c2b1
        try clear p2
        try clear c4
        try clear c6
        try clear c6b0
        try clear c6b1
        try clear c6b2
        obtain ⟨x8_1, rfl, HA, HK1, HO_15, HO_21, HO_25, HB⟩ := hrel
        cases gk with
        | zero => exact absurd HA.out (by simp [laws_FnLessRules.l0])
        | succ k1 =>
          have H := HA.out
          clear HA
          simp only [laws_FnLessRules.l0] at H
          by_cases c13 : x8_1 < (t679.length : Int)
          · rw [if_pos c13] at H
            have c13b0 : decide (x8_1 < (t679.length : Int)) = true := decide_eq_true c13
            clear c13
            by_cases c14 : 0 ≤ x8_1
            · rw [if_pos c14] at H
              have c14b0 : decide (0 ≤ x8_1) = true := decide_eq_true c14
              clear c14
              by_cases c15 : ((rd_T29 t679 x8_1).f0) = 4
              · rw [if_pos c15] at H
                have c15b0 : (((rd_T29 t679 x8_1).f0) == 4) = true := beq_iff_eq.mpr c15
                have c15b1 : (((rd_T29 t679 x8_1).f0) != 4) = false := bne_eq_false_iff_eq.mpr c15
                clear c15
                by_cases c16 : x8_1 < (t682.length : Int)
                · rw [if_pos c16] at H
                  have c16b0 : decide (x8_1 < (t682.length : Int)) = true := decide_eq_true c16
                  clear c16
                  replace H := Option.bind_eq_some_iff.mp H
                  obtain ⟨t688, A170, H⟩ := H
                  replace H : (if t688 = true then (laws_FnLessRules.l0 k1 t675 t676 (wrap64 (x8_1 + 1)) t674 t679 t682) else (some false)) = some r := H
                  have A17 := Aside0.mk A170
                  clear A170
                  by_cases c18 : t688 = true
                  · subst c18
                    have H1 : (laws_FnLessRules.l0 k1 t675 t676 (wrap64 (x8_1 + 1)) t674 t679 t682) = some r := by rw [if_pos rfl] at H; exact H
                    clear H
                    have H := H1
                    clear H1
                    have H' := Aside0.mk H
                    clear H
                    have p685 : 0 ≤ (x8_1 : Int) := of_decide_eq_true (by first | (with_reducible assumption) | assumption)
                    have q685 : x8_1 < (t679.length : Int) := of_decide_eq_true (by first | (with_reducible assumption) | assumption)
                    obtain ⟨ad685, A685_1, c685_1, e685, hx685_0, hx685_1, hx685_2, hl685_1, hi685_1⟩ := at_T29 (Kd.V_reads' HO_21.out).2.2 x8_1 p685 q685
                    cases e685
                    obtain ⟨ce685, hce685, hMe685, hcc685⟩ := Kd.V_get HO_21.out z29 x8_1 p685 (by first | exact q685 | exact of_decide_eq_true (by first | (with_reducible assumption) | assumption) | (have e_ := (Kd.V_reads' HO_21.out).1; omega))
                    obtain ⟨ua685_1, uc685_1, rfl, ul685_1, ge685_1⟩ := k29_openF hMe685
                    have hv685_1 := hcc685 1 _ rfl
                    rw [add_field _ _ 1 (by omega)] at hv685_1
                    replace hv685_1 := Option.some.inj (hv685_1.symm.trans hx685_1)
                    injection hv685_1 with hva_ hvn_ hvc_
                    rw [hva_] at ge685_1
                    rw [hvc_] at ul685_1
                    have HL685_1 := Aside0.mk (show Kd.V (Kd.int .i64) 3 _ w.heap.size _ _ ((rd_T29 t679 x8_1).f1) from Kd.V_mk ul685_1 ge685_1)
                    clear hva_ hvn_ hvc_ ge685_1 ul685_1
                    clear hcc685 hce685
                    have HR685_1 := Aside0.mk hi685_1
                    have HC685_1 := Aside0.mk hl685_1
                    clear hi685_1 hl685_1
                    replace p685 := eq_true p685
                    replace q685 := eq_true q685
                    have p686 : 0 ≤ (x8_1 : Int) := of_decide_eq_true (by first | (with_reducible assumption) | assumption)
                    have q686 : x8_1 < (t679.length : Int) := of_decide_eq_true (by first | (with_reducible assumption) | assumption)
                    obtain ⟨ad686, A686_1, c686_1, e686, hx686_0, hx686_1, hx686_2, hl686_1, hi686_1⟩ := at_T29 (Kd.V_reads' HO_21.out).2.2 x8_1 p686 q686
                    obtain rfl : ad685 = ad686 := (by injection e686)
                    obtain ⟨ce686, hce686, hMe686, hcc686⟩ := Kd.V_get HO_21.out z29 x8_1 p686 (by first | exact q686 | exact of_decide_eq_true (by first | (with_reducible assumption) | assumption) | (have e_ := (Kd.V_reads' HO_21.out).1; omega))
                    obtain ⟨ua686_1, uc686_1, rfl, ul686_1, ge686_1⟩ := k29_openF hMe686
                    have hv686_1 := hcc686 1 _ rfl
                    rw [add_field _ _ 1 (by omega)] at hv686_1
                    replace hv686_1 := Option.some.inj (hv686_1.symm.trans hx686_1)
                    injection hv686_1 with hva_ hvn_ hvc_
                    rw [hva_] at ge686_1
                    rw [hvc_] at ul686_1
                    have HL686_1 := Aside0.mk (show Kd.V (Kd.int .i64) 3 _ w.heap.size _ _ ((rd_T29 t679 x8_1).f1) from Kd.V_mk ul686_1 ge686_1)
                    clear hva_ hvn_ hvc_ ge686_1 ul686_1
                    clear hcc686 hce686
                    have HR686_1 := Aside0.mk hi686_1
                    have HC686_1 := Aside0.mk hl686_1
                    clear hi686_1 hl686_1
                    replace p686 := eq_true p686
                    replace q686 := eq_true q686
                    have ea_ := Option.some.inj (hx685_1.symm.trans hx686_1)
                    injection ea_ with ea_ en_ ec_
                    subst ea_
                    subst ec_
                    clear en_
                    have p687 : 0 ≤ (x8_1 : Int) := of_decide_eq_true (by first | (with_reducible assumption) | assumption)
                    have q687 : x8_1 < (t682.length : Int) := of_decide_eq_true (by first | (with_reducible assumption) | assumption)
                    obtain ⟨ad687, A687_1, c687_1, e687, hx687_0, hx687_1, hx687_2, hl687_1, hi687_1⟩ := at_T29 (Kd.S_reads' HO_25.out).2.2 x8_1 p687 q687
                    cases e687
                    obtain ⟨ce687, hce687, hMe687, hcc687⟩ := Kd.S_get HO_25.out z29 x8_1 p687 (by first | exact q687 | exact of_decide_eq_true (by first | (with_reducible assumption) | assumption) | (have e_ := (Kd.S_reads' HO_25.out).1; omega))
                    obtain ⟨ve687_1, rfl, ge687_1⟩ := k29_openM hMe687
                    have hv687_1 := hcc687 1 _ rfl
                    rw [add_field _ _ 1 (by omega)] at hv687_1
                    replace hv687_1 := Option.some.inj (hv687_1.symm.trans hx687_1)
                    rw [hv687_1] at ge687_1
                    have HL687_1 := Aside0.mk (show Kd.R (Kd.int .i64) 3 _ _ _ _ ((rd_T29 t682 x8_1).f1) from ge687_1)
                    clear hv687_1 ge687_1
                    clear hcc687 hce687
                    have HR687_1 := Aside0.mk hi687_1
                    have HC687_1 := Aside0.mk hl687_1
                    clear hi687_1 hl687_1
                    replace p687 := eq_true p687
                    replace q687 := eq_true q687
                    go_wp2_with (first | (go_at_call 13; (with_reducible refine (laws_sameInts.calls k1 _ _ ((rd_T29 t679 x8_1).f1) _ _ ((rd_T29 t682 x8_1).f1) true _ ?side1 ?side2 ?side3 ?side4 A17.out).mono ?_); (case side1 => repeat (first | exact (by repeat (first | (with_reducible exact HR686_1.out) | (with_reducible refine Kd.C_alloc ?_ _) | (with_reducible refine Kd.C_drewN ?_ _) | (with_reducible refine Kd.C_drew ?_) | exact HR686_1.out)) | (with_reducible refine Kd.C_alloc ?_ _) | (with_reducible refine Kd.C_drewN ?_ _) | (with_reducible refine Kd.C_drew ?_))); (case side2 => exact HC686_1.out); (case side3 => repeat (first | exact (by repeat (first | (with_reducible exact HR687_1.out) | (with_reducible refine Kd.C_alloc ?_ _) | (with_reducible refine Kd.C_drewN ?_ _) | (with_reducible refine Kd.C_drew ?_) | exact HR687_1.out)) | (with_reducible refine Kd.C_alloc ?_ _) | (with_reducible refine Kd.C_drewN ?_ _) | (with_reducible refine Kd.C_drew ?_))); (case side4 => exact HC687_1.out); rintro e w' ⟨rfl, ⟨nd, rfl⟩⟩; (try first | exact ⟨rfl, _, World.drewN_drewN _ _ _⟩ | exact ⟨rfl, _, Eq.trans (World.drewN_drewN _ _ _) (congrArg (World.drewN _) (Nat.add_assoc _ _ _))⟩)))
                    repeat (go_quiet (first | (go_at_call 13; (with_reducible refine (laws_sameInts.calls k1 _ _ ((rd_T29 t679 x8_1).f1) _ _ ((rd_T29 t682 x8_1).f1) true _ ?side1 ?side2 ?side3 ?side4 A17.out).mono ?_); (case side1 => repeat (first | exact (by repeat (first | (with_reducible exact HR686_1.out) | (with_reducible refine Kd.C_alloc ?_ _) | (with_reducible refine Kd.C_drewN ?_ _) | (with_reducible refine Kd.C_drew ?_) | exact HR686_1.out)) | (with_reducible refine Kd.C_alloc ?_ _) | (with_reducible refine Kd.C_drewN ?_ _) | (with_reducible refine Kd.C_drew ?_))); (case side2 => exact HC686_1.out); (case side3 => repeat (first | exact (by repeat (first | (with_reducible exact HR687_1.out) | (with_reducible refine Kd.C_alloc ?_ _) | (with_reducible refine Kd.C_drewN ?_ _) | (with_reducible refine Kd.C_drew ?_) | exact HR687_1.out)) | (with_reducible refine Kd.C_alloc ?_ _) | (with_reducible refine Kd.C_drewN ?_ _) | (with_reducible refine Kd.C_drew ?_))); (case side4 => exact HC687_1.out); rintro e w' ⟨rfl, ⟨nd, rfl⟩⟩; (try first | exact ⟨rfl, _, World.drewN_drewN _ _ _⟩ | exact ⟨rfl, _, Eq.trans (World.drewN_drewN _ _ _) (congrArg (World.drewN _) (Nat.add_assoc _ _ _))⟩))); try go_wp2_with (first | (go_at_call 13; (with_reducible refine (laws_sameInts.calls k1 _ _ ((rd_T29 t679 x8_1).f1) _ _ ((rd_T29 t682 x8_1).f1) true _ ?side1 ?side2 ?side3 ?side4 A17.out).mono ?_); (case side1 => repeat (first | exact (by repeat (first | (with_reducible exact HR686_1.out) | (with_reducible refine Kd.C_alloc ?_ _) | (with_reducible refine Kd.C_drewN ?_ _) | (with_reducible refine Kd.C_drew ?_) | exact HR686_1.out)) | (with_reducible refine Kd.C_alloc ?_ _) | (with_reducible refine Kd.C_drewN ?_ _) | (with_reducible refine Kd.C_drew ?_))); (case side2 => exact HC686_1.out); (case side3 => repeat (first | exact (by repeat (first | (with_reducible exact HR687_1.out) | (with_reducible refine Kd.C_alloc ?_ _) | (with_reducible refine Kd.C_drewN ?_ _) | (with_reducible refine Kd.C_drew ?_) | exact HR687_1.out)) | (with_reducible refine Kd.C_alloc ?_ _) | (with_reducible refine Kd.C_drewN ?_ _) | (with_reducible refine Kd.C_drew ?_))); (case side4 => exact HC687_1.out); rintro e w' ⟨rfl, ⟨nd, rfl⟩⟩; (try first | exact ⟨rfl, _, World.drewN_drewN _ _ _⟩ | exact ⟨rfl, _, Eq.trans (World.drewN_drewN _ _ _) (congrArg (World.drewN _) (Nat.add_assoc _ _ _))⟩))))
                    go_roundg k1
                    case measure => have := HK1.out; omega
                    case rel => exact ⟨(wrap64 (x8_1 + 1)), (by first | rfl | (simp; done) | (simp [*]; done)), H', ⟨by have := HK1.out; omega⟩, ⟨by (with_reducible repeat (first | apply Kd.Q_alloc | apply Kd.Q_drewN | apply Kd.Q_drew)); exact HO_15.out⟩, ⟨by (with_reducible repeat (first | apply Kd.V_alloc | apply Kd.V_drewN | apply Kd.V_drew)); exact HO_21.out⟩, ⟨by (with_reducible repeat (first | apply Kd.S_alloc | apply Kd.S_drewN | apply Kd.S_drew)); exact HO_25.out⟩, ⟨by repeat (first | (with_reducible first | exact HB.out | apply below_alloc | apply pw_below_drewN | apply below_drew1) | exact HB.out)⟩⟩
                  · replace c18 := Bool.eq_false_iff.mpr c18
                    subst c18
                    have H1 : (some false) = some r := by rw [if_neg (show ¬ (false = true) by decide)] at H; exact H
                    clear H
                    have H := H1
                    clear H1
                    obtain rfl := Option.some.inj H
                    have p685 : 0 ≤ (x8_1 : Int) := of_decide_eq_true (by first | (with_reducible assumption) | assumption)
                    have q685 : x8_1 < (t679.length : Int) := of_decide_eq_true (by first | (with_reducible assumption) | assumption)
                    obtain ⟨ad685, A685_1, c685_1, e685, hx685_0, hx685_1, hx685_2, hl685_1, hi685_1⟩ := at_T29 (Kd.V_reads' HO_21.out).2.2 x8_1 p685 q685
                    cases e685
                    obtain ⟨ce685, hce685, hMe685, hcc685⟩ := Kd.V_get HO_21.out z29 x8_1 p685 (by first | exact q685 | exact of_decide_eq_true (by first | (with_reducible assumption) | assumption) | (have e_ := (Kd.V_reads' HO_21.out).1; omega))
                    obtain ⟨ua685_1, uc685_1, rfl, ul685_1, ge685_1⟩ := k29_openF hMe685
                    have hv685_1 := hcc685 1 _ rfl
                    rw [add_field _ _ 1 (by omega)] at hv685_1
                    replace hv685_1 := Option.some.inj (hv685_1.symm.trans hx685_1)
                    injection hv685_1 with hva_ hvn_ hvc_
                    rw [hva_] at ge685_1
                    rw [hvc_] at ul685_1
                    have HL685_1 := Aside0.mk (show Kd.V (Kd.int .i64) 3 _ w.heap.size _ _ ((rd_T29 t679 x8_1).f1) from Kd.V_mk ul685_1 ge685_1)
                    clear hva_ hvn_ hvc_ ge685_1 ul685_1
                    clear hcc685 hce685
                    have HR685_1 := Aside0.mk hi685_1
                    have HC685_1 := Aside0.mk hl685_1
                    clear hi685_1 hl685_1
                    replace p685 := eq_true p685
                    replace q685 := eq_true q685
                    have p686 : 0 ≤ (x8_1 : Int) := of_decide_eq_true (by first | (with_reducible assumption) | assumption)
                    have q686 : x8_1 < (t679.length : Int) := of_decide_eq_true (by first | (with_reducible assumption) | assumption)
                    obtain ⟨ad686, A686_1, c686_1, e686, hx686_0, hx686_1, hx686_2, hl686_1, hi686_1⟩ := at_T29 (Kd.V_reads' HO_21.out).2.2 x8_1 p686 q686
                    obtain rfl : ad685 = ad686 := (by injection e686)
                    obtain ⟨ce686, hce686, hMe686, hcc686⟩ := Kd.V_get HO_21.out z29 x8_1 p686 (by first | exact q686 | exact of_decide_eq_true (by first | (with_reducible assumption) | assumption) | (have e_ := (Kd.V_reads' HO_21.out).1; omega))
                    obtain ⟨ua686_1, uc686_1, rfl, ul686_1, ge686_1⟩ := k29_openF hMe686
                    have hv686_1 := hcc686 1 _ rfl
                    rw [add_field _ _ 1 (by omega)] at hv686_1
                    replace hv686_1 := Option.some.inj (hv686_1.symm.trans hx686_1)
                    injection hv686_1 with hva_ hvn_ hvc_
                    rw [hva_] at ge686_1
                    rw [hvc_] at ul686_1
                    have HL686_1 := Aside0.mk (show Kd.V (Kd.int .i64) 3 _ w.heap.size _ _ ((rd_T29 t679 x8_1).f1) from Kd.V_mk ul686_1 ge686_1)
                    clear hva_ hvn_ hvc_ ge686_1 ul686_1
                    clear hcc686 hce686
                    have HR686_1 := Aside0.mk hi686_1
                    have HC686_1 := Aside0.mk hl686_1
                    clear hi686_1 hl686_1
                    replace p686 := eq_true p686
                    replace q686 := eq_true q686
                    have ea_ := Option.some.inj (hx685_1.symm.trans hx686_1)
                    injection ea_ with ea_ en_ ec_
                    subst ea_
                    subst ec_
                    clear en_
                    have p687 : 0 ≤ (x8_1 : Int) := of_decide_eq_true (by first | (with_reducible assumption) | assumption)
                    have q687 : x8_1 < (t682.length : Int) := of_decide_eq_true (by first | (with_reducible assumption) | assumption)
                    obtain ⟨ad687, A687_1, c687_1, e687, hx687_0, hx687_1, hx687_2, hl687_1, hi687_1⟩ := at_T29 (Kd.S_reads' HO_25.out).2.2 x8_1 p687 q687
                    cases e687
                    obtain ⟨ce687, hce687, hMe687, hcc687⟩ := Kd.S_get HO_25.out z29 x8_1 p687 (by first | exact q687 | exact of_decide_eq_true (by first | (with_reducible assumption) | assumption) | (have e_ := (Kd.S_reads' HO_25.out).1; omega))
                    obtain ⟨ve687_1, rfl, ge687_1⟩ := k29_openM hMe687
                    have hv687_1 := hcc687 1 _ rfl
                    rw [add_field _ _ 1 (by omega)] at hv687_1
                    replace hv687_1 := Option.some.inj (hv687_1.symm.trans hx687_1)
                    rw [hv687_1] at ge687_1
                    have HL687_1 := Aside0.mk (show Kd.R (Kd.int .i64) 3 _ _ _ _ ((rd_T29 t682 x8_1).f1) from ge687_1)
                    clear hv687_1 ge687_1
                    clear hcc687 hce687
                    have HR687_1 := Aside0.mk hi687_1
                    have HC687_1 := Aside0.mk hl687_1
                    clear hi687_1 hl687_1
                    replace p687 := eq_true p687
                    replace q687 := eq_true q687
                    go_wp2_with (first | (go_at_call 13; (with_reducible refine (laws_sameInts.calls k1 _ _ ((rd_T29 t679 x8_1).f1) _ _ ((rd_T29 t682 x8_1).f1) false _ ?side1 ?side2 ?side3 ?side4 A17.out).mono ?_); (case side1 => repeat (first | exact (by repeat (first | (with_reducible exact HR686_1.out) | (with_reducible refine Kd.C_alloc ?_ _) | (with_reducible refine Kd.C_drewN ?_ _) | (with_reducible refine Kd.C_drew ?_) | exact HR686_1.out)) | (with_reducible refine Kd.C_alloc ?_ _) | (with_reducible refine Kd.C_drewN ?_ _) | (with_reducible refine Kd.C_drew ?_))); (case side2 => exact HC686_1.out); (case side3 => repeat (first | exact (by repeat (first | (with_reducible exact HR687_1.out) | (with_reducible refine Kd.C_alloc ?_ _) | (with_reducible refine Kd.C_drewN ?_ _) | (with_reducible refine Kd.C_drew ?_) | exact HR687_1.out)) | (with_reducible refine Kd.C_alloc ?_ _) | (with_reducible refine Kd.C_drewN ?_ _) | (with_reducible refine Kd.C_drew ?_))); (case side4 => exact HC687_1.out); rintro e w' ⟨rfl, ⟨nd, rfl⟩⟩; (try first | exact ⟨rfl, _, World.drewN_drewN _ _ _⟩ | exact ⟨rfl, _, Eq.trans (World.drewN_drewN _ _ _) (congrArg (World.drewN _) (Nat.add_assoc _ _ _))⟩)))
                    repeat (go_quiet (first | (go_at_call 13; (with_reducible refine (laws_sameInts.calls k1 _ _ ((rd_T29 t679 x8_1).f1) _ _ ((rd_T29 t682 x8_1).f1) false _ ?side1 ?side2 ?side3 ?side4 A17.out).mono ?_); (case side1 => repeat (first | exact (by repeat (first | (with_reducible exact HR686_1.out) | (with_reducible refine Kd.C_alloc ?_ _) | (with_reducible refine Kd.C_drewN ?_ _) | (with_reducible refine Kd.C_drew ?_) | exact HR686_1.out)) | (with_reducible refine Kd.C_alloc ?_ _) | (with_reducible refine Kd.C_drewN ?_ _) | (with_reducible refine Kd.C_drew ?_))); (case side2 => exact HC686_1.out); (case side3 => repeat (first | exact (by repeat (first | (with_reducible exact HR687_1.out) | (with_reducible refine Kd.C_alloc ?_ _) | (with_reducible refine Kd.C_drewN ?_ _) | (with_reducible refine Kd.C_drew ?_) | exact HR687_1.out)) | (with_reducible refine Kd.C_alloc ?_ _) | (with_reducible refine Kd.C_drewN ?_ _) | (with_reducible refine Kd.C_drew ?_))); (case side4 => exact HC687_1.out); rintro e w' ⟨rfl, ⟨nd, rfl⟩⟩; (try first | exact ⟨rfl, _, World.drewN_drewN _ _ _⟩ | exact ⟨rfl, _, Eq.trans (World.drewN_drewN _ _ _) (congrArg (World.drewN _) (Nat.add_assoc _ _ _))⟩))); try go_wp2_with (first | (go_at_call 13; (with_reducible refine (laws_sameInts.calls k1 _ _ ((rd_T29 t679 x8_1).f1) _ _ ((rd_T29 t682 x8_1).f1) false _ ?side1 ?side2 ?side3 ?side4 A17.out).mono ?_); (case side1 => repeat (first | exact (by repeat (first | (with_reducible exact HR686_1.out) | (with_reducible refine Kd.C_alloc ?_ _) | (with_reducible refine Kd.C_drewN ?_ _) | (with_reducible refine Kd.C_drew ?_) | exact HR686_1.out)) | (with_reducible refine Kd.C_alloc ?_ _) | (with_reducible refine Kd.C_drewN ?_ _) | (with_reducible refine Kd.C_drew ?_))); (case side2 => exact HC686_1.out); (case side3 => repeat (first | exact (by repeat (first | (with_reducible exact HR687_1.out) | (with_reducible refine Kd.C_alloc ?_ _) | (with_reducible refine Kd.C_drewN ?_ _) | (with_reducible refine Kd.C_drew ?_) | exact HR687_1.out)) | (with_reducible refine Kd.C_alloc ?_ _) | (with_reducible refine Kd.C_drewN ?_ _) | (with_reducible refine Kd.C_drew ?_))); (case side4 => exact HC687_1.out); rintro e w' ⟨rfl, ⟨nd, rfl⟩⟩; (try first | exact ⟨rfl, _, World.drewN_drewN _ _ _⟩ | exact ⟨rfl, _, Eq.trans (World.drewN_drewN _ _ _) (congrArg (World.drewN _) (Nat.add_assoc _ _ _))⟩))))
                    go_ret
                    exact ⟨by first | rfl | (simp [errW_none, errW_some] <;> rfl) | (simp [*, errW_none, errW_some] <;> rfl), by repeat (first | (with_reducible first | exact HB.out | apply below_alloc | apply pw_below_drewN | apply below_drew1) | exact HB.out)⟩
                · rw [if_neg c16] at H
                  exact absurd H (by simp)
              · rw [if_neg c15] at H
                have c15b0 : (((rd_T29 t679 x8_1).f0) == 4) = false := beq_eq_false_iff_ne.mpr c15
                have c15b1 : (((rd_T29 t679 x8_1).f0) != 4) = true := bne_iff_ne.mpr c15
                obtain rfl := Option.some.inj H
                have p685 : 0 ≤ (x8_1 : Int) := of_decide_eq_true (by first | (with_reducible assumption) | assumption)
                have q685 : x8_1 < (t679.length : Int) := of_decide_eq_true (by first | (with_reducible assumption) | assumption)
                obtain ⟨ad685, A685_1, c685_1, e685, hx685_0, hx685_1, hx685_2, hl685_1, hi685_1⟩ := at_T29 (Kd.V_reads' HO_21.out).2.2 x8_1 p685 q685
                cases e685
                obtain ⟨ce685, hce685, hMe685, hcc685⟩ := Kd.V_get HO_21.out z29 x8_1 p685 (by first | exact q685 | exact of_decide_eq_true (by first | (with_reducible assumption) | assumption) | (have e_ := (Kd.V_reads' HO_21.out).1; omega))
                obtain ⟨ua685_1, uc685_1, rfl, ul685_1, ge685_1⟩ := k29_openF hMe685
                have hv685_1 := hcc685 1 _ rfl
                rw [add_field _ _ 1 (by omega)] at hv685_1
                replace hv685_1 := Option.some.inj (hv685_1.symm.trans hx685_1)
                injection hv685_1 with hva_ hvn_ hvc_
                rw [hva_] at ge685_1
                rw [hvc_] at ul685_1
                have HL685_1 := Aside0.mk (show Kd.V (Kd.int .i64) 3 _ w.heap.size _ _ ((rd_T29 t679 x8_1).f1) from Kd.V_mk ul685_1 ge685_1)
                clear hva_ hvn_ hvc_ ge685_1 ul685_1
                clear hcc685 hce685
                have HR685_1 := Aside0.mk hi685_1
                have HC685_1 := Aside0.mk hl685_1
                clear hi685_1 hl685_1
                replace p685 := eq_true p685
                replace q685 := eq_true q685
                go_wp2
                repeat (go_quiet (fail); try go_wp2)
                go_ret
                exact ⟨by first | rfl | (simp [errW_none, errW_some] <;> rfl) | (simp [*, errW_none, errW_some] <;> rfl), by repeat (first | (with_reducible first | exact HB.out | apply below_alloc | apply pw_below_drewN | apply below_drew1) | exact HB.out)⟩
            · rw [if_neg c14] at H
              exact absurd H (by simp)
          · rw [if_neg c13] at H
            have c13b0 : decide (x8_1 < (t679.length : Int)) = false := decide_eq_false c13
            clear c13
            have HC19 := Aside0.mk H
            clear H
            go_upto_region 13 with (fail)
            repeat (go_quiet (fail); go_upto_region 13 with (fail))
            go_cut [68] (fun v68 wc => ∃ (kq : Nat) (x68_18 : Bool), v68 = .bool x68_18 ∧ Aside0 (laws_FnLessRules.j1 kq t674 t675 t676 t679 x68_18 = some r) ∧ Aside0 (kq ≤ k1) ∧ Aside0 (Kd.Q (Kd.int .i64) 3 wc w.heap.size (fun _ => True) (.slice Ao8 t674.length co8) t674) ∧ Aside0 (Kd.V k29 29 wc w.heap.size (fun k_ => some k_ ≠ ((.slice Ao8 t674.length co8) : Value).ownBlock) (.slice Ao11 t679.length co11) t679) ∧ Aside0 (Below w.heap.size w wc))
            case first =>
              have H := HC19.out
              clear HC19
              replace H := Option.bind_eq_some_iff.mp H
              obtain ⟨t689, A200, H⟩ := H
              replace H : (if t689 = true then (if t676 < 0 then (laws_FnLessRules.j1 k1 t674 t675 t676 t679 true) else (laws_FnLessRules.j1 k1 t674 t675 t676 t679 (decide (t676 > 20)))) else (laws_FnLessRules.j1 k1 t674 t675 t676 t679 true)) = some r := H
              have A20 := Aside0.mk A200
              clear A200
              by_cases c21 : t689 = true
              · subst c21
                have H1 : (if t676 < 0 then (laws_FnLessRules.j1 k1 t674 t675 t676 t679 true) else (laws_FnLessRules.j1 k1 t674 t675 t676 t679 (decide (t676 > 20)))) = some r := by rw [if_pos rfl] at H; exact H
                clear H
                have H := H1
                clear H1
                by_cases c22 : t676 < 0
                · rw [if_pos c22] at H
                  have c22b0 : decide (t676 < 0) = true := decide_eq_true c22
                  clear c22
                  (first | rw [c22b0] | (simp only [i64_w, i32_w]; rw [c22b0]) | skip)
                  have H' := Aside0.mk H
                  clear H
                  go_wp2_with (first | (go_at_call 14; (with_reducible refine (spec_SquareSolved.calls k1 _ _ t674 t675 true _ ?side1 ?side2 A20.out).mono ?_); (case side1 => repeat (first | exact (Kd.Q_reads' HO_15.out).2.2 | (with_reducible refine Kd.C_alloc ?_ _) | (with_reducible refine Kd.C_drewN ?_ _) | (with_reducible refine Kd.C_drew ?_))); (case side2 => exact (Kd.Q_reads' HO_15.out).2.1); rintro e w23 ⟨rfl, hb⟩; have n0_ := Aside0.mk (Kd.Q_below (by (with_reducible repeat (first | apply Kd.Q_alloc | apply Kd.Q_drewN | apply Kd.Q_drew)); exact HO_15.out) hb); have n1_ := Aside0.mk (Kd.V_below (by (with_reducible repeat (first | apply Kd.V_alloc | apply Kd.V_drewN | apply Kd.V_drew)); exact HO_21.out) hb); have n2_ := Aside0.mk (Kd.S_below (by (with_reducible repeat (first | apply Kd.S_alloc | apply Kd.S_drewN | apply Kd.S_drew)); exact HO_25.out) hb); have n3_ := Aside0.mk (below_step (by repeat (first | (with_reducible first | exact HB.out | apply below_alloc | apply pw_below_drewN | apply below_drew1) | exact HB.out)) hb); clear HO_15; clear HO_21; clear HO_25; clear HB; have HO_15 := n0_; have HO_21 := n1_; have HO_25 := n2_; have HB := n3_; clear n0_ n1_ n2_ n3_; (try clear hb); (try clear hb2); (try clear hk); (try clear hi)))
                  repeat (go_quiet (first | (go_at_call 14; (with_reducible refine (spec_SquareSolved.calls k1 _ _ t674 t675 true _ ?side1 ?side2 A20.out).mono ?_); (case side1 => repeat (first | exact (Kd.Q_reads' HO_15.out).2.2 | (with_reducible refine Kd.C_alloc ?_ _) | (with_reducible refine Kd.C_drewN ?_ _) | (with_reducible refine Kd.C_drew ?_))); (case side2 => exact (Kd.Q_reads' HO_15.out).2.1); rintro e w23 ⟨rfl, hb⟩; have n0_ := Aside0.mk (Kd.Q_below (by (with_reducible repeat (first | apply Kd.Q_alloc | apply Kd.Q_drewN | apply Kd.Q_drew)); exact HO_15.out) hb); have n1_ := Aside0.mk (Kd.V_below (by (with_reducible repeat (first | apply Kd.V_alloc | apply Kd.V_drewN | apply Kd.V_drew)); exact HO_21.out) hb); have n2_ := Aside0.mk (Kd.S_below (by (with_reducible repeat (first | apply Kd.S_alloc | apply Kd.S_drewN | apply Kd.S_drew)); exact HO_25.out) hb); have n3_ := Aside0.mk (below_step (by repeat (first | (with_reducible first | exact HB.out | apply below_alloc | apply pw_below_drewN | apply below_drew1) | exact HB.out)) hb); clear HO_15; clear HO_21; clear HO_25; clear HB; have HO_15 := n0_; have HO_21 := n1_; have HO_25 := n2_; have HB := n3_; clear n0_ n1_ n2_ n3_; (try clear hb); (try clear hb2); (try clear hk); (try clear hi))); try go_wp2_with (first | (go_at_call 14; (with_reducible refine (spec_SquareSolved.calls k1 _ _ t674 t675 true _ ?side1 ?side2 A20.out).mono ?_); (case side1 => repeat (first | exact (Kd.Q_reads' HO_15.out).2.2 | (with_reducible refine Kd.C_alloc ?_ _) | (with_reducible refine Kd.C_drewN ?_ _) | (with_reducible refine Kd.C_drew ?_))); (case side2 => exact (Kd.Q_reads' HO_15.out).2.1); rintro e w23 ⟨rfl, hb⟩; have n0_ := Aside0.mk (Kd.Q_below (by (with_reducible repeat (first | apply Kd.Q_alloc | apply Kd.Q_drewN | apply Kd.Q_drew)); exact HO_15.out) hb); have n1_ := Aside0.mk (Kd.V_below (by (with_reducible repeat (first | apply Kd.V_alloc | apply Kd.V_drewN | apply Kd.V_drew)); exact HO_21.out) hb); have n2_ := Aside0.mk (Kd.S_below (by (with_reducible repeat (first | apply Kd.S_alloc | apply Kd.S_drewN | apply Kd.S_drew)); exact HO_25.out) hb); have n3_ := Aside0.mk (below_step (by repeat (first | (with_reducible first | exact HB.out | apply below_alloc | apply pw_below_drewN | apply below_drew1) | exact HB.out)) hb); clear HO_15; clear HO_21; clear HO_25; clear HB; have HO_15 := n0_; have HO_21 := n1_; have HO_25 := n2_; have HB := n3_; clear n0_ n1_ n2_ n3_; (try clear hb); (try clear hb2); (try clear hk); (try clear hi))))
                  go_meet
                  case rel => exact ⟨_, (true), (by first | rfl | (simp; done) | (simp [*]; done)), H', ⟨by have := HK1.out; first | omega | exact Nat.le_refl _⟩, ⟨by (with_reducible repeat (first | apply Kd.Q_alloc | apply Kd.Q_drewN | apply Kd.Q_drew)); exact HO_15.out⟩, ⟨by (with_reducible repeat (first | apply Kd.V_alloc | apply Kd.V_drewN | apply Kd.V_drew)); exact Kd.V_mono HO_21.out (fun _ hk => hk.1)⟩, ⟨by repeat (first | (with_reducible first | exact HB.out | apply below_alloc | apply pw_below_drewN | apply below_drew1) | exact HB.out)⟩⟩
                · rw [if_neg c22] at H
                  have c22b0 : decide (t676 < 0) = false := decide_eq_false c22
                  clear c22
                  (first | rw [c22b0] | (simp only [i64_w, i32_w]; rw [c22b0]) | skip)
                  have H' := Aside0.mk H
                  clear H
                  go_wp2_with (first | (go_at_call 14; (with_reducible refine (spec_SquareSolved.calls k1 _ _ t674 t675 true _ ?side1 ?side2 A20.out).mono ?_); (case side1 => repeat (first | exact (Kd.Q_reads' HO_15.out).2.2 | (with_reducible refine Kd.C_alloc ?_ _) | (with_reducible refine Kd.C_drewN ?_ _) | (with_reducible refine Kd.C_drew ?_))); (case side2 => exact (Kd.Q_reads' HO_15.out).2.1); rintro e w24 ⟨rfl, hb⟩; have n0_ := Aside0.mk (Kd.Q_below (by (with_reducible repeat (first | apply Kd.Q_alloc | apply Kd.Q_drewN | apply Kd.Q_drew)); exact HO_15.out) hb); have n1_ := Aside0.mk (Kd.V_below (by (with_reducible repeat (first | apply Kd.V_alloc | apply Kd.V_drewN | apply Kd.V_drew)); exact HO_21.out) hb); have n2_ := Aside0.mk (Kd.S_below (by (with_reducible repeat (first | apply Kd.S_alloc | apply Kd.S_drewN | apply Kd.S_drew)); exact HO_25.out) hb); have n3_ := Aside0.mk (below_step (by repeat (first | (with_reducible first | exact HB.out | apply below_alloc | apply pw_below_drewN | apply below_drew1) | exact HB.out)) hb); clear HO_15; clear HO_21; clear HO_25; clear HB; have HO_15 := n0_; have HO_21 := n1_; have HO_25 := n2_; have HB := n3_; clear n0_ n1_ n2_ n3_; (try clear hb); (try clear hb2); (try clear hk); (try clear hi)))
                  repeat (go_quiet (first | (go_at_call 14; (with_reducible refine (spec_SquareSolved.calls k1 _ _ t674 t675 true _ ?side1 ?side2 A20.out).mono ?_); (case side1 => repeat (first | exact (Kd.Q_reads' HO_15.out).2.2 | (with_reducible refine Kd.C_alloc ?_ _) | (with_reducible refine Kd.C_drewN ?_ _) | (with_reducible refine Kd.C_drew ?_))); (case side2 => exact (Kd.Q_reads' HO_15.out).2.1); rintro e w24 ⟨rfl, hb⟩; have n0_ := Aside0.mk (Kd.Q_below (by (with_reducible repeat (first | apply Kd.Q_alloc | apply Kd.Q_drewN | apply Kd.Q_drew)); exact HO_15.out) hb); have n1_ := Aside0.mk (Kd.V_below (by (with_reducible repeat (first | apply Kd.V_alloc | apply Kd.V_drewN | apply Kd.V_drew)); exact HO_21.out) hb); have n2_ := Aside0.mk (Kd.S_below (by (with_reducible repeat (first | apply Kd.S_alloc | apply Kd.S_drewN | apply Kd.S_drew)); exact HO_25.out) hb); have n3_ := Aside0.mk (below_step (by repeat (first | (with_reducible first | exact HB.out | apply below_alloc | apply pw_below_drewN | apply below_drew1) | exact HB.out)) hb); clear HO_15; clear HO_21; clear HO_25; clear HB; have HO_15 := n0_; have HO_21 := n1_; have HO_25 := n2_; have HB := n3_; clear n0_ n1_ n2_ n3_; (try clear hb); (try clear hb2); (try clear hk); (try clear hi))); try go_wp2_with (first | (go_at_call 14; (with_reducible refine (spec_SquareSolved.calls k1 _ _ t674 t675 true _ ?side1 ?side2 A20.out).mono ?_); (case side1 => repeat (first | exact (Kd.Q_reads' HO_15.out).2.2 | (with_reducible refine Kd.C_alloc ?_ _) | (with_reducible refine Kd.C_drewN ?_ _) | (with_reducible refine Kd.C_drew ?_))); (case side2 => exact (Kd.Q_reads' HO_15.out).2.1); rintro e w24 ⟨rfl, hb⟩; have n0_ := Aside0.mk (Kd.Q_below (by (with_reducible repeat (first | apply Kd.Q_alloc | apply Kd.Q_drewN | apply Kd.Q_drew)); exact HO_15.out) hb); have n1_ := Aside0.mk (Kd.V_below (by (with_reducible repeat (first | apply Kd.V_alloc | apply Kd.V_drewN | apply Kd.V_drew)); exact HO_21.out) hb); have n2_ := Aside0.mk (Kd.S_below (by (with_reducible repeat (first | apply Kd.S_alloc | apply Kd.S_drewN | apply Kd.S_drew)); exact HO_25.out) hb); have n3_ := Aside0.mk (below_step (by repeat (first | (with_reducible first | exact HB.out | apply below_alloc | apply pw_below_drewN | apply below_drew1) | exact HB.out)) hb); clear HO_15; clear HO_21; clear HO_25; clear HB; have HO_15 := n0_; have HO_21 := n1_; have HO_25 := n2_; have HB := n3_; clear n0_ n1_ n2_ n3_; (try clear hb); (try clear hb2); (try clear hk); (try clear hi))))
                  go_meet
                  case rel => exact ⟨_, (decide (t676 > 20)), (by first | rfl | (simp; done) | (simp [*]; done)), H', ⟨by have := HK1.out; first | omega | exact Nat.le_refl _⟩, ⟨by (with_reducible repeat (first | apply Kd.Q_alloc | apply Kd.Q_drewN | apply Kd.Q_drew)); exact HO_15.out⟩, ⟨by (with_reducible repeat (first | apply Kd.V_alloc | apply Kd.V_drewN | apply Kd.V_drew)); exact Kd.V_mono HO_21.out (fun _ hk => hk.1)⟩, ⟨by repeat (first | (with_reducible first | exact HB.out | apply below_alloc | apply pw_below_drewN | apply below_drew1) | exact HB.out)⟩⟩
              · replace c21 := Bool.eq_false_iff.mpr c21
                subst c21
                have H1 : (laws_FnLessRules.j1 k1 t674 t675 t676 t679 true) = some r := by rw [if_neg (show ¬ (false = true) by decide)] at H; exact H
                clear H
                have H := H1
                clear H1
                have H' := Aside0.mk H
                clear H
                go_wp2_with (first | (go_at_call 14; (with_reducible refine (spec_SquareSolved.calls k1 _ _ t674 t675 false _ ?side1 ?side2 A20.out).mono ?_); (case side1 => repeat (first | exact (Kd.Q_reads' HO_15.out).2.2 | (with_reducible refine Kd.C_alloc ?_ _) | (with_reducible refine Kd.C_drewN ?_ _) | (with_reducible refine Kd.C_drew ?_))); (case side2 => exact (Kd.Q_reads' HO_15.out).2.1); rintro e w25 ⟨rfl, hb⟩; have n0_ := Aside0.mk (Kd.Q_below (by (with_reducible repeat (first | apply Kd.Q_alloc | apply Kd.Q_drewN | apply Kd.Q_drew)); exact HO_15.out) hb); have n1_ := Aside0.mk (Kd.V_below (by (with_reducible repeat (first | apply Kd.V_alloc | apply Kd.V_drewN | apply Kd.V_drew)); exact HO_21.out) hb); have n2_ := Aside0.mk (Kd.S_below (by (with_reducible repeat (first | apply Kd.S_alloc | apply Kd.S_drewN | apply Kd.S_drew)); exact HO_25.out) hb); have n3_ := Aside0.mk (below_step (by repeat (first | (with_reducible first | exact HB.out | apply below_alloc | apply pw_below_drewN | apply below_drew1) | exact HB.out)) hb); clear HO_15; clear HO_21; clear HO_25; clear HB; have HO_15 := n0_; have HO_21 := n1_; have HO_25 := n2_; have HB := n3_; clear n0_ n1_ n2_ n3_; (try clear hb); (try clear hb2); (try clear hk); (try clear hi)))
                repeat (go_quiet (first | (go_at_call 14; (with_reducible refine (spec_SquareSolved.calls k1 _ _ t674 t675 false _ ?side1 ?side2 A20.out).mono ?_); (case side1 => repeat (first | exact (Kd.Q_reads' HO_15.out).2.2 | (with_reducible refine Kd.C_alloc ?_ _) | (with_reducible refine Kd.C_drewN ?_ _) | (with_reducible refine Kd.C_drew ?_))); (case side2 => exact (Kd.Q_reads' HO_15.out).2.1); rintro e w25 ⟨rfl, hb⟩; have n0_ := Aside0.mk (Kd.Q_below (by (with_reducible repeat (first | apply Kd.Q_alloc | apply Kd.Q_drewN | apply Kd.Q_drew)); exact HO_15.out) hb); have n1_ := Aside0.mk (Kd.V_below (by (with_reducible repeat (first | apply Kd.V_alloc | apply Kd.V_drewN | apply Kd.V_drew)); exact HO_21.out) hb); have n2_ := Aside0.mk (Kd.S_below (by (with_reducible repeat (first | apply Kd.S_alloc | apply Kd.S_drewN | apply Kd.S_drew)); exact HO_25.out) hb); have n3_ := Aside0.mk (below_step (by repeat (first | (with_reducible first | exact HB.out | apply below_alloc | apply pw_below_drewN | apply below_drew1) | exact HB.out)) hb); clear HO_15; clear HO_21; clear HO_25; clear HB; have HO_15 := n0_; have HO_21 := n1_; have HO_25 := n2_; have HB := n3_; clear n0_ n1_ n2_ n3_; (try clear hb); (try clear hb2); (try clear hk); (try clear hi))); try go_wp2_with (first | (go_at_call 14; (with_reducible refine (spec_SquareSolved.calls k1 _ _ t674 t675 false _ ?side1 ?side2 A20.out).mono ?_); (case side1 => repeat (first | exact (Kd.Q_reads' HO_15.out).2.2 | (with_reducible refine Kd.C_alloc ?_ _) | (with_reducible refine Kd.C_drewN ?_ _) | (with_reducible refine Kd.C_drew ?_))); (case side2 => exact (Kd.Q_reads' HO_15.out).2.1); rintro e w25 ⟨rfl, hb⟩; have n0_ := Aside0.mk (Kd.Q_below (by (with_reducible repeat (first | apply Kd.Q_alloc | apply Kd.Q_drewN | apply Kd.Q_drew)); exact HO_15.out) hb); have n1_ := Aside0.mk (Kd.V_below (by (with_reducible repeat (first | apply Kd.V_alloc | apply Kd.V_drewN | apply Kd.V_drew)); exact HO_21.out) hb); have n2_ := Aside0.mk (Kd.S_below (by (with_reducible repeat (first | apply Kd.S_alloc | apply Kd.S_drewN | apply Kd.S_drew)); exact HO_25.out) hb); have n3_ := Aside0.mk (below_step (by repeat (first | (with_reducible first | exact HB.out | apply below_alloc | apply pw_below_drewN | apply below_drew1) | exact HB.out)) hb); clear HO_15; clear HO_21; clear HO_25; clear HB; have HO_15 := n0_; have HO_21 := n1_; have HO_25 := n2_; have HB := n3_; clear n0_ n1_ n2_ n3_; (try clear hb); (try clear hb2); (try clear hk); (try clear hi))))
                go_meet
                case rel => exact ⟨_, (true), (by first | rfl | (simp; done) | (simp [*]; done)), H', ⟨by have := HK1.out; first | omega | exact Nat.le_refl _⟩, ⟨by (with_reducible repeat (first | apply Kd.Q_alloc | apply Kd.Q_drewN | apply Kd.Q_drew)); exact HO_15.out⟩, ⟨by (with_reducible repeat (first | apply Kd.V_alloc | apply Kd.V_drewN | apply Kd.V_drew)); exact Kd.V_mono HO_21.out (fun _ hk => hk.1)⟩, ⟨by repeat (first | (with_reducible first | exact HB.out | apply below_alloc | apply pw_below_drewN | apply below_drew1) | exact HB.out)⟩⟩
            case rest =>
              clear HC19
              try clear c1
              try clear c2
              try clear c2b0
              try clear c2b1
              try clear p2
              try clear c4
              try clear c6
              try clear c6b0
              try clear c6b1
              try clear c6b2
              try clear p6
              try clear q6
              try clear hx6
              try clear c13
              try clear c13b0
              try clear c14
              try clear c14b0
              try clear c15
              try clear c15b0
              try clear c15b1
              try clear c16
              try clear c16b0
              try clear c18
              try clear c21
              try clear c22
              try clear c22b0
              try clear hx685_0
              try clear hx685_1
              try clear hx685_2
              try clear hx686_0
              try clear hx686_1
              try clear hx686_2
              try clear hx687_0
              try clear hx687_1
              try clear hx687_2
              try clear p2
              try clear p685
              try clear p686
              try clear p687
              try clear q685
              try clear q686
              try clear q687
              obtain ⟨kq, x68_18, rfl, HA, HJ18, HO_3, HO_6, HB⟩ := hcut
              cases kq with
              | zero => exact absurd HA.out (by simp [laws_FnLessRules.j1])
              | succ kj18 =>
                have H := HA.out
                clear HA
                simp only [laws_FnLessRules.j1] at H
                by_cases c26 : x68_18 = true
                · subst c26
                  have H1 : (if (t679.length : Int) = 0 then ((laws_alive.f kj18).bind fun t690 => (some t690)) else (some false)) = some r := by rw [if_pos rfl] at H; exact H
                  clear H
                  have H := H1
                  clear H1
                  by_cases c27 : (t679.length : Int) = 0
                  · rw [if_pos c27] at H
                    have c27b0 : ((t679.length : Int) == 0) = true := beq_iff_eq.mpr c27
                    have c27b1 : ((t679.length : Int) != 0) = false := bne_eq_false_iff_eq.mpr c27
                    clear c27
                    replace H := Option.bind_eq_some_iff.mp H
                    obtain ⟨t690, A280, H⟩ := H
                    replace H : (some t690) = some r := H
                    have A28 := Aside0.mk A280
                    clear A280
                    obtain rfl := Option.some.inj H
                    go_wp2_with (first | (go_at_call 15; (with_reducible refine (laws_alive.calls kj18  t690 _ A28.out).mono ?_); rintro e w29 ⟨rfl, hb⟩; have n0_ := Aside0.mk (Kd.Q_below (by (with_reducible repeat (first | apply Kd.Q_alloc | apply Kd.Q_drewN | apply Kd.Q_drew)); exact HO_3.out) hb); have n1_ := Aside0.mk (Kd.V_below (by (with_reducible repeat (first | apply Kd.V_alloc | apply Kd.V_drewN | apply Kd.V_drew)); exact HO_6.out) hb); have n2_ := Aside0.mk (below_step (by repeat (first | (with_reducible first | exact HB.out | apply below_alloc | apply pw_below_drewN | apply below_drew1) | exact HB.out)) hb); clear HO_3; clear HO_6; clear HB; have HO_3 := n0_; have HO_6 := n1_; have HB := n2_; clear n0_ n1_ n2_; (try clear hb); (try clear hb2); (try clear hk); (try clear hi)))
                    repeat (go_quiet (first | (go_at_call 15; (with_reducible refine (laws_alive.calls kj18  t690 _ A28.out).mono ?_); rintro e w29 ⟨rfl, hb⟩; have n0_ := Aside0.mk (Kd.Q_below (by (with_reducible repeat (first | apply Kd.Q_alloc | apply Kd.Q_drewN | apply Kd.Q_drew)); exact HO_3.out) hb); have n1_ := Aside0.mk (Kd.V_below (by (with_reducible repeat (first | apply Kd.V_alloc | apply Kd.V_drewN | apply Kd.V_drew)); exact HO_6.out) hb); have n2_ := Aside0.mk (below_step (by repeat (first | (with_reducible first | exact HB.out | apply below_alloc | apply pw_below_drewN | apply below_drew1) | exact HB.out)) hb); clear HO_3; clear HO_6; clear HB; have HO_3 := n0_; have HO_6 := n1_; have HB := n2_; clear n0_ n1_ n2_; (try clear hb); (try clear hb2); (try clear hk); (try clear hi))); try go_wp2_with (first | (go_at_call 15; (with_reducible refine (laws_alive.calls kj18  t690 _ A28.out).mono ?_); rintro e w29 ⟨rfl, hb⟩; have n0_ := Aside0.mk (Kd.Q_below (by (with_reducible repeat (first | apply Kd.Q_alloc | apply Kd.Q_drewN | apply Kd.Q_drew)); exact HO_3.out) hb); have n1_ := Aside0.mk (Kd.V_below (by (with_reducible repeat (first | apply Kd.V_alloc | apply Kd.V_drewN | apply Kd.V_drew)); exact HO_6.out) hb); have n2_ := Aside0.mk (below_step (by repeat (first | (with_reducible first | exact HB.out | apply below_alloc | apply pw_below_drewN | apply below_drew1) | exact HB.out)) hb); clear HO_3; clear HO_6; clear HB; have HO_3 := n0_; have HO_6 := n1_; have HB := n2_; clear n0_ n1_ n2_; (try clear hb); (try clear hb2); (try clear hk); (try clear hi))))
                    go_ret
                    exact ⟨by first | rfl | (simp [errW_none, errW_some] <;> rfl) | (simp [*, errW_none, errW_some] <;> rfl), by repeat (first | (with_reducible first | exact HB.out | apply below_alloc | apply pw_below_drewN | apply below_drew1) | exact HB.out)⟩
                  · rw [if_neg c27] at H
                    have c27b0 : ((t679.length : Int) == 0) = false := beq_eq_false_iff_ne.mpr c27
                    have c27b1 : ((t679.length : Int) != 0) = true := bne_iff_ne.mpr c27
                    have c27b2 : ¬ (t679 = []) := fun h_ => c27 (by rw [h_]; rfl)
                    obtain rfl := Option.some.inj H
                    go_wp2
                    repeat (go_quiet (fail); try go_wp2)
                    go_ret
                    exact ⟨by first | rfl | (simp [errW_none, errW_some] <;> rfl) | (simp [*, errW_none, errW_some] <;> rfl), by repeat (first | (with_reducible first | exact HB.out | apply below_alloc | apply pw_below_drewN | apply below_drew1) | exact HB.out)⟩
                · replace c26 := Bool.eq_false_iff.mpr c26
                  subst c26
                  have H1 : ((laws_hold.f kj18 t679 t674 t675).bind fun t691 => (if t691 = true then (some ((t679.length : Int) == (mn t676 (wrap64 ((wrap64 (2 * t675)) * (wrap64 (t675 - 1))))))) else (some false))) = some r := by rw [if_neg (show ¬ (false = true) by decide)] at H; exact H
                  clear H
                  have H := H1
                  clear H1
                  replace H := Option.bind_eq_some_iff.mp H
                  obtain ⟨t691, A300, H⟩ := H
                  replace H : (if t691 = true then (some ((t679.length : Int) == (mn t676 (wrap64 ((wrap64 (2 * t675)) * (wrap64 (t675 - 1))))))) else (some false)) = some r := H
                  have A30 := Aside0.mk A300
                  clear A300
                  by_cases c31 : t691 = true
                  · subst c31
                    have H1 : (some ((t679.length : Int) == (mn t676 (wrap64 ((wrap64 (2 * t675)) * (wrap64 (t675 - 1))))))) = some r := by rw [if_pos rfl] at H; exact H
                    clear H
                    have H := H1
                    clear H1
                    obtain ⟨ji32, hji32⟩ : ∃ j_ : Int, (mn t676 (wrap64 ((wrap64 (2 * t675)) * (wrap64 (t675 - 1))))) = j_ := ⟨_, rfl⟩
                    replace H : (some ((t679.length : Int) == (ji32))) = some r := by first | (rw [hji32] at H; exact H) | (simp only [hji32] at H ⊢; exact H)
                    (try rw [hji32] at A30)
                    have hji32_ : (if (wrap64 ((wrap64 (2 * t675)) * (wrap64 (t675 - 1)))) < t676 then (wrap64 ((wrap64 (2 * t675)) * (wrap64 (t675 - 1)))) else t676) = ji32 := hji32
                    obtain rfl := Option.some.inj H
                    go_wp2_with (first | (go_at_call 16; (with_reducible refine (laws_hold.calls kj18 _ _ t679 _ _ t674 t675 true _ ?side1 ?side2 ?side3 ?side4 A30.out).mono ?_); (case side1 => repeat (first | exact (Kd.V_reads' HO_6.out).2.2 | (with_reducible refine Kd.C_alloc ?_ _) | (with_reducible refine Kd.C_drewN ?_ _) | (with_reducible refine Kd.C_drew ?_))); (case side2 => exact (Kd.V_reads' HO_6.out).2.1); (case side3 => repeat (first | exact (Kd.Q_reads' HO_3.out).2.2 | (with_reducible refine Kd.C_alloc ?_ _) | (with_reducible refine Kd.C_drewN ?_ _) | (with_reducible refine Kd.C_drew ?_))); (case side4 => exact (Kd.Q_reads' HO_3.out).2.1); rintro e w33 ⟨rfl, hb⟩; have n0_ := Aside0.mk (Kd.Q_below (by (with_reducible repeat (first | apply Kd.Q_alloc | apply Kd.Q_drewN | apply Kd.Q_drew)); exact HO_3.out) hb); have n1_ := Aside0.mk (Kd.V_below (by (with_reducible repeat (first | apply Kd.V_alloc | apply Kd.V_drewN | apply Kd.V_drew)); exact HO_6.out) hb); have n2_ := Aside0.mk (below_step (by repeat (first | (with_reducible first | exact HB.out | apply below_alloc | apply pw_below_drewN | apply below_drew1) | exact HB.out)) hb); clear HO_3; clear HO_6; clear HB; have HO_3 := n0_; have HO_6 := n1_; have HB := n2_; clear n0_ n1_ n2_; (try clear hb); (try clear hb2); (try clear hk); (try clear hi)))
                    repeat (go_quiet (first | (go_at_call 16; (with_reducible refine (laws_hold.calls kj18 _ _ t679 _ _ t674 t675 true _ ?side1 ?side2 ?side3 ?side4 A30.out).mono ?_); (case side1 => repeat (first | exact (Kd.V_reads' HO_6.out).2.2 | (with_reducible refine Kd.C_alloc ?_ _) | (with_reducible refine Kd.C_drewN ?_ _) | (with_reducible refine Kd.C_drew ?_))); (case side2 => exact (Kd.V_reads' HO_6.out).2.1); (case side3 => repeat (first | exact (Kd.Q_reads' HO_3.out).2.2 | (with_reducible refine Kd.C_alloc ?_ _) | (with_reducible refine Kd.C_drewN ?_ _) | (with_reducible refine Kd.C_drew ?_))); (case side4 => exact (Kd.Q_reads' HO_3.out).2.1); rintro e w33 ⟨rfl, hb⟩; have n0_ := Aside0.mk (Kd.Q_below (by (with_reducible repeat (first | apply Kd.Q_alloc | apply Kd.Q_drewN | apply Kd.Q_drew)); exact HO_3.out) hb); have n1_ := Aside0.mk (Kd.V_below (by (with_reducible repeat (first | apply Kd.V_alloc | apply Kd.V_drewN | apply Kd.V_drew)); exact HO_6.out) hb); have n2_ := Aside0.mk (below_step (by repeat (first | (with_reducible first | exact HB.out | apply below_alloc | apply pw_below_drewN | apply below_drew1) | exact HB.out)) hb); clear HO_3; clear HO_6; clear HB; have HO_3 := n0_; have HO_6 := n1_; have HB := n2_; clear n0_ n1_ n2_; (try clear hb); (try clear hb2); (try clear hk); (try clear hi))); try go_wp2_with (first | (go_at_call 16; (with_reducible refine (laws_hold.calls kj18 _ _ t679 _ _ t674 t675 true _ ?side1 ?side2 ?side3 ?side4 A30.out).mono ?_); (case side1 => repeat (first | exact (Kd.V_reads' HO_6.out).2.2 | (with_reducible refine Kd.C_alloc ?_ _) | (with_reducible refine Kd.C_drewN ?_ _) | (with_reducible refine Kd.C_drew ?_))); (case side2 => exact (Kd.V_reads' HO_6.out).2.1); (case side3 => repeat (first | exact (Kd.Q_reads' HO_3.out).2.2 | (with_reducible refine Kd.C_alloc ?_ _) | (with_reducible refine Kd.C_drewN ?_ _) | (with_reducible refine Kd.C_drew ?_))); (case side4 => exact (Kd.Q_reads' HO_3.out).2.1); rintro e w33 ⟨rfl, hb⟩; have n0_ := Aside0.mk (Kd.Q_below (by (with_reducible repeat (first | apply Kd.Q_alloc | apply Kd.Q_drewN | apply Kd.Q_drew)); exact HO_3.out) hb); have n1_ := Aside0.mk (Kd.V_below (by (with_reducible repeat (first | apply Kd.V_alloc | apply Kd.V_drewN | apply Kd.V_drew)); exact HO_6.out) hb); have n2_ := Aside0.mk (below_step (by repeat (first | (with_reducible first | exact HB.out | apply below_alloc | apply pw_below_drewN | apply below_drew1) | exact HB.out)) hb); clear HO_3; clear HO_6; clear HB; have HO_3 := n0_; have HO_6 := n1_; have HB := n2_; clear n0_ n1_ n2_; (try clear hb); (try clear hb2); (try clear hk); (try clear hi))))
                    go_ret
                    exact ⟨by first | rfl | (simp [errW_none, errW_some] <;> rfl) | (simp only [← hji32]; first | rfl | (simp [errW_none, errW_some] <;> rfl)) | (simp [*, errW_none, errW_some] <;> rfl), by repeat (first | (with_reducible first | exact HB.out | apply below_alloc | apply pw_below_drewN | apply below_drew1) | exact HB.out)⟩
                  · replace c31 := Bool.eq_false_iff.mpr c31
                    subst c31
                    have H1 : (some false) = some r := by rw [if_neg (show ¬ (false = true) by decide)] at H; exact H
                    clear H
                    have H := H1
                    clear H1
                    obtain rfl := Option.some.inj H
                    go_wp2_with (first | (go_at_call 16; (with_reducible refine (laws_hold.calls kj18 _ _ t679 _ _ t674 t675 false _ ?side1 ?side2 ?side3 ?side4 A30.out).mono ?_); (case side1 => repeat (first | exact (Kd.V_reads' HO_6.out).2.2 | (with_reducible refine Kd.C_alloc ?_ _) | (with_reducible refine Kd.C_drewN ?_ _) | (with_reducible refine Kd.C_drew ?_))); (case side2 => exact (Kd.V_reads' HO_6.out).2.1); (case side3 => repeat (first | exact (Kd.Q_reads' HO_3.out).2.2 | (with_reducible refine Kd.C_alloc ?_ _) | (with_reducible refine Kd.C_drewN ?_ _) | (with_reducible refine Kd.C_drew ?_))); (case side4 => exact (Kd.Q_reads' HO_3.out).2.1); rintro e w34 ⟨rfl, hb⟩; have n0_ := Aside0.mk (Kd.Q_below (by (with_reducible repeat (first | apply Kd.Q_alloc | apply Kd.Q_drewN | apply Kd.Q_drew)); exact HO_3.out) hb); have n1_ := Aside0.mk (Kd.V_below (by (with_reducible repeat (first | apply Kd.V_alloc | apply Kd.V_drewN | apply Kd.V_drew)); exact HO_6.out) hb); have n2_ := Aside0.mk (below_step (by repeat (first | (with_reducible first | exact HB.out | apply below_alloc | apply pw_below_drewN | apply below_drew1) | exact HB.out)) hb); clear HO_3; clear HO_6; clear HB; have HO_3 := n0_; have HO_6 := n1_; have HB := n2_; clear n0_ n1_ n2_; (try clear hb); (try clear hb2); (try clear hk); (try clear hi)))
                    repeat (go_quiet (first | (go_at_call 16; (with_reducible refine (laws_hold.calls kj18 _ _ t679 _ _ t674 t675 false _ ?side1 ?side2 ?side3 ?side4 A30.out).mono ?_); (case side1 => repeat (first | exact (Kd.V_reads' HO_6.out).2.2 | (with_reducible refine Kd.C_alloc ?_ _) | (with_reducible refine Kd.C_drewN ?_ _) | (with_reducible refine Kd.C_drew ?_))); (case side2 => exact (Kd.V_reads' HO_6.out).2.1); (case side3 => repeat (first | exact (Kd.Q_reads' HO_3.out).2.2 | (with_reducible refine Kd.C_alloc ?_ _) | (with_reducible refine Kd.C_drewN ?_ _) | (with_reducible refine Kd.C_drew ?_))); (case side4 => exact (Kd.Q_reads' HO_3.out).2.1); rintro e w34 ⟨rfl, hb⟩; have n0_ := Aside0.mk (Kd.Q_below (by (with_reducible repeat (first | apply Kd.Q_alloc | apply Kd.Q_drewN | apply Kd.Q_drew)); exact HO_3.out) hb); have n1_ := Aside0.mk (Kd.V_below (by (with_reducible repeat (first | apply Kd.V_alloc | apply Kd.V_drewN | apply Kd.V_drew)); exact HO_6.out) hb); have n2_ := Aside0.mk (below_step (by repeat (first | (with_reducible first | exact HB.out | apply below_alloc | apply pw_below_drewN | apply below_drew1) | exact HB.out)) hb); clear HO_3; clear HO_6; clear HB; have HO_3 := n0_; have HO_6 := n1_; have HB := n2_; clear n0_ n1_ n2_; (try clear hb); (try clear hb2); (try clear hk); (try clear hi))); try go_wp2_with (first | (go_at_call 16; (with_reducible refine (laws_hold.calls kj18 _ _ t679 _ _ t674 t675 false _ ?side1 ?side2 ?side3 ?side4 A30.out).mono ?_); (case side1 => repeat (first | exact (Kd.V_reads' HO_6.out).2.2 | (with_reducible refine Kd.C_alloc ?_ _) | (with_reducible refine Kd.C_drewN ?_ _) | (with_reducible refine Kd.C_drew ?_))); (case side2 => exact (Kd.V_reads' HO_6.out).2.1); (case side3 => repeat (first | exact (Kd.Q_reads' HO_3.out).2.2 | (with_reducible refine Kd.C_alloc ?_ _) | (with_reducible refine Kd.C_drewN ?_ _) | (with_reducible refine Kd.C_drew ?_))); (case side4 => exact (Kd.Q_reads' HO_3.out).2.1); rintro e w34 ⟨rfl, hb⟩; have n0_ := Aside0.mk (Kd.Q_below (by (with_reducible repeat (first | apply Kd.Q_alloc | apply Kd.Q_drewN | apply Kd.Q_drew)); exact HO_3.out) hb); have n1_ := Aside0.mk (Kd.V_below (by (with_reducible repeat (first | apply Kd.V_alloc | apply Kd.V_drewN | apply Kd.V_drew)); exact HO_6.out) hb); have n2_ := Aside0.mk (below_step (by repeat (first | (with_reducible first | exact HB.out | apply below_alloc | apply pw_below_drewN | apply below_drew1) | exact HB.out)) hb); clear HO_3; clear HO_6; clear HB; have HO_3 := n0_; have HO_6 := n1_; have HB := n2_; clear n0_ n1_ n2_; (try clear hb); (try clear hb2); (try clear hk); (try clear hi))))
                    go_ret
                    exact ⟨by first | rfl | (simp [errW_none, errW_some] <;> rfl) | (simp [*, errW_none, errW_some] <;> rfl), by repeat (first | (with_reducible first | exact HB.out | apply below_alloc | apply pw_below_drewN | apply below_drew1) | exact HB.out)⟩
    · rw [if_neg c6] at H
      have c6b0 : ((t679.length : Int) == (t682.length : Int)) = false := beq_eq_false_iff_ne.mpr c6
      have c6b1 : ((t679.length : Int) != (t682.length : Int)) = true := bne_iff_ne.mpr c6
      have c6b2 : (t679.length == t682.length) = false := by first | simpa using c6 | (simp at c6 ⊢; omega)
      obtain rfl := Option.some.inj H
      go_enter Try.func4, Try.ntmps4
      go_wp2_with (first | (go_at_call 17; (with_reducible refine (spec_DrawLessRules.calls k _ _ l0 t674 t675 t676 _ ?side1 ?side2 A3.out).mono ?_); (case side1 => repeat (first | exact HR0.out | (with_reducible refine Kd.C_alloc ?_ _) | (with_reducible refine Kd.C_drewN ?_ _) | (with_reducible refine Kd.C_drew ?_))); (case side2 => exact HC0.out); rintro e w35 ⟨v677, rfl, ho0, hb⟩; have n0_ := Aside0.mk (Kd.Q_lower ho0 (below_size (by repeat (first | (with_reducible first | exact HB.out | apply below_alloc | apply pw_below_drewN | apply below_drew1) | exact HB.out)))); have n1_ := Aside0.mk (below_step (by repeat (first | (with_reducible first | exact HB.out | apply below_alloc | apply pw_below_drewN | apply below_drew1) | exact HB.out)) hb); clear HB; have HO678 := n0_; have HB := n1_; clear n0_ n1_; (try clear hb); (try clear hb2); (try clear hk); (try clear hi); (try clear ho0); obtain ⟨Ao36, co36, eo36, _⟩ := Kd.Q_slice HO678.out; subst eo36) | (go_at_call 18; (with_reducible refine (impl_LessRules.calls k _ _ t674 t675 t676 t679 _ ?side1 ?side2 A4.out).mono ?_); (case side1 => repeat (first | exact (Kd.Q_reads' HO678.out).2.2 | (with_reducible refine Kd.C_alloc ?_ _) | (with_reducible refine Kd.C_drewN ?_ _) | (with_reducible refine Kd.C_drew ?_))); (case side2 => exact (Kd.Q_reads' HO678.out).2.1); rintro e w37 ⟨v680, rfl, ho0, hb⟩; have n0_ := Aside0.mk (Kd.Q_below (by (with_reducible repeat (first | apply Kd.Q_alloc | apply Kd.Q_drewN | apply Kd.Q_drew)); exact HO678.out) hb); have n1_ := Aside0.mk (Kd.V_lower (Kd.V_mono (ok' := fun k_ => some k_ ≠ (.slice Ao36 t674.length co36 : Value).ownBlock) ho0 (fun k_ hk_ => (Kd.fresh' (Kd.Q_lt (by (with_reducible repeat (first | apply Kd.Q_alloc | apply Kd.Q_drewN | apply Kd.Q_drew)); exact HO678.out)) k_ hk_))) (below_size (by repeat (first | (with_reducible first | exact HB.out | apply below_alloc | apply pw_below_drewN | apply below_drew1) | exact HB.out)))); have n2_ := Aside0.mk (below_step (by repeat (first | (with_reducible first | exact HB.out | apply below_alloc | apply pw_below_drewN | apply below_drew1) | exact HB.out)) hb); clear HO678; clear HB; have HO678 := n0_; have HO681 := n1_; have HB := n2_; clear n0_ n1_ n2_; (try clear hb); (try clear hb2); (try clear hk); (try clear hi); (try clear ho0)) | (go_at_call 19; (with_reducible refine (spec_LessRules.calls k _ _ t674 t675 t676 t682 _ ?side1 ?side2 A5.out).mono ?_); (case side1 => repeat (first | exact (Kd.Q_reads' HO678.out).2.2 | (with_reducible refine Kd.C_alloc ?_ _) | (with_reducible refine Kd.C_drewN ?_ _) | (with_reducible refine Kd.C_drew ?_))); (case side2 => exact (Kd.Q_reads' HO678.out).2.1); rintro e w38 ⟨v683, rfl, ho0, hb⟩; have n0_ := Aside0.mk (Kd.Q_below (by (with_reducible repeat (first | apply Kd.Q_alloc | apply Kd.Q_drewN | apply Kd.Q_drew)); exact HO678.out) hb); have n1_ := Aside0.mk (Kd.V_elder' (by (with_reducible repeat (first | apply Kd.V_alloc | apply Kd.V_drewN | apply Kd.V_drew)); exact HO681.out) (Kd.S_base ho0) hb); have n2_ := Aside0.mk (Kd.S_lower (Kd.S_new' ho0 (Kd.Q_lt (by (with_reducible repeat (first | apply Kd.Q_alloc | apply Kd.Q_drewN | apply Kd.Q_drew)); exact HO678.out))) (below_size (by repeat (first | (with_reducible first | exact HB.out | apply below_alloc | apply pw_below_drewN | apply below_drew1) | exact HB.out)))); have n3_ := Aside0.mk (below_step (by repeat (first | (with_reducible first | exact HB.out | apply below_alloc | apply pw_below_drewN | apply below_drew1) | exact HB.out)) hb); clear HO678; clear HO681; clear HB; have HO678 := n0_; have HO681 := n1_; have HO684 := n2_; have HB := n3_; clear n0_ n1_ n2_ n3_; (try clear hb); (try clear hb2); (try clear hk); (try clear hi); (try clear ho0); obtain ⟨Ao39, co39, eo39⟩ := Kd.V_slice HO681.out; subst eo39; obtain ⟨Ao40, co40, eo40⟩ := Kd.S_slice HO684.out; subst eo40))
      repeat (go_quiet (first | (go_at_call 17; (with_reducible refine (spec_DrawLessRules.calls k _ _ l0 t674 t675 t676 _ ?side1 ?side2 A3.out).mono ?_); (case side1 => repeat (first | exact HR0.out | (with_reducible refine Kd.C_alloc ?_ _) | (with_reducible refine Kd.C_drewN ?_ _) | (with_reducible refine Kd.C_drew ?_))); (case side2 => exact HC0.out); rintro e w35 ⟨v677, rfl, ho0, hb⟩; have n0_ := Aside0.mk (Kd.Q_lower ho0 (below_size (by repeat (first | (with_reducible first | exact HB.out | apply below_alloc | apply pw_below_drewN | apply below_drew1) | exact HB.out)))); have n1_ := Aside0.mk (below_step (by repeat (first | (with_reducible first | exact HB.out | apply below_alloc | apply pw_below_drewN | apply below_drew1) | exact HB.out)) hb); clear HB; have HO678 := n0_; have HB := n1_; clear n0_ n1_; (try clear hb); (try clear hb2); (try clear hk); (try clear hi); (try clear ho0); obtain ⟨Ao36, co36, eo36, _⟩ := Kd.Q_slice HO678.out; subst eo36) | (go_at_call 18; (with_reducible refine (impl_LessRules.calls k _ _ t674 t675 t676 t679 _ ?side1 ?side2 A4.out).mono ?_); (case side1 => repeat (first | exact (Kd.Q_reads' HO678.out).2.2 | (with_reducible refine Kd.C_alloc ?_ _) | (with_reducible refine Kd.C_drewN ?_ _) | (with_reducible refine Kd.C_drew ?_))); (case side2 => exact (Kd.Q_reads' HO678.out).2.1); rintro e w37 ⟨v680, rfl, ho0, hb⟩; have n0_ := Aside0.mk (Kd.Q_below (by (with_reducible repeat (first | apply Kd.Q_alloc | apply Kd.Q_drewN | apply Kd.Q_drew)); exact HO678.out) hb); have n1_ := Aside0.mk (Kd.V_lower (Kd.V_mono (ok' := fun k_ => some k_ ≠ (.slice Ao36 t674.length co36 : Value).ownBlock) ho0 (fun k_ hk_ => (Kd.fresh' (Kd.Q_lt (by (with_reducible repeat (first | apply Kd.Q_alloc | apply Kd.Q_drewN | apply Kd.Q_drew)); exact HO678.out)) k_ hk_))) (below_size (by repeat (first | (with_reducible first | exact HB.out | apply below_alloc | apply pw_below_drewN | apply below_drew1) | exact HB.out)))); have n2_ := Aside0.mk (below_step (by repeat (first | (with_reducible first | exact HB.out | apply below_alloc | apply pw_below_drewN | apply below_drew1) | exact HB.out)) hb); clear HO678; clear HB; have HO678 := n0_; have HO681 := n1_; have HB := n2_; clear n0_ n1_ n2_; (try clear hb); (try clear hb2); (try clear hk); (try clear hi); (try clear ho0)) | (go_at_call 19; (with_reducible refine (spec_LessRules.calls k _ _ t674 t675 t676 t682 _ ?side1 ?side2 A5.out).mono ?_); (case side1 => repeat (first | exact (Kd.Q_reads' HO678.out).2.2 | (with_reducible refine Kd.C_alloc ?_ _) | (with_reducible refine Kd.C_drewN ?_ _) | (with_reducible refine Kd.C_drew ?_))); (case side2 => exact (Kd.Q_reads' HO678.out).2.1); rintro e w38 ⟨v683, rfl, ho0, hb⟩; have n0_ := Aside0.mk (Kd.Q_below (by (with_reducible repeat (first | apply Kd.Q_alloc | apply Kd.Q_drewN | apply Kd.Q_drew)); exact HO678.out) hb); have n1_ := Aside0.mk (Kd.V_elder' (by (with_reducible repeat (first | apply Kd.V_alloc | apply Kd.V_drewN | apply Kd.V_drew)); exact HO681.out) (Kd.S_base ho0) hb); have n2_ := Aside0.mk (Kd.S_lower (Kd.S_new' ho0 (Kd.Q_lt (by (with_reducible repeat (first | apply Kd.Q_alloc | apply Kd.Q_drewN | apply Kd.Q_drew)); exact HO678.out))) (below_size (by repeat (first | (with_reducible first | exact HB.out | apply below_alloc | apply pw_below_drewN | apply below_drew1) | exact HB.out)))); have n3_ := Aside0.mk (below_step (by repeat (first | (with_reducible first | exact HB.out | apply below_alloc | apply pw_below_drewN | apply below_drew1) | exact HB.out)) hb); clear HO678; clear HO681; clear HB; have HO678 := n0_; have HO681 := n1_; have HO684 := n2_; have HB := n3_; clear n0_ n1_ n2_ n3_; (try clear hb); (try clear hb2); (try clear hk); (try clear hi); (try clear ho0); obtain ⟨Ao39, co39, eo39⟩ := Kd.V_slice HO681.out; subst eo39; obtain ⟨Ao40, co40, eo40⟩ := Kd.S_slice HO684.out; subst eo40)); try go_wp2_with (first | (go_at_call 17; (with_reducible refine (spec_DrawLessRules.calls k _ _ l0 t674 t675 t676 _ ?side1 ?side2 A3.out).mono ?_); (case side1 => repeat (first | exact HR0.out | (with_reducible refine Kd.C_alloc ?_ _) | (with_reducible refine Kd.C_drewN ?_ _) | (with_reducible refine Kd.C_drew ?_))); (case side2 => exact HC0.out); rintro e w35 ⟨v677, rfl, ho0, hb⟩; have n0_ := Aside0.mk (Kd.Q_lower ho0 (below_size (by repeat (first | (with_reducible first | exact HB.out | apply below_alloc | apply pw_below_drewN | apply below_drew1) | exact HB.out)))); have n1_ := Aside0.mk (below_step (by repeat (first | (with_reducible first | exact HB.out | apply below_alloc | apply pw_below_drewN | apply below_drew1) | exact HB.out)) hb); clear HB; have HO678 := n0_; have HB := n1_; clear n0_ n1_; (try clear hb); (try clear hb2); (try clear hk); (try clear hi); (try clear ho0); obtain ⟨Ao36, co36, eo36, _⟩ := Kd.Q_slice HO678.out; subst eo36) | (go_at_call 18; (with_reducible refine (impl_LessRules.calls k _ _ t674 t675 t676 t679 _ ?side1 ?side2 A4.out).mono ?_); (case side1 => repeat (first | exact (Kd.Q_reads' HO678.out).2.2 | (with_reducible refine Kd.C_alloc ?_ _) | (with_reducible refine Kd.C_drewN ?_ _) | (with_reducible refine Kd.C_drew ?_))); (case side2 => exact (Kd.Q_reads' HO678.out).2.1); rintro e w37 ⟨v680, rfl, ho0, hb⟩; have n0_ := Aside0.mk (Kd.Q_below (by (with_reducible repeat (first | apply Kd.Q_alloc | apply Kd.Q_drewN | apply Kd.Q_drew)); exact HO678.out) hb); have n1_ := Aside0.mk (Kd.V_lower (Kd.V_mono (ok' := fun k_ => some k_ ≠ (.slice Ao36 t674.length co36 : Value).ownBlock) ho0 (fun k_ hk_ => (Kd.fresh' (Kd.Q_lt (by (with_reducible repeat (first | apply Kd.Q_alloc | apply Kd.Q_drewN | apply Kd.Q_drew)); exact HO678.out)) k_ hk_))) (below_size (by repeat (first | (with_reducible first | exact HB.out | apply below_alloc | apply pw_below_drewN | apply below_drew1) | exact HB.out)))); have n2_ := Aside0.mk (below_step (by repeat (first | (with_reducible first | exact HB.out | apply below_alloc | apply pw_below_drewN | apply below_drew1) | exact HB.out)) hb); clear HO678; clear HB; have HO678 := n0_; have HO681 := n1_; have HB := n2_; clear n0_ n1_ n2_; (try clear hb); (try clear hb2); (try clear hk); (try clear hi); (try clear ho0)) | (go_at_call 19; (with_reducible refine (spec_LessRules.calls k _ _ t674 t675 t676 t682 _ ?side1 ?side2 A5.out).mono ?_); (case side1 => repeat (first | exact (Kd.Q_reads' HO678.out).2.2 | (with_reducible refine Kd.C_alloc ?_ _) | (with_reducible refine Kd.C_drewN ?_ _) | (with_reducible refine Kd.C_drew ?_))); (case side2 => exact (Kd.Q_reads' HO678.out).2.1); rintro e w38 ⟨v683, rfl, ho0, hb⟩; have n0_ := Aside0.mk (Kd.Q_below (by (with_reducible repeat (first | apply Kd.Q_alloc | apply Kd.Q_drewN | apply Kd.Q_drew)); exact HO678.out) hb); have n1_ := Aside0.mk (Kd.V_elder' (by (with_reducible repeat (first | apply Kd.V_alloc | apply Kd.V_drewN | apply Kd.V_drew)); exact HO681.out) (Kd.S_base ho0) hb); have n2_ := Aside0.mk (Kd.S_lower (Kd.S_new' ho0 (Kd.Q_lt (by (with_reducible repeat (first | apply Kd.Q_alloc | apply Kd.Q_drewN | apply Kd.Q_drew)); exact HO678.out))) (below_size (by repeat (first | (with_reducible first | exact HB.out | apply below_alloc | apply pw_below_drewN | apply below_drew1) | exact HB.out)))); have n3_ := Aside0.mk (below_step (by repeat (first | (with_reducible first | exact HB.out | apply below_alloc | apply pw_below_drewN | apply below_drew1) | exact HB.out)) hb); clear HO678; clear HO681; clear HB; have HO678 := n0_; have HO681 := n1_; have HO684 := n2_; have HB := n3_; clear n0_ n1_ n2_ n3_; (try clear hb); (try clear hb2); (try clear hk); (try clear hi); (try clear ho0); obtain ⟨Ao39, co39, eo39⟩ := Kd.V_slice HO681.out; subst eo39; obtain ⟨Ao40, co40, eo40⟩ := Kd.S_slice HO684.out; subst eo40)))
      go_ret
      exact ⟨by first | rfl | (simp [errW_none, errW_some] <;> rfl) | (simp [*, errW_none, errW_some] <;> rfl), by repeat (first | (with_reducible first | exact HB.out | apply below_alloc | apply pw_below_drewN | apply below_drew1) | exact HB.out)⟩
end Go.Proofs.Ytbcikbekdhdpaaa.Q
end
