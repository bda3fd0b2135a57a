/- laws.FnRulesGrid: for every input it returns true and leaves its argument as it was. -/
import Derived.BigRegion
import Derived.Laws.EntriesVeiled
import Derived.Test.YtbcikbekdhdpaaaC63
section
namespace Go.Proofs.Ytbcikbekdhdpaaa.Q
open Go.RowKit Go.Proofs.YtbcikbekdhdpaaaW.PrintWords Go.Proofs.YtbcikbekdhdpaaaW.PrintLast Go.Proofs.YtbcikbekdhdpaaaW.PrintMore
attribute [local go_sem] max2_int min2_int max_two min_two max_three min_three max_four min_four   -- for this text's walks alone
set_option linter.unusedVariables false
set_option linter.unusedSimpArgs false
def impl_Rule.f (l0 : List (S29)) : Option ((List (S29))) := if 0 ≤ (l0.length : Int) then (if (l0.length : Int) ≤ (l0.length : Int) then (some (l0.take ((l0.length : Int) : Int).toNat)) else (none)) else (none)
set_option maxHeartbeats 8000000 in
set_option maxRecDepth 100000 in
theorem impl_Rule.calls (P0_ : Nat → Prop) (A0 : Option Addr) (c0 : Nat) (l0 : List (S29)) (r : List (S29)) (w : World) (hs0 : Kd.V k29 29 w w.heap.size (fun k_ => P0_ k_) (.slice A0 l0.length c0) l0) (h : impl_Rule.f l0 = some r) :
    Calls Try.prog 59 #[.slice A0 l0.length c0] w fun e w' => ∃ v0_ : Value, e = .returned (v0_) ∧ Kd.V k29 29 w' w.heap.size (fun k_ => (P0_ k_ ∨ w.heap.size ≤ k_)) v0_ r ∧ Below w.heap.size w w' := by
  have HO0 := Aside0.mk (show Kd.V k29 29 w w.heap.size (fun k_ => (P0_ k_ ∨ w.heap.size ≤ k_)) (.slice A0 l0.length c0) l0 from Kd.V_mono hs0 (fun k_ hk => .inl hk))
  have HB := Aside0.mk (Below.refl w.heap.size w)
  have H : (if 0 ≤ (l0.length : Int) then (if (l0.length : Int) ≤ (l0.length : Int) then (some (l0.take ((l0.length : Int) : Int).toNat)) else (none)) else (none)) = some r := h
  clear h
  by_cases c2 : 0 ≤ (l0.length : Int)
  · rw [if_pos c2] at H
    have c2b0 := eq_true c2
    have c2b1 : decide (0 ≤ (l0.length : Int)) = true := decide_eq_true c2
    clear c2
    by_cases c3 : (l0.length : Int) ≤ (l0.length : Int)
    · rw [if_pos c3] at H
      have c3b0 := eq_true c3
      have c3b1 : decide ((l0.length : Int) ≤ (l0.length : Int)) = true := decide_eq_true c3
      clear c3
      obtain ⟨y607, hy607⟩ : ∃ y_ : List (S29), y_ = (l0.take ((l0.length : Int) : Int).toNat) := ⟨_, rfl⟩
      replace H : (some y607) = some r := by first | (rw [hy607]; with_reducible exact H) | (have H2_ := (Option.bind_some _ _).symm.trans H; rw [hy607]; with_reducible exact H2_) | (have H2_ := (Option.bind_some _ _).symm.trans H; with_reducible exact H2_) | with_reducible exact H | (rw [hy607]; exact H) | exact H
      have Ny607 := Aside0.mk hy607
      clear hy607
      obtain rfl := Option.some.inj H
      have q4 : ((l0.length : Int) : Int) ≤ ((l0.length : Int) : Int) := of_decide_eq_true (by first | (with_reducible assumption) | assumption)
      obtain ⟨i04, hi04, _, hsz4, _⟩ := info_parts info29
      have hroom4 : l0.length ≤ c0 := (Kd.V_reads' HO0.out).2.1
      have hC4 : Kd.F k29 _ _ A0 l0.length l0 := (Kd.V_at (base := w.heap.size) HO0.out).2.2
      have hcut4 := cut_clip (P := Try.prog) 26 29 .i64 Try.underlying26 hi04 A0 l0.length c0 (l0.length : Int) (of_decide_eq_true (by first | (with_reducible assumption) | assumption)) q4 hroom4
      have hr4 := Kd.F_take (m := ((l0.length : Int) : Int).toNat) hC4 (by omega)
      have hy4 : y607.length = ((l0.length : Int) : Int).toNat := (by rw [Ny607.out, List.length_take]; omega)
      rw [← Ny607.out] at hr4
      rw [← hy4] at hcut4
      have HO612 := Aside0.mk (show Kd.V k29 29 _ w.heap.size _ (.slice A0 y607.length y607.length) y607 from Kd.V_mk (by omega) hr4)
      have HC612 := Aside0.mk (show y607.length ≤ y607.length from by omega)
      clear hr4 hC4 hroom4 hi04 hsz4
      have KY4 := Aside0.mk hy4
      clear hy4
      replace q4 := eq_true q4
      go_enter Try.func59, Try.ntmps59
      go_wp2
      go_ret
      exact ⟨_, by first | rfl | (simp [errW_none, errW_some] <;> rfl) | (simp [*, errW_none, errW_some] <;> rfl), by (with_reducible repeat (first | apply Kd.V_alloc | apply Kd.V_drewN | apply Kd.V_drew)); exact HO612.out, by repeat (first | (with_reducible first | exact HB.out | apply below_alloc | apply pw_below_drewN | apply below_drew1) | exact HB.out)⟩
    · rw [if_neg c3] at H
      exact absurd H (by simp)
  · rw [if_neg c2] at H
    exact absurd H (by simp)
mutual
def impl_LessRules.j0 : Nat → List Int → Int → Int → Bool → Option ((List (S29)))
  | 0, _, _, _, _ => none
  | k + 1, x0, x1, x2, x21 => if x21 = true then (some ([] : List (S29))) else ((impl_neighbours.f k x1).bind fun t617 => (impl_LessRules.l0 k x0 x2 (([] : List (S29))) t617 (t617.length : Int) 0))
def impl_LessRules.l0 : Nat → List Int → Int → List (S29) → List (S79) → Int → Int → Option ((List (S29)))
  | 0, _, _, _, _, _, _ => none
  | k + 1, x0, x2, x7, x24, x25, x26 => if x26 < x25 then (if 0 ≤ x26 then (if x26 < (x24.length : Int) then (if 0 ≤ ((rd_T79 x24 x26).f0) then (if ((rd_T79 x24 x26).f0) < (x0.length : Int) then (if 0 ≤ ((rd_T79 x24 x26).f1) then (if ((rd_T79 x24 x26).f1) < (x0.length : Int) then (if (rd x0 ((rd_T79 x24 x26).f0)) > (rd x0 ((rd_T79 x24 x26).f1)) then (if x7.length < 3518437208883 then (impl_LessRules.l0 k x0 x2 (x7 ++ [(⟨4, (([(rd_T79 x24 x26).f1, (rd_T79 x24 x26).f0] : List Int)), 0⟩ : S29)]) x24 x25 (wrap64 (x26 + 1))) else (none)) else (if x7.length < 3518437208883 then (impl_LessRules.l0 k x0 x2 (x7 ++ [(⟨4, (([(rd_T79 x24 x26).f0, (rd_T79 x24 x26).f1] : List Int)), 0⟩ : S29)]) x24 x25 (wrap64 (x26 + 1))) else (none))) else (none)) else (none)) else (none)) else (none)) else (none)) else (none)) else (if 0 ≤ (mn x2 (x7.length : Int)) then (if (mn x2 (x7.length : Int)) ≤ (x7.length : Int) then ((impl_Rule.f (x7.take ((mn x2 (x7.length : Int)) : Int).toNat)).bind fun t641 => (some t641)) else (none)) else (none))
end
def impl_LessRules.f (k : Nat) (l0 : List Int) (a1 : Int) (a2 : Int) : Option ((List (S29))) := (impl_SquareSolved.f k l0 a1).bind fun t613 => (if t613 = true then (if a2 < 0 then (impl_LessRules.j0 k l0 a1 a2 true) else (impl_LessRules.j0 k l0 a1 a2 (decide (a2 > 20)))) else (impl_LessRules.j0 k l0 a1 a2 true))
set_option maxHeartbeats 8000000 in
set_option maxRecDepth 100000 in
theorem impl_LessRules.calls (k : Nat) (A0 : Option Addr) (c0 : Nat) (l0 : List Int) (a1 : Int) (a2 : Int) (r : List (S29)) (w : World) (hr0 : Kd.C (Kd.int .i64) w A0 l0.length l0) (hc0 : l0.length ≤ c0) (h : impl_LessRules.f k l0 a1 a2 = some r) :
    Calls Try.prog 18 #[.slice A0 l0.length c0, .int .i64 a1, .int .i64 a2] w fun e w' => ∃ v0_ : Value, e = .returned (v0_) ∧ Kd.V k29 29 w' w.heap.size (fun k_ => (w.heap.size ≤ k_)) v0_ r ∧ Below w.heap.size w w' := by
  have hu79 := Try.underlying79
  have hu29 := Try.underlying29
  have HR0 := Aside0.mk hr0
  have HC0 := Aside0.mk hc0
  clear hr0 hc0
  have HB := Aside0.mk (Below.refl w.heap.size w)
  have H : ((impl_SquareSolved.f k l0 a1).bind fun t613 => (if t613 = true then (if a2 < 0 then (impl_LessRules.j0 k l0 a1 a2 true) else (impl_LessRules.j0 k l0 a1 a2 (decide (a2 > 20)))) else (impl_LessRules.j0 k l0 a1 a2 true))) = some r := h
  clear h
  have HC4 := Aside0.mk H
  clear H
  go_enter Try.func18, Try.ntmps18
  go_upto_region 1 with (fail)
  repeat (go_quiet (fail); go_upto_region 1 with (fail))
  go_cut [21] (fun v21 wc => ∃ (kq : Nat) (x21_3 : Bool), v21 = .bool x21_3 ∧ Aside0 (impl_LessRules.j0 kq l0 a1 a2 x21_3 = some r) ∧ Aside0 (kq ≤ k) ∧ Aside0 (Below w.heap.size w wc))
  case first =>
    have H := HC4.out
    clear HC4
    replace H := Option.bind_eq_some_iff.mp H
    obtain ⟨t613, A50, H⟩ := H
    replace H : (if t613 = true then (if a2 < 0 then (impl_LessRules.j0 k l0 a1 a2 true) else (impl_LessRules.j0 k l0 a1 a2 (decide (a2 > 20)))) else (impl_LessRules.j0 k l0 a1 a2 true)) = some r := H
    have A5 := Aside0.mk A50
    clear A50
    by_cases c6 : t613 = true
    · subst c6
      have H1 : (if a2 < 0 then (impl_LessRules.j0 k l0 a1 a2 true) else (impl_LessRules.j0 k l0 a1 a2 (decide (a2 > 20)))) = some r := by rw [if_pos rfl] at H; exact H
      clear H
      have H := H1
      clear H1
      by_cases c7 : a2 < 0
      · rw [if_pos c7] at H
        have c7b0 : decide (a2 < 0) = true := decide_eq_true c7
        clear c7
        (first | rw [c7b0] | (simp only [i64_w, i32_w]; rw [c7b0]) | skip)
        have H' := Aside0.mk H
        clear H
        go_wp2_with (first | (go_at_call 50; (with_reducible refine (impl_SquareSolved.calls k _ _ l0 a1 true _ ?side1 ?side2 A5.out).mono ?_); (case side1 => repeat (first | exact (Kd.C_below HR0.out HB.out) | (with_reducible refine Kd.C_alloc ?_ _) | (with_reducible refine Kd.C_drewN ?_ _) | (with_reducible refine Kd.C_drew ?_))); (case side2 => exact HC0.out); rintro e w8 ⟨rfl, hb⟩; have n0_ := Aside0.mk (below_step (by repeat (first | (with_reducible first | exact HB.out | apply below_alloc | apply pw_below_drewN | apply below_drew1) | exact HB.out)) hb); clear HB; have HB := n0_; clear n0_; (try clear hb); (try clear hb2); (try clear hk); (try clear hi)))
        repeat (go_quiet (first | (go_at_call 50; (with_reducible refine (impl_SquareSolved.calls k _ _ l0 a1 true _ ?side1 ?side2 A5.out).mono ?_); (case side1 => repeat (first | exact (Kd.C_below HR0.out HB.out) | (with_reducible refine Kd.C_alloc ?_ _) | (with_reducible refine Kd.C_drewN ?_ _) | (with_reducible refine Kd.C_drew ?_))); (case side2 => exact HC0.out); rintro e w8 ⟨rfl, hb⟩; have n0_ := Aside0.mk (below_step (by repeat (first | (with_reducible first | exact HB.out | apply below_alloc | apply pw_below_drewN | apply below_drew1) | exact HB.out)) hb); clear HB; have HB := n0_; clear n0_; (try clear hb); (try clear hb2); (try clear hk); (try clear hi))); try go_wp2_with (first | (go_at_call 50; (with_reducible refine (impl_SquareSolved.calls k _ _ l0 a1 true _ ?side1 ?side2 A5.out).mono ?_); (case side1 => repeat (first | exact (Kd.C_below HR0.out HB.out) | (with_reducible refine Kd.C_alloc ?_ _) | (with_reducible refine Kd.C_drewN ?_ _) | (with_reducible refine Kd.C_drew ?_))); (case side2 => exact HC0.out); rintro e w8 ⟨rfl, hb⟩; have n0_ := Aside0.mk (below_step (by repeat (first | (with_reducible first | exact HB.out | apply below_alloc | apply pw_below_drewN | apply below_drew1) | exact HB.out)) hb); clear HB; have HB := n0_; clear n0_; (try clear hb); (try clear hb2); (try clear hk); (try clear hi))))
        go_meet
        case rel => exact ⟨_, (true), (by first | rfl | (simp; done) | (simp [*]; done)), H', ⟨by first | omega | exact Nat.le_refl _⟩, ⟨by repeat (first | (with_reducible first | exact HB.out | apply below_alloc | apply pw_below_drewN | apply below_drew1) | exact HB.out)⟩⟩
      · rw [if_neg c7] at H
        have c7b0 : decide (a2 < 0) = false := decide_eq_false c7
        clear c7
        (first | rw [c7b0] | (simp only [i64_w, i32_w]; rw [c7b0]) | skip)
        have H' := Aside0.mk H
        clear H
        go_wp2_with (first | (go_at_call 50; (with_reducible refine (impl_SquareSolved.calls k _ _ l0 a1 true _ ?side1 ?side2 A5.out).mono ?_); (case side1 => repeat (first | exact (Kd.C_below HR0.out HB.out) | (with_reducible refine Kd.C_alloc ?_ _) | (with_reducible refine Kd.C_drewN ?_ _) | (with_reducible refine Kd.C_drew ?_))); (case side2 => exact HC0.out); rintro e w9 ⟨rfl, hb⟩; have n0_ := Aside0.mk (below_step (by repeat (first | (with_reducible first | exact HB.out | apply below_alloc | apply pw_below_drewN | apply below_drew1) | exact HB.out)) hb); clear HB; have HB := n0_; clear n0_; (try clear hb); (try clear hb2); (try clear hk); (try clear hi)))
        repeat (go_quiet (first | (go_at_call 50; (with_reducible refine (impl_SquareSolved.calls k _ _ l0 a1 true _ ?side1 ?side2 A5.out).mono ?_); (case side1 => repeat (first | exact (Kd.C_below HR0.out HB.out) | (with_reducible refine Kd.C_alloc ?_ _) | (with_reducible refine Kd.C_drewN ?_ _) | (with_reducible refine Kd.C_drew ?_))); (case side2 => exact HC0.out); rintro e w9 ⟨rfl, hb⟩; have n0_ := Aside0.mk (below_step (by repeat (first | (with_reducible first | exact HB.out | apply below_alloc | apply pw_below_drewN | apply below_drew1) | exact HB.out)) hb); clear HB; have HB := n0_; clear n0_; (try clear hb); (try clear hb2); (try clear hk); (try clear hi))); try go_wp2_with (first | (go_at_call 50; (with_reducible refine (impl_SquareSolved.calls k _ _ l0 a1 true _ ?side1 ?side2 A5.out).mono ?_); (case side1 => repeat (first | exact (Kd.C_below HR0.out HB.out) | (with_reducible refine Kd.C_alloc ?_ _) | (with_reducible refine Kd.C_drewN ?_ _) | (with_reducible refine Kd.C_drew ?_))); (case side2 => exact HC0.out); rintro e w9 ⟨rfl, hb⟩; have n0_ := Aside0.mk (below_step (by repeat (first | (with_reducible first | exact HB.out | apply below_alloc | apply pw_below_drewN | apply below_drew1) | exact HB.out)) hb); clear HB; have HB := n0_; clear n0_; (try clear hb); (try clear hb2); (try clear hk); (try clear hi))))
        go_meet
        case rel => exact ⟨_, (decide (a2 > 20)), (by first | rfl | (simp; done) | (simp [*]; done)), H', ⟨by first | omega | exact Nat.le_refl _⟩, ⟨by repeat (first | (with_reducible first | exact HB.out | apply below_alloc | apply pw_below_drewN | apply below_drew1) | exact HB.out)⟩⟩
    · replace c6 := Bool.eq_false_iff.mpr c6
      subst c6
      have H1 : (impl_LessRules.j0 k l0 a1 a2 true) = some r := by rw [if_neg (show ¬ (false = true) by decide)] at H; exact H
      clear H
      have H := H1
      clear H1
      have H' := Aside0.mk H
      clear H
      go_wp2_with (first | (go_at_call 50; (with_reducible refine (impl_SquareSolved.calls k _ _ l0 a1 false _ ?side1 ?side2 A5.out).mono ?_); (case side1 => repeat (first | exact (Kd.C_below HR0.out HB.out) | (with_reducible refine Kd.C_alloc ?_ _) | (with_reducible refine Kd.C_drewN ?_ _) | (with_reducible refine Kd.C_drew ?_))); (case side2 => exact HC0.out); rintro e w10 ⟨rfl, hb⟩; have n0_ := Aside0.mk (below_step (by repeat (first | (with_reducible first | exact HB.out | apply below_alloc | apply pw_below_drewN | apply below_drew1) | exact HB.out)) hb); clear HB; have HB := n0_; clear n0_; (try clear hb); (try clear hb2); (try clear hk); (try clear hi)))
      repeat (go_quiet (first | (go_at_call 50; (with_reducible refine (impl_SquareSolved.calls k _ _ l0 a1 false _ ?side1 ?side2 A5.out).mono ?_); (case side1 => repeat (first | exact (Kd.C_below HR0.out HB.out) | (with_reducible refine Kd.C_alloc ?_ _) | (with_reducible refine Kd.C_drewN ?_ _) | (with_reducible refine Kd.C_drew ?_))); (case side2 => exact HC0.out); rintro e w10 ⟨rfl, hb⟩; have n0_ := Aside0.mk (below_step (by repeat (first | (with_reducible first | exact HB.out | apply below_alloc | apply pw_below_drewN | apply below_drew1) | exact HB.out)) hb); clear HB; have HB := n0_; clear n0_; (try clear hb); (try clear hb2); (try clear hk); (try clear hi))); try go_wp2_with (first | (go_at_call 50; (with_reducible refine (impl_SquareSolved.calls k _ _ l0 a1 false _ ?side1 ?side2 A5.out).mono ?_); (case side1 => repeat (first | exact (Kd.C_below HR0.out HB.out) | (with_reducible refine Kd.C_alloc ?_ _) | (with_reducible refine Kd.C_drewN ?_ _) | (with_reducible refine Kd.C_drew ?_))); (case side2 => exact HC0.out); rintro e w10 ⟨rfl, hb⟩; have n0_ := Aside0.mk (below_step (by repeat (first | (with_reducible first | exact HB.out | apply below_alloc | apply pw_below_drewN | apply below_drew1) | exact HB.out)) hb); clear HB; have HB := n0_; clear n0_; (try clear hb); (try clear hb2); (try clear hk); (try clear hi))))
      go_meet
      case rel => exact ⟨_, (true), (by first | rfl | (simp; done) | (simp [*]; done)), H', ⟨by first | omega | exact Nat.le_refl _⟩, ⟨by repeat (first | (with_reducible first | exact HB.out | apply below_alloc | apply pw_below_drewN | apply below_drew1) | exact HB.out)⟩⟩
  case rest =>
    clear HC4
    try clear c1
    try clear p2
    try clear c6
    try clear c7
    try clear c7b0
    obtain ⟨kq, x21_3, rfl, HA, HJ3, HB⟩ := hcut
    cases kq with
    | zero => exact absurd HA.out (by simp [impl_LessRules.j0])
    | succ kj3 =>
      have H := HA.out
      clear HA
      simp only [impl_LessRules.j0] at H
      by_cases c11 : x21_3 = true
      · subst c11
        have H1 : (some ([] : List (S29))) = some r := by rw [if_pos rfl] at H; exact H
        clear H
        have H := H1
        clear H1
        obtain rfl := Option.some.inj H
        go_wp2
        repeat (go_quiet (fail); try go_wp2)
        go_ret
        exact ⟨_, by first | rfl | (simp [errW_none, errW_some] <;> rfl) | (simp [*, errW_none, errW_some] <;> rfl), (by first | exact Kd.V_nil _ _ _ _ _ | exact Kd.S_V (by first | exact Kd.S_nil _ _ _ _ _ | exact Kd.N_nil _ _ _ _ _ | exact Kd.V_nil _ _ _ _ _ | exact Kd.Q_nil _ _ _ _ _ | exact Kd.R_nil _ _ _ _ _)), by repeat (first | (with_reducible first | exact HB.out | apply below_alloc | apply pw_below_drewN | apply below_drew1) | exact HB.out)⟩
      · replace c11 := Bool.eq_false_iff.mpr c11
        subst c11
        have H1 : ((impl_neighbours.f kj3 a1).bind fun t617 => (impl_LessRules.l0 kj3 l0 a2 (([] : List (S29))) t617 (t617.length : Int) 0)) = some r := by rw [if_neg (show ¬ (false = true) by decide)] at H; exact H
        clear H
        have H := H1
        clear H1
        obtain ⟨y614, hy614⟩ : ∃ y_ : List (S29), y_ = (([] : List (S29))) := ⟨_, rfl⟩
        replace H : ((impl_neighbours.f kj3 a1).bind fun t617 => (impl_LessRules.l0 kj3 l0 a2 y614 t617 (t617.length : Int) 0)) = some r := by first | (rw [hy614]; with_reducible exact H) | (have H2_ := (Option.bind_some _ _).symm.trans H; rw [hy614]; with_reducible exact H2_) | (have H2_ := (Option.bind_some _ _).symm.trans H; with_reducible exact H2_) | with_reducible exact H | (rw [hy614]; exact H) | exact H
        have Ny614 := Aside0.mk hy614
        clear hy614
        replace H := Option.bind_eq_some_iff.mp H
        obtain ⟨t617, A120, H⟩ := H
        replace H : (impl_LessRules.l0 kj3 l0 a2 y614 t617 (t617.length : Int) 0) = some r := H
        have A12 := Aside0.mk A120
        clear A120
        have H' := Aside0.mk H
        clear H
        go_wp2_with (first | ((with_reducible refine gate_dst (N := 22) rfl ?_); refine Kd.S_lit k29 _ 29 ?hg (N := 22) ?hd (xs := ([] : List (S29))) (inner := []) (ok := fun _ => True) (okp := fun _ => True) ?hr ?hp (fun _ hk => hk) trivial (Below.refl _ _) (Nat.le_refl _) (by simp) ?_; (case hd => rfl); (case hg => rfl); (case hr => first | (go_simp; done) | (go_simp; rfl)); (case hp => exact (Reps.none _ _)); intro v615 w13 ho14 hb hg_ hnew_; clear hg_ hnew_; (first | rw [← Ny614.out] at ho14 | (simp only [Int.reduceToNat] at ho14; rw [← Ny614.out] at ho14)); have n0_ := Aside0.mk (Kd.S_lower (Kd.S_newM (M := fun k_ => (w.heap.size ≤ k_)) ho14 (below_size (by repeat (first | (with_reducible first | exact HB.out | apply below_alloc | apply pw_below_drewN | apply below_drew1) | exact HB.out))) (fun k_ h_ => h_)) (below_size (by repeat (first | (with_reducible first | exact HB.out | apply below_alloc | apply pw_below_drewN | apply below_drew1) | exact HB.out)))); have n1_ := Aside0.mk (below_step (by repeat (first | (with_reducible first | exact HB.out | apply below_alloc | apply pw_below_drewN | apply below_drew1) | exact HB.out)) hb); clear HB; have HO616 := n0_; have HB := n1_; clear n0_ n1_; clear hb ho14) | (go_at_call 51; (with_reducible refine (impl_neighbours.calls kj3 a1 t617 _ A12.out).mono ?_); rintro e w15 ⟨v618, rfl, ho0, hb⟩; have n0_ := Aside0.mk (Kd.S_below (by (with_reducible repeat (first | apply Kd.S_alloc | apply Kd.S_drewN | apply Kd.S_drew)); exact HO616.out) hb); have n1_ := Aside0.mk (Kd.R_lower (Kd.R_newM (M := fun k_ => (w.heap.size ≤ k_)) ho0 (below_size (by repeat (first | (with_reducible first | exact HB.out | apply below_alloc | apply pw_below_drewN | apply below_drew1) | exact HB.out))) (fun k_ h_ => h_)) (below_size (by repeat (first | (with_reducible first | exact HB.out | apply below_alloc | apply pw_below_drewN | apply below_drew1) | exact HB.out)))); have n2_ := Aside0.mk (below_step (by repeat (first | (with_reducible first | exact HB.out | apply below_alloc | apply pw_below_drewN | apply below_drew1) | exact HB.out)) hb); clear HO616; clear HB; have HO616 := n0_; have HO619 := n1_; have HB := n2_; clear n0_ n1_ n2_; (try clear hb); (try clear hb2); (try clear hk); (try clear hi); (try clear ho0); obtain ⟨Ao16, co16, eo16⟩ := Kd.R_slice HO619.out; subst eo16))
        repeat (go_quiet (first | ((with_reducible refine gate_dst (N := 22) rfl ?_); refine Kd.S_lit k29 _ 29 ?hg (N := 22) ?hd (xs := ([] : List (S29))) (inner := []) (ok := fun _ => True) (okp := fun _ => True) ?hr ?hp (fun _ hk => hk) trivial (Below.refl _ _) (Nat.le_refl _) (by simp) ?_; (case hd => rfl); (case hg => rfl); (case hr => first | (go_simp; done) | (go_simp; rfl)); (case hp => exact (Reps.none _ _)); intro v615 w13 ho14 hb hg_ hnew_; clear hg_ hnew_; (first | rw [← Ny614.out] at ho14 | (simp only [Int.reduceToNat] at ho14; rw [← Ny614.out] at ho14)); have n0_ := Aside0.mk (Kd.S_lower (Kd.S_newM (M := fun k_ => (w.heap.size ≤ k_)) ho14 (below_size (by repeat (first | (with_reducible first | exact HB.out | apply below_alloc | apply pw_below_drewN | apply below_drew1) | exact HB.out))) (fun k_ h_ => h_)) (below_size (by repeat (first | (with_reducible first | exact HB.out | apply below_alloc | apply pw_below_drewN | apply below_drew1) | exact HB.out)))); have n1_ := Aside0.mk (below_step (by repeat (first | (with_reducible first | exact HB.out | apply below_alloc | apply pw_below_drewN | apply below_drew1) | exact HB.out)) hb); clear HB; have HO616 := n0_; have HB := n1_; clear n0_ n1_; clear hb ho14) | (go_at_call 51; (with_reducible refine (impl_neighbours.calls kj3 a1 t617 _ A12.out).mono ?_); rintro e w15 ⟨v618, rfl, ho0, hb⟩; have n0_ := Aside0.mk (Kd.S_below (by (with_reducible repeat (first | apply Kd.S_alloc | apply Kd.S_drewN | apply Kd.S_drew)); exact HO616.out) hb); have n1_ := Aside0.mk (Kd.R_lower (Kd.R_newM (M := fun k_ => (w.heap.size ≤ k_)) ho0 (below_size (by repeat (first | (with_reducible first | exact HB.out | apply below_alloc | apply pw_below_drewN | apply below_drew1) | exact HB.out))) (fun k_ h_ => h_)) (below_size (by repeat (first | (with_reducible first | exact HB.out | apply below_alloc | apply pw_below_drewN | apply below_drew1) | exact HB.out)))); have n2_ := Aside0.mk (below_step (by repeat (first | (with_reducible first | exact HB.out | apply below_alloc | apply pw_below_drewN | apply below_drew1) | exact HB.out)) hb); clear HO616; clear HB; have HO616 := n0_; have HO619 := n1_; have HB := n2_; clear n0_ n1_ n2_; (try clear hb); (try clear hb2); (try clear hk); (try clear hi); (try clear ho0); obtain ⟨Ao16, co16, eo16⟩ := Kd.R_slice HO619.out; subst eo16)); try go_wp2_with (first | ((with_reducible refine gate_dst (N := 22) rfl ?_); refine Kd.S_lit k29 _ 29 ?hg (N := 22) ?hd (xs := ([] : List (S29))) (inner := []) (ok := fun _ => True) (okp := fun _ => True) ?hr ?hp (fun _ hk => hk) trivial (Below.refl _ _) (Nat.le_refl _) (by simp) ?_; (case hd => rfl); (case hg => rfl); (case hr => first | (go_simp; done) | (go_simp; rfl)); (case hp => exact (Reps.none _ _)); intro v615 w13 ho14 hb hg_ hnew_; clear hg_ hnew_; (first | rw [← Ny614.out] at ho14 | (simp only [Int.reduceToNat] at ho14; rw [← Ny614.out] at ho14)); have n0_ := Aside0.mk (Kd.S_lower (Kd.S_newM (M := fun k_ => (w.heap.size ≤ k_)) ho14 (below_size (by repeat (first | (with_reducible first | exact HB.out | apply below_alloc | apply pw_below_drewN | apply below_drew1) | exact HB.out))) (fun k_ h_ => h_)) (below_size (by repeat (first | (with_reducible first | exact HB.out | apply below_alloc | apply pw_below_drewN | apply below_drew1) | exact HB.out)))); have n1_ := Aside0.mk (below_step (by repeat (first | (with_reducible first | exact HB.out | apply below_alloc | apply pw_below_drewN | apply below_drew1) | exact HB.out)) hb); clear HB; have HO616 := n0_; have HB := n1_; clear n0_ n1_; clear hb ho14) | (go_at_call 51; (with_reducible refine (impl_neighbours.calls kj3 a1 t617 _ A12.out).mono ?_); rintro e w15 ⟨v618, rfl, ho0, hb⟩; have n0_ := Aside0.mk (Kd.S_below (by (with_reducible repeat (first | apply Kd.S_alloc | apply Kd.S_drewN | apply Kd.S_drew)); exact HO616.out) hb); have n1_ := Aside0.mk (Kd.R_lower (Kd.R_newM (M := fun k_ => (w.heap.size ≤ k_)) ho0 (below_size (by repeat (first | (with_reducible first | exact HB.out | apply below_alloc | apply pw_below_drewN | apply below_drew1) | exact HB.out))) (fun k_ h_ => h_)) (below_size (by repeat (first | (with_reducible first | exact HB.out | apply below_alloc | apply pw_below_drewN | apply below_drew1) | exact HB.out)))); have n2_ := Aside0.mk (below_step (by repeat (first | (with_reducible first | exact HB.out | apply below_alloc | apply pw_below_drewN | apply below_drew1) | exact HB.out)) hb); clear HO616; clear HB; have HO616 := n0_; have HO619 := n1_; have HB := n2_; clear n0_ n1_ n2_; (try clear hb); (try clear hb2); (try clear hk); (try clear hi); (try clear ho0); obtain ⟨Ao16, co16, eo16⟩ := Kd.R_slice HO619.out; subst eo16)))
        go_loopg [7, 26] kj3 (fun kq v7 v26 w' => ∃ (x7_2 : List (S29)) (x26_2 : Int), v26 = .int .i64 x26_2 ∧ Aside0 (impl_LessRules.l0 kq l0 a2 x7_2 t617 (t617.length : Int) x26_2 = some r) ∧ Aside0 (kq ≤ kj3) ∧ Aside0 (Kd.S k29 29 w' w.heap.size (fun k_ => (w.heap.size ≤ k_)) v7 x7_2) ∧ Aside0 (Kd.R k79 79 w' w.heap.size (fun k_ => (w.heap.size ≤ k_)) (.slice Ao16 t617.length co16) t617) ∧ Aside0 (Below w.heap.size w w'))
        case atStart => exact ⟨(y614), (0), (by first | rfl | (simp; done) | (simp [*]; done)), H', ⟨Nat.le_refl _⟩, ⟨by (with_reducible repeat (first | apply Kd.S_alloc | apply Kd.S_drewN | apply Kd.S_drew)); exact Kd.S_mono HO616.out (fun _ hk => hk.1)⟩, ⟨by (with_reducible repeat (first | apply Kd.R_alloc | apply Kd.R_drewN | apply Kd.R_drew)); exact Kd.R_mono HO619.out (fun _ hk => hk.1)⟩, ⟨by repeat (first | (with_reducible first | exact HB.out | apply below_alloc | apply pw_below_drewN | apply below_drew1) | exact HB.out)⟩⟩
        case round =>
          clear H'
          try clear c1
          try clear p2
          try clear c6
          try clear c7
          try clear c7b0
          try clear c11
          try clear p2
          obtain ⟨x7_2, x26_2, rfl, HA, HK2, HO_7, HO_24, HB⟩ := hrel
          cases gk with
          | zero => exact absurd HA.out (by simp [impl_LessRules.l0])
          | succ k2 =>
            have H := HA.out
            clear HA
            simp only [impl_LessRules.l0] at H
            by_cases c17 : x26_2 < (t617.length : Int)
            · rw [if_pos c17] at H
              have c17b0 : decide (x26_2 < (t617.length : Int)) = true := decide_eq_true c17
              clear c17
              by_cases c18 : 0 ≤ x26_2
              · rw [if_pos c18] at H
                have c18b0 : decide (0 ≤ x26_2) = true := decide_eq_true c18
                clear c18
                by_cases c19 : x26_2 < (t617.length : Int)
                · rw [if_pos c19] at H
                  have c19b0 : decide (x26_2 < (t617.length : Int)) = true := decide_eq_true c19
                  clear c19
                  by_cases c20 : 0 ≤ ((rd_T79 t617 x26_2).f0)
                  · rw [if_pos c20] at H
                    have c20b0 : decide (0 ≤ ((rd_T79 t617 x26_2).f0)) = true := decide_eq_true c20
                    clear c20
                    by_cases c21 : ((rd_T79 t617 x26_2).f0) < (l0.length : Int)
                    · rw [if_pos c21] at H
                      have c21b0 : decide (((rd_T79 t617 x26_2).f0) < (l0.length : Int)) = true := decide_eq_true c21
                      clear c21
                      by_cases c22 : 0 ≤ ((rd_T79 t617 x26_2).f1)
                      · rw [if_pos c22] at H
                        have c22b0 : decide (0 ≤ ((rd_T79 t617 x26_2).f1)) = true := decide_eq_true c22
                        clear c22
                        by_cases c23 : ((rd_T79 t617 x26_2).f1) < (l0.length : Int)
                        · rw [if_pos c23] at H
                          have c23b0 : decide (((rd_T79 t617 x26_2).f1) < (l0.length : Int)) = true := decide_eq_true c23
                          clear c23
                          by_cases c24 : (rd l0 ((rd_T79 t617 x26_2).f0)) > (rd l0 ((rd_T79 t617 x26_2).f1))
                          · rw [if_pos c24] at H
                            have c24b0 : decide ((rd l0 ((rd_T79 t617 x26_2).f1)) < (rd l0 ((rd_T79 t617 x26_2).f0))) = true := decide_eq_true c24
                            clear c24
                            obtain ⟨y624, hy624⟩ : ∃ y_ : List Int, y_ = (([(rd_T79 t617 x26_2).f1, (rd_T79 t617 x26_2).f0] : List Int)) := ⟨_, rfl⟩
                            replace H : (if x7_2.length < 3518437208883 then (impl_LessRules.l0 k2 l0 a2 (x7_2 ++ [(⟨4, y624, 0⟩ : S29)]) t617 (t617.length : Int) (wrap64 (x26_2 + 1))) else (none)) = some r := by first | (rw [hy624]; with_reducible exact H) | (have H2_ := (Option.bind_some _ _).symm.trans H; rw [hy624]; with_reducible exact H2_) | (have H2_ := (Option.bind_some _ _).symm.trans H; with_reducible exact H2_) | with_reducible exact H | (rw [hy624]; exact H) | exact H
                            have Ny624 := Aside0.mk hy624
                            clear hy624
                            by_cases c25 : x7_2.length < 3518437208883
                            · rw [if_pos c25] at H
                              have LMc25 := Aside0.mk c25
                              clear c25
                              obtain ⟨y627, hy627⟩ : ∃ y_ : List (S29), y_ = (x7_2 ++ [(⟨4, y624, 0⟩ : S29)]) := ⟨_, rfl⟩
                              replace H : (impl_LessRules.l0 k2 l0 a2 y627 t617 (t617.length : Int) (wrap64 (x26_2 + 1))) = some r := by first | (rw [hy627]; with_reducible exact H) | (have H2_ := (Option.bind_some _ _).symm.trans H; rw [hy627]; with_reducible exact H2_) | (have H2_ := (Option.bind_some _ _).symm.trans H; with_reducible exact H2_) | with_reducible exact H | (rw [hy627]; exact H) | exact H
                              have Ny627 := Aside0.mk hy627
                              clear hy627
                              have H' := Aside0.mk H
                              clear H
                              have p620 : 0 ≤ (x26_2 : Int) := of_decide_eq_true (by first | (with_reducible assumption) | assumption)
                              have q620 : x26_2 < (t617.length : Int) := of_decide_eq_true (by first | (with_reducible assumption) | assumption)
                              obtain ⟨ad620, e620, hx620_0, hx620_1⟩ := at_T79 (Kd.R_reads' HO_24.out).2.2 x26_2 p620 q620
                              cases e620
                              replace p620 := eq_true p620
                              replace q620 := eq_true q620
                              go_wp2_with (first | ((with_reducible refine gate_dst (N := 9) rfl ?_); refine box_event ?hg (N := 9) ?hd (cs := #[.int .i64 0, .int .i64 0]) (t := 79) ?hr ?_; (case hd => rfl); (case hg => rfl); (case hr => first | (go_simp; done) | (go_simp; rfl)); intro gb621 hg w26 hbox hb; have n0_ := Aside0.mk (Kd.S_below (by (with_reducible repeat (first | apply Kd.S_alloc | apply Kd.S_drewN | apply Kd.S_drew)); exact HO_7.out) hb); have n1_ := Aside0.mk (Kd.R_below (Kd.R_elderB (by (with_reducible repeat (first | apply Kd.R_alloc | apply Kd.R_drewN | apply Kd.R_drew)); exact HO_24.out) gb621 (Nat.le_of_eq hg.symm)) hb); have n2_ := Aside0.mk (below_step (by repeat (first | (with_reducible first | exact HB.out | apply below_alloc | apply pw_below_drewN | apply below_drew1) | exact HB.out)) hb); have n3_ := Aside0.mk (hbox); have n4_ := Aside0.mk ((by rw [hg]; exact (below_size (by repeat (first | (with_reducible first | exact HB.out | apply below_alloc | apply pw_below_drewN | apply below_drew1) | exact HB.out))) : w.heap.size ≤ gb621)); have n5_ := Aside0.mk ((by rw [hg]; exact (below_size (by repeat (first | (with_reducible first | exact HB.out | apply below_alloc | apply pw_below_drewN | apply below_drew1) | exact HB.out))) : w.heap.size ≤ gb621)); clear HO_7; clear HO_24; clear HB; have HO_7 := n0_; have HO_24 := n1_; have HB := n2_; have BK621 := n3_; have GW621 := n4_; have GE621 := n5_; clear n0_ n1_ n2_ n3_ n4_ n5_; clear hb hbox hg; have hs_0 := fun (n_ : Nat) => (show (((((w26.setCell ⟨gb621, 0, none⟩ (.int .i64 ((rd_T79 t617 x26_2).f0))).setCell ⟨gb621, 1, none⟩ (.int .i64 ((rd_T79 t617 x26_2).f1))).drewN n_).setCell ⟨gb621, 0, none⟩ (.int .i64 ((rd_T79 t617 x26_2).f1))).setCell ⟨gb621, 1, none⟩ (.int .i64 ((rd_T79 t617 x26_2).f0))).cell? ⟨gb621, 0, none⟩ = some (.int .i64 ((rd_T79 t617 x26_2).f1)) from (blk_cell (g := gb621) (show (((((w26.setCell ⟨gb621, 0, none⟩ (.int .i64 ((rd_T79 t617 x26_2).f0))).setCell ⟨gb621, 1, none⟩ (.int .i64 ((rd_T79 t617 x26_2).f1))).drewN n_).setCell ⟨gb621, 0, none⟩ (.int .i64 ((rd_T79 t617 x26_2).f1))).setCell ⟨gb621, 1, none⟩ (.int .i64 ((rd_T79 t617 x26_2).f0))).heap[gb621]? = some (.cells #[.int .i64 ((rd_T79 t617 x26_2).f1), .int .i64 ((rd_T79 t617 x26_2).f0)] 79 (0, 0)) from by refine blk_put (cs := #[.int .i64 ((rd_T79 t617 x26_2).f1), .int .i64 ((rd_T79 t617 x26_2).f1)]) ?_ 1 _ rfl; refine blk_put (cs := #[.int .i64 ((rd_T79 t617 x26_2).f0), .int .i64 ((rd_T79 t617 x26_2).f1)]) ?_ 0 _ rfl; refine blk_drewN ?_ _; refine blk_put (cs := #[.int .i64 ((rd_T79 t617 x26_2).f0), .int .i64 0]) ?_ 1 _ rfl; refine blk_put (cs := #[.int .i64 0, .int .i64 0]) ?_ 0 _ rfl; exact BK621.out) 0).trans rfl); have hs_1 := fun (n_ : Nat) => (show (((((w26.setCell ⟨gb621, 0, none⟩ (.int .i64 ((rd_T79 t617 x26_2).f0))).setCell ⟨gb621, 1, none⟩ (.int .i64 ((rd_T79 t617 x26_2).f1))).drewN n_).setCell ⟨gb621, 0, none⟩ (.int .i64 ((rd_T79 t617 x26_2).f1))).setCell ⟨gb621, 1, none⟩ (.int .i64 ((rd_T79 t617 x26_2).f0))).cell? ⟨gb621, 1, none⟩ = some (.int .i64 ((rd_T79 t617 x26_2).f0)) from (blk_cell (g := gb621) (show (((((w26.setCell ⟨gb621, 0, none⟩ (.int .i64 ((rd_T79 t617 x26_2).f0))).setCell ⟨gb621, 1, none⟩ (.int .i64 ((rd_T79 t617 x26_2).f1))).drewN n_).setCell ⟨gb621, 0, none⟩ (.int .i64 ((rd_T79 t617 x26_2).f1))).setCell ⟨gb621, 1, none⟩ (.int .i64 ((rd_T79 t617 x26_2).f0))).heap[gb621]? = some (.cells #[.int .i64 ((rd_T79 t617 x26_2).f1), .int .i64 ((rd_T79 t617 x26_2).f0)] 79 (0, 0)) from by refine blk_put (cs := #[.int .i64 ((rd_T79 t617 x26_2).f1), .int .i64 ((rd_T79 t617 x26_2).f1)]) ?_ 1 _ rfl; refine blk_put (cs := #[.int .i64 ((rd_T79 t617 x26_2).f0), .int .i64 ((rd_T79 t617 x26_2).f1)]) ?_ 0 _ rfl; refine blk_drewN ?_ _; refine blk_put (cs := #[.int .i64 ((rd_T79 t617 x26_2).f0), .int .i64 0]) ?_ 1 _ rfl; refine blk_put (cs := #[.int .i64 0, .int .i64 0]) ?_ 0 _ rfl; exact BK621.out) 1).trans rfl); have hcz27_0 : w26.cell? ⟨gb621, 0, none⟩ = some (.int .i64 0) := (blk_cell BK621.out 0).trans rfl; have hcz27_1 : w26.cell? ⟨gb621, 1, none⟩ = some (.int .i64 0) := (blk_cell BK621.out 1).trans rfl; have hfz27_0 := blk_frozen BK621.out 0; have hfz27_1 := blk_frozen BK621.out 1; have p622 : 0 ≤ (((rd_T79 t617 x26_2).f0) : Int) := of_decide_eq_true (by first | (with_reducible assumption) | assumption); have q622 : ((rd_T79 t617 x26_2).f0) < (l0.length : Int) := of_decide_eq_true (by first | (with_reducible assumption) | assumption); obtain ⟨ad622, e622, hx622_0⟩ := Kd.at_int HR0.out ((rd_T79 t617 x26_2).f0) p622 q622; cases e622; have hn622_0 : ad622.block ≠ gb621 := Nat.ne_of_lt (Nat.lt_of_lt_of_le (by have := World.block_lt_of_cell? _ _ hx622_0; first | rwa [add_block] at this | exact this) GW621.out); have hn622_1 : ad622.block ≠ gb621 := Nat.ne_of_lt (Nat.lt_of_lt_of_le (by have := World.block_lt_of_cell? _ _ hx622_0; first | rwa [add_block] at this | exact this) GW621.out); replace hx622_0 := (HB.out.cell (World.block_lt_of_cell? w _ hx622_0)).trans hx622_0; replace hx622_0 := (cell_far (p := ⟨gb621, 0, none⟩) (by first | (rw [add_block]; exact hn622_0) | (show (Addr.add _ _).block ≠ _; rw [add_block]; exact hn622_0) | exact hn622_0) (.int .i64 ((rd_T79 t617 x26_2).f0))).trans hx622_0; replace hx622_0 := (cell_far (p := ⟨gb621, 1, none⟩) (by first | (rw [add_block]; exact hn622_1) | (show (Addr.add _ _).block ≠ _; rw [add_block]; exact hn622_1) | exact hn622_1) (.int .i64 ((rd_T79 t617 x26_2).f1))).trans hx622_0; (try have hy622_0 := fun (n_ : Nat) => (show ((((w26.drewN n_).setCell ⟨gb621, 0, none⟩ (.int .i64 ((rd_T79 t617 x26_2).f0))).setCell ⟨gb621, 1, none⟩ (.int .i64 ((rd_T79 t617 x26_2).f1)))).cell? _ = some _ from hx622_0)); clear hn622_0; clear hn622_1; replace p622 := eq_true p622; replace q622 := eq_true q622; have p623 : 0 ≤ (((rd_T79 t617 x26_2).f1) : Int) := of_decide_eq_true (by first | (with_reducible assumption) | assumption); have q623 : ((rd_T79 t617 x26_2).f1) < (l0.length : Int) := of_decide_eq_true (by first | (with_reducible assumption) | assumption); obtain ⟨ad623, e623, hx623_0⟩ := Kd.at_int HR0.out ((rd_T79 t617 x26_2).f1) p623 q623; obtain rfl : ad622 = ad623 := (by injection e623); have hn623_0 : ad622.block ≠ gb621 := Nat.ne_of_lt (Nat.lt_of_lt_of_le (by have := World.block_lt_of_cell? _ _ hx623_0; first | rwa [add_block] at this | exact this) GW621.out); have hn623_1 : ad622.block ≠ gb621 := Nat.ne_of_lt (Nat.lt_of_lt_of_le (by have := World.block_lt_of_cell? _ _ hx623_0; first | rwa [add_block] at this | exact this) GW621.out); replace hx623_0 := (HB.out.cell (World.block_lt_of_cell? w _ hx623_0)).trans hx623_0; replace hx623_0 := (cell_far (p := ⟨gb621, 0, none⟩) (by first | (rw [add_block]; exact hn623_0) | (show (Addr.add _ _).block ≠ _; rw [add_block]; exact hn623_0) | exact hn623_0) (.int .i64 ((rd_T79 t617 x26_2).f0))).trans hx623_0; replace hx623_0 := (cell_far (p := ⟨gb621, 1, none⟩) (by first | (rw [add_block]; exact hn623_1) | (show (Addr.add _ _).block ≠ _; rw [add_block]; exact hn623_1) | exact hn623_1) (.int .i64 ((rd_T79 t617 x26_2).f1))).trans hx623_0; (try have hy623_0 := fun (n_ : Nat) => (show ((((w26.drewN n_).setCell ⟨gb621, 0, none⟩ (.int .i64 ((rd_T79 t617 x26_2).f0))).setCell ⟨gb621, 1, none⟩ (.int .i64 ((rd_T79 t617 x26_2).f1)))).cell? _ = some _ from hx623_0)); clear hn623_0; clear hn623_1; replace p623 := eq_true p623; replace q623 := eq_true q623) | ((with_reducible refine gate_dst (N := 52) rfl ?_); refine Kd.R_lit (Kd.int .i64) _ 3 ?hg (N := 52) ?hd (xs := ([(rd_T79 t617 x26_2).f1, (rd_T79 t617 x26_2).f0] : List Int)) (inner := [.int .i64 ((rd_T79 t617 x26_2).f1), .int .i64 ((rd_T79 t617 x26_2).f0)]) (ok := fun _ => True) (okp := fun _ => True) ?hr ?hp (fun _ hk => hk) trivial (Below.refl _ _) (Nat.le_refl _) (by simp) ?_; (case hd => rfl); (case hg => rfl); (case hr => first | (go_simp; done) | (go_simp; rfl)); (case hp => exact (Reps.one (show Kd.M (Kd.int .i64) _ _ _ ((rd_T79 t617 x26_2).f1) [.int .i64 ((rd_T79 t617 x26_2).f1)] from rfl) (Reps.one (show Kd.M (Kd.int .i64) _ _ _ ((rd_T79 t617 x26_2).f0) [.int .i64 ((rd_T79 t617 x26_2).f0)] from rfl) (Reps.none _ _)))); intro v625 w28 ho29 hb hg_ hnew_; clear hg_ hnew_; (first | rw [← Ny624.out] at ho29 | (simp only [Int.reduceToNat] at ho29; rw [← Ny624.out] at ho29)); have n0_ := Aside0.mk (Kd.S_elder' (by (with_reducible repeat (first | apply Kd.S_alloc | apply Kd.S_drewN | apply Kd.S_drew)); exact (Kd.S_mono (Kd.S_far (p := ⟨gb621, 1, none⟩) (Kd.S_far (p := ⟨gb621, 0, none⟩) (Kd.S_far (p := ⟨gb621, 1, none⟩) (Kd.S_far (p := ⟨gb621, 0, none⟩) (Kd.S_types HO_7.out BK621.out (by decide)) (fun _ hk => hk.2) (.int .i64 ((rd_T79 t617 x26_2).f0))) (fun _ hk => hk.2) (.int .i64 ((rd_T79 t617 x26_2).f1))) (fun _ hk => hk.2) (.int .i64 ((rd_T79 t617 x26_2).f1))) (fun _ hk => hk.2) (.int .i64 ((rd_T79 t617 x26_2).f0))) (fun _ h_ => h_.1))) (Kd.R_base ho29) hb); have n1_ := Aside0.mk (Kd.R_below (by (with_reducible repeat (first | apply Kd.R_alloc | apply Kd.R_drewN | apply Kd.R_drew)); exact (Kd.R_mono (Kd.R_far (p := ⟨gb621, 1, none⟩) (Kd.R_far (p := ⟨gb621, 0, none⟩) (Kd.R_far (p := ⟨gb621, 1, none⟩) (Kd.R_far (p := ⟨gb621, 0, none⟩) (Kd.R_mono HO_24.out (fun k_ hk => (⟨hk, hk.2⟩ : _ ∧ k_ ≠ gb621))) (fun _ hk => hk.2) (.int .i64 ((rd_T79 t617 x26_2).f0))) (fun _ hk => hk.2) (.int .i64 ((rd_T79 t617 x26_2).f1))) (fun _ hk => hk.2) (.int .i64 ((rd_T79 t617 x26_2).f1))) (fun _ hk => hk.2) (.int .i64 ((rd_T79 t617 x26_2).f0))) (fun _ h_ => h_.1))) hb); have n2_ := Aside0.mk (Kd.R_lower (Kd.R_newM (M := fun k_ => (w.heap.size ≤ k_)) ho29 (below_size (by repeat (first | (with_reducible first | exact HB.out | apply below_alloc | apply pw_below_drewN | apply below_drew1 | refine below_set ?_ GE621.out) | exact HB.out))) (fun k_ h_ => h_)) (below_size (by repeat (first | (with_reducible first | exact HB.out | apply below_alloc | apply pw_below_drewN | apply below_drew1 | refine below_set ?_ GE621.out) | exact HB.out)))); have n3_ := Aside0.mk (blk_below (g := gb621) (o := .cells #[.int .i64 ((rd_T79 t617 x26_2).f1), .int .i64 ((rd_T79 t617 x26_2).f0)] 79 (0, 0)) (by (with_reducible repeat (first | refine blk_drewN ?_ _ | refine blk_drew ?_ | refine blk_alloc ?_ _)); refine blk_put (cs := #[.int .i64 ((rd_T79 t617 x26_2).f1), .int .i64 ((rd_T79 t617 x26_2).f1)]) ?_ 1 _ rfl; (with_reducible repeat (first | refine blk_drewN ?_ _ | refine blk_drew ?_ | refine blk_alloc ?_ _)); refine blk_put (cs := #[.int .i64 ((rd_T79 t617 x26_2).f0), .int .i64 ((rd_T79 t617 x26_2).f1)]) ?_ 0 _ rfl; (with_reducible repeat (first | refine blk_drewN ?_ _ | refine blk_drew ?_ | refine blk_alloc ?_ _)); refine blk_put (cs := #[.int .i64 ((rd_T79 t617 x26_2).f0), .int .i64 0]) ?_ 1 _ rfl; (with_reducible repeat (first | refine blk_drewN ?_ _ | refine blk_drew ?_ | refine blk_alloc ?_ _)); refine blk_put (cs := #[.int .i64 0, .int .i64 0]) ?_ 0 _ rfl; (with_reducible repeat (first | refine blk_drewN ?_ _ | refine blk_drew ?_ | refine blk_alloc ?_ _)); exact BK621.out) hb); have n4_ := Aside0.mk (below_step (by repeat (first | (with_reducible first | exact HB.out | apply below_alloc | apply pw_below_drewN | apply below_drew1 | refine below_set ?_ GE621.out) | exact HB.out)) hb); clear HO_7; clear HO_24; clear BK621; clear HB; have HO_7 := n0_; have HO_24 := n1_; have HO626 := n2_; have BK621 := n3_; have HB := n4_; clear n0_ n1_ n2_ n3_ n4_; clear hb ho29; obtain ⟨Ao30, co30, eo30⟩ := Kd.R_slice HO626.out; subst eo30) | ((with_reducible refine gate_builtin (b := .append) (xs := #[.tmp 47, .tmp 54]) rfl ?_); at_builtin; refine Kd.S_append k29 (w0 := w) w.heap.size rfl (.tmp 47) (.tmp 54) 26 29 (.agg #[(.int .i64 0), (.slice none 0 0), (.int .i64 0)]) 40 rfl Try.underlying26 info29 rfl (by decide) (by omega) u7 x7_2 (⟨4, y624, 0⟩ : S29) [.int .i64 4, .slice Ao30 y624.length co30, .int .i64 0] (fun k_ => (w.heap.size ≤ k_)) (fun k_ => some k_ = (.slice Ao30 y624.length co30 : Value).ownBlock) rfl rfl ?aP (fun k_ hk_ => ((Kd.R_mono (ok' := fun k_ => ((fun k_ => (w.heap.size ≤ k_))) k_ ∧ some k_ ≠ (u7 : Value).ownBlock) (Kd.R_apart' (HO626.out) (Kd.S_typed HO_7.out) (by decide)) (fun k_ hk => ⟨hk.1.1, hk.2⟩))).1 k_ hk_.symm) ?aF ?aO ?aB ?aS ?aL ?_; (case aP => exact k29_mkM _ _ _ (⟨4, y624, 0⟩ : S29) (Kd.R_mono (Kd.R_tight rfl (Kd.R_mono (ok' := fun k_ => ((fun k_ => (w.heap.size ≤ k_))) k_ ∧ some k_ ≠ (u7 : Value).ownBlock) (Kd.R_apart' (HO626.out) (Kd.S_typed HO_7.out) (by decide)) (fun k_ hk => ⟨hk.1.1, hk.2⟩))) (fun _ h_ => h_))); (case aB => exact (by repeat (first | (with_reducible first | exact HB.out | apply below_alloc | apply pw_below_drewN | apply below_drew1 | refine below_set ?_ GE621.out) | exact HB.out))); (case aF => exact (fun k_ hk => (Nat.le_trans (below_size (by repeat (first | (with_reducible first | exact HB.out | apply below_alloc | apply pw_below_drewN | apply below_drew1 | refine below_set ?_ GE621.out) | exact HB.out))) hk))); (case aO => exact (by (with_reducible repeat (first | apply Kd.S_alloc | apply Kd.S_drewN | apply Kd.S_drew)); exact Kd.S_mono HO_7.out (fun k_ hk => ⟨hk.1, fun e_ => hk.2 e_⟩))); (case aS => exact (below_size (by repeat (first | (with_reducible first | exact HB.out | apply below_alloc | apply pw_below_drewN | apply below_drew1 | refine below_set ?_ GE621.out) | exact HB.out)))); (case aL => have := LMc25.out; omega); intro v628 w31 ho hb hg hat; rw [← Ny627.out] at ho; have n0_ := Aside0.mk (Kd.R_over' (by (with_reducible repeat (first | apply Kd.R_alloc | apply Kd.R_drewN | apply Kd.R_drew)); exact HO_24.out) (Kd.S_typed (by (with_reducible repeat (first | apply Kd.S_alloc | apply Kd.S_drewN | apply Kd.S_drew)); exact HO_7.out)) (by decide) hg); have n1_ := Aside0.mk (blk_grown (g := gb621) (o := .cells #[.int .i64 ((rd_T79 t617 x26_2).f1), .int .i64 ((rd_T79 t617 x26_2).f0)] 79 (0, 0)) (by (with_reducible repeat (first | refine blk_drewN ?_ _ | refine blk_drew ?_ | refine blk_alloc ?_ _)); exact BK621.out) hg (Kd.S_ne HO_7.out BK621.out (by decide))); have n2_ := Aside0.mk (hb); have n3_ := Aside0.mk (ho); clear HO_24; clear BK621; clear HB; clear HO_7; clear HO626; have HO_24 := n0_; have BK621 := n1_; have HB := n2_; have HO629 := n3_; clear n0_ n1_ n2_ n3_; clear ho hb hg hat))
                              repeat (go_quiet (first | ((with_reducible refine gate_dst (N := 9) rfl ?_); refine box_event ?hg (N := 9) ?hd (cs := #[.int .i64 0, .int .i64 0]) (t := 79) ?hr ?_; (case hd => rfl); (case hg => rfl); (case hr => first | (go_simp; done) | (go_simp; rfl)); intro gb621 hg w26 hbox hb; have n0_ := Aside0.mk (Kd.S_below (by (with_reducible repeat (first | apply Kd.S_alloc | apply Kd.S_drewN | apply Kd.S_drew)); exact HO_7.out) hb); have n1_ := Aside0.mk (Kd.R_below (Kd.R_elderB (by (with_reducible repeat (first | apply Kd.R_alloc | apply Kd.R_drewN | apply Kd.R_drew)); exact HO_24.out) gb621 (Nat.le_of_eq hg.symm)) hb); have n2_ := Aside0.mk (below_step (by repeat (first | (with_reducible first | exact HB.out | apply below_alloc | apply pw_below_drewN | apply below_drew1) | exact HB.out)) hb); have n3_ := Aside0.mk (hbox); have n4_ := Aside0.mk ((by rw [hg]; exact (below_size (by repeat (first | (with_reducible first | exact HB.out | apply below_alloc | apply pw_below_drewN | apply below_drew1) | exact HB.out))) : w.heap.size ≤ gb621)); have n5_ := Aside0.mk ((by rw [hg]; exact (below_size (by repeat (first | (with_reducible first | exact HB.out | apply below_alloc | apply pw_below_drewN | apply below_drew1) | exact HB.out))) : w.heap.size ≤ gb621)); clear HO_7; clear HO_24; clear HB; have HO_7 := n0_; have HO_24 := n1_; have HB := n2_; have BK621 := n3_; have GW621 := n4_; have GE621 := n5_; clear n0_ n1_ n2_ n3_ n4_ n5_; clear hb hbox hg; have hs_0 := fun (n_ : Nat) => (show (((((w26.setCell ⟨gb621, 0, none⟩ (.int .i64 ((rd_T79 t617 x26_2).f0))).setCell ⟨gb621, 1, none⟩ (.int .i64 ((rd_T79 t617 x26_2).f1))).drewN n_).setCell ⟨gb621, 0, none⟩ (.int .i64 ((rd_T79 t617 x26_2).f1))).setCell ⟨gb621, 1, none⟩ (.int .i64 ((rd_T79 t617 x26_2).f0))).cell? ⟨gb621, 0, none⟩ = some (.int .i64 ((rd_T79 t617 x26_2).f1)) from (blk_cell (g := gb621) (show (((((w26.setCell ⟨gb621, 0, none⟩ (.int .i64 ((rd_T79 t617 x26_2).f0))).setCell ⟨gb621, 1, none⟩ (.int .i64 ((rd_T79 t617 x26_2).f1))).drewN n_).setCell ⟨gb621, 0, none⟩ (.int .i64 ((rd_T79 t617 x26_2).f1))).setCell ⟨gb621, 1, none⟩ (.int .i64 ((rd_T79 t617 x26_2).f0))).heap[gb621]? = some (.cells #[.int .i64 ((rd_T79 t617 x26_2).f1), .int .i64 ((rd_T79 t617 x26_2).f0)] 79 (0, 0)) from by refine blk_put (cs := #[.int .i64 ((rd_T79 t617 x26_2).f1), .int .i64 ((rd_T79 t617 x26_2).f1)]) ?_ 1 _ rfl; refine blk_put (cs := #[.int .i64 ((rd_T79 t617 x26_2).f0), .int .i64 ((rd_T79 t617 x26_2).f1)]) ?_ 0 _ rfl; refine blk_drewN ?_ _; refine blk_put (cs := #[.int .i64 ((rd_T79 t617 x26_2).f0), .int .i64 0]) ?_ 1 _ rfl; refine blk_put (cs := #[.int .i64 0, .int .i64 0]) ?_ 0 _ rfl; exact BK621.out) 0).trans rfl); have hs_1 := fun (n_ : Nat) => (show (((((w26.setCell ⟨gb621, 0, none⟩ (.int .i64 ((rd_T79 t617 x26_2).f0))).setCell ⟨gb621, 1, none⟩ (.int .i64 ((rd_T79 t617 x26_2).f1))).drewN n_).setCell ⟨gb621, 0, none⟩ (.int .i64 ((rd_T79 t617 x26_2).f1))).setCell ⟨gb621, 1, none⟩ (.int .i64 ((rd_T79 t617 x26_2).f0))).cell? ⟨gb621, 1, none⟩ = some (.int .i64 ((rd_T79 t617 x26_2).f0)) from (blk_cell (g := gb621) (show (((((w26.setCell ⟨gb621, 0, none⟩ (.int .i64 ((rd_T79 t617 x26_2).f0))).setCell ⟨gb621, 1, none⟩ (.int .i64 ((rd_T79 t617 x26_2).f1))).drewN n_).setCell ⟨gb621, 0, none⟩ (.int .i64 ((rd_T79 t617 x26_2).f1))).setCell ⟨gb621, 1, none⟩ (.int .i64 ((rd_T79 t617 x26_2).f0))).heap[gb621]? = some (.cells #[.int .i64 ((rd_T79 t617 x26_2).f1), .int .i64 ((rd_T79 t617 x26_2).f0)] 79 (0, 0)) from by refine blk_put (cs := #[.int .i64 ((rd_T79 t617 x26_2).f1), .int .i64 ((rd_T79 t617 x26_2).f1)]) ?_ 1 _ rfl; refine blk_put (cs := #[.int .i64 ((rd_T79 t617 x26_2).f0), .int .i64 ((rd_T79 t617 x26_2).f1)]) ?_ 0 _ rfl; refine blk_drewN ?_ _; refine blk_put (cs := #[.int .i64 ((rd_T79 t617 x26_2).f0), .int .i64 0]) ?_ 1 _ rfl; refine blk_put (cs := #[.int .i64 0, .int .i64 0]) ?_ 0 _ rfl; exact BK621.out) 1).trans rfl); have hcz27_0 : w26.cell? ⟨gb621, 0, none⟩ = some (.int .i64 0) := (blk_cell BK621.out 0).trans rfl; have hcz27_1 : w26.cell? ⟨gb621, 1, none⟩ = some (.int .i64 0) := (blk_cell BK621.out 1).trans rfl; have hfz27_0 := blk_frozen BK621.out 0; have hfz27_1 := blk_frozen BK621.out 1; have p622 : 0 ≤ (((rd_T79 t617 x26_2).f0) : Int) := of_decide_eq_true (by first | (with_reducible assumption) | assumption); have q622 : ((rd_T79 t617 x26_2).f0) < (l0.length : Int) := of_decide_eq_true (by first | (with_reducible assumption) | assumption); obtain ⟨ad622, e622, hx622_0⟩ := Kd.at_int HR0.out ((rd_T79 t617 x26_2).f0) p622 q622; cases e622; have hn622_0 : ad622.block ≠ gb621 := Nat.ne_of_lt (Nat.lt_of_lt_of_le (by have := World.block_lt_of_cell? _ _ hx622_0; first | rwa [add_block] at this | exact this) GW621.out); have hn622_1 : ad622.block ≠ gb621 := Nat.ne_of_lt (Nat.lt_of_lt_of_le (by have := World.block_lt_of_cell? _ _ hx622_0; first | rwa [add_block] at this | exact this) GW621.out); replace hx622_0 := (HB.out.cell (World.block_lt_of_cell? w _ hx622_0)).trans hx622_0; replace hx622_0 := (cell_far (p := ⟨gb621, 0, none⟩) (by first | (rw [add_block]; exact hn622_0) | (show (Addr.add _ _).block ≠ _; rw [add_block]; exact hn622_0) | exact hn622_0) (.int .i64 ((rd_T79 t617 x26_2).f0))).trans hx622_0; replace hx622_0 := (cell_far (p := ⟨gb621, 1, none⟩) (by first | (rw [add_block]; exact hn622_1) | (show (Addr.add _ _).block ≠ _; rw [add_block]; exact hn622_1) | exact hn622_1) (.int .i64 ((rd_T79 t617 x26_2).f1))).trans hx622_0; (try have hy622_0 := fun (n_ : Nat) => (show ((((w26.drewN n_).setCell ⟨gb621, 0, none⟩ (.int .i64 ((rd_T79 t617 x26_2).f0))).setCell ⟨gb621, 1, none⟩ (.int .i64 ((rd_T79 t617 x26_2).f1)))).cell? _ = some _ from hx622_0)); clear hn622_0; clear hn622_1; replace p622 := eq_true p622; replace q622 := eq_true q622; have p623 : 0 ≤ (((rd_T79 t617 x26_2).f1) : Int) := of_decide_eq_true (by first | (with_reducible assumption) | assumption); have q623 : ((rd_T79 t617 x26_2).f1) < (l0.length : Int) := of_decide_eq_true (by first | (with_reducible assumption) | assumption); obtain ⟨ad623, e623, hx623_0⟩ := Kd.at_int HR0.out ((rd_T79 t617 x26_2).f1) p623 q623; obtain rfl : ad622 = ad623 := (by injection e623); have hn623_0 : ad622.block ≠ gb621 := Nat.ne_of_lt (Nat.lt_of_lt_of_le (by have := World.block_lt_of_cell? _ _ hx623_0; first | rwa [add_block] at this | exact this) GW621.out); have hn623_1 : ad622.block ≠ gb621 := Nat.ne_of_lt (Nat.lt_of_lt_of_le (by have := World.block_lt_of_cell? _ _ hx623_0; first | rwa [add_block] at this | exact this) GW621.out); replace hx623_0 := (HB.out.cell (World.block_lt_of_cell? w _ hx623_0)).trans hx623_0; replace hx623_0 := (cell_far (p := ⟨gb621, 0, none⟩) (by first | (rw [add_block]; exact hn623_0) | (show (Addr.add _ _).block ≠ _; rw [add_block]; exact hn623_0) | exact hn623_0) (.int .i64 ((rd_T79 t617 x26_2).f0))).trans hx623_0; replace hx623_0 := (cell_far (p := ⟨gb621, 1, none⟩) (by first | (rw [add_block]; exact hn623_1) | (show (Addr.add _ _).block ≠ _; rw [add_block]; exact hn623_1) | exact hn623_1) (.int .i64 ((rd_T79 t617 x26_2).f1))).trans hx623_0; (try have hy623_0 := fun (n_ : Nat) => (show ((((w26.drewN n_).setCell ⟨gb621, 0, none⟩ (.int .i64 ((rd_T79 t617 x26_2).f0))).setCell ⟨gb621, 1, none⟩ (.int .i64 ((rd_T79 t617 x26_2).f1)))).cell? _ = some _ from hx623_0)); clear hn623_0; clear hn623_1; replace p623 := eq_true p623; replace q623 := eq_true q623) | ((with_reducible refine gate_dst (N := 52) rfl ?_); refine Kd.R_lit (Kd.int .i64) _ 3 ?hg (N := 52) ?hd (xs := ([(rd_T79 t617 x26_2).f1, (rd_T79 t617 x26_2).f0] : List Int)) (inner := [.int .i64 ((rd_T79 t617 x26_2).f1), .int .i64 ((rd_T79 t617 x26_2).f0)]) (ok := fun _ => True) (okp := fun _ => True) ?hr ?hp (fun _ hk => hk) trivial (Below.refl _ _) (Nat.le_refl _) (by simp) ?_; (case hd => rfl); (case hg => rfl); (case hr => first | (go_simp; done) | (go_simp; rfl)); (case hp => exact (Reps.one (show Kd.M (Kd.int .i64) _ _ _ ((rd_T79 t617 x26_2).f1) [.int .i64 ((rd_T79 t617 x26_2).f1)] from rfl) (Reps.one (show Kd.M (Kd.int .i64) _ _ _ ((rd_T79 t617 x26_2).f0) [.int .i64 ((rd_T79 t617 x26_2).f0)] from rfl) (Reps.none _ _)))); intro v625 w28 ho29 hb hg_ hnew_; clear hg_ hnew_; (first | rw [← Ny624.out] at ho29 | (simp only [Int.reduceToNat] at ho29; rw [← Ny624.out] at ho29)); have n0_ := Aside0.mk (Kd.S_elder' (by (with_reducible repeat (first | apply Kd.S_alloc | apply Kd.S_drewN | apply Kd.S_drew)); exact (Kd.S_mono (Kd.S_far (p := ⟨gb621, 1, none⟩) (Kd.S_far (p := ⟨gb621, 0, none⟩) (Kd.S_far (p := ⟨gb621, 1, none⟩) (Kd.S_far (p := ⟨gb621, 0, none⟩) (Kd.S_types HO_7.out BK621.out (by decide)) (fun _ hk => hk.2) (.int .i64 ((rd_T79 t617 x26_2).f0))) (fun _ hk => hk.2) (.int .i64 ((rd_T79 t617 x26_2).f1))) (fun _ hk => hk.2) (.int .i64 ((rd_T79 t617 x26_2).f1))) (fun _ hk => hk.2) (.int .i64 ((rd_T79 t617 x26_2).f0))) (fun _ h_ => h_.1))) (Kd.R_base ho29) hb); have n1_ := Aside0.mk (Kd.R_below (by (with_reducible repeat (first | apply Kd.R_alloc | apply Kd.R_drewN | apply Kd.R_drew)); exact (Kd.R_mono (Kd.R_far (p := ⟨gb621, 1, none⟩) (Kd.R_far (p := ⟨gb621, 0, none⟩) (Kd.R_far (p := ⟨gb621, 1, none⟩) (Kd.R_far (p := ⟨gb621, 0, none⟩) (Kd.R_mono HO_24.out (fun k_ hk => (⟨hk, hk.2⟩ : _ ∧ k_ ≠ gb621))) (fun _ hk => hk.2) (.int .i64 ((rd_T79 t617 x26_2).f0))) (fun _ hk => hk.2) (.int .i64 ((rd_T79 t617 x26_2).f1))) (fun _ hk => hk.2) (.int .i64 ((rd_T79 t617 x26_2).f1))) (fun _ hk => hk.2) (.int .i64 ((rd_T79 t617 x26_2).f0))) (fun _ h_ => h_.1))) hb); have n2_ := Aside0.mk (Kd.R_lower (Kd.R_newM (M := fun k_ => (w.heap.size ≤ k_)) ho29 (below_size (by repeat (first | (with_reducible first | exact HB.out | apply below_alloc | apply pw_below_drewN | apply below_drew1 | refine below_set ?_ GE621.out) | exact HB.out))) (fun k_ h_ => h_)) (below_size (by repeat (first | (with_reducible first | exact HB.out | apply below_alloc | apply pw_below_drewN | apply below_drew1 | refine below_set ?_ GE621.out) | exact HB.out)))); have n3_ := Aside0.mk (blk_below (g := gb621) (o := .cells #[.int .i64 ((rd_T79 t617 x26_2).f1), .int .i64 ((rd_T79 t617 x26_2).f0)] 79 (0, 0)) (by (with_reducible repeat (first | refine blk_drewN ?_ _ | refine blk_drew ?_ | refine blk_alloc ?_ _)); refine blk_put (cs := #[.int .i64 ((rd_T79 t617 x26_2).f1), .int .i64 ((rd_T79 t617 x26_2).f1)]) ?_ 1 _ rfl; (with_reducible repeat (first | refine blk_drewN ?_ _ | refine blk_drew ?_ | refine blk_alloc ?_ _)); refine blk_put (cs := #[.int .i64 ((rd_T79 t617 x26_2).f0), .int .i64 ((rd_T79 t617 x26_2).f1)]) ?_ 0 _ rfl; (with_reducible repeat (first | refine blk_drewN ?_ _ | refine blk_drew ?_ | refine blk_alloc ?_ _)); refine blk_put (cs := #[.int .i64 ((rd_T79 t617 x26_2).f0), .int .i64 0]) ?_ 1 _ rfl; (with_reducible repeat (first | refine blk_drewN ?_ _ | refine blk_drew ?_ | refine blk_alloc ?_ _)); refine blk_put (cs := #[.int .i64 0, .int .i64 0]) ?_ 0 _ rfl; (with_reducible repeat (first | refine blk_drewN ?_ _ | refine blk_drew ?_ | refine blk_alloc ?_ _)); exact BK621.out) hb); have n4_ := Aside0.mk (below_step (by repeat (first | (with_reducible first | exact HB.out | apply below_alloc | apply pw_below_drewN | apply below_drew1 | refine below_set ?_ GE621.out) | exact HB.out)) hb); clear HO_7; clear HO_24; clear BK621; clear HB; have HO_7 := n0_; have HO_24 := n1_; have HO626 := n2_; have BK621 := n3_; have HB := n4_; clear n0_ n1_ n2_ n3_ n4_; clear hb ho29; obtain ⟨Ao30, co30, eo30⟩ := Kd.R_slice HO626.out; subst eo30) | ((with_reducible refine gate_builtin (b := .append) (xs := #[.tmp 47, .tmp 54]) rfl ?_); at_builtin; refine Kd.S_append k29 (w0 := w) w.heap.size rfl (.tmp 47) (.tmp 54) 26 29 (.agg #[(.int .i64 0), (.slice none 0 0), (.int .i64 0)]) 40 rfl Try.underlying26 info29 rfl (by decide) (by omega) u7 x7_2 (⟨4, y624, 0⟩ : S29) [.int .i64 4, .slice Ao30 y624.length co30, .int .i64 0] (fun k_ => (w.heap.size ≤ k_)) (fun k_ => some k_ = (.slice Ao30 y624.length co30 : Value).ownBlock) rfl rfl ?aP (fun k_ hk_ => ((Kd.R_mono (ok' := fun k_ => ((fun k_ => (w.heap.size ≤ k_))) k_ ∧ some k_ ≠ (u7 : Value).ownBlock) (Kd.R_apart' (HO626.out) (Kd.S_typed HO_7.out) (by decide)) (fun k_ hk => ⟨hk.1.1, hk.2⟩))).1 k_ hk_.symm) ?aF ?aO ?aB ?aS ?aL ?_; (case aP => exact k29_mkM _ _ _ (⟨4, y624, 0⟩ : S29) (Kd.R_mono (Kd.R_tight rfl (Kd.R_mono (ok' := fun k_ => ((fun k_ => (w.heap.size ≤ k_))) k_ ∧ some k_ ≠ (u7 : Value).ownBlock) (Kd.R_apart' (HO626.out) (Kd.S_typed HO_7.out) (by decide)) (fun k_ hk => ⟨hk.1.1, hk.2⟩))) (fun _ h_ => h_))); (case aB => exact (by repeat (first | (with_reducible first | exact HB.out | apply below_alloc | apply pw_below_drewN | apply below_drew1 | refine below_set ?_ GE621.out) | exact HB.out))); (case aF => exact (fun k_ hk => (Nat.le_trans (below_size (by repeat (first | (with_reducible first | exact HB.out | apply below_alloc | apply pw_below_drewN | apply below_drew1 | refine below_set ?_ GE621.out) | exact HB.out))) hk))); (case aO => exact (by (with_reducible repeat (first | apply Kd.S_alloc | apply Kd.S_drewN | apply Kd.S_drew)); exact Kd.S_mono HO_7.out (fun k_ hk => ⟨hk.1, fun e_ => hk.2 e_⟩))); (case aS => exact (below_size (by repeat (first | (with_reducible first | exact HB.out | apply below_alloc | apply pw_below_drewN | apply below_drew1 | refine below_set ?_ GE621.out) | exact HB.out)))); (case aL => have := LMc25.out; omega); intro v628 w31 ho hb hg hat; rw [← Ny627.out] at ho; have n0_ := Aside0.mk (Kd.R_over' (by (with_reducible repeat (first | apply Kd.R_alloc | apply Kd.R_drewN | apply Kd.R_drew)); exact HO_24.out) (Kd.S_typed (by (with_reducible repeat (first | apply Kd.S_alloc | apply Kd.S_drewN | apply Kd.S_drew)); exact HO_7.out)) (by decide) hg); have n1_ := Aside0.mk (blk_grown (g := gb621) (o := .cells #[.int .i64 ((rd_T79 t617 x26_2).f1), .int .i64 ((rd_T79 t617 x26_2).f0)] 79 (0, 0)) (by (with_reducible repeat (first | refine blk_drewN ?_ _ | refine blk_drew ?_ | refine blk_alloc ?_ _)); exact BK621.out) hg (Kd.S_ne HO_7.out BK621.out (by decide))); have n2_ := Aside0.mk (hb); have n3_ := Aside0.mk (ho); clear HO_24; clear BK621; clear HB; clear HO_7; clear HO626; have HO_24 := n0_; have BK621 := n1_; have HB := n2_; have HO629 := n3_; clear n0_ n1_ n2_ n3_; clear ho hb hg hat)); try go_wp2_with (first | ((with_reducible refine gate_dst (N := 9) rfl ?_); refine box_event ?hg (N := 9) ?hd (cs := #[.int .i64 0, .int .i64 0]) (t := 79) ?hr ?_; (case hd => rfl); (case hg => rfl); (case hr => first | (go_simp; done) | (go_simp; rfl)); intro gb621 hg w26 hbox hb; have n0_ := Aside0.mk (Kd.S_below (by (with_reducible repeat (first | apply Kd.S_alloc | apply Kd.S_drewN | apply Kd.S_drew)); exact HO_7.out) hb); have n1_ := Aside0.mk (Kd.R_below (Kd.R_elderB (by (with_reducible repeat (first | apply Kd.R_alloc | apply Kd.R_drewN | apply Kd.R_drew)); exact HO_24.out) gb621 (Nat.le_of_eq hg.symm)) hb); have n2_ := Aside0.mk (below_step (by repeat (first | (with_reducible first | exact HB.out | apply below_alloc | apply pw_below_drewN | apply below_drew1) | exact HB.out)) hb); have n3_ := Aside0.mk (hbox); have n4_ := Aside0.mk ((by rw [hg]; exact (below_size (by repeat (first | (with_reducible first | exact HB.out | apply below_alloc | apply pw_below_drewN | apply below_drew1) | exact HB.out))) : w.heap.size ≤ gb621)); have n5_ := Aside0.mk ((by rw [hg]; exact (below_size (by repeat (first | (with_reducible first | exact HB.out | apply below_alloc | apply pw_below_drewN | apply below_drew1) | exact HB.out))) : w.heap.size ≤ gb621)); clear HO_7; clear HO_24; clear HB; have HO_7 := n0_; have HO_24 := n1_; have HB := n2_; have BK621 := n3_; have GW621 := n4_; have GE621 := n5_; clear n0_ n1_ n2_ n3_ n4_ n5_; clear hb hbox hg; have hs_0 := fun (n_ : Nat) => (show (((((w26.setCell ⟨gb621, 0, none⟩ (.int .i64 ((rd_T79 t617 x26_2).f0))).setCell ⟨gb621, 1, none⟩ (.int .i64 ((rd_T79 t617 x26_2).f1))).drewN n_).setCell ⟨gb621, 0, none⟩ (.int .i64 ((rd_T79 t617 x26_2).f1))).setCell ⟨gb621, 1, none⟩ (.int .i64 ((rd_T79 t617 x26_2).f0))).cell? ⟨gb621, 0, none⟩ = some (.int .i64 ((rd_T79 t617 x26_2).f1)) from (blk_cell (g := gb621) (show (((((w26.setCell ⟨gb621, 0, none⟩ (.int .i64 ((rd_T79 t617 x26_2).f0))).setCell ⟨gb621, 1, none⟩ (.int .i64 ((rd_T79 t617 x26_2).f1))).drewN n_).setCell ⟨gb621, 0, none⟩ (.int .i64 ((rd_T79 t617 x26_2).f1))).setCell ⟨gb621, 1, none⟩ (.int .i64 ((rd_T79 t617 x26_2).f0))).heap[gb621]? = some (.cells #[.int .i64 ((rd_T79 t617 x26_2).f1), .int .i64 ((rd_T79 t617 x26_2).f0)] 79 (0, 0)) from by refine blk_put (cs := #[.int .i64 ((rd_T79 t617 x26_2).f1), .int .i64 ((rd_T79 t617 x26_2).f1)]) ?_ 1 _ rfl; refine blk_put (cs := #[.int .i64 ((rd_T79 t617 x26_2).f0), .int .i64 ((rd_T79 t617 x26_2).f1)]) ?_ 0 _ rfl; refine blk_drewN ?_ _; refine blk_put (cs := #[.int .i64 ((rd_T79 t617 x26_2).f0), .int .i64 0]) ?_ 1 _ rfl; refine blk_put (cs := #[.int .i64 0, .int .i64 0]) ?_ 0 _ rfl; exact BK621.out) 0).trans rfl); have hs_1 := fun (n_ : Nat) => (show (((((w26.setCell ⟨gb621, 0, none⟩ (.int .i64 ((rd_T79 t617 x26_2).f0))).setCell ⟨gb621, 1, none⟩ (.int .i64 ((rd_T79 t617 x26_2).f1))).drewN n_).setCell ⟨gb621, 0, none⟩ (.int .i64 ((rd_T79 t617 x26_2).f1))).setCell ⟨gb621, 1, none⟩ (.int .i64 ((rd_T79 t617 x26_2).f0))).cell? ⟨gb621, 1, none⟩ = some (.int .i64 ((rd_T79 t617 x26_2).f0)) from (blk_cell (g := gb621) (show (((((w26.setCell ⟨gb621, 0, none⟩ (.int .i64 ((rd_T79 t617 x26_2).f0))).setCell ⟨gb621, 1, none⟩ (.int .i64 ((rd_T79 t617 x26_2).f1))).drewN n_).setCell ⟨gb621, 0, none⟩ (.int .i64 ((rd_T79 t617 x26_2).f1))).setCell ⟨gb621, 1, none⟩ (.int .i64 ((rd_T79 t617 x26_2).f0))).heap[gb621]? = some (.cells #[.int .i64 ((rd_T79 t617 x26_2).f1), .int .i64 ((rd_T79 t617 x26_2).f0)] 79 (0, 0)) from by refine blk_put (cs := #[.int .i64 ((rd_T79 t617 x26_2).f1), .int .i64 ((rd_T79 t617 x26_2).f1)]) ?_ 1 _ rfl; refine blk_put (cs := #[.int .i64 ((rd_T79 t617 x26_2).f0), .int .i64 ((rd_T79 t617 x26_2).f1)]) ?_ 0 _ rfl; refine blk_drewN ?_ _; refine blk_put (cs := #[.int .i64 ((rd_T79 t617 x26_2).f0), .int .i64 0]) ?_ 1 _ rfl; refine blk_put (cs := #[.int .i64 0, .int .i64 0]) ?_ 0 _ rfl; exact BK621.out) 1).trans rfl); have hcz27_0 : w26.cell? ⟨gb621, 0, none⟩ = some (.int .i64 0) := (blk_cell BK621.out 0).trans rfl; have hcz27_1 : w26.cell? ⟨gb621, 1, none⟩ = some (.int .i64 0) := (blk_cell BK621.out 1).trans rfl; have hfz27_0 := blk_frozen BK621.out 0; have hfz27_1 := blk_frozen BK621.out 1; have p622 : 0 ≤ (((rd_T79 t617 x26_2).f0) : Int) := of_decide_eq_true (by first | (with_reducible assumption) | assumption); have q622 : ((rd_T79 t617 x26_2).f0) < (l0.length : Int) := of_decide_eq_true (by first | (with_reducible assumption) | assumption); obtain ⟨ad622, e622, hx622_0⟩ := Kd.at_int HR0.out ((rd_T79 t617 x26_2).f0) p622 q622; cases e622; have hn622_0 : ad622.block ≠ gb621 := Nat.ne_of_lt (Nat.lt_of_lt_of_le (by have := World.block_lt_of_cell? _ _ hx622_0; first | rwa [add_block] at this | exact this) GW621.out); have hn622_1 : ad622.block ≠ gb621 := Nat.ne_of_lt (Nat.lt_of_lt_of_le (by have := World.block_lt_of_cell? _ _ hx622_0; first | rwa [add_block] at this | exact this) GW621.out); replace hx622_0 := (HB.out.cell (World.block_lt_of_cell? w _ hx622_0)).trans hx622_0; replace hx622_0 := (cell_far (p := ⟨gb621, 0, none⟩) (by first | (rw [add_block]; exact hn622_0) | (show (Addr.add _ _).block ≠ _; rw [add_block]; exact hn622_0) | exact hn622_0) (.int .i64 ((rd_T79 t617 x26_2).f0))).trans hx622_0; replace hx622_0 := (cell_far (p := ⟨gb621, 1, none⟩) (by first | (rw [add_block]; exact hn622_1) | (show (Addr.add _ _).block ≠ _; rw [add_block]; exact hn622_1) | exact hn622_1) (.int .i64 ((rd_T79 t617 x26_2).f1))).trans hx622_0; (try have hy622_0 := fun (n_ : Nat) => (show ((((w26.drewN n_).setCell ⟨gb621, 0, none⟩ (.int .i64 ((rd_T79 t617 x26_2).f0))).setCell ⟨gb621, 1, none⟩ (.int .i64 ((rd_T79 t617 x26_2).f1)))).cell? _ = some _ from hx622_0)); clear hn622_0; clear hn622_1; replace p622 := eq_true p622; replace q622 := eq_true q622; have p623 : 0 ≤ (((rd_T79 t617 x26_2).f1) : Int) := of_decide_eq_true (by first | (with_reducible assumption) | assumption); have q623 : ((rd_T79 t617 x26_2).f1) < (l0.length : Int) := of_decide_eq_true (by first | (with_reducible assumption) | assumption); obtain ⟨ad623, e623, hx623_0⟩ := Kd.at_int HR0.out ((rd_T79 t617 x26_2).f1) p623 q623; obtain rfl : ad622 = ad623 := (by injection e623); have hn623_0 : ad622.block ≠ gb621 := Nat.ne_of_lt (Nat.lt_of_lt_of_le (by have := World.block_lt_of_cell? _ _ hx623_0; first | rwa [add_block] at this | exact this) GW621.out); have hn623_1 : ad622.block ≠ gb621 := Nat.ne_of_lt (Nat.lt_of_lt_of_le (by have := World.block_lt_of_cell? _ _ hx623_0; first | rwa [add_block] at this | exact this) GW621.out); replace hx623_0 := (HB.out.cell (World.block_lt_of_cell? w _ hx623_0)).trans hx623_0; replace hx623_0 := (cell_far (p := ⟨gb621, 0, none⟩) (by first | (rw [add_block]; exact hn623_0) | (show (Addr.add _ _).block ≠ _; rw [add_block]; exact hn623_0) | exact hn623_0) (.int .i64 ((rd_T79 t617 x26_2).f0))).trans hx623_0; replace hx623_0 := (cell_far (p := ⟨gb621, 1, none⟩) (by first | (rw [add_block]; exact hn623_1) | (show (Addr.add _ _).block ≠ _; rw [add_block]; exact hn623_1) | exact hn623_1) (.int .i64 ((rd_T79 t617 x26_2).f1))).trans hx623_0; (try have hy623_0 := fun (n_ : Nat) => (show ((((w26.drewN n_).setCell ⟨gb621, 0, none⟩ (.int .i64 ((rd_T79 t617 x26_2).f0))).setCell ⟨gb621, 1, none⟩ (.int .i64 ((rd_T79 t617 x26_2).f1)))).cell? _ = some _ from hx623_0)); clear hn623_0; clear hn623_1; replace p623 := eq_true p623; replace q623 := eq_true q623) | ((with_reducible refine gate_dst (N := 52) rfl ?_); refine Kd.R_lit (Kd.int .i64) _ 3 ?hg (N := 52) ?hd (xs := ([(rd_T79 t617 x26_2).f1, (rd_T79 t617 x26_2).f0] : List Int)) (inner := [.int .i64 ((rd_T79 t617 x26_2).f1), .int .i64 ((rd_T79 t617 x26_2).f0)]) (ok := fun _ => True) (okp := fun _ => True) ?hr ?hp (fun _ hk => hk) trivial (Below.refl _ _) (Nat.le_refl _) (by simp) ?_; (case hd => rfl); (case hg => rfl); (case hr => first | (go_simp; done) | (go_simp; rfl)); (case hp => exact (Reps.one (show Kd.M (Kd.int .i64) _ _ _ ((rd_T79 t617 x26_2).f1) [.int .i64 ((rd_T79 t617 x26_2).f1)] from rfl) (Reps.one (show Kd.M (Kd.int .i64) _ _ _ ((rd_T79 t617 x26_2).f0) [.int .i64 ((rd_T79 t617 x26_2).f0)] from rfl) (Reps.none _ _)))); intro v625 w28 ho29 hb hg_ hnew_; clear hg_ hnew_; (first | rw [← Ny624.out] at ho29 | (simp only [Int.reduceToNat] at ho29; rw [← Ny624.out] at ho29)); have n0_ := Aside0.mk (Kd.S_elder' (by (with_reducible repeat (first | apply Kd.S_alloc | apply Kd.S_drewN | apply Kd.S_drew)); exact (Kd.S_mono (Kd.S_far (p := ⟨gb621, 1, none⟩) (Kd.S_far (p := ⟨gb621, 0, none⟩) (Kd.S_far (p := ⟨gb621, 1, none⟩) (Kd.S_far (p := ⟨gb621, 0, none⟩) (Kd.S_types HO_7.out BK621.out (by decide)) (fun _ hk => hk.2) (.int .i64 ((rd_T79 t617 x26_2).f0))) (fun _ hk => hk.2) (.int .i64 ((rd_T79 t617 x26_2).f1))) (fun _ hk => hk.2) (.int .i64 ((rd_T79 t617 x26_2).f1))) (fun _ hk => hk.2) (.int .i64 ((rd_T79 t617 x26_2).f0))) (fun _ h_ => h_.1))) (Kd.R_base ho29) hb); have n1_ := Aside0.mk (Kd.R_below (by (with_reducible repeat (first | apply Kd.R_alloc | apply Kd.R_drewN | apply Kd.R_drew)); exact (Kd.R_mono (Kd.R_far (p := ⟨gb621, 1, none⟩) (Kd.R_far (p := ⟨gb621, 0, none⟩) (Kd.R_far (p := ⟨gb621, 1, none⟩) (Kd.R_far (p := ⟨gb621, 0, none⟩) (Kd.R_mono HO_24.out (fun k_ hk => (⟨hk, hk.2⟩ : _ ∧ k_ ≠ gb621))) (fun _ hk => hk.2) (.int .i64 ((rd_T79 t617 x26_2).f0))) (fun _ hk => hk.2) (.int .i64 ((rd_T79 t617 x26_2).f1))) (fun _ hk => hk.2) (.int .i64 ((rd_T79 t617 x26_2).f1))) (fun _ hk => hk.2) (.int .i64 ((rd_T79 t617 x26_2).f0))) (fun _ h_ => h_.1))) hb); have n2_ := Aside0.mk (Kd.R_lower (Kd.R_newM (M := fun k_ => (w.heap.size ≤ k_)) ho29 (below_size (by repeat (first | (with_reducible first | exact HB.out | apply below_alloc | apply pw_below_drewN | apply below_drew1 | refine below_set ?_ GE621.out) | exact HB.out))) (fun k_ h_ => h_)) (below_size (by repeat (first | (with_reducible first | exact HB.out | apply below_alloc | apply pw_below_drewN | apply below_drew1 | refine below_set ?_ GE621.out) | exact HB.out)))); have n3_ := Aside0.mk (blk_below (g := gb621) (o := .cells #[.int .i64 ((rd_T79 t617 x26_2).f1), .int .i64 ((rd_T79 t617 x26_2).f0)] 79 (0, 0)) (by (with_reducible repeat (first | refine blk_drewN ?_ _ | refine blk_drew ?_ | refine blk_alloc ?_ _)); refine blk_put (cs := #[.int .i64 ((rd_T79 t617 x26_2).f1), .int .i64 ((rd_T79 t617 x26_2).f1)]) ?_ 1 _ rfl; (with_reducible repeat (first | refine blk_drewN ?_ _ | refine blk_drew ?_ | refine blk_alloc ?_ _)); refine blk_put (cs := #[.int .i64 ((rd_T79 t617 x26_2).f0), .int .i64 ((rd_T79 t617 x26_2).f1)]) ?_ 0 _ rfl; (with_reducible repeat (first | refine blk_drewN ?_ _ | refine blk_drew ?_ | refine blk_alloc ?_ _)); refine blk_put (cs := #[.int .i64 ((rd_T79 t617 x26_2).f0), .int .i64 0]) ?_ 1 _ rfl; (with_reducible repeat (first | refine blk_drewN ?_ _ | refine blk_drew ?_ | refine blk_alloc ?_ _)); refine blk_put (cs := #[.int .i64 0, .int .i64 0]) ?_ 0 _ rfl; (with_reducible repeat (first | refine blk_drewN ?_ _ | refine blk_drew ?_ | refine blk_alloc ?_ _)); exact BK621.out) hb); have n4_ := Aside0.mk (below_step (by repeat (first | (with_reducible first | exact HB.out | apply below_alloc | apply pw_below_drewN | apply below_drew1 | refine below_set ?_ GE621.out) | exact HB.out)) hb); clear HO_7; clear HO_24; clear BK621; clear HB; have HO_7 := n0_; have HO_24 := n1_; have HO626 := n2_; have BK621 := n3_; have HB := n4_; clear n0_ n1_ n2_ n3_ n4_; clear hb ho29; obtain ⟨Ao30, co30, eo30⟩ := Kd.R_slice HO626.out; subst eo30) | ((with_reducible refine gate_builtin (b := .append) (xs := #[.tmp 47, .tmp 54]) rfl ?_); at_builtin; refine Kd.S_append k29 (w0 := w) w.heap.size rfl (.tmp 47) (.tmp 54) 26 29 (.agg #[(.int .i64 0), (.slice none 0 0), (.int .i64 0)]) 40 rfl Try.underlying26 info29 rfl (by decide) (by omega) u7 x7_2 (⟨4, y624, 0⟩ : S29) [.int .i64 4, .slice Ao30 y624.length co30, .int .i64 0] (fun k_ => (w.heap.size ≤ k_)) (fun k_ => some k_ = (.slice Ao30 y624.length co30 : Value).ownBlock) rfl rfl ?aP (fun k_ hk_ => ((Kd.R_mono (ok' := fun k_ => ((fun k_ => (w.heap.size ≤ k_))) k_ ∧ some k_ ≠ (u7 : Value).ownBlock) (Kd.R_apart' (HO626.out) (Kd.S_typed HO_7.out) (by decide)) (fun k_ hk => ⟨hk.1.1, hk.2⟩))).1 k_ hk_.symm) ?aF ?aO ?aB ?aS ?aL ?_; (case aP => exact k29_mkM _ _ _ (⟨4, y624, 0⟩ : S29) (Kd.R_mono (Kd.R_tight rfl (Kd.R_mono (ok' := fun k_ => ((fun k_ => (w.heap.size ≤ k_))) k_ ∧ some k_ ≠ (u7 : Value).ownBlock) (Kd.R_apart' (HO626.out) (Kd.S_typed HO_7.out) (by decide)) (fun k_ hk => ⟨hk.1.1, hk.2⟩))) (fun _ h_ => h_))); (case aB => exact (by repeat (first | (with_reducible first | exact HB.out | apply below_alloc | apply pw_below_drewN | apply below_drew1 | refine below_set ?_ GE621.out) | exact HB.out))); (case aF => exact (fun k_ hk => (Nat.le_trans (below_size (by repeat (first | (with_reducible first | exact HB.out | apply below_alloc | apply pw_below_drewN | apply below_drew1 | refine below_set ?_ GE621.out) | exact HB.out))) hk))); (case aO => exact (by (with_reducible repeat (first | apply Kd.S_alloc | apply Kd.S_drewN | apply Kd.S_drew)); exact Kd.S_mono HO_7.out (fun k_ hk => ⟨hk.1, fun e_ => hk.2 e_⟩))); (case aS => exact (below_size (by repeat (first | (with_reducible first | exact HB.out | apply below_alloc | apply pw_below_drewN | apply below_drew1 | refine below_set ?_ GE621.out) | exact HB.out)))); (case aL => have := LMc25.out; omega); intro v628 w31 ho hb hg hat; rw [← Ny627.out] at ho; have n0_ := Aside0.mk (Kd.R_over' (by (with_reducible repeat (first | apply Kd.R_alloc | apply Kd.R_drewN | apply Kd.R_drew)); exact HO_24.out) (Kd.S_typed (by (with_reducible repeat (first | apply Kd.S_alloc | apply Kd.S_drewN | apply Kd.S_drew)); exact HO_7.out)) (by decide) hg); have n1_ := Aside0.mk (blk_grown (g := gb621) (o := .cells #[.int .i64 ((rd_T79 t617 x26_2).f1), .int .i64 ((rd_T79 t617 x26_2).f0)] 79 (0, 0)) (by (with_reducible repeat (first | refine blk_drewN ?_ _ | refine blk_drew ?_ | refine blk_alloc ?_ _)); exact BK621.out) hg (Kd.S_ne HO_7.out BK621.out (by decide))); have n2_ := Aside0.mk (hb); have n3_ := Aside0.mk (ho); clear HO_24; clear BK621; clear HB; clear HO_7; clear HO626; have HO_24 := n0_; have BK621 := n1_; have HB := n2_; have HO629 := n3_; clear n0_ n1_ n2_ n3_; clear ho hb hg hat)))
                              go_roundg k2
                              case measure => have := HJ3.out; have := HK2.out; omega
                              case rel => exact ⟨(y627), (wrap64 (x26_2 + 1)), (by first | rfl | (simp; done) | (simp [*]; done)), H', ⟨by have := HJ3.out; have := HK2.out; omega⟩, ⟨by (with_reducible repeat (first | apply Kd.S_alloc | apply Kd.S_drewN | apply Kd.S_drew)); exact HO629.out⟩, ⟨by (with_reducible repeat (first | apply Kd.R_alloc | apply Kd.R_drewN | apply Kd.R_drew)); exact Kd.R_mono HO_24.out (fun _ hk => hk.1)⟩, ⟨by repeat (first | (with_reducible first | exact HB.out | apply below_alloc | apply pw_below_drewN | apply below_drew1 | refine below_set ?_ GE621.out) | exact HB.out)⟩⟩
                            · rw [if_neg c25] at H
                              exact absurd H (by simp)
                          · rw [if_neg c24] at H
                            have c24b0 : decide ((rd l0 ((rd_T79 t617 x26_2).f1)) < (rd l0 ((rd_T79 t617 x26_2).f0))) = false := decide_eq_false c24
                            clear c24
                            obtain ⟨y630, hy630⟩ : ∃ y_ : List Int, y_ = (([(rd_T79 t617 x26_2).f0, (rd_T79 t617 x26_2).f1] : List Int)) := ⟨_, rfl⟩
                            replace H : (if x7_2.length < 3518437208883 then (impl_LessRules.l0 k2 l0 a2 (x7_2 ++ [(⟨4, y630, 0⟩ : S29)]) t617 (t617.length : Int) (wrap64 (x26_2 + 1))) else (none)) = some r := by first | (rw [hy630]; with_reducible exact H) | (have H2_ := (Option.bind_some _ _).symm.trans H; rw [hy630]; with_reducible exact H2_) | (have H2_ := (Option.bind_some _ _).symm.trans H; with_reducible exact H2_) | with_reducible exact H | (rw [hy630]; exact H) | exact H
                            have Ny630 := Aside0.mk hy630
                            clear hy630
                            by_cases c32 : x7_2.length < 3518437208883
                            · rw [if_pos c32] at H
                              have LMc32 := Aside0.mk c32
                              clear c32
                              obtain ⟨y633, hy633⟩ : ∃ y_ : List (S29), y_ = (x7_2 ++ [(⟨4, y630, 0⟩ : S29)]) := ⟨_, rfl⟩
                              replace H : (impl_LessRules.l0 k2 l0 a2 y633 t617 (t617.length : Int) (wrap64 (x26_2 + 1))) = some r := by first | (rw [hy633]; with_reducible exact H) | (have H2_ := (Option.bind_some _ _).symm.trans H; rw [hy633]; with_reducible exact H2_) | (have H2_ := (Option.bind_some _ _).symm.trans H; with_reducible exact H2_) | with_reducible exact H | (rw [hy633]; exact H) | exact H
                              have Ny633 := Aside0.mk hy633
                              clear hy633
                              have H' := Aside0.mk H
                              clear H
                              have p620 : 0 ≤ (x26_2 : Int) := of_decide_eq_true (by first | (with_reducible assumption) | assumption)
                              have q620 : x26_2 < (t617.length : Int) := of_decide_eq_true (by first | (with_reducible assumption) | assumption)
                              obtain ⟨ad620, e620, hx620_0, hx620_1⟩ := at_T79 (Kd.R_reads' HO_24.out).2.2 x26_2 p620 q620
                              cases e620
                              replace p620 := eq_true p620
                              replace q620 := eq_true q620
                              go_wp2_with (first | ((with_reducible refine gate_dst (N := 9) rfl ?_); refine box_event ?hg (N := 9) ?hd (cs := #[.int .i64 0, .int .i64 0]) (t := 79) ?hr ?_; (case hd => rfl); (case hg => rfl); (case hr => first | (go_simp; done) | (go_simp; rfl)); intro gb621 hg w33 hbox hb; have n0_ := Aside0.mk (Kd.S_below (by (with_reducible repeat (first | apply Kd.S_alloc | apply Kd.S_drewN | apply Kd.S_drew)); exact HO_7.out) hb); have n1_ := Aside0.mk (Kd.R_below (Kd.R_elderB (by (with_reducible repeat (first | apply Kd.R_alloc | apply Kd.R_drewN | apply Kd.R_drew)); exact HO_24.out) gb621 (Nat.le_of_eq hg.symm)) hb); have n2_ := Aside0.mk (below_step (by repeat (first | (with_reducible first | exact HB.out | apply below_alloc | apply pw_below_drewN | apply below_drew1) | exact HB.out)) hb); have n3_ := Aside0.mk (hbox); have n4_ := Aside0.mk ((by rw [hg]; exact (below_size (by repeat (first | (with_reducible first | exact HB.out | apply below_alloc | apply pw_below_drewN | apply below_drew1) | exact HB.out))) : w.heap.size ≤ gb621)); have n5_ := Aside0.mk ((by rw [hg]; exact (below_size (by repeat (first | (with_reducible first | exact HB.out | apply below_alloc | apply pw_below_drewN | apply below_drew1) | exact HB.out))) : w.heap.size ≤ gb621)); clear HO_7; clear HO_24; clear HB; have HO_7 := n0_; have HO_24 := n1_; have HB := n2_; have BK621 := n3_; have GW621 := n4_; have GE621 := n5_; clear n0_ n1_ n2_ n3_ n4_ n5_; clear hb hbox hg; have hcz34_0 : w33.cell? ⟨gb621, 0, none⟩ = some (.int .i64 0) := (blk_cell BK621.out 0).trans rfl; have hcz34_1 : w33.cell? ⟨gb621, 1, none⟩ = some (.int .i64 0) := (blk_cell BK621.out 1).trans rfl; have hfz34_0 := blk_frozen BK621.out 0; have hfz34_1 := blk_frozen BK621.out 1; have p622 : 0 ≤ (((rd_T79 t617 x26_2).f0) : Int) := of_decide_eq_true (by first | (with_reducible assumption) | assumption); have q622 : ((rd_T79 t617 x26_2).f0) < (l0.length : Int) := of_decide_eq_true (by first | (with_reducible assumption) | assumption); obtain ⟨ad622, e622, hx622_0⟩ := Kd.at_int HR0.out ((rd_T79 t617 x26_2).f0) p622 q622; cases e622; have hn622_0 : ad622.block ≠ gb621 := Nat.ne_of_lt (Nat.lt_of_lt_of_le (by have := World.block_lt_of_cell? _ _ hx622_0; first | rwa [add_block] at this | exact this) GW621.out); have hn622_1 : ad622.block ≠ gb621 := Nat.ne_of_lt (Nat.lt_of_lt_of_le (by have := World.block_lt_of_cell? _ _ hx622_0; first | rwa [add_block] at this | exact this) GW621.out); replace hx622_0 := (HB.out.cell (World.block_lt_of_cell? w _ hx622_0)).trans hx622_0; replace hx622_0 := (cell_far (p := ⟨gb621, 0, none⟩) (by first | (rw [add_block]; exact hn622_0) | (show (Addr.add _ _).block ≠ _; rw [add_block]; exact hn622_0) | exact hn622_0) (.int .i64 ((rd_T79 t617 x26_2).f0))).trans hx622_0; replace hx622_0 := (cell_far (p := ⟨gb621, 1, none⟩) (by first | (rw [add_block]; exact hn622_1) | (show (Addr.add _ _).block ≠ _; rw [add_block]; exact hn622_1) | exact hn622_1) (.int .i64 ((rd_T79 t617 x26_2).f1))).trans hx622_0; (try have hy622_0 := fun (n_ : Nat) => (show ((((w33.drewN n_).setCell ⟨gb621, 0, none⟩ (.int .i64 ((rd_T79 t617 x26_2).f0))).setCell ⟨gb621, 1, none⟩ (.int .i64 ((rd_T79 t617 x26_2).f1)))).cell? _ = some _ from hx622_0)); clear hn622_0; clear hn622_1; replace p622 := eq_true p622; replace q622 := eq_true q622; have p623 : 0 ≤ (((rd_T79 t617 x26_2).f1) : Int) := of_decide_eq_true (by first | (with_reducible assumption) | assumption); have q623 : ((rd_T79 t617 x26_2).f1) < (l0.length : Int) := of_decide_eq_true (by first | (with_reducible assumption) | assumption); obtain ⟨ad623, e623, hx623_0⟩ := Kd.at_int HR0.out ((rd_T79 t617 x26_2).f1) p623 q623; obtain rfl : ad622 = ad623 := (by injection e623); have hn623_0 : ad622.block ≠ gb621 := Nat.ne_of_lt (Nat.lt_of_lt_of_le (by have := World.block_lt_of_cell? _ _ hx623_0; first | rwa [add_block] at this | exact this) GW621.out); have hn623_1 : ad622.block ≠ gb621 := Nat.ne_of_lt (Nat.lt_of_lt_of_le (by have := World.block_lt_of_cell? _ _ hx623_0; first | rwa [add_block] at this | exact this) GW621.out); replace hx623_0 := (HB.out.cell (World.block_lt_of_cell? w _ hx623_0)).trans hx623_0; replace hx623_0 := (cell_far (p := ⟨gb621, 0, none⟩) (by first | (rw [add_block]; exact hn623_0) | (show (Addr.add _ _).block ≠ _; rw [add_block]; exact hn623_0) | exact hn623_0) (.int .i64 ((rd_T79 t617 x26_2).f0))).trans hx623_0; replace hx623_0 := (cell_far (p := ⟨gb621, 1, none⟩) (by first | (rw [add_block]; exact hn623_1) | (show (Addr.add _ _).block ≠ _; rw [add_block]; exact hn623_1) | exact hn623_1) (.int .i64 ((rd_T79 t617 x26_2).f1))).trans hx623_0; (try have hy623_0 := fun (n_ : Nat) => (show ((((w33.drewN n_).setCell ⟨gb621, 0, none⟩ (.int .i64 ((rd_T79 t617 x26_2).f0))).setCell ⟨gb621, 1, none⟩ (.int .i64 ((rd_T79 t617 x26_2).f1)))).cell? _ = some _ from hx623_0)); clear hn623_0; clear hn623_1; replace p623 := eq_true p623; replace q623 := eq_true q623) | ((with_reducible refine gate_dst (N := 52) rfl ?_); refine Kd.R_lit (Kd.int .i64) _ 3 ?hg (N := 52) ?hd (xs := ([(rd_T79 t617 x26_2).f0, (rd_T79 t617 x26_2).f1] : List Int)) (inner := [.int .i64 ((rd_T79 t617 x26_2).f0), .int .i64 ((rd_T79 t617 x26_2).f1)]) (ok := fun _ => True) (okp := fun _ => True) ?hr ?hp (fun _ hk => hk) trivial (Below.refl _ _) (Nat.le_refl _) (by simp) ?_; (case hd => rfl); (case hg => rfl); (case hr => first | (go_simp; done) | (go_simp; rfl)); (case hp => exact (Reps.one (show Kd.M (Kd.int .i64) _ _ _ ((rd_T79 t617 x26_2).f0) [.int .i64 ((rd_T79 t617 x26_2).f0)] from rfl) (Reps.one (show Kd.M (Kd.int .i64) _ _ _ ((rd_T79 t617 x26_2).f1) [.int .i64 ((rd_T79 t617 x26_2).f1)] from rfl) (Reps.none _ _)))); intro v631 w35 ho36 hb hg_ hnew_; clear hg_ hnew_; (first | rw [← Ny630.out] at ho36 | (simp only [Int.reduceToNat] at ho36; rw [← Ny630.out] at ho36)); have n0_ := Aside0.mk (Kd.S_elder' (by (with_reducible repeat (first | apply Kd.S_alloc | apply Kd.S_drewN | apply Kd.S_drew)); exact (Kd.S_mono (Kd.S_far (p := ⟨gb621, 1, none⟩) (Kd.S_far (p := ⟨gb621, 0, none⟩) (Kd.S_types HO_7.out BK621.out (by decide)) (fun _ hk => hk.2) (.int .i64 ((rd_T79 t617 x26_2).f0))) (fun _ hk => hk.2) (.int .i64 ((rd_T79 t617 x26_2).f1))) (fun _ h_ => h_.1))) (Kd.R_base ho36) hb); have n1_ := Aside0.mk (Kd.R_below (by (with_reducible repeat (first | apply Kd.R_alloc | apply Kd.R_drewN | apply Kd.R_drew)); exact (Kd.R_mono (Kd.R_far (p := ⟨gb621, 1, none⟩) (Kd.R_far (p := ⟨gb621, 0, none⟩) (Kd.R_mono HO_24.out (fun k_ hk => (⟨hk, hk.2⟩ : _ ∧ k_ ≠ gb621))) (fun _ hk => hk.2) (.int .i64 ((rd_T79 t617 x26_2).f0))) (fun _ hk => hk.2) (.int .i64 ((rd_T79 t617 x26_2).f1))) (fun _ h_ => h_.1))) hb); have n2_ := Aside0.mk (Kd.R_lower (Kd.R_newM (M := fun k_ => (w.heap.size ≤ k_)) ho36 (below_size (by repeat (first | (with_reducible first | exact HB.out | apply below_alloc | apply pw_below_drewN | apply below_drew1 | refine below_set ?_ GE621.out) | exact HB.out))) (fun k_ h_ => h_)) (below_size (by repeat (first | (with_reducible first | exact HB.out | apply below_alloc | apply pw_below_drewN | apply below_drew1 | refine below_set ?_ GE621.out) | exact HB.out)))); have n3_ := Aside0.mk (blk_below (g := gb621) (o := .cells #[.int .i64 ((rd_T79 t617 x26_2).f0), .int .i64 ((rd_T79 t617 x26_2).f1)] 79 (0, 0)) (by (with_reducible repeat (first | refine blk_drewN ?_ _ | refine blk_drew ?_ | refine blk_alloc ?_ _)); refine blk_put (cs := #[.int .i64 ((rd_T79 t617 x26_2).f0), .int .i64 0]) ?_ 1 _ rfl; (with_reducible repeat (first | refine blk_drewN ?_ _ | refine blk_drew ?_ | refine blk_alloc ?_ _)); refine blk_put (cs := #[.int .i64 0, .int .i64 0]) ?_ 0 _ rfl; (with_reducible repeat (first | refine blk_drewN ?_ _ | refine blk_drew ?_ | refine blk_alloc ?_ _)); exact BK621.out) hb); have n4_ := Aside0.mk (below_step (by repeat (first | (with_reducible first | exact HB.out | apply below_alloc | apply pw_below_drewN | apply below_drew1 | refine below_set ?_ GE621.out) | exact HB.out)) hb); clear HO_7; clear HO_24; clear BK621; clear HB; have HO_7 := n0_; have HO_24 := n1_; have HO632 := n2_; have BK621 := n3_; have HB := n4_; clear n0_ n1_ n2_ n3_ n4_; clear hb ho36; obtain ⟨Ao37, co37, eo37⟩ := Kd.R_slice HO632.out; subst eo37) | ((with_reducible refine gate_builtin (b := .append) (xs := #[.tmp 47, .tmp 54]) rfl ?_); at_builtin; refine Kd.S_append k29 (w0 := w) w.heap.size rfl (.tmp 47) (.tmp 54) 26 29 (.agg #[(.int .i64 0), (.slice none 0 0), (.int .i64 0)]) 40 rfl Try.underlying26 info29 rfl (by decide) (by omega) u7 x7_2 (⟨4, y630, 0⟩ : S29) [.int .i64 4, .slice Ao37 y630.length co37, .int .i64 0] (fun k_ => (w.heap.size ≤ k_)) (fun k_ => some k_ = (.slice Ao37 y630.length co37 : Value).ownBlock) rfl rfl ?aP (fun k_ hk_ => ((Kd.R_mono (ok' := fun k_ => ((fun k_ => (w.heap.size ≤ k_))) k_ ∧ some k_ ≠ (u7 : Value).ownBlock) (Kd.R_apart' (HO632.out) (Kd.S_typed HO_7.out) (by decide)) (fun k_ hk => ⟨hk.1.1, hk.2⟩))).1 k_ hk_.symm) ?aF ?aO ?aB ?aS ?aL ?_; (case aP => exact k29_mkM _ _ _ (⟨4, y630, 0⟩ : S29) (Kd.R_mono (Kd.R_tight rfl (Kd.R_mono (ok' := fun k_ => ((fun k_ => (w.heap.size ≤ k_))) k_ ∧ some k_ ≠ (u7 : Value).ownBlock) (Kd.R_apart' (HO632.out) (Kd.S_typed HO_7.out) (by decide)) (fun k_ hk => ⟨hk.1.1, hk.2⟩))) (fun _ h_ => h_))); (case aB => exact (by repeat (first | (with_reducible first | exact HB.out | apply below_alloc | apply pw_below_drewN | apply below_drew1 | refine below_set ?_ GE621.out) | exact HB.out))); (case aF => exact (fun k_ hk => (Nat.le_trans (below_size (by repeat (first | (with_reducible first | exact HB.out | apply below_alloc | apply pw_below_drewN | apply below_drew1 | refine below_set ?_ GE621.out) | exact HB.out))) hk))); (case aO => exact (by (with_reducible repeat (first | apply Kd.S_alloc | apply Kd.S_drewN | apply Kd.S_drew)); exact Kd.S_mono HO_7.out (fun k_ hk => ⟨hk.1, fun e_ => hk.2 e_⟩))); (case aS => exact (below_size (by repeat (first | (with_reducible first | exact HB.out | apply below_alloc | apply pw_below_drewN | apply below_drew1 | refine below_set ?_ GE621.out) | exact HB.out)))); (case aL => have := LMc32.out; omega); intro v634 w38 ho hb hg hat; rw [← Ny633.out] at ho; have n0_ := Aside0.mk (Kd.R_over' (by (with_reducible repeat (first | apply Kd.R_alloc | apply Kd.R_drewN | apply Kd.R_drew)); exact HO_24.out) (Kd.S_typed (by (with_reducible repeat (first | apply Kd.S_alloc | apply Kd.S_drewN | apply Kd.S_drew)); exact HO_7.out)) (by decide) hg); have n1_ := Aside0.mk (blk_grown (g := gb621) (o := .cells #[.int .i64 ((rd_T79 t617 x26_2).f0), .int .i64 ((rd_T79 t617 x26_2).f1)] 79 (0, 0)) (by (with_reducible repeat (first | refine blk_drewN ?_ _ | refine blk_drew ?_ | refine blk_alloc ?_ _)); exact BK621.out) hg (Kd.S_ne HO_7.out BK621.out (by decide))); have n2_ := Aside0.mk (hb); have n3_ := Aside0.mk (ho); clear HO_24; clear BK621; clear HB; clear HO_7; clear HO632; have HO_24 := n0_; have BK621 := n1_; have HB := n2_; have HO635 := n3_; clear n0_ n1_ n2_ n3_; clear ho hb hg hat))
                              repeat (go_quiet (first | ((with_reducible refine gate_dst (N := 9) rfl ?_); refine box_event ?hg (N := 9) ?hd (cs := #[.int .i64 0, .int .i64 0]) (t := 79) ?hr ?_; (case hd => rfl); (case hg => rfl); (case hr => first | (go_simp; done) | (go_simp; rfl)); intro gb621 hg w33 hbox hb; have n0_ := Aside0.mk (Kd.S_below (by (with_reducible repeat (first | apply Kd.S_alloc | apply Kd.S_drewN | apply Kd.S_drew)); exact HO_7.out) hb); have n1_ := Aside0.mk (Kd.R_below (Kd.R_elderB (by (with_reducible repeat (first | apply Kd.R_alloc | apply Kd.R_drewN | apply Kd.R_drew)); exact HO_24.out) gb621 (Nat.le_of_eq hg.symm)) hb); have n2_ := Aside0.mk (below_step (by repeat (first | (with_reducible first | exact HB.out | apply below_alloc | apply pw_below_drewN | apply below_drew1) | exact HB.out)) hb); have n3_ := Aside0.mk (hbox); have n4_ := Aside0.mk ((by rw [hg]; exact (below_size (by repeat (first | (with_reducible first | exact HB.out | apply below_alloc | apply pw_below_drewN | apply below_drew1) | exact HB.out))) : w.heap.size ≤ gb621)); have n5_ := Aside0.mk ((by rw [hg]; exact (below_size (by repeat (first | (with_reducible first | exact HB.out | apply below_alloc | apply pw_below_drewN | apply below_drew1) | exact HB.out))) : w.heap.size ≤ gb621)); clear HO_7; clear HO_24; clear HB; have HO_7 := n0_; have HO_24 := n1_; have HB := n2_; have BK621 := n3_; have GW621 := n4_; have GE621 := n5_; clear n0_ n1_ n2_ n3_ n4_ n5_; clear hb hbox hg; have hcz34_0 : w33.cell? ⟨gb621, 0, none⟩ = some (.int .i64 0) := (blk_cell BK621.out 0).trans rfl; have hcz34_1 : w33.cell? ⟨gb621, 1, none⟩ = some (.int .i64 0) := (blk_cell BK621.out 1).trans rfl; have hfz34_0 := blk_frozen BK621.out 0; have hfz34_1 := blk_frozen BK621.out 1; have p622 : 0 ≤ (((rd_T79 t617 x26_2).f0) : Int) := of_decide_eq_true (by first | (with_reducible assumption) | assumption); have q622 : ((rd_T79 t617 x26_2).f0) < (l0.length : Int) := of_decide_eq_true (by first | (with_reducible assumption) | assumption); obtain ⟨ad622, e622, hx622_0⟩ := Kd.at_int HR0.out ((rd_T79 t617 x26_2).f0) p622 q622; cases e622; have hn622_0 : ad622.block ≠ gb621 := Nat.ne_of_lt (Nat.lt_of_lt_of_le (by have := World.block_lt_of_cell? _ _ hx622_0; first | rwa [add_block] at this | exact this) GW621.out); have hn622_1 : ad622.block ≠ gb621 := Nat.ne_of_lt (Nat.lt_of_lt_of_le (by have := World.block_lt_of_cell? _ _ hx622_0; first | rwa [add_block] at this | exact this) GW621.out); replace hx622_0 := (HB.out.cell (World.block_lt_of_cell? w _ hx622_0)).trans hx622_0; replace hx622_0 := (cell_far (p := ⟨gb621, 0, none⟩) (by first | (rw [add_block]; exact hn622_0) | (show (Addr.add _ _).block ≠ _; rw [add_block]; exact hn622_0) | exact hn622_0) (.int .i64 ((rd_T79 t617 x26_2).f0))).trans hx622_0; replace hx622_0 := (cell_far (p := ⟨gb621, 1, none⟩) (by first | (rw [add_block]; exact hn622_1) | (show (Addr.add _ _).block ≠ _; rw [add_block]; exact hn622_1) | exact hn622_1) (.int .i64 ((rd_T79 t617 x26_2).f1))).trans hx622_0; (try have hy622_0 := fun (n_ : Nat) => (show ((((w33.drewN n_).setCell ⟨gb621, 0, none⟩ (.int .i64 ((rd_T79 t617 x26_2).f0))).setCell ⟨gb621, 1, none⟩ (.int .i64 ((rd_T79 t617 x26_2).f1)))).cell? _ = some _ from hx622_0)); clear hn622_0; clear hn622_1; replace p622 := eq_true p622; replace q622 := eq_true q622; have p623 : 0 ≤ (((rd_T79 t617 x26_2).f1) : Int) := of_decide_eq_true (by first | (with_reducible assumption) | assumption); have q623 : ((rd_T79 t617 x26_2).f1) < (l0.length : Int) := of_decide_eq_true (by first | (with_reducible assumption) | assumption); obtain ⟨ad623, e623, hx623_0⟩ := Kd.at_int HR0.out ((rd_T79 t617 x26_2).f1) p623 q623; obtain rfl : ad622 = ad623 := (by injection e623); have hn623_0 : ad622.block ≠ gb621 := Nat.ne_of_lt (Nat.lt_of_lt_of_le (by have := World.block_lt_of_cell? _ _ hx623_0; first | rwa [add_block] at this | exact this) GW621.out); have hn623_1 : ad622.block ≠ gb621 := Nat.ne_of_lt (Nat.lt_of_lt_of_le (by have := World.block_lt_of_cell? _ _ hx623_0; first | rwa [add_block] at this | exact this) GW621.out); replace hx623_0 := (HB.out.cell (World.block_lt_of_cell? w _ hx623_0)).trans hx623_0; replace hx623_0 := (cell_far (p := ⟨gb621, 0, none⟩) (by first | (rw [add_block]; exact hn623_0) | (show (Addr.add _ _).block ≠ _; rw [add_block]; exact hn623_0) | exact hn623_0) (.int .i64 ((rd_T79 t617 x26_2).f0))).trans hx623_0; replace hx623_0 := (cell_far (p := ⟨gb621, 1, none⟩) (by first | (rw [add_block]; exact hn623_1) | (show (Addr.add _ _).block ≠ _; rw [add_block]; exact hn623_1) | exact hn623_1) (.int .i64 ((rd_T79 t617 x26_2).f1))).trans hx623_0; (try have hy623_0 := fun (n_ : Nat) => (show ((((w33.drewN n_).setCell ⟨gb621, 0, none⟩ (.int .i64 ((rd_T79 t617 x26_2).f0))).setCell ⟨gb621, 1, none⟩ (.int .i64 ((rd_T79 t617 x26_2).f1)))).cell? _ = some _ from hx623_0)); clear hn623_0; clear hn623_1; replace p623 := eq_true p623; replace q623 := eq_true q623) | ((with_reducible refine gate_dst (N := 52) rfl ?_); refine Kd.R_lit (Kd.int .i64) _ 3 ?hg (N := 52) ?hd (xs := ([(rd_T79 t617 x26_2).f0, (rd_T79 t617 x26_2).f1] : List Int)) (inner := [.int .i64 ((rd_T79 t617 x26_2).f0), .int .i64 ((rd_T79 t617 x26_2).f1)]) (ok := fun _ => True) (okp := fun _ => True) ?hr ?hp (fun _ hk => hk) trivial (Below.refl _ _) (Nat.le_refl _) (by simp) ?_; (case hd => rfl); (case hg => rfl); (case hr => first | (go_simp; done) | (go_simp; rfl)); (case hp => exact (Reps.one (show Kd.M (Kd.int .i64) _ _ _ ((rd_T79 t617 x26_2).f0) [.int .i64 ((rd_T79 t617 x26_2).f0)] from rfl) (Reps.one (show Kd.M (Kd.int .i64) _ _ _ ((rd_T79 t617 x26_2).f1) [.int .i64 ((rd_T79 t617 x26_2).f1)] from rfl) (Reps.none _ _)))); intro v631 w35 ho36 hb hg_ hnew_; clear hg_ hnew_; (first | rw [← Ny630.out] at ho36 | (simp only [Int.reduceToNat] at ho36; rw [← Ny630.out] at ho36)); have n0_ := Aside0.mk (Kd.S_elder' (by (with_reducible repeat (first | apply Kd.S_alloc | apply Kd.S_drewN | apply Kd.S_drew)); exact (Kd.S_mono (Kd.S_far (p := ⟨gb621, 1, none⟩) (Kd.S_far (p := ⟨gb621, 0, none⟩) (Kd.S_types HO_7.out BK621.out (by decide)) (fun _ hk => hk.2) (.int .i64 ((rd_T79 t617 x26_2).f0))) (fun _ hk => hk.2) (.int .i64 ((rd_T79 t617 x26_2).f1))) (fun _ h_ => h_.1))) (Kd.R_base ho36) hb); have n1_ := Aside0.mk (Kd.R_below (by (with_reducible repeat (first | apply Kd.R_alloc | apply Kd.R_drewN | apply Kd.R_drew)); exact (Kd.R_mono (Kd.R_far (p := ⟨gb621, 1, none⟩) (Kd.R_far (p := ⟨gb621, 0, none⟩) (Kd.R_mono HO_24.out (fun k_ hk => (⟨hk, hk.2⟩ : _ ∧ k_ ≠ gb621))) (fun _ hk => hk.2) (.int .i64 ((rd_T79 t617 x26_2).f0))) (fun _ hk => hk.2) (.int .i64 ((rd_T79 t617 x26_2).f1))) (fun _ h_ => h_.1))) hb); have n2_ := Aside0.mk (Kd.R_lower (Kd.R_newM (M := fun k_ => (w.heap.size ≤ k_)) ho36 (below_size (by repeat (first | (with_reducible first | exact HB.out | apply below_alloc | apply pw_below_drewN | apply below_drew1 | refine below_set ?_ GE621.out) | exact HB.out))) (fun k_ h_ => h_)) (below_size (by repeat (first | (with_reducible first | exact HB.out | apply below_alloc | apply pw_below_drewN | apply below_drew1 | refine below_set ?_ GE621.out) | exact HB.out)))); have n3_ := Aside0.mk (blk_below (g := gb621) (o := .cells #[.int .i64 ((rd_T79 t617 x26_2).f0), .int .i64 ((rd_T79 t617 x26_2).f1)] 79 (0, 0)) (by (with_reducible repeat (first | refine blk_drewN ?_ _ | refine blk_drew ?_ | refine blk_alloc ?_ _)); refine blk_put (cs := #[.int .i64 ((rd_T79 t617 x26_2).f0), .int .i64 0]) ?_ 1 _ rfl; (with_reducible repeat (first | refine blk_drewN ?_ _ | refine blk_drew ?_ | refine blk_alloc ?_ _)); refine blk_put (cs := #[.int .i64 0, .int .i64 0]) ?_ 0 _ rfl; (with_reducible repeat (first | refine blk_drewN ?_ _ | refine blk_drew ?_ | refine blk_alloc ?_ _)); exact BK621.out) hb); have n4_ := Aside0.mk (below_step (by repeat (first | (with_reducible first | exact HB.out | apply below_alloc | apply pw_below_drewN | apply below_drew1 | refine below_set ?_ GE621.out) | exact HB.out)) hb); clear HO_7; clear HO_24; clear BK621; clear HB; have HO_7 := n0_; have HO_24 := n1_; have HO632 := n2_; have BK621 := n3_; have HB := n4_; clear n0_ n1_ n2_ n3_ n4_; clear hb ho36; obtain ⟨Ao37, co37, eo37⟩ := Kd.R_slice HO632.out; subst eo37) | ((with_reducible refine gate_builtin (b := .append) (xs := #[.tmp 47, .tmp 54]) rfl ?_); at_builtin; refine Kd.S_append k29 (w0 := w) w.heap.size rfl (.tmp 47) (.tmp 54) 26 29 (.agg #[(.int .i64 0), (.slice none 0 0), (.int .i64 0)]) 40 rfl Try.underlying26 info29 rfl (by decide) (by omega) u7 x7_2 (⟨4, y630, 0⟩ : S29) [.int .i64 4, .slice Ao37 y630.length co37, .int .i64 0] (fun k_ => (w.heap.size ≤ k_)) (fun k_ => some k_ = (.slice Ao37 y630.length co37 : Value).ownBlock) rfl rfl ?aP (fun k_ hk_ => ((Kd.R_mono (ok' := fun k_ => ((fun k_ => (w.heap.size ≤ k_))) k_ ∧ some k_ ≠ (u7 : Value).ownBlock) (Kd.R_apart' (HO632.out) (Kd.S_typed HO_7.out) (by decide)) (fun k_ hk => ⟨hk.1.1, hk.2⟩))).1 k_ hk_.symm) ?aF ?aO ?aB ?aS ?aL ?_; (case aP => exact k29_mkM _ _ _ (⟨4, y630, 0⟩ : S29) (Kd.R_mono (Kd.R_tight rfl (Kd.R_mono (ok' := fun k_ => ((fun k_ => (w.heap.size ≤ k_))) k_ ∧ some k_ ≠ (u7 : Value).ownBlock) (Kd.R_apart' (HO632.out) (Kd.S_typed HO_7.out) (by decide)) (fun k_ hk => ⟨hk.1.1, hk.2⟩))) (fun _ h_ => h_))); (case aB => exact (by repeat (first | (with_reducible first | exact HB.out | apply below_alloc | apply pw_below_drewN | apply below_drew1 | refine below_set ?_ GE621.out) | exact HB.out))); (case aF => exact (fun k_ hk => (Nat.le_trans (below_size (by repeat (first | (with_reducible first | exact HB.out | apply below_alloc | apply pw_below_drewN | apply below_drew1 | refine below_set ?_ GE621.out) | exact HB.out))) hk))); (case aO => exact (by (with_reducible repeat (first | apply Kd.S_alloc | apply Kd.S_drewN | apply Kd.S_drew)); exact Kd.S_mono HO_7.out (fun k_ hk => ⟨hk.1, fun e_ => hk.2 e_⟩))); (case aS => exact (below_size (by repeat (first | (with_reducible first | exact HB.out | apply below_alloc | apply pw_below_drewN | apply below_drew1 | refine below_set ?_ GE621.out) | exact HB.out)))); (case aL => have := LMc32.out; omega); intro v634 w38 ho hb hg hat; rw [← Ny633.out] at ho; have n0_ := Aside0.mk (Kd.R_over' (by (with_reducible repeat (first | apply Kd.R_alloc | apply Kd.R_drewN | apply Kd.R_drew)); exact HO_24.out) (Kd.S_typed (by (with_reducible repeat (first | apply Kd.S_alloc | apply Kd.S_drewN | apply Kd.S_drew)); exact HO_7.out)) (by decide) hg); have n1_ := Aside0.mk (blk_grown (g := gb621) (o := .cells #[.int .i64 ((rd_T79 t617 x26_2).f0), .int .i64 ((rd_T79 t617 x26_2).f1)] 79 (0, 0)) (by (with_reducible repeat (first | refine blk_drewN ?_ _ | refine blk_drew ?_ | refine blk_alloc ?_ _)); exact BK621.out) hg (Kd.S_ne HO_7.out BK621.out (by decide))); have n2_ := Aside0.mk (hb); have n3_ := Aside0.mk (ho); clear HO_24; clear BK621; clear HB; clear HO_7; clear HO632; have HO_24 := n0_; have BK621 := n1_; have HB := n2_; have HO635 := n3_; clear n0_ n1_ n2_ n3_; clear ho hb hg hat)); try go_wp2_with (first | ((with_reducible refine gate_dst (N := 9) rfl ?_); refine box_event ?hg (N := 9) ?hd (cs := #[.int .i64 0, .int .i64 0]) (t := 79) ?hr ?_; (case hd => rfl); (case hg => rfl); (case hr => first | (go_simp; done) | (go_simp; rfl)); intro gb621 hg w33 hbox hb; have n0_ := Aside0.mk (Kd.S_below (by (with_reducible repeat (first | apply Kd.S_alloc | apply Kd.S_drewN | apply Kd.S_drew)); exact HO_7.out) hb); have n1_ := Aside0.mk (Kd.R_below (Kd.R_elderB (by (with_reducible repeat (first | apply Kd.R_alloc | apply Kd.R_drewN | apply Kd.R_drew)); exact HO_24.out) gb621 (Nat.le_of_eq hg.symm)) hb); have n2_ := Aside0.mk (below_step (by repeat (first | (with_reducible first | exact HB.out | apply below_alloc | apply pw_below_drewN | apply below_drew1) | exact HB.out)) hb); have n3_ := Aside0.mk (hbox); have n4_ := Aside0.mk ((by rw [hg]; exact (below_size (by repeat (first | (with_reducible first | exact HB.out | apply below_alloc | apply pw_below_drewN | apply below_drew1) | exact HB.out))) : w.heap.size ≤ gb621)); have n5_ := Aside0.mk ((by rw [hg]; exact (below_size (by repeat (first | (with_reducible first | exact HB.out | apply below_alloc | apply pw_below_drewN | apply below_drew1) | exact HB.out))) : w.heap.size ≤ gb621)); clear HO_7; clear HO_24; clear HB; have HO_7 := n0_; have HO_24 := n1_; have HB := n2_; have BK621 := n3_; have GW621 := n4_; have GE621 := n5_; clear n0_ n1_ n2_ n3_ n4_ n5_; clear hb hbox hg; have hcz34_0 : w33.cell? ⟨gb621, 0, none⟩ = some (.int .i64 0) := (blk_cell BK621.out 0).trans rfl; have hcz34_1 : w33.cell? ⟨gb621, 1, none⟩ = some (.int .i64 0) := (blk_cell BK621.out 1).trans rfl; have hfz34_0 := blk_frozen BK621.out 0; have hfz34_1 := blk_frozen BK621.out 1; have p622 : 0 ≤ (((rd_T79 t617 x26_2).f0) : Int) := of_decide_eq_true (by first | (with_reducible assumption) | assumption); have q622 : ((rd_T79 t617 x26_2).f0) < (l0.length : Int) := of_decide_eq_true (by first | (with_reducible assumption) | assumption); obtain ⟨ad622, e622, hx622_0⟩ := Kd.at_int HR0.out ((rd_T79 t617 x26_2).f0) p622 q622; cases e622; have hn622_0 : ad622.block ≠ gb621 := Nat.ne_of_lt (Nat.lt_of_lt_of_le (by have := World.block_lt_of_cell? _ _ hx622_0; first | rwa [add_block] at this | exact this) GW621.out); have hn622_1 : ad622.block ≠ gb621 := Nat.ne_of_lt (Nat.lt_of_lt_of_le (by have := World.block_lt_of_cell? _ _ hx622_0; first | rwa [add_block] at this | exact this) GW621.out); replace hx622_0 := (HB.out.cell (World.block_lt_of_cell? w _ hx622_0)).trans hx622_0; replace hx622_0 := (cell_far (p := ⟨gb621, 0, none⟩) (by first | (rw [add_block]; exact hn622_0) | (show (Addr.add _ _).block ≠ _; rw [add_block]; exact hn622_0) | exact hn622_0) (.int .i64 ((rd_T79 t617 x26_2).f0))).trans hx622_0; replace hx622_0 := (cell_far (p := ⟨gb621, 1, none⟩) (by first | (rw [add_block]; exact hn622_1) | (show (Addr.add _ _).block ≠ _; rw [add_block]; exact hn622_1) | exact hn622_1) (.int .i64 ((rd_T79 t617 x26_2).f1))).trans hx622_0; (try have hy622_0 := fun (n_ : Nat) => (show ((((w33.drewN n_).setCell ⟨gb621, 0, none⟩ (.int .i64 ((rd_T79 t617 x26_2).f0))).setCell ⟨gb621, 1, none⟩ (.int .i64 ((rd_T79 t617 x26_2).f1)))).cell? _ = some _ from hx622_0)); clear hn622_0; clear hn622_1; replace p622 := eq_true p622; replace q622 := eq_true q622; have p623 : 0 ≤ (((rd_T79 t617 x26_2).f1) : Int) := of_decide_eq_true (by first | (with_reducible assumption) | assumption); have q623 : ((rd_T79 t617 x26_2).f1) < (l0.length : Int) := of_decide_eq_true (by first | (with_reducible assumption) | assumption); obtain ⟨ad623, e623, hx623_0⟩ := Kd.at_int HR0.out ((rd_T79 t617 x26_2).f1) p623 q623; obtain rfl : ad622 = ad623 := (by injection e623); have hn623_0 : ad622.block ≠ gb621 := Nat.ne_of_lt (Nat.lt_of_lt_of_le (by have := World.block_lt_of_cell? _ _ hx623_0; first | rwa [add_block] at this | exact this) GW621.out); have hn623_1 : ad622.block ≠ gb621 := Nat.ne_of_lt (Nat.lt_of_lt_of_le (by have := World.block_lt_of_cell? _ _ hx623_0; first | rwa [add_block] at this | exact this) GW621.out); replace hx623_0 := (HB.out.cell (World.block_lt_of_cell? w _ hx623_0)).trans hx623_0; replace hx623_0 := (cell_far (p := ⟨gb621, 0, none⟩) (by first | (rw [add_block]; exact hn623_0) | (show (Addr.add _ _).block ≠ _; rw [add_block]; exact hn623_0) | exact hn623_0) (.int .i64 ((rd_T79 t617 x26_2).f0))).trans hx623_0; replace hx623_0 := (cell_far (p := ⟨gb621, 1, none⟩) (by first | (rw [add_block]; exact hn623_1) | (show (Addr.add _ _).block ≠ _; rw [add_block]; exact hn623_1) | exact hn623_1) (.int .i64 ((rd_T79 t617 x26_2).f1))).trans hx623_0; (try have hy623_0 := fun (n_ : Nat) => (show ((((w33.drewN n_).setCell ⟨gb621, 0, none⟩ (.int .i64 ((rd_T79 t617 x26_2).f0))).setCell ⟨gb621, 1, none⟩ (.int .i64 ((rd_T79 t617 x26_2).f1)))).cell? _ = some _ from hx623_0)); clear hn623_0; clear hn623_1; replace p623 := eq_true p623; replace q623 := eq_true q623) | ((with_reducible refine gate_dst (N := 52) rfl ?_); refine Kd.R_lit (Kd.int .i64) _ 3 ?hg (N := 52) ?hd (xs := ([(rd_T79 t617 x26_2).f0, (rd_T79 t617 x26_2).f1] : List Int)) (inner := [.int .i64 ((rd_T79 t617 x26_2).f0), .int .i64 ((rd_T79 t617 x26_2).f1)]) (ok := fun _ => True) (okp := fun _ => True) ?hr ?hp (fun _ hk => hk) trivial (Below.refl _ _) (Nat.le_refl _) (by simp) ?_; (case hd => rfl); (case hg => rfl); (case hr => first | (go_simp; done) | (go_simp; rfl)); (case hp => exact (Reps.one (show Kd.M (Kd.int .i64) _ _ _ ((rd_T79 t617 x26_2).f0) [.int .i64 ((rd_T79 t617 x26_2).f0)] from rfl) (Reps.one (show Kd.M (Kd.int .i64) _ _ _ ((rd_T79 t617 x26_2).f1) [.int .i64 ((rd_T79 t617 x26_2).f1)] from rfl) (Reps.none _ _)))); intro v631 w35 ho36 hb hg_ hnew_; clear hg_ hnew_; (first | rw [← Ny630.out] at ho36 | (simp only [Int.reduceToNat] at ho36; rw [← Ny630.out] at ho36)); have n0_ := Aside0.mk (Kd.S_elder' (by (with_reducible repeat (first | apply Kd.S_alloc | apply Kd.S_drewN | apply Kd.S_drew)); exact (Kd.S_mono (Kd.S_far (p := ⟨gb621, 1, none⟩) (Kd.S_far (p := ⟨gb621, 0, none⟩) (Kd.S_types HO_7.out BK621.out (by decide)) (fun _ hk => hk.2) (.int .i64 ((rd_T79 t617 x26_2).f0))) (fun _ hk => hk.2) (.int .i64 ((rd_T79 t617 x26_2).f1))) (fun _ h_ => h_.1))) (Kd.R_base ho36) hb); have n1_ := Aside0.mk (Kd.R_below (by (with_reducible repeat (first | apply Kd.R_alloc | apply Kd.R_drewN | apply Kd.R_drew)); exact (Kd.R_mono (Kd.R_far (p := ⟨gb621, 1, none⟩) (Kd.R_far (p := ⟨gb621, 0, none⟩) (Kd.R_mono HO_24.out (fun k_ hk => (⟨hk, hk.2⟩ : _ ∧ k_ ≠ gb621))) (fun _ hk => hk.2) (.int .i64 ((rd_T79 t617 x26_2).f0))) (fun _ hk => hk.2) (.int .i64 ((rd_T79 t617 x26_2).f1))) (fun _ h_ => h_.1))) hb); have n2_ := Aside0.mk (Kd.R_lower (Kd.R_newM (M := fun k_ => (w.heap.size ≤ k_)) ho36 (below_size (by repeat (first | (with_reducible first | exact HB.out | apply below_alloc | apply pw_below_drewN | apply below_drew1 | refine below_set ?_ GE621.out) | exact HB.out))) (fun k_ h_ => h_)) (below_size (by repeat (first | (with_reducible first | exact HB.out | apply below_alloc | apply pw_below_drewN | apply below_drew1 | refine below_set ?_ GE621.out) | exact HB.out)))); have n3_ := Aside0.mk (blk_below (g := gb621) (o := .cells #[.int .i64 ((rd_T79 t617 x26_2).f0), .int .i64 ((rd_T79 t617 x26_2).f1)] 79 (0, 0)) (by (with_reducible repeat (first | refine blk_drewN ?_ _ | refine blk_drew ?_ | refine blk_alloc ?_ _)); refine blk_put (cs := #[.int .i64 ((rd_T79 t617 x26_2).f0), .int .i64 0]) ?_ 1 _ rfl; (with_reducible repeat (first | refine blk_drewN ?_ _ | refine blk_drew ?_ | refine blk_alloc ?_ _)); refine blk_put (cs := #[.int .i64 0, .int .i64 0]) ?_ 0 _ rfl; (with_reducible repeat (first | refine blk_drewN ?_ _ | refine blk_drew ?_ | refine blk_alloc ?_ _)); exact BK621.out) hb); have n4_ := Aside0.mk (below_step (by repeat (first | (with_reducible first | exact HB.out | apply below_alloc | apply pw_below_drewN | apply below_drew1 | refine below_set ?_ GE621.out) | exact HB.out)) hb); clear HO_7; clear HO_24; clear BK621; clear HB; have HO_7 := n0_; have HO_24 := n1_; have HO632 := n2_; have BK621 := n3_; have HB := n4_; clear n0_ n1_ n2_ n3_ n4_; clear hb ho36; obtain ⟨Ao37, co37, eo37⟩ := Kd.R_slice HO632.out; subst eo37) | ((with_reducible refine gate_builtin (b := .append) (xs := #[.tmp 47, .tmp 54]) rfl ?_); at_builtin; refine Kd.S_append k29 (w0 := w) w.heap.size rfl (.tmp 47) (.tmp 54) 26 29 (.agg #[(.int .i64 0), (.slice none 0 0), (.int .i64 0)]) 40 rfl Try.underlying26 info29 rfl (by decide) (by omega) u7 x7_2 (⟨4, y630, 0⟩ : S29) [.int .i64 4, .slice Ao37 y630.length co37, .int .i64 0] (fun k_ => (w.heap.size ≤ k_)) (fun k_ => some k_ = (.slice Ao37 y630.length co37 : Value).ownBlock) rfl rfl ?aP (fun k_ hk_ => ((Kd.R_mono (ok' := fun k_ => ((fun k_ => (w.heap.size ≤ k_))) k_ ∧ some k_ ≠ (u7 : Value).ownBlock) (Kd.R_apart' (HO632.out) (Kd.S_typed HO_7.out) (by decide)) (fun k_ hk => ⟨hk.1.1, hk.2⟩))).1 k_ hk_.symm) ?aF ?aO ?aB ?aS ?aL ?_; (case aP => exact k29_mkM _ _ _ (⟨4, y630, 0⟩ : S29) (Kd.R_mono (Kd.R_tight rfl (Kd.R_mono (ok' := fun k_ => ((fun k_ => (w.heap.size ≤ k_))) k_ ∧ some k_ ≠ (u7 : Value).ownBlock) (Kd.R_apart' (HO632.out) (Kd.S_typed HO_7.out) (by decide)) (fun k_ hk => ⟨hk.1.1, hk.2⟩))) (fun _ h_ => h_))); (case aB => exact (by repeat (first | (with_reducible first | exact HB.out | apply below_alloc | apply pw_below_drewN | apply below_drew1 | refine below_set ?_ GE621.out) | exact HB.out))); (case aF => exact (fun k_ hk => (Nat.le_trans (below_size (by repeat (first | (with_reducible first | exact HB.out | apply below_alloc | apply pw_below_drewN | apply below_drew1 | refine below_set ?_ GE621.out) | exact HB.out))) hk))); (case aO => exact (by (with_reducible repeat (first | apply Kd.S_alloc | apply Kd.S_drewN | apply Kd.S_drew)); exact Kd.S_mono HO_7.out (fun k_ hk => ⟨hk.1, fun e_ => hk.2 e_⟩))); (case aS => exact (below_size (by repeat (first | (with_reducible first | exact HB.out | apply below_alloc | apply pw_below_drewN | apply below_drew1 | refine below_set ?_ GE621.out) | exact HB.out)))); (case aL => have := LMc32.out; omega); intro v634 w38 ho hb hg hat; rw [← Ny633.out] at ho; have n0_ := Aside0.mk (Kd.R_over' (by (with_reducible repeat (first | apply Kd.R_alloc | apply Kd.R_drewN | apply Kd.R_drew)); exact HO_24.out) (Kd.S_typed (by (with_reducible repeat (first | apply Kd.S_alloc | apply Kd.S_drewN | apply Kd.S_drew)); exact HO_7.out)) (by decide) hg); have n1_ := Aside0.mk (blk_grown (g := gb621) (o := .cells #[.int .i64 ((rd_T79 t617 x26_2).f0), .int .i64 ((rd_T79 t617 x26_2).f1)] 79 (0, 0)) (by (with_reducible repeat (first | refine blk_drewN ?_ _ | refine blk_drew ?_ | refine blk_alloc ?_ _)); exact BK621.out) hg (Kd.S_ne HO_7.out BK621.out (by decide))); have n2_ := Aside0.mk (hb); have n3_ := Aside0.mk (ho); clear HO_24; clear BK621; clear HB; clear HO_7; clear HO632; have HO_24 := n0_; have BK621 := n1_; have HB := n2_; have HO635 := n3_; clear n0_ n1_ n2_ n3_; clear ho hb hg hat)))
                              go_roundg k2
                              case measure => have := HJ3.out; have := HK2.out; omega
                              case rel => exact ⟨(y633), (wrap64 (x26_2 + 1)), (by first | rfl | (simp; done) | (simp [*]; done)), H', ⟨by have := HJ3.out; have := HK2.out; omega⟩, ⟨by (with_reducible repeat (first | apply Kd.S_alloc | apply Kd.S_drewN | apply Kd.S_drew)); exact HO635.out⟩, ⟨by (with_reducible repeat (first | apply Kd.R_alloc | apply Kd.R_drewN | apply Kd.R_drew)); exact Kd.R_mono HO_24.out (fun _ hk => hk.1)⟩, ⟨by repeat (first | (with_reducible first | exact HB.out | apply below_alloc | apply pw_below_drewN | apply below_drew1 | refine below_set ?_ GE621.out) | exact HB.out)⟩⟩
                            · rw [if_neg c32] at H
                              exact absurd H (by simp)
                        · rw [if_neg c23] at H
                          exact absurd H (by simp)
                      · rw [if_neg c22] at H
                        exact absurd H (by simp)
                    · rw [if_neg c21] at H
                      exact absurd H (by simp)
                  · rw [if_neg c20] at H
                    exact absurd H (by simp)
                · rw [if_neg c19] at H
                  exact absurd H (by simp)
              · rw [if_neg c18] at H
                exact absurd H (by simp)
            · rw [if_neg c17] at H
              have c17b0 : decide (x26_2 < (t617.length : Int)) = false := decide_eq_false c17
              clear c17
              obtain ⟨ji39, hji39⟩ : ∃ j_ : Int, (mn a2 (x7_2.length : Int)) = j_ := ⟨_, rfl⟩
              replace H : (if 0 ≤ (ji39) then (if (ji39) ≤ (x7_2.length : Int) then ((impl_Rule.f (x7_2.take ((ji39) : Int).toNat)).bind fun t641 => (some t641)) else (none)) else (none)) = some r := by first | (rw [hji39] at H; exact H) | (simp only [hji39] at H ⊢; exact H)
              have hji39_ : (if (x7_2.length : Int) < a2 then (x7_2.length : Int) else a2) = ji39 := hji39
              by_cases c40 : 0 ≤ (ji39)
              · rw [if_pos c40] at H
                have c40b0 := eq_true c40
                have c40b1 : decide (0 ≤ (ji39)) = true := decide_eq_true c40
                clear c40
                by_cases c41 : (ji39) ≤ (x7_2.length : Int)
                · rw [if_pos c41] at H
                  have c41b0 := eq_true c41
                  have c41b1 : decide ((ji39) ≤ (x7_2.length : Int)) = true := decide_eq_true c41
                  clear c41
                  obtain ⟨y636, hy636⟩ : ∃ y_ : List (S29), y_ = (x7_2.take ((ji39) : Int).toNat) := ⟨_, rfl⟩
                  replace H : ((impl_Rule.f y636).bind fun t641 => (some t641)) = some r := by first | (rw [hy636]; with_reducible exact H) | (have H2_ := (Option.bind_some _ _).symm.trans H; rw [hy636]; with_reducible exact H2_) | (have H2_ := (Option.bind_some _ _).symm.trans H; with_reducible exact H2_) | with_reducible exact H | (rw [hy636]; exact H) | exact H
                  have Ny636 := Aside0.mk hy636
                  clear hy636
                  replace H := Option.bind_eq_some_iff.mp H
                  obtain ⟨t641, A420, H⟩ := H
                  replace H : (some t641) = some r := H
                  have A42 := Aside0.mk A420
                  clear A420
                  obtain rfl := Option.some.inj H
                  obtain ⟨Ao43, co43, eo43⟩ := Kd.S_slice HO_7.out
                  subst eo43
                  have q44 : ((ji39) : Int) ≤ ((x7_2.length : Int) : Int) := of_decide_eq_true (by first | (with_reducible assumption) | assumption)
                  obtain ⟨i044, hi044, _, hsz44, _⟩ := info_parts info29
                  have hroom44 : x7_2.length ≤ co43 := (Kd.S_reads' HO_7.out).2.1
                  have hC44 : Kd.F k29 _ _ Ao43 x7_2.length x7_2 := (Kd.V_at (base := w.heap.size) (Kd.S_V (Kd.S_apart' (HO_7.out) (Kd.R_typed HO_24.out) (by decide)))).2.2
                  have hcut44 := cut_to (P := Try.prog) 26 29 .i64 Try.underlying26 hi044 Ao43 x7_2.length co43 (ji39) (of_decide_eq_true (by first | (with_reducible assumption) | assumption)) q44 hroom44
                  have hr44 := Kd.F_take (m := ((ji39) : Int).toNat) hC44 (by omega)
                  have hy44 : y636.length = ((ji39) : Int).toNat := (by rw [Ny636.out, List.length_take]; omega)
                  rw [← Ny636.out] at hr44
                  rw [← hy44] at hcut44
                  have HO640 := Aside0.mk (show Kd.V k29 29 _ w.heap.size _ (.slice Ao43 y636.length co43) y636 from Kd.V_mk (by omega) hr44)
                  have HC640 := Aside0.mk (show y636.length ≤ co43 from by omega)
                  clear hr44 hC44 hroom44 hi044 hsz44
                  have KY44 := Aside0.mk hy44
                  clear hy44
                  replace q44 := eq_true q44
                  go_wp2_with (first | (go_at_call 59; (with_reducible refine (impl_Rule.calls (fun k_ => ((w.heap.size ≤ k_) ∧ some k_ ≠ (.slice Ao16 t617.length co16 : Value).ownBlock)) _ _ y636 t641 _ ?side1 A42.out).mono ?_); (case side1 => exact HO640.out); rintro e w45 ⟨v642, rfl, ho0, hb⟩; have n0_ := Aside0.mk (Kd.S_below (by (with_reducible repeat (first | apply Kd.S_alloc | apply Kd.S_drewN | apply Kd.S_drew)); exact HO_7.out) hb); have n1_ := Aside0.mk (Kd.R_below (by (with_reducible repeat (first | apply Kd.R_alloc | apply Kd.R_drewN | apply Kd.R_drew)); exact HO_24.out) hb); have n2_ := Aside0.mk (Kd.V_below (by (with_reducible repeat (first | apply Kd.V_alloc | apply Kd.V_drewN | apply Kd.V_drew)); exact HO640.out) hb); have n3_ := Aside0.mk (Kd.V_lower (Kd.V_mono (ok' := fun k_ => (w.heap.size ≤ k_) ∧ some k_ ≠ (.slice Ao16 t617.length co16 : Value).ownBlock) ho0 (fun k_ hk_ => ⟨Or.elim hk_ (fun hs_ => hs_.1) (fun hn_ => (Nat.le_trans (below_size (by repeat (first | (with_reducible first | exact HB.out | apply below_alloc | apply pw_below_drewN | apply below_drew1) | exact HB.out))) hn_)), Or.elim hk_ (fun hs_ => hs_.2) (fun hn_ => (Kd.fresh' (Kd.R_lt (by (with_reducible repeat (first | apply Kd.R_alloc | apply Kd.R_drewN | apply Kd.R_drew)); exact HO_24.out)) k_ hn_))⟩)) (below_size (by repeat (first | (with_reducible first | exact HB.out | apply below_alloc | apply pw_below_drewN | apply below_drew1) | exact HB.out)))); have n4_ := Aside0.mk (below_step (by repeat (first | (with_reducible first | exact HB.out | apply below_alloc | apply pw_below_drewN | apply below_drew1) | exact HB.out)) hb); clear HO_7; clear HO_24; clear HO640; clear HB; have HO_7 := n0_; have HO_24 := n1_; have HO640 := n2_; have HO643 := n3_; have HB := n4_; clear n0_ n1_ n2_ n3_ n4_; (try clear hb); (try clear hb2); (try clear hk); (try clear hi); (try clear ho0)))
                  repeat (go_quiet (first | (go_at_call 59; (with_reducible refine (impl_Rule.calls (fun k_ => ((w.heap.size ≤ k_) ∧ some k_ ≠ (.slice Ao16 t617.length co16 : Value).ownBlock)) _ _ y636 t641 _ ?side1 A42.out).mono ?_); (case side1 => exact HO640.out); rintro e w45 ⟨v642, rfl, ho0, hb⟩; have n0_ := Aside0.mk (Kd.S_below (by (with_reducible repeat (first | apply Kd.S_alloc | apply Kd.S_drewN | apply Kd.S_drew)); exact HO_7.out) hb); have n1_ := Aside0.mk (Kd.R_below (by (with_reducible repeat (first | apply Kd.R_alloc | apply Kd.R_drewN | apply Kd.R_drew)); exact HO_24.out) hb); have n2_ := Aside0.mk (Kd.V_below (by (with_reducible repeat (first | apply Kd.V_alloc | apply Kd.V_drewN | apply Kd.V_drew)); exact HO640.out) hb); have n3_ := Aside0.mk (Kd.V_lower (Kd.V_mono (ok' := fun k_ => (w.heap.size ≤ k_) ∧ some k_ ≠ (.slice Ao16 t617.length co16 : Value).ownBlock) ho0 (fun k_ hk_ => ⟨Or.elim hk_ (fun hs_ => hs_.1) (fun hn_ => (Nat.le_trans (below_size (by repeat (first | (with_reducible first | exact HB.out | apply below_alloc | apply pw_below_drewN | apply below_drew1) | exact HB.out))) hn_)), Or.elim hk_ (fun hs_ => hs_.2) (fun hn_ => (Kd.fresh' (Kd.R_lt (by (with_reducible repeat (first | apply Kd.R_alloc | apply Kd.R_drewN | apply Kd.R_drew)); exact HO_24.out)) k_ hn_))⟩)) (below_size (by repeat (first | (with_reducible first | exact HB.out | apply below_alloc | apply pw_below_drewN | apply below_drew1) | exact HB.out)))); have n4_ := Aside0.mk (below_step (by repeat (first | (with_reducible first | exact HB.out | apply below_alloc | apply pw_below_drewN | apply below_drew1) | exact HB.out)) hb); clear HO_7; clear HO_24; clear HO640; clear HB; have HO_7 := n0_; have HO_24 := n1_; have HO640 := n2_; have HO643 := n3_; have HB := n4_; clear n0_ n1_ n2_ n3_ n4_; (try clear hb); (try clear hb2); (try clear hk); (try clear hi); (try clear ho0))); try go_wp2_with (first | (go_at_call 59; (with_reducible refine (impl_Rule.calls (fun k_ => ((w.heap.size ≤ k_) ∧ some k_ ≠ (.slice Ao16 t617.length co16 : Value).ownBlock)) _ _ y636 t641 _ ?side1 A42.out).mono ?_); (case side1 => exact HO640.out); rintro e w45 ⟨v642, rfl, ho0, hb⟩; have n0_ := Aside0.mk (Kd.S_below (by (with_reducible repeat (first | apply Kd.S_alloc | apply Kd.S_drewN | apply Kd.S_drew)); exact HO_7.out) hb); have n1_ := Aside0.mk (Kd.R_below (by (with_reducible repeat (first | apply Kd.R_alloc | apply Kd.R_drewN | apply Kd.R_drew)); exact HO_24.out) hb); have n2_ := Aside0.mk (Kd.V_below (by (with_reducible repeat (first | apply Kd.V_alloc | apply Kd.V_drewN | apply Kd.V_drew)); exact HO640.out) hb); have n3_ := Aside0.mk (Kd.V_lower (Kd.V_mono (ok' := fun k_ => (w.heap.size ≤ k_) ∧ some k_ ≠ (.slice Ao16 t617.length co16 : Value).ownBlock) ho0 (fun k_ hk_ => ⟨Or.elim hk_ (fun hs_ => hs_.1) (fun hn_ => (Nat.le_trans (below_size (by repeat (first | (with_reducible first | exact HB.out | apply below_alloc | apply pw_below_drewN | apply below_drew1) | exact HB.out))) hn_)), Or.elim hk_ (fun hs_ => hs_.2) (fun hn_ => (Kd.fresh' (Kd.R_lt (by (with_reducible repeat (first | apply Kd.R_alloc | apply Kd.R_drewN | apply Kd.R_drew)); exact HO_24.out)) k_ hn_))⟩)) (below_size (by repeat (first | (with_reducible first | exact HB.out | apply below_alloc | apply pw_below_drewN | apply below_drew1) | exact HB.out)))); have n4_ := Aside0.mk (below_step (by repeat (first | (with_reducible first | exact HB.out | apply below_alloc | apply pw_below_drewN | apply below_drew1) | exact HB.out)) hb); clear HO_7; clear HO_24; clear HO640; clear HB; have HO_7 := n0_; have HO_24 := n1_; have HO640 := n2_; have HO643 := n3_; have HB := n4_; clear n0_ n1_ n2_ n3_ n4_; (try clear hb); (try clear hb2); (try clear hk); (try clear hi); (try clear ho0))))
                  go_ret
                  exact ⟨_, by first | rfl | (simp [errW_none, errW_some] <;> rfl) | (simp only [← hji39]; first | rfl | (simp [errW_none, errW_some] <;> rfl)) | (simp [*, errW_none, errW_some] <;> rfl), by (with_reducible repeat (first | apply Kd.V_alloc | apply Kd.V_drewN | apply Kd.V_drew)); exact Kd.V_mono HO643.out (fun _ hk => hk.1), by repeat (first | (with_reducible first | exact HB.out | apply below_alloc | apply pw_below_drewN | apply below_drew1) | exact HB.out)⟩
                · rw [if_neg c41] at H
                  exact absurd H (by simp)
              · rw [if_neg c40] at H
                exact absurd H (by simp)
end Go.Proofs.Ytbcikbekdhdpaaa.Q
end
section
namespace Go.Proofs.Ytbcikbekdhdpaaa.Q
open Go.RowKit Go.Proofs.YtbcikbekdhdpaaaW.PrintWords Go.Proofs.YtbcikbekdhdpaaaW.PrintLast Go.Proofs.YtbcikbekdhdpaaaW.PrintMore
attribute [local go_sem] max2_int min2_int max_two min_two max_three min_three max_four min_four   -- for this text's walks alone
set_option linter.unusedVariables false
set_option linter.unusedSimpArgs false
mutual
def impl_RuleValid.l0 : Nat → Int → List Int → Int → Int → Int → List Int → Int → Option (Bool)
  | 0, _, _, _, _, _, _, _ => none
  | k + 1, x1, x12, x13, x14, x114000, x114001, x114002 => if x14 < x13 then (if 0 ≤ x14 then (if x14 < (x12.length : Int) then (if (rd x12 x14) < 0 then (some false) else (if (rd x12 x14) ≥ (wrap64 (x1 * x1)) then (some false) else (if x14 ≤ (x114001.length : Int) then ((slices_Contains_int_int.f k (x114001.take (x14 : Int).toNat) (rd x12 x14)).bind fun t117 => (if t117 = true then (some false) else (impl_RuleValid.l0 k x1 x12 x13 (wrap64 (x14 + 1)) x114000 x114001 x114002))) else (none)))) else (none)) else (none)) else (if x114000 = 1 then (if (x114001.length : Int) ≥ 2 then (if (x114001.length : Int) ≤ 4 then (some (x114002 == 0)) else (some false)) else (some false)) else (if x114000 = 2 then (impl_RuleValid.j1 k x1 (x114001.length : Int) x114000 (x114000 == 2) x114000 x114001 x114002) else (impl_RuleValid.j1 k x1 (x114001.length : Int) x114000 (x114000 == 3) x114000 x114001 x114002)))
def impl_RuleValid.j1 : Nat → Int → Int → Int → Bool → Int → List Int → Int → Option (Bool)
  | 0, _, _, _, _, _, _, _ => none
  | k + 1, x1, x7, x41, x55, x114000, x114001, x114002 => if x55 = true then (if x7 ≥ 1 then (if x7 ≤ 4 then (if x114002 ≥ 1 then (some (decide (x114002 ≤ (wrap64 ((wrap64 ((wrap64 (x1 * x1)) * x1)) * x1))))) else (some false)) else (some false)) else (some false)) else (if x41 = 4 then (if x7 = 2 then (some (x114002 == 0)) else (some false)) else (if x41 = 5 then (if x7 = 2 then (if x114002 ≥ 0 then (some (decide (x114002 < x1))) else (some false)) else (some false)) else (some false)))
end
def impl_RuleValid.f (k : Nat) (a0_0 : Int) (l0_1 : List Int) (a0_2 : Int) (a1 : Int) : Option (Bool) := (impl_sizeOk.f a1).bind fun t114 => (if t114 = true then (impl_RuleValid.l0 k a1 l0_1 (l0_1.length : Int) 0 a0_0 l0_1 a0_2) else (some false))
set_option maxHeartbeats 8000000 in
set_option maxRecDepth 100000 in
theorem impl_RuleValid.calls (k : Nat) (a0_0 : Int) (A0_1 : Option Addr) (c0_1 : Nat) (l0_1 : List Int) (a0_2 : Int) (a1 : Int) (r : Bool) (w : World) (hr0_1 : Kd.C (Kd.int .i64) w A0_1 l0_1.length l0_1) (hc0_1 : l0_1.length ≤ c0_1) (h : impl_RuleValid.f k a0_0 l0_1 a0_2 a1 = some r) :
    Calls Try.prog 57 #[.agg #[.int .i64 a0_0, .slice A0_1 l0_1.length c0_1, .int .i64 a0_2], .int .i64 a1] w fun e w' => e = .returned (.bool r) ∧ Below w.heap.size w w' := by
  have hu29 := Try.underlying29
  have HR0_1 := Aside0.mk hr0_1
  have HC0_1 := Aside0.mk hc0_1
  clear hr0_1 hc0_1
  have HB := Aside0.mk (Below.refl w.heap.size w)
  have H : ((impl_sizeOk.f a1).bind fun t114 => (if t114 = true then (impl_RuleValid.l0 k a1 l0_1 (l0_1.length : Int) 0 a0_0 l0_1 a0_2) else (some false))) = some r := h
  clear h
  replace H := Option.bind_eq_some_iff.mp H
  obtain ⟨t114, A30, H⟩ := H
  replace H : (if t114 = true then (impl_RuleValid.l0 k a1 l0_1 (l0_1.length : Int) 0 a0_0 l0_1 a0_2) else (some false)) = some r := H
  have A3 := Aside0.mk A30
  clear A30
  by_cases c4 : t114 = true
  · subst c4
    have H1 : (impl_RuleValid.l0 k a1 l0_1 (l0_1.length : Int) 0 a0_0 l0_1 a0_2) = some r := by rw [if_pos rfl] at H; exact H
    clear H
    have H := H1
    clear H1
    have H' := Aside0.mk H
    clear H
    go_enter Try.func57, Try.ntmps57
    go_wp2_with (first | ((with_reducible refine gate_dst (N := 2) rfl ?_); refine box_event ?hg (N := 2) ?hd (cs := #[.int .i64 a0_0, .slice A0_1 l0_1.length c0_1, .int .i64 a0_2]) (t := 29) ?hr ?_; (case hd => rfl); (case hg => rfl); (case hr => first | (go_simp; done) | (go_simp; rfl)); intro gb113 hg w5 hbox hb; have n0_ := Aside0.mk (below_step (by repeat (first | (with_reducible first | exact HB.out | apply below_alloc | apply pw_below_drewN | apply below_drew1) | exact HB.out)) hb); have n1_ := Aside0.mk (hbox); have n2_ := Aside0.mk ((by rw [hg]; exact (below_size (by repeat (first | (with_reducible first | exact HB.out | apply below_alloc | apply pw_below_drewN | apply below_drew1) | exact HB.out))) : w.heap.size ≤ gb113)); have n3_ := Aside0.mk ((by rw [hg]; exact (below_size (by repeat (first | (with_reducible first | exact HB.out | apply below_alloc | apply pw_below_drewN | apply below_drew1) | exact HB.out))) : w.heap.size ≤ gb113)); clear HB; have HB := n0_; have BK113 := n1_; have GW113 := n2_; have GE113 := n3_; clear n0_ n1_ n2_ n3_; clear hb hbox hg) | ((with_reducible refine gate_callee (f := 93) rfl ?_); refine goesL_ (some 9) rfl rfl Try.func93 (by kernel_rfl) rfl #[.int .i64 a1] rfl (by (try simp only [List.map_toArray, List.map_cons, List.map_nil]); first | done | rfl | (simp only [List.length_drop, List.length_take]; rfl)) ?_; (with_reducible refine (impl_sizeOk.calls a1 true _ A3.out).mono ?_); rintro e w' ⟨rfl, ⟨nd, rfl⟩⟩; refine ⟨_, rfl, ?_⟩; have hcz6_0 : w5.cell? ⟨gb113, 0, none⟩ = some (.int .i64 a0_0) := (blk_cell BK113.out 0).trans rfl; have hcz6_1 : w5.cell? ⟨gb113, 1, none⟩ = some (.slice A0_1 l0_1.length c0_1) := (blk_cell BK113.out 1).trans rfl; have hcz6_2 : w5.cell? ⟨gb113, 2, none⟩ = some (.int .i64 a0_2) := (blk_cell BK113.out 2).trans rfl; have hfz6_0 := blk_frozen BK113.out 0; have hfz6_1 := blk_frozen BK113.out 1; have hfz6_2 := blk_frozen BK113.out 2))
    go_loopg [14] k (fun kq v14 w' => ∃ (x14_1 : Int), v14 = .int .i64 x14_1 ∧ Aside0 (impl_RuleValid.l0 kq a1 l0_1 (l0_1.length : Int) x14_1 a0_0 l0_1 a0_2 = some r) ∧ Aside0 (kq ≤ k) ∧ Aside0 (w'.heap[gb113]? = some (.cells #[.int .i64 a0_0, (.slice A0_1 l0_1.length c0_1), .int .i64 a0_2] 29 (0, 0))) ∧ Aside0 (Below w.heap.size w w'))
    case atStart => exact ⟨(0), (by first | rfl | (simp; done) | (simp [*]; done)), H', ⟨Nat.le_refl _⟩, ⟨by (with_reducible repeat (first | refine blk_drewN ?_ _ | refine blk_drew ?_ | refine blk_alloc ?_ _)); exact BK113.out⟩, ⟨by repeat (first | (with_reducible first | exact HB.out | apply below_alloc | apply pw_below_drewN | apply below_drew1 | refine below_set ?_ GE113.out) | exact HB.out)⟩⟩
    case round =>
      clear H'
      try clear p2
      try clear c4
      try clear c5
      try clear hcz6_0
      try clear hcz6_1
      try clear hcz6_2
      try clear hfz6_0
      try clear hfz6_1
      try clear hfz6_2
      obtain ⟨x14_1, rfl, HA, HK1, BK113, HB⟩ := hrel
      cases gk with
      | zero => exact absurd HA.out (by simp [impl_RuleValid.l0])
      | succ k1 =>
        have H := HA.out
        clear HA
        simp only [impl_RuleValid.l0] at H
        by_cases c7 : x14_1 < (l0_1.length : Int)
        · rw [if_pos c7] at H
          have c7b0 : decide (x14_1 < (l0_1.length : Int)) = true := decide_eq_true c7
          clear c7
          by_cases c8 : 0 ≤ x14_1
          · rw [if_pos c8] at H
            have c8b0 : decide (0 ≤ x14_1) = true := decide_eq_true c8
            clear c8
            by_cases c9 : x14_1 < (l0_1.length : Int)
            · rw [if_pos c9] at H
              have c9b0 : decide (x14_1 < (l0_1.length : Int)) = true := decide_eq_true c9
              clear c9
              by_cases c10 : (rd l0_1 x14_1) < 0
              · rw [if_pos c10] at H
                have c10b0 : decide ((rd l0_1 x14_1) < 0) = true := decide_eq_true c10
                clear c10
                obtain rfl := Option.some.inj H
                have p115 : 0 ≤ (x14_1 : Int) := of_decide_eq_true (by first | (with_reducible assumption) | assumption)
                have q115 : x14_1 < (l0_1.length : Int) := of_decide_eq_true (by first | (with_reducible assumption) | assumption)
                obtain ⟨ad115, e115, hx115_0⟩ := Kd.at_int HR0_1.out x14_1 p115 q115
                cases e115
                replace hx115_0 := (HB.out.cell (World.block_lt_of_cell? w _ hx115_0)).trans hx115_0
                replace p115 := eq_true p115
                replace q115 := eq_true q115
                go_wp2
                go_ret
                exact ⟨by first | rfl | (simp [errW_none, errW_some] <;> rfl) | (simp [*, errW_none, errW_some] <;> rfl), by repeat (first | (with_reducible first | exact HB.out | apply below_alloc | apply pw_below_drewN | apply below_drew1 | refine below_set ?_ GE113.out) | exact HB.out)⟩
              · rw [if_neg c10] at H
                have c10b0 : decide ((rd l0_1 x14_1) < 0) = false := decide_eq_false c10
                clear c10
                by_cases c11 : (rd l0_1 x14_1) ≥ (wrap64 (a1 * a1))
                · rw [if_pos c11] at H
                  have c11b0 : decide ((wrap64 (a1 * a1)) ≤ (rd l0_1 x14_1)) = true := decide_eq_true c11
                  clear c11
                  obtain rfl := Option.some.inj H
                  have p115 : 0 ≤ (x14_1 : Int) := of_decide_eq_true (by first | (with_reducible assumption) | assumption)
                  have q115 : x14_1 < (l0_1.length : Int) := of_decide_eq_true (by first | (with_reducible assumption) | assumption)
                  obtain ⟨ad115, e115, hx115_0⟩ := Kd.at_int HR0_1.out x14_1 p115 q115
                  cases e115
                  replace hx115_0 := (HB.out.cell (World.block_lt_of_cell? w _ hx115_0)).trans hx115_0
                  replace p115 := eq_true p115
                  replace q115 := eq_true q115
                  go_wp2
                  go_ret
                  exact ⟨by first | rfl | (simp [errW_none, errW_some] <;> rfl) | (simp [*, errW_none, errW_some] <;> rfl), by repeat (first | (with_reducible first | exact HB.out | apply below_alloc | apply pw_below_drewN | apply below_drew1 | refine below_set ?_ GE113.out) | exact HB.out)⟩
                · rw [if_neg c11] at H
                  have c11b0 : decide ((wrap64 (a1 * a1)) ≤ (rd l0_1 x14_1)) = false := decide_eq_false c11
                  clear c11
                  have c12b0 := eq_true (of_decide_eq_true (by first | (with_reducible assumption) | assumption) : 0 ≤ x14_1)
                  by_cases c13 : x14_1 ≤ (l0_1.length : Int)
                  · rw [if_pos c13] at H
                    have c13b0 := eq_true c13
                    have c13b1 : decide (x14_1 ≤ (l0_1.length : Int)) = true := decide_eq_true c13
                    clear c13
                    replace H := Option.bind_eq_some_iff.mp H
                    obtain ⟨t117, A140, H⟩ := H
                    replace H : (if t117 = true then (some false) else (impl_RuleValid.l0 k1 a1 l0_1 (l0_1.length : Int) (wrap64 (x14_1 + 1)) a0_0 l0_1 a0_2)) = some r := H
                    have A14 := Aside0.mk A140
                    clear A140
                    by_cases c15 : t117 = true
                    · subst c15
                      have H1 : (some false) = some r := by rw [if_pos rfl] at H; exact H
                      clear H
                      have H := H1
                      clear H1
                      obtain rfl := Option.some.inj H
                      have p115 : 0 ≤ (x14_1 : Int) := of_decide_eq_true (by first | (with_reducible assumption) | assumption)
                      have q115 : x14_1 < (l0_1.length : Int) := of_decide_eq_true (by first | (with_reducible assumption) | assumption)
                      obtain ⟨ad115, e115, hx115_0⟩ := Kd.at_int HR0_1.out x14_1 p115 q115
                      cases e115
                      replace hx115_0 := (HB.out.cell (World.block_lt_of_cell? w _ hx115_0)).trans hx115_0
                      replace p115 := eq_true p115
                      replace q115 := eq_true q115
                      have hcz16_0 : wr.cell? ⟨gb113, 0, none⟩ = some (.int .i64 a0_0) := (blk_cell BK113.out 0).trans rfl
                      have hcz16_1 : wr.cell? ⟨gb113, 1, none⟩ = some (.slice (some ad115) l0_1.length c0_1) := (blk_cell BK113.out 1).trans rfl
                      have hcz16_2 : wr.cell? ⟨gb113, 2, none⟩ = some (.int .i64 a0_2) := (blk_cell BK113.out 2).trans rfl
                      have hfz16_0 := blk_frozen BK113.out 0
                      have hfz16_1 := blk_frozen BK113.out 1
                      have hfz16_2 := blk_frozen BK113.out 2
                      obtain ⟨i017, hi017, _, hsz17, _⟩ := info_parts info3
                      obtain ⟨hcut17, hA17, hC17⟩ := print_take_of (P := Try.prog) (Value.int .i64) 0 23 3 .i64 Try.underlying23 hi017 hsz17 (some ad115) c0_1 l0_1 x14_1 (of_decide_eq_true (by first | (with_reducible assumption) | assumption)) (of_decide_eq_true (by first | (with_reducible assumption) | assumption)) HC0_1.out
                      have HR116 := Aside0.mk (Kd.C_of_reads (h1 := fun _ => rfl) (hA17 _ (Kd.reads_of_C HR0_1.out)))
                      have HC116 := Aside0.mk hC17
                      clear hA17 hC17 hi017 hsz17
                      go_wp2_with (first | (go_at_call 76; refine calls_of_args (args' := #[.slice (some ad115) (l0_1.take (x14_1 : Int).toNat).length c0_1, .int .i64 (rd l0_1 x14_1)]) (by first | (rw [show (l0_1.take (x14_1 : Int).toNat).length = x14_1.toNat from (by rw [List.length_take]; have h_ : (x14_1 : Int) ≤ (l0_1.length : Int) := of_decide_eq_true (by first | (with_reducible assumption) | assumption); omega)] <;> rfl) |  rfl) ?_; (with_reducible refine (slices_Contains_int_int.calls k1 _ _ (l0_1.take (x14_1 : Int).toNat) (rd l0_1 x14_1) true _ ?side1 ?side2 A14.out).mono ?_); (case side1 => repeat (first | exact (Kd.C_below HR116.out HB.out) | (with_reducible refine Kd.C_alloc ?_ _) | (with_reducible refine Kd.C_drewN ?_ _) | (with_reducible refine Kd.C_drew ?_))); (case side2 => exact HC116.out); rintro e w' ⟨rfl, ⟨nd, rfl⟩⟩))
                      go_ret
                      exact ⟨by first | rfl | (simp [errW_none, errW_some] <;> rfl) | (simp [*, errW_none, errW_some] <;> rfl), by repeat (first | (with_reducible first | exact HB.out | apply below_alloc | apply pw_below_drewN | apply below_drew1 | refine below_set ?_ GE113.out) | exact HB.out)⟩
                    · replace c15 := Bool.eq_false_iff.mpr c15
                      subst c15
                      have H1 : (impl_RuleValid.l0 k1 a1 l0_1 (l0_1.length : Int) (wrap64 (x14_1 + 1)) a0_0 l0_1 a0_2) = some r := by rw [if_neg (show ¬ (false = true) by decide)] at H; exact H
                      clear H
                      have H := H1
                      clear H1
                      have H' := Aside0.mk H
                      clear H
                      have p115 : 0 ≤ (x14_1 : Int) := of_decide_eq_true (by first | (with_reducible assumption) | assumption)
                      have q115 : x14_1 < (l0_1.length : Int) := of_decide_eq_true (by first | (with_reducible assumption) | assumption)
                      obtain ⟨ad115, e115, hx115_0⟩ := Kd.at_int HR0_1.out x14_1 p115 q115
                      cases e115
                      replace hx115_0 := (HB.out.cell (World.block_lt_of_cell? w _ hx115_0)).trans hx115_0
                      replace p115 := eq_true p115
                      replace q115 := eq_true q115
                      have hcz18_0 : wr.cell? ⟨gb113, 0, none⟩ = some (.int .i64 a0_0) := (blk_cell BK113.out 0).trans rfl
                      have hcz18_1 : wr.cell? ⟨gb113, 1, none⟩ = some (.slice (some ad115) l0_1.length c0_1) := (blk_cell BK113.out 1).trans rfl
                      have hcz18_2 : wr.cell? ⟨gb113, 2, none⟩ = some (.int .i64 a0_2) := (blk_cell BK113.out 2).trans rfl
                      have hfz18_0 := blk_frozen BK113.out 0
                      have hfz18_1 := blk_frozen BK113.out 1
                      have hfz18_2 := blk_frozen BK113.out 2
                      obtain ⟨i019, hi019, _, hsz19, _⟩ := info_parts info3
                      obtain ⟨hcut19, hA19, hC19⟩ := print_take_of (P := Try.prog) (Value.int .i64) 0 23 3 .i64 Try.underlying23 hi019 hsz19 (some ad115) c0_1 l0_1 x14_1 (of_decide_eq_true (by first | (with_reducible assumption) | assumption)) (of_decide_eq_true (by first | (with_reducible assumption) | assumption)) HC0_1.out
                      have HR116 := Aside0.mk (Kd.C_of_reads (h1 := fun _ => rfl) (hA19 _ (Kd.reads_of_C HR0_1.out)))
                      have HC116 := Aside0.mk hC19
                      clear hA19 hC19 hi019 hsz19
                      go_wp2_with (first | (go_at_call 76; refine calls_of_args (args' := #[.slice (some ad115) (l0_1.take (x14_1 : Int).toNat).length c0_1, .int .i64 (rd l0_1 x14_1)]) (by first | (rw [show (l0_1.take (x14_1 : Int).toNat).length = x14_1.toNat from (by rw [List.length_take]; have h_ : (x14_1 : Int) ≤ (l0_1.length : Int) := of_decide_eq_true (by first | (with_reducible assumption) | assumption); omega)] <;> rfl) |  rfl) ?_; (with_reducible refine (slices_Contains_int_int.calls k1 _ _ (l0_1.take (x14_1 : Int).toNat) (rd l0_1 x14_1) false _ ?side1 ?side2 A14.out).mono ?_); (case side1 => repeat (first | exact (Kd.C_below HR116.out HB.out) | (with_reducible refine Kd.C_alloc ?_ _) | (with_reducible refine Kd.C_drewN ?_ _) | (with_reducible refine Kd.C_drew ?_))); (case side2 => exact HC116.out); rintro e w' ⟨rfl, ⟨nd, rfl⟩⟩))
                      go_roundg k1
                      case measure => have := HK1.out; omega
                      case rel => exact ⟨(wrap64 (x14_1 + 1)), (by first | rfl | (simp; done) | (simp [*]; done)), H', ⟨by have := HK1.out; omega⟩, ⟨by (with_reducible repeat (first | refine blk_drewN ?_ _ | refine blk_drew ?_ | refine blk_alloc ?_ _)); exact BK113.out⟩, ⟨by repeat (first | (with_reducible first | exact HB.out | apply below_alloc | apply pw_below_drewN | apply below_drew1 | refine below_set ?_ GE113.out) | exact HB.out)⟩⟩
                  · rw [if_neg c13] at H
                    exact absurd H (by simp)
            · rw [if_neg c9] at H
              exact absurd H (by simp)
          · rw [if_neg c8] at H
            exact absurd H (by simp)
        · rw [if_neg c7] at H
          have c7b0 : decide (x14_1 < (l0_1.length : Int)) = false := decide_eq_false c7
          clear c7
          by_cases c20 : a0_0 = 1
          · rw [if_pos c20] at H
            have c20b0 : (a0_0 == 1) = true := beq_iff_eq.mpr c20
            have c20b1 : (a0_0 != 1) = false := bne_eq_false_iff_eq.mpr c20
            clear c20
            by_cases c21 : (l0_1.length : Int) ≥ 2
            · rw [if_pos c21] at H
              have c21b0 : decide (2 ≤ (l0_1.length : Int)) = true := decide_eq_true c21
              have c21b1 : decide (2 ≤ l0_1.length) = true := decide_eq_true (by omega)
              clear c21
              by_cases c22 : (l0_1.length : Int) ≤ 4
              · rw [if_pos c22] at H
                have c22b0 : decide ((l0_1.length : Int) ≤ 4) = true := decide_eq_true c22
                have c22b1 : decide (l0_1.length ≤ 4) = true := decide_eq_true (by omega)
                clear c22
                obtain rfl := Option.some.inj H
                have hcz23_0 : wr.cell? ⟨gb113, 0, none⟩ = some (.int .i64 a0_0) := (blk_cell BK113.out 0).trans rfl
                have hcz23_1 : wr.cell? ⟨gb113, 1, none⟩ = some (.slice A0_1 l0_1.length c0_1) := (blk_cell BK113.out 1).trans rfl
                have hcz23_2 : wr.cell? ⟨gb113, 2, none⟩ = some (.int .i64 a0_2) := (blk_cell BK113.out 2).trans rfl
                have hfz23_0 := blk_frozen BK113.out 0
                have hfz23_1 := blk_frozen BK113.out 1
                have hfz23_2 := blk_frozen BK113.out 2
                go_wp2
                go_ret
                exact ⟨by first | rfl | (simp [errW_none, errW_some] <;> rfl) | (simp [*, errW_none, errW_some] <;> rfl), by repeat (first | (with_reducible first | exact HB.out | apply below_alloc | apply pw_below_drewN | apply below_drew1 | refine below_set ?_ GE113.out) | exact HB.out)⟩
              · rw [if_neg c22] at H
                have c22b0 : decide ((l0_1.length : Int) ≤ 4) = false := decide_eq_false c22
                have c22b1 : decide (l0_1.length ≤ 4) = false := decide_eq_false (by omega)
                clear c22
                obtain rfl := Option.some.inj H
                have hcz24_0 : wr.cell? ⟨gb113, 0, none⟩ = some (.int .i64 a0_0) := (blk_cell BK113.out 0).trans rfl
                have hcz24_1 : wr.cell? ⟨gb113, 1, none⟩ = some (.slice A0_1 l0_1.length c0_1) := (blk_cell BK113.out 1).trans rfl
                have hcz24_2 : wr.cell? ⟨gb113, 2, none⟩ = some (.int .i64 a0_2) := (blk_cell BK113.out 2).trans rfl
                have hfz24_0 := blk_frozen BK113.out 0
                have hfz24_1 := blk_frozen BK113.out 1
                have hfz24_2 := blk_frozen BK113.out 2
                go_wp2
                go_ret
                exact ⟨by first | rfl | (simp [errW_none, errW_some] <;> rfl) | (simp [*, errW_none, errW_some] <;> rfl), by repeat (first | (with_reducible first | exact HB.out | apply below_alloc | apply pw_below_drewN | apply below_drew1 | refine below_set ?_ GE113.out) | exact HB.out)⟩
            · rw [if_neg c21] at H
              have c21b0 : decide (2 ≤ (l0_1.length : Int)) = false := decide_eq_false c21
              have c21b1 : decide (2 ≤ l0_1.length) = false := decide_eq_false (by omega)
              clear c21
              obtain rfl := Option.some.inj H
              have hcz25_0 : wr.cell? ⟨gb113, 0, none⟩ = some (.int .i64 a0_0) := (blk_cell BK113.out 0).trans rfl
              have hcz25_1 : wr.cell? ⟨gb113, 1, none⟩ = some (.slice A0_1 l0_1.length c0_1) := (blk_cell BK113.out 1).trans rfl
              have hcz25_2 : wr.cell? ⟨gb113, 2, none⟩ = some (.int .i64 a0_2) := (blk_cell BK113.out 2).trans rfl
              have hfz25_0 := blk_frozen BK113.out 0
              have hfz25_1 := blk_frozen BK113.out 1
              have hfz25_2 := blk_frozen BK113.out 2
              go_wp2
              go_ret
              exact ⟨by first | rfl | (simp [errW_none, errW_some] <;> rfl) | (simp [*, errW_none, errW_some] <;> rfl), by repeat (first | (with_reducible first | exact HB.out | apply below_alloc | apply pw_below_drewN | apply below_drew1 | refine below_set ?_ GE113.out) | exact HB.out)⟩
          · rw [if_neg c20] at H
            have c20b0 : (a0_0 == 1) = false := beq_eq_false_iff_ne.mpr c20
            have c20b1 : (a0_0 != 1) = true := bne_iff_ne.mpr c20
            have HC26 := Aside0.mk H
            clear H
            have hcz27_0 : wr.cell? ⟨gb113, 0, none⟩ = some (.int .i64 a0_0) := (blk_cell BK113.out 0).trans rfl
            have hcz27_1 : wr.cell? ⟨gb113, 1, none⟩ = some (.slice A0_1 l0_1.length c0_1) := (blk_cell BK113.out 1).trans rfl
            have hcz27_2 : wr.cell? ⟨gb113, 2, none⟩ = some (.int .i64 a0_2) := (blk_cell BK113.out 2).trans rfl
            have hfz27_0 := blk_frozen BK113.out 0
            have hfz27_1 := blk_frozen BK113.out 1
            have hfz27_2 := blk_frozen BK113.out 2
            go_upto_if 55 with (fail)
            go_cut [55] (fun v55 wc => ∃ (kq : Nat) (x55_25 : Bool), v55 = .bool x55_25 ∧ Aside0 (impl_RuleValid.j1 kq a1 (l0_1.length : Int) a0_0 x55_25 a0_0 l0_1 a0_2 = some r) ∧ Aside0 (kq ≤ k1) ∧ Aside0 (wc.heap[gb113]? = some (.cells #[.int .i64 a0_0, (.slice A0_1 l0_1.length c0_1), .int .i64 a0_2] 29 (0, 0))) ∧ Aside0 (Below w.heap.size w wc))
            case first =>
              have H := HC26.out
              clear HC26
              by_cases c28 : a0_0 = 2
              · rw [if_pos c28] at H
                have c28b0 : (a0_0 == 2) = true := beq_iff_eq.mpr c28
                have c28b1 : (a0_0 != 2) = false := bne_eq_false_iff_eq.mpr c28
                clear c28
                (first | rw [c28b0] | (simp only [i64_w, i32_w]; rw [c28b0]) | skip)
                have H' := Aside0.mk H
                clear H
                go_wp2
                go_meet
                case rel => exact ⟨_, ((a0_0 == 2)), (by first | rfl | (simp; done) | (simp [*]; done)), H', ⟨by have := HK1.out; first | omega | exact Nat.le_refl _⟩, ⟨by (with_reducible repeat (first | refine blk_drewN ?_ _ | refine blk_drew ?_ | refine blk_alloc ?_ _)); exact BK113.out⟩, ⟨by repeat (first | (with_reducible first | exact HB.out | apply below_alloc | apply pw_below_drewN | apply below_drew1 | refine below_set ?_ GE113.out) | exact HB.out)⟩⟩
              · rw [if_neg c28] at H
                have c28b0 : (a0_0 == 2) = false := beq_eq_false_iff_ne.mpr c28
                have c28b1 : (a0_0 != 2) = true := bne_iff_ne.mpr c28
                (first | rw [c28b0] | (simp only [i64_w, i32_w]; rw [c28b0]) | skip)
                have H' := Aside0.mk H
                clear H
                go_wp2
                go_meet
                case rel => exact ⟨_, ((a0_0 == 3)), (by first | rfl | (simp; done) | (simp [*]; done)), H', ⟨by have := HK1.out; first | omega | exact Nat.le_refl _⟩, ⟨by (with_reducible repeat (first | refine blk_drewN ?_ _ | refine blk_drew ?_ | refine blk_alloc ?_ _)); exact BK113.out⟩, ⟨by repeat (first | (with_reducible first | exact HB.out | apply below_alloc | apply pw_below_drewN | apply below_drew1 | refine below_set ?_ GE113.out) | exact HB.out)⟩⟩
            case rest =>
              clear HC26
              try clear c1
              try clear p1
              try clear q1
              try clear hx1
              try clear c2
              try clear p2
              try clear c4
              try clear c5
              try clear p6
              try clear c7
              try clear c7b0
              try clear c8
              try clear c8b0
              try clear c9
              try clear c9b0
              try clear c10
              try clear c10b0
              try clear c11
              try clear c11b0
              try clear p11
              try clear q11
              try clear hx11
              try clear c12
              try clear c12b0
              try clear c13
              try clear c13b0
              try clear c13b1
              try clear c15
              try clear c20
              try clear c20b0
              try clear c20b1
              try clear c21
              try clear c21b0
              try clear c21b1
              try clear c22
              try clear c22b0
              try clear c22b1
              try clear c28
              try clear c28b0
              try clear c28b1
              try clear hcz16_0
              try clear hcz16_1
              try clear hcz16_2
              try clear hcz18_0
              try clear hcz18_1
              try clear hcz18_2
              try clear hcz23_0
              try clear hcz23_1
              try clear hcz23_2
              try clear hcz24_0
              try clear hcz24_1
              try clear hcz24_2
              try clear hcz25_0
              try clear hcz25_1
              try clear hcz25_2
              try clear hcz27_0
              try clear hcz27_1
              try clear hcz27_2
              try clear hcz6_0
              try clear hcz6_1
              try clear hcz6_2
              try clear hfz16_0
              try clear hfz16_1
              try clear hfz16_2
              try clear hfz18_0
              try clear hfz18_1
              try clear hfz18_2
              try clear hfz23_0
              try clear hfz23_1
              try clear hfz23_2
              try clear hfz24_0
              try clear hfz24_1
              try clear hfz24_2
              try clear hfz25_0
              try clear hfz25_1
              try clear hfz25_2
              try clear hfz27_0
              try clear hfz27_1
              try clear hfz27_2
              try clear hfz6_0
              try clear hfz6_1
              try clear hfz6_2
              try clear hx115_0
              try clear p115
              try clear p2
              try clear q115
              obtain ⟨kq, x55_25, rfl, HA, HJ25, BK113, HB⟩ := hcut
              cases kq with
              | zero => exact absurd HA.out (by simp [impl_RuleValid.j1])
              | succ kj25 =>
                have H := HA.out
                clear HA
                simp only [impl_RuleValid.j1] at H
                by_cases c29 : x55_25 = true
                · subst c29
                  have H1 : (if (l0_1.length : Int) ≥ 1 then (if (l0_1.length : Int) ≤ 4 then (if a0_2 ≥ 1 then (some (decide (a0_2 ≤ (wrap64 ((wrap64 ((wrap64 (a1 * a1)) * a1)) * a1))))) else (some false)) else (some false)) else (some false)) = some r := by rw [if_pos rfl] at H; exact H
                  clear H
                  have H := H1
                  clear H1
                  by_cases c30 : (l0_1.length : Int) ≥ 1
                  · rw [if_pos c30] at H
                    have c30b0 : decide (1 ≤ (l0_1.length : Int)) = true := decide_eq_true c30
                    have c30b1 : decide (1 ≤ l0_1.length) = true := decide_eq_true (by omega)
                    clear c30
                    by_cases c31 : (l0_1.length : Int) ≤ 4
                    · rw [if_pos c31] at H
                      have c31b0 : decide ((l0_1.length : Int) ≤ 4) = true := decide_eq_true c31
                      have c31b1 : decide (l0_1.length ≤ 4) = true := decide_eq_true (by omega)
                      clear c31
                      by_cases c32 : a0_2 ≥ 1
                      · rw [if_pos c32] at H
                        have c32b0 : decide (1 ≤ a0_2) = true := decide_eq_true c32
                        clear c32
                        obtain rfl := Option.some.inj H
                        have hcz33_0 : wc.cell? ⟨gb113, 0, none⟩ = some (.int .i64 a0_0) := (blk_cell BK113.out 0).trans rfl
                        have hcz33_1 : wc.cell? ⟨gb113, 1, none⟩ = some (.slice A0_1 l0_1.length c0_1) := (blk_cell BK113.out 1).trans rfl
                        have hcz33_2 : wc.cell? ⟨gb113, 2, none⟩ = some (.int .i64 a0_2) := (blk_cell BK113.out 2).trans rfl
                        have hfz33_0 := blk_frozen BK113.out 0
                        have hfz33_1 := blk_frozen BK113.out 1
                        have hfz33_2 := blk_frozen BK113.out 2
                        go_wp2
                        go_ret
                        exact ⟨by first | rfl | (simp [errW_none, errW_some] <;> rfl) | (simp [*, errW_none, errW_some] <;> rfl), by repeat (first | (with_reducible first | exact HB.out | apply below_alloc | apply pw_below_drewN | apply below_drew1 | refine below_set ?_ GE113.out) | exact HB.out)⟩
                      · rw [if_neg c32] at H
                        have c32b0 : decide (1 ≤ a0_2) = false := decide_eq_false c32
                        clear c32
                        obtain rfl := Option.some.inj H
                        have hcz34_0 : wc.cell? ⟨gb113, 0, none⟩ = some (.int .i64 a0_0) := (blk_cell BK113.out 0).trans rfl
                        have hcz34_1 : wc.cell? ⟨gb113, 1, none⟩ = some (.slice A0_1 l0_1.length c0_1) := (blk_cell BK113.out 1).trans rfl
                        have hcz34_2 : wc.cell? ⟨gb113, 2, none⟩ = some (.int .i64 a0_2) := (blk_cell BK113.out 2).trans rfl
                        have hfz34_0 := blk_frozen BK113.out 0
                        have hfz34_1 := blk_frozen BK113.out 1
                        have hfz34_2 := blk_frozen BK113.out 2
                        go_wp2
                        go_ret
                        exact ⟨by first | rfl | (simp [errW_none, errW_some] <;> rfl) | (simp [*, errW_none, errW_some] <;> rfl), by repeat (first | (with_reducible first | exact HB.out | apply below_alloc | apply pw_below_drewN | apply below_drew1 | refine below_set ?_ GE113.out) | exact HB.out)⟩
                    · rw [if_neg c31] at H
                      have c31b0 : decide ((l0_1.length : Int) ≤ 4) = false := decide_eq_false c31
                      have c31b1 : decide (l0_1.length ≤ 4) = false := decide_eq_false (by omega)
                      clear c31
                      obtain rfl := Option.some.inj H
                      go_wp2
                      go_ret
                      exact ⟨by first | rfl | (simp [errW_none, errW_some] <;> rfl) | (simp [*, errW_none, errW_some] <;> rfl), by repeat (first | (with_reducible first | exact HB.out | apply below_alloc | apply pw_below_drewN | apply below_drew1 | refine below_set ?_ GE113.out) | exact HB.out)⟩
                  · rw [if_neg c30] at H
                    have c30b0 : decide (1 ≤ (l0_1.length : Int)) = false := decide_eq_false c30
                    have c30b1 : decide (1 ≤ l0_1.length) = false := decide_eq_false (by omega)
                    clear c30
                    obtain rfl := Option.some.inj H
                    go_wp2
                    go_ret
                    exact ⟨by first | rfl | (simp [errW_none, errW_some] <;> rfl) | (simp [*, errW_none, errW_some] <;> rfl), by repeat (first | (with_reducible first | exact HB.out | apply below_alloc | apply pw_below_drewN | apply below_drew1 | refine below_set ?_ GE113.out) | exact HB.out)⟩
                · replace c29 := Bool.eq_false_iff.mpr c29
                  subst c29
                  have H1 : (if a0_0 = 4 then (if (l0_1.length : Int) = 2 then (some (a0_2 == 0)) else (some false)) else (if a0_0 = 5 then (if (l0_1.length : Int) = 2 then (if a0_2 ≥ 0 then (some (decide (a0_2 < a1))) else (some false)) else (some false)) else (some false))) = some r := by rw [if_neg (show ¬ (false = true) by decide)] at H; exact H
                  clear H
                  have H := H1
                  clear H1
                  by_cases c35 : a0_0 = 4
                  · rw [if_pos c35] at H
                    have c35b0 : (a0_0 == 4) = true := beq_iff_eq.mpr c35
                    have c35b1 : (a0_0 != 4) = false := bne_eq_false_iff_eq.mpr c35
                    clear c35
                    by_cases c36 : (l0_1.length : Int) = 2
                    · rw [if_pos c36] at H
                      have c36b0 : ((l0_1.length : Int) == 2) = true := beq_iff_eq.mpr c36
                      have c36b1 : ((l0_1.length : Int) != 2) = false := bne_eq_false_iff_eq.mpr c36
                      clear c36
                      obtain rfl := Option.some.inj H
                      have hcz37_0 : wc.cell? ⟨gb113, 0, none⟩ = some (.int .i64 a0_0) := (blk_cell BK113.out 0).trans rfl
                      have hcz37_1 : wc.cell? ⟨gb113, 1, none⟩ = some (.slice A0_1 l0_1.length c0_1) := (blk_cell BK113.out 1).trans rfl
                      have hcz37_2 : wc.cell? ⟨gb113, 2, none⟩ = some (.int .i64 a0_2) := (blk_cell BK113.out 2).trans rfl
                      have hfz37_0 := blk_frozen BK113.out 0
                      have hfz37_1 := blk_frozen BK113.out 1
                      have hfz37_2 := blk_frozen BK113.out 2
                      go_wp2
                      go_ret
                      exact ⟨by first | rfl | (simp [errW_none, errW_some] <;> rfl) | (simp [*, errW_none, errW_some] <;> rfl), by repeat (first | (with_reducible first | exact HB.out | apply below_alloc | apply pw_below_drewN | apply below_drew1 | refine below_set ?_ GE113.out) | exact HB.out)⟩
                    · rw [if_neg c36] at H
                      have c36b0 : ((l0_1.length : Int) == 2) = false := beq_eq_false_iff_ne.mpr c36
                      have c36b1 : ((l0_1.length : Int) != 2) = true := bne_iff_ne.mpr c36
                      obtain rfl := Option.some.inj H
                      go_wp2
                      go_ret
                      exact ⟨by first | rfl | (simp [errW_none, errW_some] <;> rfl) | (simp [*, errW_none, errW_some] <;> rfl), by repeat (first | (with_reducible first | exact HB.out | apply below_alloc | apply pw_below_drewN | apply below_drew1 | refine below_set ?_ GE113.out) | exact HB.out)⟩
                  · rw [if_neg c35] at H
                    have c35b0 : (a0_0 == 4) = false := beq_eq_false_iff_ne.mpr c35
                    have c35b1 : (a0_0 != 4) = true := bne_iff_ne.mpr c35
                    by_cases c38 : a0_0 = 5
                    · rw [if_pos c38] at H
                      have c38b0 : (a0_0 == 5) = true := beq_iff_eq.mpr c38
                      have c38b1 : (a0_0 != 5) = false := bne_eq_false_iff_eq.mpr c38
                      clear c38
                      by_cases c39 : (l0_1.length : Int) = 2
                      · rw [if_pos c39] at H
                        have c39b0 : ((l0_1.length : Int) == 2) = true := beq_iff_eq.mpr c39
                        have c39b1 : ((l0_1.length : Int) != 2) = false := bne_eq_false_iff_eq.mpr c39
                        clear c39
                        by_cases c40 : a0_2 ≥ 0
                        · rw [if_pos c40] at H
                          have c40b0 : decide (0 ≤ a0_2) = true := decide_eq_true c40
                          clear c40
                          obtain rfl := Option.some.inj H
                          have hcz41_0 : wc.cell? ⟨gb113, 0, none⟩ = some (.int .i64 a0_0) := (blk_cell BK113.out 0).trans rfl
                          have hcz41_1 : wc.cell? ⟨gb113, 1, none⟩ = some (.slice A0_1 l0_1.length c0_1) := (blk_cell BK113.out 1).trans rfl
                          have hcz41_2 : wc.cell? ⟨gb113, 2, none⟩ = some (.int .i64 a0_2) := (blk_cell BK113.out 2).trans rfl
                          have hfz41_0 := blk_frozen BK113.out 0
                          have hfz41_1 := blk_frozen BK113.out 1
                          have hfz41_2 := blk_frozen BK113.out 2
                          go_wp2
                          go_ret
                          exact ⟨by first | rfl | (simp [errW_none, errW_some] <;> rfl) | (simp [*, errW_none, errW_some] <;> rfl), by repeat (first | (with_reducible first | exact HB.out | apply below_alloc | apply pw_below_drewN | apply below_drew1 | refine below_set ?_ GE113.out) | exact HB.out)⟩
                        · rw [if_neg c40] at H
                          have c40b0 : decide (0 ≤ a0_2) = false := decide_eq_false c40
                          clear c40
                          obtain rfl := Option.some.inj H
                          have hcz42_0 : wc.cell? ⟨gb113, 0, none⟩ = some (.int .i64 a0_0) := (blk_cell BK113.out 0).trans rfl
                          have hcz42_1 : wc.cell? ⟨gb113, 1, none⟩ = some (.slice A0_1 l0_1.length c0_1) := (blk_cell BK113.out 1).trans rfl
                          have hcz42_2 : wc.cell? ⟨gb113, 2, none⟩ = some (.int .i64 a0_2) := (blk_cell BK113.out 2).trans rfl
                          have hfz42_0 := blk_frozen BK113.out 0
                          have hfz42_1 := blk_frozen BK113.out 1
                          have hfz42_2 := blk_frozen BK113.out 2
                          go_wp2
                          go_ret
                          exact ⟨by first | rfl | (simp [errW_none, errW_some] <;> rfl) | (simp [*, errW_none, errW_some] <;> rfl), by repeat (first | (with_reducible first | exact HB.out | apply below_alloc | apply pw_below_drewN | apply below_drew1 | refine below_set ?_ GE113.out) | exact HB.out)⟩
                      · rw [if_neg c39] at H
                        have c39b0 : ((l0_1.length : Int) == 2) = false := beq_eq_false_iff_ne.mpr c39
                        have c39b1 : ((l0_1.length : Int) != 2) = true := bne_iff_ne.mpr c39
                        obtain rfl := Option.some.inj H
                        go_wp2
                        go_ret
                        exact ⟨by first | rfl | (simp [errW_none, errW_some] <;> rfl) | (simp [*, errW_none, errW_some] <;> rfl), by repeat (first | (with_reducible first | exact HB.out | apply below_alloc | apply pw_below_drewN | apply below_drew1 | refine below_set ?_ GE113.out) | exact HB.out)⟩
                    · rw [if_neg c38] at H
                      have c38b0 : (a0_0 == 5) = false := beq_eq_false_iff_ne.mpr c38
                      have c38b1 : (a0_0 != 5) = true := bne_iff_ne.mpr c38
                      obtain rfl := Option.some.inj H
                      go_wp2
                      go_ret
                      exact ⟨by first | rfl | (simp [errW_none, errW_some] <;> rfl) | (simp [*, errW_none, errW_some] <;> rfl), by repeat (first | (with_reducible first | exact HB.out | apply below_alloc | apply pw_below_drewN | apply below_drew1 | refine below_set ?_ GE113.out) | exact HB.out)⟩
  · replace c4 := Bool.eq_false_iff.mpr c4
    subst c4
    have H1 : (some false) = some r := by rw [if_neg (show ¬ (false = true) by decide)] at H; exact H
    clear H
    have H := H1
    clear H1
    obtain rfl := Option.some.inj H
    go_enter Try.func57, Try.ntmps57
    go_wp2_with (first | ((with_reducible refine gate_dst (N := 2) rfl ?_); refine box_event ?hg (N := 2) ?hd (cs := #[.int .i64 a0_0, .slice A0_1 l0_1.length c0_1, .int .i64 a0_2]) (t := 29) ?hr ?_; (case hd => rfl); (case hg => rfl); (case hr => first | (go_simp; done) | (go_simp; rfl)); intro gb113 hg w43 hbox hb; have n0_ := Aside0.mk (below_step (by repeat (first | (with_reducible first | exact HB.out | apply below_alloc | apply pw_below_drewN | apply below_drew1) | exact HB.out)) hb); have n1_ := Aside0.mk (hbox); have n2_ := Aside0.mk ((by rw [hg]; exact (below_size (by repeat (first | (with_reducible first | exact HB.out | apply below_alloc | apply pw_below_drewN | apply below_drew1) | exact HB.out))) : w.heap.size ≤ gb113)); have n3_ := Aside0.mk ((by rw [hg]; exact (below_size (by repeat (first | (with_reducible first | exact HB.out | apply below_alloc | apply pw_below_drewN | apply below_drew1) | exact HB.out))) : w.heap.size ≤ gb113)); clear HB; have HB := n0_; have BK113 := n1_; have GW113 := n2_; have GE113 := n3_; clear n0_ n1_ n2_ n3_; clear hb hbox hg) | ((with_reducible refine gate_callee (f := 93) rfl ?_); refine goesL_ (some 9) rfl rfl Try.func93 (by kernel_rfl) rfl #[.int .i64 a1] rfl (by (try simp only [List.map_toArray, List.map_cons, List.map_nil]); first | done | rfl | (simp only [List.length_drop, List.length_take]; rfl)) ?_; (with_reducible refine (impl_sizeOk.calls a1 false _ A3.out).mono ?_); rintro e w' ⟨rfl, ⟨nd, rfl⟩⟩; refine ⟨_, rfl, ?_⟩))
    go_ret
    exact ⟨by first | rfl | (simp [errW_none, errW_some] <;> rfl) | (simp [*, errW_none, errW_some] <;> rfl), by repeat (first | (with_reducible first | exact HB.out | apply below_alloc | apply pw_below_drewN | apply below_drew1 | refine below_set ?_ GE113.out) | exact HB.out)⟩
end Go.Proofs.Ytbcikbekdhdpaaa.Q
end
section
namespace Go.Proofs.Ytbcikbekdhdpaaa.Q
open Go.RowKit Go.Proofs.YtbcikbekdhdpaaaW.PrintWords Go.Proofs.YtbcikbekdhdpaaaW.PrintLast Go.Proofs.YtbcikbekdhdpaaaW.PrintMore
attribute [local go_sem] max2_int min2_int max_two min_two max_three min_three max_four min_four   -- for this text's walks alone
set_option linter.unusedVariables false
set_option linter.unusedSimpArgs false
def impl_valuesHold.l0 : Nat → List Int → Int → Int → List Int → Int → Int → Int → List Int → Int → Option (Bool)
  | 0, _, _, _, _, _, _, _, _, _ => none
  | k + 1, x1, x5, x6, x9, x10, x11, x119000, x119001, x119002 => if x11 < x10 then (if 0 ≤ x11 then (if x11 < (x9.length : Int) then (if x119000 = 1 then (if x11 ≤ (x1.length : Int) then ((slices_Contains_int_int.f k (x1.take (x11 : Int).toNat) (rd x9 x11)).bind fun t121 => (if t121 = true then (some false) else (impl_valuesHold.l0 k x1 (wrap64 (x5 + (rd x9 x11))) (wrap64 (x6 * (rd x9 x11))) x9 x10 (wrap64 (x11 + 1)) x119000 x119001 x119002))) else (none)) else (impl_valuesHold.l0 k x1 (wrap64 (x5 + (rd x9 x11))) (wrap64 (x6 * (rd x9 x11))) x9 x10 (wrap64 (x11 + 1)) x119000 x119001 x119002)) else (none)) else (none)) else (if x119000 = 2 then (some (x5 == x119002)) else (if x119000 = 3 then (some (x6 == x119002)) else (if x119000 = 4 then (if 0 < (x1.length : Int) then (if 1 < (x1.length : Int) then (some (decide ((rd x1 0) < (rd x1 1)))) else (none)) else (none)) else (if x119000 = 5 then (if 0 < (x1.length : Int) then (if 1 < (x1.length : Int) then (some ((mx (wrap64 ((rd x1 0) - (rd x1 1))) (wrap64 ((rd x1 1) - (rd x1 0)))) == x119002)) else (none)) else (none)) else (some true)))))
def impl_valuesHold.f (k : Nat) (a0_0 : Int) (l0_1 : List Int) (a0_2 : Int) (l1 : List Int) : Option (Bool) := impl_valuesHold.l0 k l1 0 1 l1 (l1.length : Int) 0 a0_0 l0_1 a0_2
theorem impl_valuesHold.mono_l : ∀ k, (∀ y0 y1 y2 y3 y4 y5 y6 y7 y8, LeO (impl_valuesHold.l0 k y0 y1 y2 y3 y4 y5 y6 y7 y8) (impl_valuesHold.l0 (k + 1) y0 y1 y2 y3 y4 y5 y6 y7 y8))
  | 0 => fun _ _ _ _ _ _ _ _ _ r h => by simp [impl_valuesHold.l0] at h
  | k + 1 => by
    have ih0 := impl_valuesHold.mono_l k
    · intro y0 y1 y2 y3 y4 y5 y6 y7 y8
      unfold impl_valuesHold.l0
      repeat' first
      | (with_reducible exact ih0 _ _ _ _ _ _ _ _ _)
      | (with_reducible exact slices_Contains_int_int.mono _ _ _)
      | (with_reducible exact LeO.refl _)
      | (with_reducible exact LeO.none _)
      | (with_reducible refine LeO.ite ?_ ?_)
      | (with_reducible refine LeO.bind ?_ (fun _ => ?_))
      | exact ih0 _ _ _ _ _ _ _ _ _
      | exact slices_Contains_int_int.mono _ _ _
      | exact LeO.none _
      | refine LeO.ite ?_ ?_
      | refine LeO.bind ?_ (fun _ => ?_)
theorem impl_valuesHold.mono : ∀ a0 a1 a2 a3 k, LeO (impl_valuesHold.f k a0 a1 a2 a3) (impl_valuesHold.f (k + 1) a0 a1 a2 a3) := by
  intro a0 a1 a2 a3 k
  have ih0 := impl_valuesHold.mono_l k
  unfold impl_valuesHold.f
  repeat' first
      | (with_reducible exact ih0 _ _ _ _ _ _ _ _ _)
      | (with_reducible exact slices_Contains_int_int.mono _ _ _)
      | (with_reducible exact LeO.refl _)
      | (with_reducible exact LeO.none _)
      | (with_reducible refine LeO.ite ?_ ?_)
      | (with_reducible refine LeO.bind ?_ (fun _ => ?_))
      | exact ih0 _ _ _ _ _ _ _ _ _
      | exact slices_Contains_int_int.mono _ _ _
      | exact LeO.none _
      | refine LeO.ite ?_ ?_
      | refine LeO.bind ?_ (fun _ => ?_)
set_option maxHeartbeats 8000000 in
set_option maxRecDepth 100000 in
theorem impl_valuesHold.calls (k : Nat) (a0_0 : Int) (A0_1 : Option Addr) (c0_1 : Nat) (l0_1 : List Int) (a0_2 : Int) (A1 : Option Addr) (c1 : Nat) (l1 : List Int) (r : Bool) (w : World) (hr0_1 : Kd.C (Kd.int .i64) w A0_1 l0_1.length l0_1) (hc0_1 : l0_1.length ≤ c0_1) (hr1 : Kd.C (Kd.int .i64) w A1 l1.length l1) (hc1 : l1.length ≤ c1) (h : impl_valuesHold.f k a0_0 l0_1 a0_2 l1 = some r) :
    Calls Try.prog 94 #[.agg #[.int .i64 a0_0, .slice A0_1 l0_1.length c0_1, .int .i64 a0_2], .slice A1 l1.length c1] w fun e w' => e = .returned (.bool r) ∧ Below w.heap.size w w' := by
  have hu29 := Try.underlying29
  have HR0_1 := Aside0.mk hr0_1
  have HC0_1 := Aside0.mk hc0_1
  clear hr0_1 hc0_1
  have HR1 := Aside0.mk hr1
  have HC1 := Aside0.mk hc1
  clear hr1 hc1
  have HB := Aside0.mk (Below.refl w.heap.size w)
  have H : (impl_valuesHold.l0 k l1 0 1 l1 (l1.length : Int) 0 a0_0 l0_1 a0_2) = some r := h
  clear h
  have H' := Aside0.mk H
  clear H
  go_enter Try.func94, Try.ntmps94
  go_wp2_with (first | ((with_reducible refine gate_dst (N := 2) rfl ?_); refine box_event ?hg (N := 2) ?hd (cs := #[.int .i64 a0_0, .slice A0_1 l0_1.length c0_1, .int .i64 a0_2]) (t := 29) ?hr ?_; (case hd => rfl); (case hg => rfl); (case hr => first | (go_simp; done) | (go_simp; rfl)); intro gb118 hg w3 hbox hb; have n0_ := Aside0.mk (below_step (by repeat (first | (with_reducible first | exact HB.out | apply below_alloc | apply pw_below_drewN | apply below_drew1) | exact HB.out)) hb); have n1_ := Aside0.mk (hbox); have n2_ := Aside0.mk ((by rw [hg]; exact (below_size (by repeat (first | (with_reducible first | exact HB.out | apply below_alloc | apply pw_below_drewN | apply below_drew1) | exact HB.out))) : w.heap.size ≤ gb118)); have n3_ := Aside0.mk ((by rw [hg]; exact (below_size (by repeat (first | (with_reducible first | exact HB.out | apply below_alloc | apply pw_below_drewN | apply below_drew1) | exact HB.out))) : w.heap.size ≤ gb118)); clear HB; have HB := n0_; have BK118 := n1_; have GW118 := n2_; have GE118 := n3_; clear n0_ n1_ n2_ n3_; clear hb hbox hg))
  repeat (go_quiet (first | ((with_reducible refine gate_dst (N := 2) rfl ?_); refine box_event ?hg (N := 2) ?hd (cs := #[.int .i64 a0_0, .slice A0_1 l0_1.length c0_1, .int .i64 a0_2]) (t := 29) ?hr ?_; (case hd => rfl); (case hg => rfl); (case hr => first | (go_simp; done) | (go_simp; rfl)); intro gb118 hg w3 hbox hb; have n0_ := Aside0.mk (below_step (by repeat (first | (with_reducible first | exact HB.out | apply below_alloc | apply pw_below_drewN | apply below_drew1) | exact HB.out)) hb); have n1_ := Aside0.mk (hbox); have n2_ := Aside0.mk ((by rw [hg]; exact (below_size (by repeat (first | (with_reducible first | exact HB.out | apply below_alloc | apply pw_below_drewN | apply below_drew1) | exact HB.out))) : w.heap.size ≤ gb118)); have n3_ := Aside0.mk ((by rw [hg]; exact (below_size (by repeat (first | (with_reducible first | exact HB.out | apply below_alloc | apply pw_below_drewN | apply below_drew1) | exact HB.out))) : w.heap.size ≤ gb118)); clear HB; have HB := n0_; have BK118 := n1_; have GW118 := n2_; have GE118 := n3_; clear n0_ n1_ n2_ n3_; clear hb hbox hg)); try go_wp2_with (first | ((with_reducible refine gate_dst (N := 2) rfl ?_); refine box_event ?hg (N := 2) ?hd (cs := #[.int .i64 a0_0, .slice A0_1 l0_1.length c0_1, .int .i64 a0_2]) (t := 29) ?hr ?_; (case hd => rfl); (case hg => rfl); (case hr => first | (go_simp; done) | (go_simp; rfl)); intro gb118 hg w3 hbox hb; have n0_ := Aside0.mk (below_step (by repeat (first | (with_reducible first | exact HB.out | apply below_alloc | apply pw_below_drewN | apply below_drew1) | exact HB.out)) hb); have n1_ := Aside0.mk (hbox); have n2_ := Aside0.mk ((by rw [hg]; exact (below_size (by repeat (first | (with_reducible first | exact HB.out | apply below_alloc | apply pw_below_drewN | apply below_drew1) | exact HB.out))) : w.heap.size ≤ gb118)); have n3_ := Aside0.mk ((by rw [hg]; exact (below_size (by repeat (first | (with_reducible first | exact HB.out | apply below_alloc | apply pw_below_drewN | apply below_drew1) | exact HB.out))) : w.heap.size ≤ gb118)); clear HB; have HB := n0_; have BK118 := n1_; have GW118 := n2_; have GE118 := n3_; clear n0_ n1_ n2_ n3_; clear hb hbox hg)))
  go_loopg [5, 6, 11] k (fun kq v5 v6 v11 w' => ∃ (x5_1 : Int) (x6_1 : Int) (x11_1 : Int), v5 = .int .i64 x5_1 ∧ v6 = .int .i64 x6_1 ∧ v11 = .int .i64 x11_1 ∧ Aside0 (impl_valuesHold.l0 kq l1 x5_1 x6_1 l1 (l1.length : Int) x11_1 a0_0 l0_1 a0_2 = some r) ∧ Aside0 (kq ≤ k) ∧ Aside0 (w'.heap[gb118]? = some (.cells #[.int .i64 a0_0, (.slice A0_1 l0_1.length c0_1), .int .i64 a0_2] 29 (0, 0))) ∧ Aside0 (Below w.heap.size w w'))
  case atStart => exact ⟨(0), (1), (0), (by first | rfl | (simp; done) | (simp [*]; done)), (by first | rfl | (simp; done) | (simp [*]; done)), (by first | rfl | (simp; done) | (simp [*]; done)), H', ⟨Nat.le_refl _⟩, ⟨by (with_reducible repeat (first | refine blk_drewN ?_ _ | refine blk_drew ?_ | refine blk_alloc ?_ _)); exact BK118.out⟩, ⟨by repeat (first | (with_reducible first | exact HB.out | apply below_alloc | apply pw_below_drewN | apply below_drew1 | refine below_set ?_ GE118.out) | exact HB.out)⟩⟩
  case round =>
    clear H'
    try clear c1
    try clear p2
    obtain ⟨x5_1, x6_1, x11_1, rfl, rfl, rfl, HA, HK1, BK118, HB⟩ := hrel
    cases gk with
    | zero => exact absurd HA.out (by simp [impl_valuesHold.l0])
    | succ k1 =>
      have H := HA.out
      clear HA
      simp only [impl_valuesHold.l0] at H
      by_cases c4 : x11_1 < (l1.length : Int)
      · rw [if_pos c4] at H
        have c4b0 : decide (x11_1 < (l1.length : Int)) = true := decide_eq_true c4
        clear c4
        by_cases c5 : 0 ≤ x11_1
        · rw [if_pos c5] at H
          have c5b0 : decide (0 ≤ x11_1) = true := decide_eq_true c5
          clear c5
          by_cases c6 : x11_1 < (l1.length : Int)
          · rw [if_pos c6] at H
            have c6b0 : decide (x11_1 < (l1.length : Int)) = true := decide_eq_true c6
            clear c6
            by_cases c7 : a0_0 = 1
            · rw [if_pos c7] at H
              have c7b0 : (a0_0 == 1) = true := beq_iff_eq.mpr c7
              have c7b1 : (a0_0 != 1) = false := bne_eq_false_iff_eq.mpr c7
              clear c7
              have c8b0 := eq_true (of_decide_eq_true (by first | (with_reducible assumption) | assumption) : 0 ≤ x11_1)
              by_cases c9 : x11_1 ≤ (l1.length : Int)
              · rw [if_pos c9] at H
                have c9b0 := eq_true c9
                have c9b1 : decide (x11_1 ≤ (l1.length : Int)) = true := decide_eq_true c9
                clear c9
                replace H := Option.bind_eq_some_iff.mp H
                obtain ⟨t121, A100, H⟩ := H
                replace H : (if t121 = true then (some false) else (impl_valuesHold.l0 k1 l1 (wrap64 (x5_1 + (rd l1 x11_1))) (wrap64 (x6_1 * (rd l1 x11_1))) l1 (l1.length : Int) (wrap64 (x11_1 + 1)) a0_0 l0_1 a0_2)) = some r := H
                have A10 := Aside0.mk A100
                clear A100
                by_cases c11 : t121 = true
                · subst c11
                  have H1 : (some false) = some r := by rw [if_pos rfl] at H; exact H
                  clear H
                  have H := H1
                  clear H1
                  obtain rfl := Option.some.inj H
                  have p119 : 0 ≤ (x11_1 : Int) := of_decide_eq_true (by first | (with_reducible assumption) | assumption)
                  have q119 : x11_1 < (l1.length : Int) := of_decide_eq_true (by first | (with_reducible assumption) | assumption)
                  obtain ⟨ad119, e119, hx119_0⟩ := Kd.at_int HR1.out x11_1 p119 q119
                  cases e119
                  replace hx119_0 := (HB.out.cell (World.block_lt_of_cell? w _ hx119_0)).trans hx119_0
                  replace p119 := eq_true p119
                  replace q119 := eq_true q119
                  have hcz12_0 : wr.cell? ⟨gb118, 0, none⟩ = some (.int .i64 a0_0) := (blk_cell BK118.out 0).trans rfl
                  have hcz12_1 : wr.cell? ⟨gb118, 1, none⟩ = some (.slice A0_1 l0_1.length c0_1) := (blk_cell BK118.out 1).trans rfl
                  have hcz12_2 : wr.cell? ⟨gb118, 2, none⟩ = some (.int .i64 a0_2) := (blk_cell BK118.out 2).trans rfl
                  have hfz12_0 := blk_frozen BK118.out 0
                  have hfz12_1 := blk_frozen BK118.out 1
                  have hfz12_2 := blk_frozen BK118.out 2
                  obtain ⟨i013, hi013, _, hsz13, _⟩ := info_parts info3
                  obtain ⟨hcut13, hA13, hC13⟩ := print_take_of (P := Try.prog) (Value.int .i64) 0 23 3 .i64 Try.underlying23 hi013 hsz13 (some ad119) c1 l1 x11_1 (of_decide_eq_true (by first | (with_reducible assumption) | assumption)) (of_decide_eq_true (by first | (with_reducible assumption) | assumption)) HC1.out
                  have HR120 := Aside0.mk (Kd.C_of_reads (h1 := fun _ => rfl) (hA13 _ (Kd.reads_of_C HR1.out)))
                  have HC120 := Aside0.mk hC13
                  clear hA13 hC13 hi013 hsz13
                  go_wp2_with (first | (go_at_call 76; refine calls_of_args (args' := #[.slice (some ad119) (l1.take (x11_1 : Int).toNat).length c1, .int .i64 (rd l1 x11_1)]) (by first | (rw [show (l1.take (x11_1 : Int).toNat).length = x11_1.toNat from (by rw [List.length_take]; have h_ : (x11_1 : Int) ≤ (l1.length : Int) := of_decide_eq_true (by first | (with_reducible assumption) | assumption); omega)] <;> rfl) |  rfl) ?_; (with_reducible refine (slices_Contains_int_int.calls k1 _ _ (l1.take (x11_1 : Int).toNat) (rd l1 x11_1) true _ ?side1 ?side2 A10.out).mono ?_); (case side1 => repeat (first | exact (Kd.C_below HR120.out HB.out) | (with_reducible refine Kd.C_alloc ?_ _) | (with_reducible refine Kd.C_drewN ?_ _) | (with_reducible refine Kd.C_drew ?_))); (case side2 => exact HC120.out); rintro e w' ⟨rfl, ⟨nd, rfl⟩⟩; (try first | exact ⟨rfl, _, World.drewN_drewN _ _ _⟩ | exact ⟨rfl, _, Eq.trans (World.drewN_drewN _ _ _) (congrArg (World.drewN _) (Nat.add_assoc _ _ _))⟩)))
                  repeat (go_quiet (first | (go_at_call 76; refine calls_of_args (args' := #[.slice (some ad119) (l1.take (x11_1 : Int).toNat).length c1, .int .i64 (rd l1 x11_1)]) (by first | (rw [show (l1.take (x11_1 : Int).toNat).length = x11_1.toNat from (by rw [List.length_take]; have h_ : (x11_1 : Int) ≤ (l1.length : Int) := of_decide_eq_true (by first | (with_reducible assumption) | assumption); omega)] <;> rfl) |  rfl) ?_; (with_reducible refine (slices_Contains_int_int.calls k1 _ _ (l1.take (x11_1 : Int).toNat) (rd l1 x11_1) true _ ?side1 ?side2 A10.out).mono ?_); (case side1 => repeat (first | exact (Kd.C_below HR120.out HB.out) | (with_reducible refine Kd.C_alloc ?_ _) | (with_reducible refine Kd.C_drewN ?_ _) | (with_reducible refine Kd.C_drew ?_))); (case side2 => exact HC120.out); rintro e w' ⟨rfl, ⟨nd, rfl⟩⟩; (try first | exact ⟨rfl, _, World.drewN_drewN _ _ _⟩ | exact ⟨rfl, _, Eq.trans (World.drewN_drewN _ _ _) (congrArg (World.drewN _) (Nat.add_assoc _ _ _))⟩))); try go_wp2_with (first | (go_at_call 76; refine calls_of_args (args' := #[.slice (some ad119) (l1.take (x11_1 : Int).toNat).length c1, .int .i64 (rd l1 x11_1)]) (by first | (rw [show (l1.take (x11_1 : Int).toNat).length = x11_1.toNat from (by rw [List.length_take]; have h_ : (x11_1 : Int) ≤ (l1.length : Int) := of_decide_eq_true (by first | (with_reducible assumption) | assumption); omega)] <;> rfl) |  rfl) ?_; (with_reducible refine (slices_Contains_int_int.calls k1 _ _ (l1.take (x11_1 : Int).toNat) (rd l1 x11_1) true _ ?side1 ?side2 A10.out).mono ?_); (case side1 => repeat (first | exact (Kd.C_below HR120.out HB.out) | (with_reducible refine Kd.C_alloc ?_ _) | (with_reducible refine Kd.C_drewN ?_ _) | (with_reducible refine Kd.C_drew ?_))); (case side2 => exact HC120.out); rintro e w' ⟨rfl, ⟨nd, rfl⟩⟩; (try first | exact ⟨rfl, _, World.drewN_drewN _ _ _⟩ | exact ⟨rfl, _, Eq.trans (World.drewN_drewN _ _ _) (congrArg (World.drewN _) (Nat.add_assoc _ _ _))⟩))))
                  go_ret
                  exact ⟨by first | rfl | (simp [errW_none, errW_some] <;> rfl) | (simp [*, errW_none, errW_some] <;> rfl), by repeat (first | (with_reducible first | exact HB.out | apply below_alloc | apply pw_below_drewN | apply below_drew1 | refine below_set ?_ GE118.out) | exact HB.out)⟩
                · replace c11 := Bool.eq_false_iff.mpr c11
                  subst c11
                  have H1 : (impl_valuesHold.l0 k1 l1 (wrap64 (x5_1 + (rd l1 x11_1))) (wrap64 (x6_1 * (rd l1 x11_1))) l1 (l1.length : Int) (wrap64 (x11_1 + 1)) a0_0 l0_1 a0_2) = some r := by rw [if_neg (show ¬ (false = true) by decide)] at H; exact H
                  clear H
                  have H := H1
                  clear H1
                  have H' := Aside0.mk H
                  clear H
                  have p119 : 0 ≤ (x11_1 : Int) := of_decide_eq_true (by first | (with_reducible assumption) | assumption)
                  have q119 : x11_1 < (l1.length : Int) := of_decide_eq_true (by first | (with_reducible assumption) | assumption)
                  obtain ⟨ad119, e119, hx119_0⟩ := Kd.at_int HR1.out x11_1 p119 q119
                  cases e119
                  replace hx119_0 := (HB.out.cell (World.block_lt_of_cell? w _ hx119_0)).trans hx119_0
                  replace p119 := eq_true p119
                  replace q119 := eq_true q119
                  have hcz14_0 : wr.cell? ⟨gb118, 0, none⟩ = some (.int .i64 a0_0) := (blk_cell BK118.out 0).trans rfl
                  have hcz14_1 : wr.cell? ⟨gb118, 1, none⟩ = some (.slice A0_1 l0_1.length c0_1) := (blk_cell BK118.out 1).trans rfl
                  have hcz14_2 : wr.cell? ⟨gb118, 2, none⟩ = some (.int .i64 a0_2) := (blk_cell BK118.out 2).trans rfl
                  have hfz14_0 := blk_frozen BK118.out 0
                  have hfz14_1 := blk_frozen BK118.out 1
                  have hfz14_2 := blk_frozen BK118.out 2
                  obtain ⟨i015, hi015, _, hsz15, _⟩ := info_parts info3
                  obtain ⟨hcut15, hA15, hC15⟩ := print_take_of (P := Try.prog) (Value.int .i64) 0 23 3 .i64 Try.underlying23 hi015 hsz15 (some ad119) c1 l1 x11_1 (of_decide_eq_true (by first | (with_reducible assumption) | assumption)) (of_decide_eq_true (by first | (with_reducible assumption) | assumption)) HC1.out
                  have HR120 := Aside0.mk (Kd.C_of_reads (h1 := fun _ => rfl) (hA15 _ (Kd.reads_of_C HR1.out)))
                  have HC120 := Aside0.mk hC15
                  clear hA15 hC15 hi015 hsz15
                  go_wp2_with (first | (go_at_call 76; refine calls_of_args (args' := #[.slice (some ad119) (l1.take (x11_1 : Int).toNat).length c1, .int .i64 (rd l1 x11_1)]) (by first | (rw [show (l1.take (x11_1 : Int).toNat).length = x11_1.toNat from (by rw [List.length_take]; have h_ : (x11_1 : Int) ≤ (l1.length : Int) := of_decide_eq_true (by first | (with_reducible assumption) | assumption); omega)] <;> rfl) |  rfl) ?_; (with_reducible refine (slices_Contains_int_int.calls k1 _ _ (l1.take (x11_1 : Int).toNat) (rd l1 x11_1) false _ ?side1 ?side2 A10.out).mono ?_); (case side1 => repeat (first | exact (Kd.C_below HR120.out HB.out) | (with_reducible refine Kd.C_alloc ?_ _) | (with_reducible refine Kd.C_drewN ?_ _) | (with_reducible refine Kd.C_drew ?_))); (case side2 => exact HC120.out); rintro e w' ⟨rfl, ⟨nd, rfl⟩⟩; (try first | exact ⟨rfl, _, World.drewN_drewN _ _ _⟩ | exact ⟨rfl, _, Eq.trans (World.drewN_drewN _ _ _) (congrArg (World.drewN _) (Nat.add_assoc _ _ _))⟩)))
                  repeat (go_quiet (first | (go_at_call 76; refine calls_of_args (args' := #[.slice (some ad119) (l1.take (x11_1 : Int).toNat).length c1, .int .i64 (rd l1 x11_1)]) (by first | (rw [show (l1.take (x11_1 : Int).toNat).length = x11_1.toNat from (by rw [List.length_take]; have h_ : (x11_1 : Int) ≤ (l1.length : Int) := of_decide_eq_true (by first | (with_reducible assumption) | assumption); omega)] <;> rfl) |  rfl) ?_; (with_reducible refine (slices_Contains_int_int.calls k1 _ _ (l1.take (x11_1 : Int).toNat) (rd l1 x11_1) false _ ?side1 ?side2 A10.out).mono ?_); (case side1 => repeat (first | exact (Kd.C_below HR120.out HB.out) | (with_reducible refine Kd.C_alloc ?_ _) | (with_reducible refine Kd.C_drewN ?_ _) | (with_reducible refine Kd.C_drew ?_))); (case side2 => exact HC120.out); rintro e w' ⟨rfl, ⟨nd, rfl⟩⟩; (try first | exact ⟨rfl, _, World.drewN_drewN _ _ _⟩ | exact ⟨rfl, _, Eq.trans (World.drewN_drewN _ _ _) (congrArg (World.drewN _) (Nat.add_assoc _ _ _))⟩))); try go_wp2_with (first | (go_at_call 76; refine calls_of_args (args' := #[.slice (some ad119) (l1.take (x11_1 : Int).toNat).length c1, .int .i64 (rd l1 x11_1)]) (by first | (rw [show (l1.take (x11_1 : Int).toNat).length = x11_1.toNat from (by rw [List.length_take]; have h_ : (x11_1 : Int) ≤ (l1.length : Int) := of_decide_eq_true (by first | (with_reducible assumption) | assumption); omega)] <;> rfl) |  rfl) ?_; (with_reducible refine (slices_Contains_int_int.calls k1 _ _ (l1.take (x11_1 : Int).toNat) (rd l1 x11_1) false _ ?side1 ?side2 A10.out).mono ?_); (case side1 => repeat (first | exact (Kd.C_below HR120.out HB.out) | (with_reducible refine Kd.C_alloc ?_ _) | (with_reducible refine Kd.C_drewN ?_ _) | (with_reducible refine Kd.C_drew ?_))); (case side2 => exact HC120.out); rintro e w' ⟨rfl, ⟨nd, rfl⟩⟩; (try first | exact ⟨rfl, _, World.drewN_drewN _ _ _⟩ | exact ⟨rfl, _, Eq.trans (World.drewN_drewN _ _ _) (congrArg (World.drewN _) (Nat.add_assoc _ _ _))⟩))))
                  go_roundg k1
                  case measure => have := HK1.out; omega
                  case rel => exact ⟨(wrap64 (x5_1 + (rd l1 x11_1))), (wrap64 (x6_1 * (rd l1 x11_1))), (wrap64 (x11_1 + 1)), (by first | rfl | (simp; done) | (simp [*]; done)), (by first | rfl | (simp; done) | (simp [*]; done)), (by first | rfl | (simp; done) | (simp [*]; done)), H', ⟨by have := HK1.out; omega⟩, ⟨by (with_reducible repeat (first | refine blk_drewN ?_ _ | refine blk_drew ?_ | refine blk_alloc ?_ _)); exact BK118.out⟩, ⟨by repeat (first | (with_reducible first | exact HB.out | apply below_alloc | apply pw_below_drewN | apply below_drew1 | refine below_set ?_ GE118.out) | exact HB.out)⟩⟩
              · rw [if_neg c9] at H
                exact absurd H (by simp)
            · rw [if_neg c7] at H
              have c7b0 : (a0_0 == 1) = false := beq_eq_false_iff_ne.mpr c7
              have c7b1 : (a0_0 != 1) = true := bne_iff_ne.mpr c7
              have H' := Aside0.mk H
              clear H
              have p119 : 0 ≤ (x11_1 : Int) := of_decide_eq_true (by first | (with_reducible assumption) | assumption)
              have q119 : x11_1 < (l1.length : Int) := of_decide_eq_true (by first | (with_reducible assumption) | assumption)
              obtain ⟨ad119, e119, hx119_0⟩ := Kd.at_int HR1.out x11_1 p119 q119
              cases e119
              replace hx119_0 := (HB.out.cell (World.block_lt_of_cell? w _ hx119_0)).trans hx119_0
              replace p119 := eq_true p119
              replace q119 := eq_true q119
              have hcz16_0 : wr.cell? ⟨gb118, 0, none⟩ = some (.int .i64 a0_0) := (blk_cell BK118.out 0).trans rfl
              have hcz16_1 : wr.cell? ⟨gb118, 1, none⟩ = some (.slice A0_1 l0_1.length c0_1) := (blk_cell BK118.out 1).trans rfl
              have hcz16_2 : wr.cell? ⟨gb118, 2, none⟩ = some (.int .i64 a0_2) := (blk_cell BK118.out 2).trans rfl
              have hfz16_0 := blk_frozen BK118.out 0
              have hfz16_1 := blk_frozen BK118.out 1
              have hfz16_2 := blk_frozen BK118.out 2
              go_wp2
              repeat (go_quiet (fail); try go_wp2)
              go_roundg k1
              case measure => have := HK1.out; omega
              case rel => exact ⟨(wrap64 (x5_1 + (rd l1 x11_1))), (wrap64 (x6_1 * (rd l1 x11_1))), (wrap64 (x11_1 + 1)), (by first | rfl | (simp; done) | (simp [*]; done)), (by first | rfl | (simp; done) | (simp [*]; done)), (by first | rfl | (simp; done) | (simp [*]; done)), H', ⟨by have := HK1.out; omega⟩, ⟨by (with_reducible repeat (first | refine blk_drewN ?_ _ | refine blk_drew ?_ | refine blk_alloc ?_ _)); exact BK118.out⟩, ⟨by repeat (first | (with_reducible first | exact HB.out | apply below_alloc | apply pw_below_drewN | apply below_drew1 | refine below_set ?_ GE118.out) | exact HB.out)⟩⟩
          · rw [if_neg c6] at H
            exact absurd H (by simp)
        · rw [if_neg c5] at H
          exact absurd H (by simp)
      · rw [if_neg c4] at H
        have c4b0 : decide (x11_1 < (l1.length : Int)) = false := decide_eq_false c4
        clear c4
        by_cases c17 : a0_0 = 2
        · rw [if_pos c17] at H
          have c17b0 : (a0_0 == 2) = true := beq_iff_eq.mpr c17
          have c17b1 : (a0_0 != 2) = false := bne_eq_false_iff_eq.mpr c17
          clear c17
          obtain rfl := Option.some.inj H
          have hcz18_0 : wr.cell? ⟨gb118, 0, none⟩ = some (.int .i64 a0_0) := (blk_cell BK118.out 0).trans rfl
          have hcz18_1 : wr.cell? ⟨gb118, 1, none⟩ = some (.slice A0_1 l0_1.length c0_1) := (blk_cell BK118.out 1).trans rfl
          have hcz18_2 : wr.cell? ⟨gb118, 2, none⟩ = some (.int .i64 a0_2) := (blk_cell BK118.out 2).trans rfl
          have hfz18_0 := blk_frozen BK118.out 0
          have hfz18_1 := blk_frozen BK118.out 1
          have hfz18_2 := blk_frozen BK118.out 2
          go_wp2
          repeat (go_quiet (fail); try go_wp2)
          go_ret
          exact ⟨by first | rfl | (simp [errW_none, errW_some] <;> rfl) | (simp [*, errW_none, errW_some] <;> rfl), by repeat (first | (with_reducible first | exact HB.out | apply below_alloc | apply pw_below_drewN | apply below_drew1 | refine below_set ?_ GE118.out) | exact HB.out)⟩
        · rw [if_neg c17] at H
          have c17b0 : (a0_0 == 2) = false := beq_eq_false_iff_ne.mpr c17
          have c17b1 : (a0_0 != 2) = true := bne_iff_ne.mpr c17
          by_cases c19 : a0_0 = 3
          · rw [if_pos c19] at H
            have c19b0 : (a0_0 == 3) = true := beq_iff_eq.mpr c19
            have c19b1 : (a0_0 != 3) = false := bne_eq_false_iff_eq.mpr c19
            clear c19
            obtain rfl := Option.some.inj H
            have hcz20_0 : wr.cell? ⟨gb118, 0, none⟩ = some (.int .i64 a0_0) := (blk_cell BK118.out 0).trans rfl
            have hcz20_1 : wr.cell? ⟨gb118, 1, none⟩ = some (.slice A0_1 l0_1.length c0_1) := (blk_cell BK118.out 1).trans rfl
            have hcz20_2 : wr.cell? ⟨gb118, 2, none⟩ = some (.int .i64 a0_2) := (blk_cell BK118.out 2).trans rfl
            have hfz20_0 := blk_frozen BK118.out 0
            have hfz20_1 := blk_frozen BK118.out 1
            have hfz20_2 := blk_frozen BK118.out 2
            go_wp2
            repeat (go_quiet (fail); try go_wp2)
            go_ret
            exact ⟨by first | rfl | (simp [errW_none, errW_some] <;> rfl) | (simp [*, errW_none, errW_some] <;> rfl), by repeat (first | (with_reducible first | exact HB.out | apply below_alloc | apply pw_below_drewN | apply below_drew1 | refine below_set ?_ GE118.out) | exact HB.out)⟩
          · rw [if_neg c19] at H
            have c19b0 : (a0_0 == 3) = false := beq_eq_false_iff_ne.mpr c19
            have c19b1 : (a0_0 != 3) = true := bne_iff_ne.mpr c19
            by_cases c21 : a0_0 = 4
            · rw [if_pos c21] at H
              have c21b0 : (a0_0 == 4) = true := beq_iff_eq.mpr c21
              have c21b1 : (a0_0 != 4) = false := bne_eq_false_iff_eq.mpr c21
              clear c21
              by_cases c22 : 0 < (l1.length : Int)
              · rw [if_pos c22] at H
                have c22b0 : decide (0 < (l1.length : Int)) = true := decide_eq_true c22
                have c22b1 : decide (0 < l1.length) = true := decide_eq_true (by omega)
                clear c22
                by_cases c23 : 1 < (l1.length : Int)
                · rw [if_pos c23] at H
                  have c23b0 : decide (1 < (l1.length : Int)) = true := decide_eq_true c23
                  have c23b1 : decide (1 < l1.length) = true := decide_eq_true (by omega)
                  clear c23
                  obtain rfl := Option.some.inj H
                  have hcz24_0 : wr.cell? ⟨gb118, 0, none⟩ = some (.int .i64 a0_0) := (blk_cell BK118.out 0).trans rfl
                  have hcz24_1 : wr.cell? ⟨gb118, 1, none⟩ = some (.slice A0_1 l0_1.length c0_1) := (blk_cell BK118.out 1).trans rfl
                  have hcz24_2 : wr.cell? ⟨gb118, 2, none⟩ = some (.int .i64 a0_2) := (blk_cell BK118.out 2).trans rfl
                  have hfz24_0 := blk_frozen BK118.out 0
                  have hfz24_1 := blk_frozen BK118.out 1
                  have hfz24_2 := blk_frozen BK118.out 2
                  have p122 : 0 ≤ (0 : Int) := (by omega)
                  have q122 : 0 < (l1.length : Int) := of_decide_eq_true (by first | (with_reducible assumption) | assumption)
                  obtain ⟨ad122, e122, hx122_0⟩ := Kd.at_int HR1.out 0 p122 q122
                  cases e122
                  have qi122 : (0 < l1.length) = True := eq_true (by omega)
                  (try rw [show ((0 : Int)).toNat = 0 from rfl] at hx122_0)
                  (try rw [Addr.add_zero'] at hx122_0)
                  replace hx122_0 := (HB.out.cell (World.block_lt_of_cell? w _ hx122_0)).trans hx122_0
                  replace p122 := eq_true p122
                  replace q122 := eq_true q122
                  have p123 : 0 ≤ (1 : Int) := (by omega)
                  have q123 : 1 < (l1.length : Int) := of_decide_eq_true (by first | (with_reducible assumption) | assumption)
                  obtain ⟨ad123, e123, hx123_0⟩ := Kd.at_int HR1.out 1 p123 q123
                  obtain rfl : ad122 = ad123 := (by injection e123)
                  (try simp only [show (1 : Int).toNat = 1 from rfl, Nat.reduceMul, Nat.reduceEqDiff, Go.Addr.add, ↓reduceIte] at hx123_0)
                  have qi123 : (1 < l1.length) = True := eq_true (by omega)
                  (try rw [show ((1 : Int)).toNat = 1 from rfl] at hx123_0)
                  replace hx123_0 := (HB.out.cell (World.block_lt_of_cell? w _ hx123_0)).trans hx123_0
                  replace p123 := eq_true p123
                  replace q123 := eq_true q123
                  go_wp2
                  repeat (go_quiet (fail); try go_wp2)
                  go_ret
                  exact ⟨by first | rfl | (simp [errW_none, errW_some] <;> rfl) | (simp [*, errW_none, errW_some] <;> rfl), by repeat (first | (with_reducible first | exact HB.out | apply below_alloc | apply pw_below_drewN | apply below_drew1 | refine below_set ?_ GE118.out) | exact HB.out)⟩
                · rw [if_neg c23] at H
                  exact absurd H (by simp)
              · rw [if_neg c22] at H
                exact absurd H (by simp)
            · rw [if_neg c21] at H
              have c21b0 : (a0_0 == 4) = false := beq_eq_false_iff_ne.mpr c21
              have c21b1 : (a0_0 != 4) = true := bne_iff_ne.mpr c21
              by_cases c25 : a0_0 = 5
              · rw [if_pos c25] at H
                have c25b0 : (a0_0 == 5) = true := beq_iff_eq.mpr c25
                have c25b1 : (a0_0 != 5) = false := bne_eq_false_iff_eq.mpr c25
                clear c25
                by_cases c26 : 0 < (l1.length : Int)
                · rw [if_pos c26] at H
                  have c26b0 : decide (0 < (l1.length : Int)) = true := decide_eq_true c26
                  have c26b1 : decide (0 < l1.length) = true := decide_eq_true (by omega)
                  clear c26
                  by_cases c27 : 1 < (l1.length : Int)
                  · rw [if_pos c27] at H
                    have c27b0 : decide (1 < (l1.length : Int)) = true := decide_eq_true c27
                    have c27b1 : decide (1 < l1.length) = true := decide_eq_true (by omega)
                    clear c27
                    obtain ⟨ji28, hji28⟩ : ∃ j_ : Int, (mx (wrap64 ((rd l1 0) - (rd l1 1))) (wrap64 ((rd l1 1) - (rd l1 0)))) = j_ := ⟨_, rfl⟩
                    replace H : (some ((ji28) == a0_2)) = some r := by first | (rw [hji28] at H; exact H) | (simp only [hji28] at H ⊢; exact H)
                    have hji28_ : (if (wrap64 ((rd l1 0) - (rd l1 1))) < (wrap64 ((rd l1 1) - (rd l1 0))) then (wrap64 ((rd l1 1) - (rd l1 0))) else (wrap64 ((rd l1 0) - (rd l1 1)))) = ji28 := hji28
                    obtain rfl := Option.some.inj H
                    have hcz29_0 : wr.cell? ⟨gb118, 0, none⟩ = some (.int .i64 a0_0) := (blk_cell BK118.out 0).trans rfl
                    have hcz29_1 : wr.cell? ⟨gb118, 1, none⟩ = some (.slice A0_1 l0_1.length c0_1) := (blk_cell BK118.out 1).trans rfl
                    have hcz29_2 : wr.cell? ⟨gb118, 2, none⟩ = some (.int .i64 a0_2) := (blk_cell BK118.out 2).trans rfl
                    have hfz29_0 := blk_frozen BK118.out 0
                    have hfz29_1 := blk_frozen BK118.out 1
                    have hfz29_2 := blk_frozen BK118.out 2
                    have p124 : 0 ≤ (0 : Int) := (by omega)
                    have q124 : 0 < (l1.length : Int) := of_decide_eq_true (by first | (with_reducible assumption) | assumption)
                    obtain ⟨ad124, e124, hx124_0⟩ := Kd.at_int HR1.out 0 p124 q124
                    cases e124
                    have qi124 : (0 < l1.length) = True := eq_true (by omega)
                    (try rw [show ((0 : Int)).toNat = 0 from rfl] at hx124_0)
                    (try rw [Addr.add_zero'] at hx124_0)
                    replace hx124_0 := (HB.out.cell (World.block_lt_of_cell? w _ hx124_0)).trans hx124_0
                    replace p124 := eq_true p124
                    replace q124 := eq_true q124
                    have p125 : 0 ≤ (1 : Int) := (by omega)
                    have q125 : 1 < (l1.length : Int) := of_decide_eq_true (by first | (with_reducible assumption) | assumption)
                    obtain ⟨ad125, e125, hx125_0⟩ := Kd.at_int HR1.out 1 p125 q125
                    obtain rfl : ad124 = ad125 := (by injection e125)
                    (try simp only [show (1 : Int).toNat = 1 from rfl, Nat.reduceMul, Nat.reduceEqDiff, Go.Addr.add, ↓reduceIte] at hx125_0)
                    have qi125 : (1 < l1.length) = True := eq_true (by omega)
                    (try rw [show ((1 : Int)).toNat = 1 from rfl] at hx125_0)
                    replace hx125_0 := (HB.out.cell (World.block_lt_of_cell? w _ hx125_0)).trans hx125_0
                    replace p125 := eq_true p125
                    replace q125 := eq_true q125
                    have p126 : 0 ≤ (1 : Int) := (by omega)
                    have q126 : 1 < (l1.length : Int) := of_decide_eq_true (by first | (with_reducible assumption) | assumption)
                    obtain ⟨ad126, e126, hx126_0⟩ := Kd.at_int HR1.out 1 p126 q126
                    obtain rfl : ad124 = ad126 := (by injection e126)
                    (try simp only [show (1 : Int).toNat = 1 from rfl, Nat.reduceMul, Nat.reduceEqDiff, Go.Addr.add, ↓reduceIte] at hx126_0)
                    have qi126 : (1 < l1.length) = True := eq_true (by omega)
                    (try rw [show ((1 : Int)).toNat = 1 from rfl] at hx126_0)
                    replace hx126_0 := (HB.out.cell (World.block_lt_of_cell? w _ hx126_0)).trans hx126_0
                    replace p126 := eq_true p126
                    replace q126 := eq_true q126
                    have p127 : 0 ≤ (0 : Int) := (by omega)
                    have q127 : 0 < (l1.length : Int) := of_decide_eq_true (by first | (with_reducible assumption) | assumption)
                    obtain ⟨ad127, e127, hx127_0⟩ := Kd.at_int HR1.out 0 p127 q127
                    obtain rfl : ad124 = ad127 := (by injection e127)
                    have qi127 : (0 < l1.length) = True := eq_true (by omega)
                    (try rw [show ((0 : Int)).toNat = 0 from rfl] at hx127_0)
                    (try rw [Addr.add_zero'] at hx127_0)
                    replace hx127_0 := (HB.out.cell (World.block_lt_of_cell? w _ hx127_0)).trans hx127_0
                    replace p127 := eq_true p127
                    replace q127 := eq_true q127
                    go_wp2
                    repeat (go_quiet (fail); try go_wp2)
                    go_ret
                    exact ⟨by first | rfl | (simp [errW_none, errW_some] <;> rfl) | (simp only [← hji28]; first | rfl | (simp [errW_none, errW_some] <;> rfl)) | (simp [*, errW_none, errW_some] <;> rfl), by repeat (first | (with_reducible first | exact HB.out | apply below_alloc | apply pw_below_drewN | apply below_drew1 | refine below_set ?_ GE118.out) | exact HB.out)⟩
                  · rw [if_neg c27] at H
                    exact absurd H (by simp)
                · rw [if_neg c26] at H
                  exact absurd H (by simp)
              · rw [if_neg c25] at H
                have c25b0 : (a0_0 == 5) = false := beq_eq_false_iff_ne.mpr c25
                have c25b1 : (a0_0 != 5) = true := bne_iff_ne.mpr c25
                obtain rfl := Option.some.inj H
                have hcz30_0 : wr.cell? ⟨gb118, 0, none⟩ = some (.int .i64 a0_0) := (blk_cell BK118.out 0).trans rfl
                have hcz30_1 : wr.cell? ⟨gb118, 1, none⟩ = some (.slice A0_1 l0_1.length c0_1) := (blk_cell BK118.out 1).trans rfl
                have hcz30_2 : wr.cell? ⟨gb118, 2, none⟩ = some (.int .i64 a0_2) := (blk_cell BK118.out 2).trans rfl
                have hfz30_0 := blk_frozen BK118.out 0
                have hfz30_1 := blk_frozen BK118.out 1
                have hfz30_2 := blk_frozen BK118.out 2
                go_wp2
                repeat (go_quiet (fail); try go_wp2)
                go_ret
                exact ⟨by first | rfl | (simp [errW_none, errW_some] <;> rfl) | (simp [*, errW_none, errW_some] <;> rfl), by repeat (first | (with_reducible first | exact HB.out | apply below_alloc | apply pw_below_drewN | apply below_drew1 | refine below_set ?_ GE118.out) | exact HB.out)⟩
end Go.Proofs.Ytbcikbekdhdpaaa.Q
end
section
namespace Go.Proofs.Ytbcikbekdhdpaaa.Q
open Go.RowKit Go.Proofs.YtbcikbekdhdpaaaW.PrintWords Go.Proofs.YtbcikbekdhdpaaaW.PrintLast Go.Proofs.YtbcikbekdhdpaaaW.PrintMore
attribute [local go_sem] max2_int min2_int max_two min_two max_three min_three max_four min_four   -- for this text's walks alone
set_option linter.unusedVariables false
set_option linter.unusedSimpArgs false
mutual
def impl_PuzzleValid.j0 : Nat → Bool → Int → List Int → List (S29) → Option (Bool)
  | 0, _, _, _, _ => none
  | k + 1, x16, x693000, x693001, x693002 => if x16 = true then (some false) else (impl_PuzzleValid.l0 k x693002 (x693002.length : Int) 0 x693000 x693001 x693002)
def impl_PuzzleValid.l0 : Nat → List (S29) → Int → Int → Int → List Int → List (S29) → Option (Bool)
  | 0, _, _, _, _, _, _ => none
  | k + 1, x18, x19, x20, x693000, x693001, x693002 => if x20 < x19 then (if 0 ≤ x20 then (if x20 < (x18.length : Int) then ((impl_RuleValid.f k ((rd_T29 x18 x20).f0) ((rd_T29 x18 x20).f1) ((rd_T29 x18 x20).f2) x693000).bind fun t696 => (if t696 = true then (impl_PuzzleValid.l0 k x18 x19 (wrap64 (x20 + 1)) x693000 x693001 x693002) else (some false))) else (none)) else (none)) else (some true)
end
def impl_PuzzleValid.f (k : Nat) (a0_0 : Int) (l0_1 : List Int) (l0_2 : List (S29)) : Option (Bool) := (impl_GridValid.f k l0_1 a0_0).bind fun t693 => (if t693 = true then (impl_PuzzleValid.j0 k (decide ((l0_2.length : Int) > 20)) a0_0 l0_1 l0_2) else (impl_PuzzleValid.j0 k true a0_0 l0_1 l0_2))
set_option maxHeartbeats 8000000 in
set_option maxRecDepth 100000 in
theorem impl_PuzzleValid.calls (k : Nat) (a0_0 : Int) (A0_1 : Option Addr) (c0_1 : Nat) (l0_1 : List Int) (A0_2 : Option Addr) (c0_2 : Nat) (l0_2 : List (S29)) (r : Bool) (w : World) (hr0_1 : Kd.C (Kd.int .i64) w A0_1 l0_1.length l0_1) (hc0_1 : l0_1.length ≤ c0_1) (hr0_2 : Kd.C k29 w A0_2 l0_2.length l0_2) (hc0_2 : l0_2.length ≤ c0_2) (h : impl_PuzzleValid.f k a0_0 l0_1 l0_2 = some r) :
    Calls Try.prog 67 #[.agg #[.int .i64 a0_0, .slice A0_1 l0_1.length c0_1, .slice A0_2 l0_2.length c0_2]] w fun e w' => e = .returned (.bool r) ∧ Below w.heap.size w w' := by
  have hu37 := Try.underlying37
  have hu29 := Try.underlying29
  have HR0_1 := Aside0.mk hr0_1
  have HC0_1 := Aside0.mk hc0_1
  clear hr0_1 hc0_1
  have HR0_2 := Aside0.mk hr0_2
  have HC0_2 := Aside0.mk hc0_2
  clear hr0_2 hc0_2
  have HB := Aside0.mk (Below.refl w.heap.size w)
  have H : ((impl_GridValid.f k l0_1 a0_0).bind fun t693 => (if t693 = true then (impl_PuzzleValid.j0 k (decide ((l0_2.length : Int) > 20)) a0_0 l0_1 l0_2) else (impl_PuzzleValid.j0 k true a0_0 l0_1 l0_2))) = some r := h
  clear h
  have HC2 := Aside0.mk H
  clear H
  go_enter Try.func67, Try.ntmps67
  go_upto_region 1 with (first | ((with_reducible refine gate_dst (N := 1) rfl ?_); (try (refine gate_guard (by rfl) ?_; dsimp only)); refine box_event ?hg (N := 1) ?hd (cs := #[.int .i64 a0_0, .slice A0_1 l0_1.length c0_1, .slice A0_2 l0_2.length c0_2]) (t := 37) ?hr ?_; (case hd => rfl); (case hg => rfl); (case hr => first | (go_simp; done) | (go_simp; rfl)); intro gb692 hg w3 hbox hb; have n0_ := Aside0.mk (below_step (by repeat (first | (with_reducible first | exact HB.out | apply below_alloc | apply pw_below_drewN | apply below_drew1) | exact HB.out)) hb); have n1_ := Aside0.mk (hbox); have n2_ := Aside0.mk ((by rw [hg]; exact (below_size (by repeat (first | (with_reducible first | exact HB.out | apply below_alloc | apply pw_below_drewN | apply below_drew1) | exact HB.out))) : w.heap.size ≤ gb692)); have n3_ := Aside0.mk ((by rw [hg]; exact (below_size (by repeat (first | (with_reducible first | exact HB.out | apply below_alloc | apply pw_below_drewN | apply below_drew1) | exact HB.out))) : w.heap.size ≤ gb692)); clear HB; have HB := n0_; have BK692 := n1_; have GW692 := n2_; have GE692 := n3_; clear n0_ n1_ n2_ n3_; clear hb hbox hg))
  (try simp only [Act.put, List.setIfInBounds_toArray, List.set_cons_zero, List.set_cons_succ])
  go_cut [16] (fun v16 wc => ∃ (kq : Nat) (x16_1 : Bool), v16 = .bool x16_1 ∧ Aside0 (impl_PuzzleValid.j0 kq x16_1 a0_0 l0_1 l0_2 = some r) ∧ Aside0 (kq ≤ k) ∧ Aside0 (wc.heap[gb692]? = some (.cells #[.int .i64 a0_0, (.slice A0_1 l0_1.length c0_1), (.slice A0_2 l0_2.length c0_2)] 37 (0, 0))) ∧ Aside0 (Below w.heap.size w wc))
  case first =>
    have H := HC2.out
    clear HC2
    replace H := Option.bind_eq_some_iff.mp H
    obtain ⟨t693, A40, H⟩ := H
    replace H : (if t693 = true then (impl_PuzzleValid.j0 k (decide ((l0_2.length : Int) > 20)) a0_0 l0_1 l0_2) else (impl_PuzzleValid.j0 k true a0_0 l0_1 l0_2)) = some r := H
    have A4 := Aside0.mk A40
    clear A40
    by_cases c5 : t693 = true
    · subst c5
      have H1 : (impl_PuzzleValid.j0 k (decide ((l0_2.length : Int) > 20)) a0_0 l0_1 l0_2) = some r := by rw [if_pos rfl] at H; exact H
      clear H
      have H := H1
      clear H1
      have H' := Aside0.mk H
      clear H
      have hcz6_0 : w3.cell? ⟨gb692, 0, none⟩ = some (.int .i64 a0_0) := (blk_cell BK692.out 0).trans rfl
      have hcz6_1 : w3.cell? ⟨gb692, 1, none⟩ = some (.slice A0_1 l0_1.length c0_1) := (blk_cell BK692.out 1).trans rfl
      have hcz6_2 : w3.cell? ⟨gb692, 2, none⟩ = some (.slice A0_2 l0_2.length c0_2) := (blk_cell BK692.out 2).trans rfl
      have hfz6_0 := blk_frozen BK692.out 0
      have hfz6_1 := blk_frozen BK692.out 1
      have hfz6_2 := blk_frozen BK692.out 2
      go_wp2_with (first | ((with_reducible refine gate_callee (f := 75) rfl ?_); refine goesL_ (some 9) rfl rfl Try.func75 (by kernel_rfl) rfl #[.slice A0_1 l0_1.length c0_1, .int .i64 a0_0] rfl (by (try simp only [List.map_toArray, List.map_cons, List.map_nil]); first | done | rfl | (simp only [List.length_drop, List.length_take]; rfl)) ?_; (with_reducible refine (impl_GridValid.calls k _ _ l0_1 a0_0 true _ ?side1 ?side2 A4.out).mono ?_); (case side1 => repeat (first | exact (Kd.C_below HR0_1.out HB.out) | (with_reducible refine Kd.C_alloc ?_ _) | (with_reducible refine Kd.C_drewN ?_ _) | (with_reducible refine Kd.C_drew ?_))); (case side2 => exact HC0_1.out); rintro e w' ⟨rfl, ⟨nd, rfl⟩⟩; refine ⟨_, rfl, ?_⟩))
      go_meet
      case rel => exact ⟨_, (decide ((l0_2.length : Int) > 20)), (by first | rfl | (simp; done) | (simp [*]; done)), H', ⟨by first | omega | exact Nat.le_refl _⟩, ⟨by (with_reducible repeat (first | refine blk_drewN ?_ _ | refine blk_drew ?_ | refine blk_alloc ?_ _)); exact BK692.out⟩, ⟨by repeat (first | (with_reducible first | exact HB.out | apply below_alloc | apply pw_below_drewN | apply below_drew1 | refine below_set ?_ GE692.out) | exact HB.out)⟩⟩
    · replace c5 := Bool.eq_false_iff.mpr c5
      subst c5
      have H1 : (impl_PuzzleValid.j0 k true a0_0 l0_1 l0_2) = some r := by rw [if_neg (show ¬ (false = true) by decide)] at H; exact H
      clear H
      have H := H1
      clear H1
      have H' := Aside0.mk H
      clear H
      have hcz7_0 : w3.cell? ⟨gb692, 0, none⟩ = some (.int .i64 a0_0) := (blk_cell BK692.out 0).trans rfl
      have hcz7_1 : w3.cell? ⟨gb692, 1, none⟩ = some (.slice A0_1 l0_1.length c0_1) := (blk_cell BK692.out 1).trans rfl
      have hcz7_2 : w3.cell? ⟨gb692, 2, none⟩ = some (.slice A0_2 l0_2.length c0_2) := (blk_cell BK692.out 2).trans rfl
      have hfz7_0 := blk_frozen BK692.out 0
      have hfz7_1 := blk_frozen BK692.out 1
      have hfz7_2 := blk_frozen BK692.out 2
      go_wp2_with (first | ((with_reducible refine gate_callee (f := 75) rfl ?_); refine goesL_ (some 9) rfl rfl Try.func75 (by kernel_rfl) rfl #[.slice A0_1 l0_1.length c0_1, .int .i64 a0_0] rfl (by (try simp only [List.map_toArray, List.map_cons, List.map_nil]); first | done | rfl | (simp only [List.length_drop, List.length_take]; rfl)) ?_; (with_reducible refine (impl_GridValid.calls k _ _ l0_1 a0_0 false _ ?side1 ?side2 A4.out).mono ?_); (case side1 => repeat (first | exact (Kd.C_below HR0_1.out HB.out) | (with_reducible refine Kd.C_alloc ?_ _) | (with_reducible refine Kd.C_drewN ?_ _) | (with_reducible refine Kd.C_drew ?_))); (case side2 => exact HC0_1.out); rintro e w' ⟨rfl, ⟨nd, rfl⟩⟩; refine ⟨_, rfl, ?_⟩))
      go_meet
      case rel => exact ⟨_, (true), (by first | rfl | (simp; done) | (simp [*]; done)), H', ⟨by first | omega | exact Nat.le_refl _⟩, ⟨by (with_reducible repeat (first | refine blk_drewN ?_ _ | refine blk_drew ?_ | refine blk_alloc ?_ _)); exact BK692.out⟩, ⟨by repeat (first | (with_reducible first | exact HB.out | apply below_alloc | apply pw_below_drewN | apply below_drew1 | refine below_set ?_ GE692.out) | exact HB.out)⟩⟩
  case rest =>
    clear HC2
    try clear p2
    try clear c5
    try clear c6
    try clear c7
    try clear hcz6_0
    try clear hcz6_1
    try clear hcz6_2
    try clear hcz7_0
    try clear hcz7_1
    try clear hcz7_2
    try clear hfz6_0
    try clear hfz6_1
    try clear hfz6_2
    try clear hfz7_0
    try clear hfz7_1
    try clear hfz7_2
    obtain ⟨kq, x16_1, rfl, HA, HJ1, BK692, HB⟩ := hcut
    cases kq with
    | zero => exact absurd HA.out (by simp [impl_PuzzleValid.j0])
    | succ kj1 =>
      have H := HA.out
      clear HA
      simp only [impl_PuzzleValid.j0] at H
      by_cases c8 : x16_1 = true
      · subst c8
        have H1 : (some false) = some r := by rw [if_pos rfl] at H; exact H
        clear H
        have H := H1
        clear H1
        obtain rfl := Option.some.inj H
        go_wp2
        go_ret
        exact ⟨by first | rfl | (simp [errW_none, errW_some] <;> rfl) | (simp [*, errW_none, errW_some] <;> rfl), by repeat (first | (with_reducible first | exact HB.out | apply below_alloc | apply pw_below_drewN | apply below_drew1 | refine below_set ?_ GE692.out) | exact HB.out)⟩
      · replace c8 := Bool.eq_false_iff.mpr c8
        subst c8
        have H1 : (impl_PuzzleValid.l0 kj1 l0_2 (l0_2.length : Int) 0 a0_0 l0_1 l0_2) = some r := by rw [if_neg (show ¬ (false = true) by decide)] at H; exact H
        clear H
        have H := H1
        clear H1
        have H' := Aside0.mk H
        clear H
        have hcz9_0 : wc.cell? ⟨gb692, 0, none⟩ = some (.int .i64 a0_0) := (blk_cell BK692.out 0).trans rfl
        have hcz9_1 : wc.cell? ⟨gb692, 1, none⟩ = some (.slice A0_1 l0_1.length c0_1) := (blk_cell BK692.out 1).trans rfl
        have hcz9_2 : wc.cell? ⟨gb692, 2, none⟩ = some (.slice A0_2 l0_2.length c0_2) := (blk_cell BK692.out 2).trans rfl
        have hfz9_0 := blk_frozen BK692.out 0
        have hfz9_1 := blk_frozen BK692.out 1
        have hfz9_2 := blk_frozen BK692.out 2
        go_wp2
        go_loopg [20] kj1 (fun kq v20 w' => ∃ (x20_2 : Int), v20 = .int .i64 x20_2 ∧ Aside0 (impl_PuzzleValid.l0 kq l0_2 (l0_2.length : Int) x20_2 a0_0 l0_1 l0_2 = some r) ∧ Aside0 (kq ≤ kj1) ∧ Aside0 (w'.heap[gb692]? = some (.cells #[.int .i64 a0_0, (.slice A0_1 l0_1.length c0_1), (.slice A0_2 l0_2.length c0_2)] 37 (0, 0))) ∧ Aside0 (Below w.heap.size w w'))
        case atStart => exact ⟨(0), (by first | rfl | (simp; done) | (simp [*]; done)), H', ⟨Nat.le_refl _⟩, ⟨by (with_reducible repeat (first | refine blk_drewN ?_ _ | refine blk_drew ?_ | refine blk_alloc ?_ _)); exact BK692.out⟩, ⟨by repeat (first | (with_reducible first | exact HB.out | apply below_alloc | apply pw_below_drewN | apply below_drew1 | refine below_set ?_ GE692.out) | exact HB.out)⟩⟩
        case round =>
          clear H'
          try clear p2
          try clear c5
          try clear c6
          try clear c7
          try clear c8
          try clear hcz6_0
          try clear hcz6_1
          try clear hcz6_2
          try clear hcz7_0
          try clear hcz7_1
          try clear hcz7_2
          try clear hcz9_0
          try clear hcz9_1
          try clear hcz9_2
          try clear hfz6_0
          try clear hfz6_1
          try clear hfz6_2
          try clear hfz7_0
          try clear hfz7_1
          try clear hfz7_2
          try clear hfz9_0
          try clear hfz9_1
          try clear hfz9_2
          try clear p2
          obtain ⟨x20_2, rfl, HA, HK2, BK692, HB⟩ := hrel
          cases gk with
          | zero => exact absurd HA.out (by simp [impl_PuzzleValid.l0])
          | succ k2 =>
            have H := HA.out
            clear HA
            simp only [impl_PuzzleValid.l0] at H
            by_cases c10 : x20_2 < (l0_2.length : Int)
            · rw [if_pos c10] at H
              have c10b0 : decide (x20_2 < (l0_2.length : Int)) = true := decide_eq_true c10
              clear c10
              by_cases c11 : 0 ≤ x20_2
              · rw [if_pos c11] at H
                have c11b0 : decide (0 ≤ x20_2) = true := decide_eq_true c11
                clear c11
                by_cases c12 : x20_2 < (l0_2.length : Int)
                · rw [if_pos c12] at H
                  have c12b0 : decide (x20_2 < (l0_2.length : Int)) = true := decide_eq_true c12
                  clear c12
                  replace H := Option.bind_eq_some_iff.mp H
                  obtain ⟨t696, A130, H⟩ := H
                  replace H : (if t696 = true then (impl_PuzzleValid.l0 k2 l0_2 (l0_2.length : Int) (wrap64 (x20_2 + 1)) a0_0 l0_1 l0_2) else (some false)) = some r := H
                  have A13 := Aside0.mk A130
                  clear A130
                  by_cases c14 : t696 = true
                  · subst c14
                    have H1 : (impl_PuzzleValid.l0 k2 l0_2 (l0_2.length : Int) (wrap64 (x20_2 + 1)) a0_0 l0_1 l0_2) = some r := by rw [if_pos rfl] at H; exact H
                    clear H
                    have H := H1
                    clear H1
                    have H' := Aside0.mk H
                    clear H
                    have p694 : 0 ≤ (x20_2 : Int) := of_decide_eq_true (by first | (with_reducible assumption) | assumption)
                    have q694 : x20_2 < (l0_2.length : Int) := of_decide_eq_true (by first | (with_reducible assumption) | assumption)
                    obtain ⟨ad694, A694_1, c694_1, e694, hx694_0, hx694_1, hx694_2, hl694_1, hi694_1⟩ := at_T29 HR0_2.out x20_2 p694 q694
                    cases e694
                    replace hx694_0 := (HB.out.cell (World.block_lt_of_cell? w _ hx694_0)).trans hx694_0
                    replace hx694_1 := (HB.out.cell (World.block_lt_of_cell? w _ hx694_1)).trans hx694_1
                    replace hx694_2 := (HB.out.cell (World.block_lt_of_cell? w _ hx694_2)).trans hx694_2
                    have HR694_1 := Aside0.mk hi694_1
                    have HC694_1 := Aside0.mk hl694_1
                    clear hi694_1 hl694_1
                    replace p694 := eq_true p694
                    replace q694 := eq_true q694
                    go_wp2_with (first | ((with_reducible refine gate_dst (N := 4) rfl ?_); (try (refine gate_guard (by rfl) ?_; dsimp only)); refine box_event ?hg (N := 4) ?hd (cs := #[.int .i64 0, .slice none 0 0, .int .i64 0]) (t := 29) ?hr ?_; (case hd => rfl); (case hg => rfl); (case hr => first | (go_simp; done) | (go_simp; rfl)); intro gb695 hg w15 hbox hb; have n0_ := Aside0.mk (blk_below (g := gb692) (o := .cells #[.int .i64 a0_0, .slice A0_1 l0_1.length c0_1, .slice (some ad694) l0_2.length c0_2] 37 (0, 0)) (by (with_reducible repeat (first | refine blk_drewN ?_ _ | refine blk_drew ?_ | refine blk_alloc ?_ _)); exact BK692.out) hb); have n1_ := Aside0.mk (below_step (by repeat (first | (with_reducible first | exact HB.out | apply below_alloc | apply pw_below_drewN | apply below_drew1 | refine below_set ?_ GE692.out) | exact HB.out)) hb); have n2_ := Aside0.mk (hbox); have n3_ := Aside0.mk ((by rw [hg]; exact (below_size (by repeat (first | (with_reducible first | exact HB.out | apply below_alloc | apply pw_below_drewN | apply below_drew1 | refine below_set ?_ GE692.out) | exact HB.out))) : w.heap.size ≤ gb695)); have n4_ := Aside0.mk ((by rw [hg]; exact (below_size (by repeat (first | (with_reducible first | exact HB.out | apply below_alloc | apply pw_below_drewN | apply below_drew1 | refine below_set ?_ GE692.out) | exact HB.out))) : w.heap.size ≤ gb695)); have n5_ := Aside0.mk ((by rw [hg]; exact Nat.ne_of_lt (blk_lt (g := gb692) (o := .cells #[.int .i64 a0_0, .slice A0_1 l0_1.length c0_1, .slice (some ad694) l0_2.length c0_2] 37 (0, 0)) (by (with_reducible repeat (first | refine blk_drewN ?_ _ | refine blk_drew ?_ | refine blk_alloc ?_ _)); exact BK692.out)) : gb692 ≠ gb695)); have n6_ := Aside0.mk ((by rw [hg]; exact Nat.ne_of_gt (blk_lt (g := gb692) (o := .cells #[.int .i64 a0_0, .slice A0_1 l0_1.length c0_1, .slice (some ad694) l0_2.length c0_2] 37 (0, 0)) (by (with_reducible repeat (first | refine blk_drewN ?_ _ | refine blk_drew ?_ | refine blk_alloc ?_ _)); exact BK692.out)) : gb695 ≠ gb692)); clear BK692; clear HB; have BK692 := n0_; have HB := n1_; have BK695 := n2_; have GW695 := n3_; have GE695 := n4_; have NB692_695 := n5_; have NB695_692 := n6_; clear n0_ n1_ n2_ n3_ n4_ n5_ n6_; clear hb hbox hg; have hnb16 := NB695_692.out; have hnc16 := NB692_695.out; have hcz17_0 : w15.cell? ⟨gb695, 0, none⟩ = some (.int .i64 0) := (blk_cell BK695.out 0).trans rfl; have hcz17_1 : w15.cell? ⟨gb695, 1, none⟩ = some (.slice none 0 0) := (blk_cell BK695.out 1).trans rfl; have hcz17_2 : w15.cell? ⟨gb695, 2, none⟩ = some (.int .i64 0) := (blk_cell BK695.out 2).trans rfl; have hfz17_0 := blk_frozen BK695.out 0; have hfz17_1 := blk_frozen BK695.out 1; have hfz17_2 := blk_frozen BK695.out 2; have hcz18_0 : w15.cell? ⟨gb692, 0, none⟩ = some (.int .i64 a0_0) := (blk_cell BK692.out 0).trans rfl; have hcz18_1 : w15.cell? ⟨gb692, 1, none⟩ = some (.slice A0_1 l0_1.length c0_1) := (blk_cell BK692.out 1).trans rfl; have hcz18_2 : w15.cell? ⟨gb692, 2, none⟩ = some (.slice (some ad694) l0_2.length c0_2) := (blk_cell BK692.out 2).trans rfl; have hfz18_0 := blk_frozen BK692.out 0; have hfz18_1 := blk_frozen BK692.out 1; have hfz18_2 := blk_frozen BK692.out 2) | ((with_reducible refine gate_callee (f := 57) rfl ?_); refine goesL_ (some 27) rfl rfl Try.func57 (by kernel_rfl) rfl #[.agg #[.int .i64 ((rd_T29 l0_2 x20_2).f0), .slice A694_1 ((rd_T29 l0_2 x20_2).f1).length c694_1, .int .i64 ((rd_T29 l0_2 x20_2).f2)], .int .i64 a0_0] rfl (by (try simp only [List.map_toArray, List.map_cons, List.map_nil]); first | done | rfl | (simp only [List.length_drop, List.length_take]; rfl)) ?_; (with_reducible refine (impl_RuleValid.calls k2 ((rd_T29 l0_2 x20_2).f0) _ _ ((rd_T29 l0_2 x20_2).f1) ((rd_T29 l0_2 x20_2).f2) a0_0 true _ ?side1 ?side2 A13.out).mono ?_); (case side1 => exact Kd.C_below HR694_1.out (by repeat (first | (with_reducible first | exact HB.out | apply below_alloc | apply pw_below_drewN | apply below_drew1 | refine below_set ?_ GE692.out | refine below_set ?_ GE695.out) | exact HB.out))); (case side2 => exact HC694_1.out); rintro e w19 ⟨rfl, hb⟩; refine ⟨_, rfl, ?_⟩; have n0_ := Aside0.mk (blk_below (g := gb692) (o := .cells #[.int .i64 a0_0, .slice A0_1 l0_1.length c0_1, .slice (some ad694) l0_2.length c0_2] 37 (0, 0)) (by (with_reducible repeat (first | refine blk_drewN ?_ _ | refine blk_drew ?_ | refine blk_alloc ?_ _)); refine blk_far ?_ NB692_695.out _; (with_reducible repeat (first | refine blk_drewN ?_ _ | refine blk_drew ?_ | refine blk_alloc ?_ _)); refine blk_far ?_ NB692_695.out _; (with_reducible repeat (first | refine blk_drewN ?_ _ | refine blk_drew ?_ | refine blk_alloc ?_ _)); refine blk_far ?_ NB692_695.out _; (with_reducible repeat (first | refine blk_drewN ?_ _ | refine blk_drew ?_ | refine blk_alloc ?_ _)); exact BK692.out) hb); have n1_ := Aside0.mk (blk_below (g := gb695) (o := .cells #[.int .i64 ((rd_T29 l0_2 x20_2).f0), .slice A694_1 ((rd_T29 l0_2 x20_2).f1).length c694_1, .int .i64 ((rd_T29 l0_2 x20_2).f2)] 29 (0, 0)) (by (with_reducible repeat (first | refine blk_drewN ?_ _ | refine blk_drew ?_ | refine blk_alloc ?_ _)); refine blk_put (cs := #[.int .i64 ((rd_T29 l0_2 x20_2).f0), .slice A694_1 ((rd_T29 l0_2 x20_2).f1).length c694_1, .int .i64 0]) ?_ 2 _ rfl; (with_reducible repeat (first | refine blk_drewN ?_ _ | refine blk_drew ?_ | refine blk_alloc ?_ _)); refine blk_put (cs := #[.int .i64 ((rd_T29 l0_2 x20_2).f0), .slice none 0 0, .int .i64 0]) ?_ 1 _ rfl; (with_reducible repeat (first | refine blk_drewN ?_ _ | refine blk_drew ?_ | refine blk_alloc ?_ _)); refine blk_put (cs := #[.int .i64 0, .slice none 0 0, .int .i64 0]) ?_ 0 _ rfl; (with_reducible repeat (first | refine blk_drewN ?_ _ | refine blk_drew ?_ | refine blk_alloc ?_ _)); exact BK695.out) hb); have n2_ := Aside0.mk (below_step (by repeat (first | (with_reducible first | exact HB.out | apply below_alloc | apply pw_below_drewN | apply below_drew1 | refine below_set ?_ GE692.out | refine below_set ?_ GE695.out) | exact HB.out)) hb); clear BK692; clear BK695; clear HB; have BK692 := n0_; have BK695 := n1_; have HB := n2_; clear n0_ n1_ n2_; (try clear hb); (try clear hb2); (try clear hk); (try clear hi)))
                    go_roundg k2
                    case measure => have := HJ1.out; have := HK2.out; omega
                    case rel => exact ⟨(wrap64 (x20_2 + 1)), (by first | rfl | (simp; done) | (simp [*]; done)), H', ⟨by have := HJ1.out; have := HK2.out; omega⟩, ⟨by (with_reducible repeat (first | refine blk_drewN ?_ _ | refine blk_drew ?_ | refine blk_alloc ?_ _)); exact BK692.out⟩, ⟨by repeat (first | (with_reducible first | exact HB.out | apply below_alloc | apply pw_below_drewN | apply below_drew1 | refine below_set ?_ GE692.out | refine below_set ?_ GE695.out) | exact HB.out)⟩⟩
                  · replace c14 := Bool.eq_false_iff.mpr c14
                    subst c14
                    have H1 : (some false) = some r := by rw [if_neg (show ¬ (false = true) by decide)] at H; exact H
                    clear H
                    have H := H1
                    clear H1
                    obtain rfl := Option.some.inj H
                    have p694 : 0 ≤ (x20_2 : Int) := of_decide_eq_true (by first | (with_reducible assumption) | assumption)
                    have q694 : x20_2 < (l0_2.length : Int) := of_decide_eq_true (by first | (with_reducible assumption) | assumption)
                    obtain ⟨ad694, A694_1, c694_1, e694, hx694_0, hx694_1, hx694_2, hl694_1, hi694_1⟩ := at_T29 HR0_2.out x20_2 p694 q694
                    cases e694
                    replace hx694_0 := (HB.out.cell (World.block_lt_of_cell? w _ hx694_0)).trans hx694_0
                    replace hx694_1 := (HB.out.cell (World.block_lt_of_cell? w _ hx694_1)).trans hx694_1
                    replace hx694_2 := (HB.out.cell (World.block_lt_of_cell? w _ hx694_2)).trans hx694_2
                    have HR694_1 := Aside0.mk hi694_1
                    have HC694_1 := Aside0.mk hl694_1
                    clear hi694_1 hl694_1
                    replace p694 := eq_true p694
                    replace q694 := eq_true q694
                    go_wp2_with (first | ((with_reducible refine gate_dst (N := 4) rfl ?_); (try (refine gate_guard (by rfl) ?_; dsimp only)); refine box_event ?hg (N := 4) ?hd (cs := #[.int .i64 0, .slice none 0 0, .int .i64 0]) (t := 29) ?hr ?_; (case hd => rfl); (case hg => rfl); (case hr => first | (go_simp; done) | (go_simp; rfl)); intro gb695 hg w20 hbox hb; have n0_ := Aside0.mk (blk_below (g := gb692) (o := .cells #[.int .i64 a0_0, .slice A0_1 l0_1.length c0_1, .slice (some ad694) l0_2.length c0_2] 37 (0, 0)) (by (with_reducible repeat (first | refine blk_drewN ?_ _ | refine blk_drew ?_ | refine blk_alloc ?_ _)); exact BK692.out) hb); have n1_ := Aside0.mk (below_step (by repeat (first | (with_reducible first | exact HB.out | apply below_alloc | apply pw_below_drewN | apply below_drew1 | refine below_set ?_ GE692.out) | exact HB.out)) hb); have n2_ := Aside0.mk (hbox); have n3_ := Aside0.mk ((by rw [hg]; exact (below_size (by repeat (first | (with_reducible first | exact HB.out | apply below_alloc | apply pw_below_drewN | apply below_drew1 | refine below_set ?_ GE692.out) | exact HB.out))) : w.heap.size ≤ gb695)); have n4_ := Aside0.mk ((by rw [hg]; exact (below_size (by repeat (first | (with_reducible first | exact HB.out | apply below_alloc | apply pw_below_drewN | apply below_drew1 | refine below_set ?_ GE692.out) | exact HB.out))) : w.heap.size ≤ gb695)); have n5_ := Aside0.mk ((by rw [hg]; exact Nat.ne_of_lt (blk_lt (g := gb692) (o := .cells #[.int .i64 a0_0, .slice A0_1 l0_1.length c0_1, .slice (some ad694) l0_2.length c0_2] 37 (0, 0)) (by (with_reducible repeat (first | refine blk_drewN ?_ _ | refine blk_drew ?_ | refine blk_alloc ?_ _)); exact BK692.out)) : gb692 ≠ gb695)); have n6_ := Aside0.mk ((by rw [hg]; exact Nat.ne_of_gt (blk_lt (g := gb692) (o := .cells #[.int .i64 a0_0, .slice A0_1 l0_1.length c0_1, .slice (some ad694) l0_2.length c0_2] 37 (0, 0)) (by (with_reducible repeat (first | refine blk_drewN ?_ _ | refine blk_drew ?_ | refine blk_alloc ?_ _)); exact BK692.out)) : gb695 ≠ gb692)); clear BK692; clear HB; have BK692 := n0_; have HB := n1_; have BK695 := n2_; have GW695 := n3_; have GE695 := n4_; have NB692_695 := n5_; have NB695_692 := n6_; clear n0_ n1_ n2_ n3_ n4_ n5_ n6_; clear hb hbox hg; have hnb21 := NB695_692.out; have hnc21 := NB692_695.out; have hcz22_0 : w20.cell? ⟨gb695, 0, none⟩ = some (.int .i64 0) := (blk_cell BK695.out 0).trans rfl; have hcz22_1 : w20.cell? ⟨gb695, 1, none⟩ = some (.slice none 0 0) := (blk_cell BK695.out 1).trans rfl; have hcz22_2 : w20.cell? ⟨gb695, 2, none⟩ = some (.int .i64 0) := (blk_cell BK695.out 2).trans rfl; have hfz22_0 := blk_frozen BK695.out 0; have hfz22_1 := blk_frozen BK695.out 1; have hfz22_2 := blk_frozen BK695.out 2; have hcz23_0 : w20.cell? ⟨gb692, 0, none⟩ = some (.int .i64 a0_0) := (blk_cell BK692.out 0).trans rfl; have hcz23_1 : w20.cell? ⟨gb692, 1, none⟩ = some (.slice A0_1 l0_1.length c0_1) := (blk_cell BK692.out 1).trans rfl; have hcz23_2 : w20.cell? ⟨gb692, 2, none⟩ = some (.slice (some ad694) l0_2.length c0_2) := (blk_cell BK692.out 2).trans rfl; have hfz23_0 := blk_frozen BK692.out 0; have hfz23_1 := blk_frozen BK692.out 1; have hfz23_2 := blk_frozen BK692.out 2) | ((with_reducible refine gate_callee (f := 57) rfl ?_); refine goesL_ (some 27) rfl rfl Try.func57 (by kernel_rfl) rfl #[.agg #[.int .i64 ((rd_T29 l0_2 x20_2).f0), .slice A694_1 ((rd_T29 l0_2 x20_2).f1).length c694_1, .int .i64 ((rd_T29 l0_2 x20_2).f2)], .int .i64 a0_0] rfl (by (try simp only [List.map_toArray, List.map_cons, List.map_nil]); first | done | rfl | (simp only [List.length_drop, List.length_take]; rfl)) ?_; (with_reducible refine (impl_RuleValid.calls k2 ((rd_T29 l0_2 x20_2).f0) _ _ ((rd_T29 l0_2 x20_2).f1) ((rd_T29 l0_2 x20_2).f2) a0_0 false _ ?side1 ?side2 A13.out).mono ?_); (case side1 => exact Kd.C_below HR694_1.out (by repeat (first | (with_reducible first | exact HB.out | apply below_alloc | apply pw_below_drewN | apply below_drew1 | refine below_set ?_ GE692.out | refine below_set ?_ GE695.out) | exact HB.out))); (case side2 => exact HC694_1.out); rintro e w24 ⟨rfl, hb⟩; refine ⟨_, rfl, ?_⟩; have n0_ := Aside0.mk (blk_below (g := gb692) (o := .cells #[.int .i64 a0_0, .slice A0_1 l0_1.length c0_1, .slice (some ad694) l0_2.length c0_2] 37 (0, 0)) (by (with_reducible repeat (first | refine blk_drewN ?_ _ | refine blk_drew ?_ | refine blk_alloc ?_ _)); refine blk_far ?_ NB692_695.out _; (with_reducible repeat (first | refine blk_drewN ?_ _ | refine blk_drew ?_ | refine blk_alloc ?_ _)); refine blk_far ?_ NB692_695.out _; (with_reducible repeat (first | refine blk_drewN ?_ _ | refine blk_drew ?_ | refine blk_alloc ?_ _)); refine blk_far ?_ NB692_695.out _; (with_reducible repeat (first | refine blk_drewN ?_ _ | refine blk_drew ?_ | refine blk_alloc ?_ _)); exact BK692.out) hb); have n1_ := Aside0.mk (blk_below (g := gb695) (o := .cells #[.int .i64 ((rd_T29 l0_2 x20_2).f0), .slice A694_1 ((rd_T29 l0_2 x20_2).f1).length c694_1, .int .i64 ((rd_T29 l0_2 x20_2).f2)] 29 (0, 0)) (by (with_reducible repeat (first | refine blk_drewN ?_ _ | refine blk_drew ?_ | refine blk_alloc ?_ _)); refine blk_put (cs := #[.int .i64 ((rd_T29 l0_2 x20_2).f0), .slice A694_1 ((rd_T29 l0_2 x20_2).f1).length c694_1, .int .i64 0]) ?_ 2 _ rfl; (with_reducible repeat (first | refine blk_drewN ?_ _ | refine blk_drew ?_ | refine blk_alloc ?_ _)); refine blk_put (cs := #[.int .i64 ((rd_T29 l0_2 x20_2).f0), .slice none 0 0, .int .i64 0]) ?_ 1 _ rfl; (with_reducible repeat (first | refine blk_drewN ?_ _ | refine blk_drew ?_ | refine blk_alloc ?_ _)); refine blk_put (cs := #[.int .i64 0, .slice none 0 0, .int .i64 0]) ?_ 0 _ rfl; (with_reducible repeat (first | refine blk_drewN ?_ _ | refine blk_drew ?_ | refine blk_alloc ?_ _)); exact BK695.out) hb); have n2_ := Aside0.mk (below_step (by repeat (first | (with_reducible first | exact HB.out | apply below_alloc | apply pw_below_drewN | apply below_drew1 | refine below_set ?_ GE692.out | refine below_set ?_ GE695.out) | exact HB.out)) hb); clear BK692; clear BK695; clear HB; have BK692 := n0_; have BK695 := n1_; have HB := n2_; clear n0_ n1_ n2_; (try clear hb); (try clear hb2); (try clear hk); (try clear hi)))
                    go_ret
                    exact ⟨by first | rfl | (simp [errW_none, errW_some] <;> rfl) | (simp [*, errW_none, errW_some] <;> rfl), by repeat (first | (with_reducible first | exact HB.out | apply below_alloc | apply pw_below_drewN | apply below_drew1 | refine below_set ?_ GE692.out | refine below_set ?_ GE695.out) | exact HB.out)⟩
                · rw [if_neg c12] at H
                  exact absurd H (by simp)
              · rw [if_neg c11] at H
                exact absurd H (by simp)
            · rw [if_neg c10] at H
              have c10b0 : decide (x20_2 < (l0_2.length : Int)) = false := decide_eq_false c10
              clear c10
              obtain rfl := Option.some.inj H
              go_wp2
              go_ret
              exact ⟨by first | rfl | (simp [errW_none, errW_some] <;> rfl) | (simp [*, errW_none, errW_some] <;> rfl), by repeat (first | (with_reducible first | exact HB.out | apply below_alloc | apply pw_below_drewN | apply below_drew1 | refine below_set ?_ GE692.out) | exact HB.out)⟩
def impl_allValues.f (a0 : Int) : Option (Int) := if 0 ≤ (wrap64 (a0 + 1)) then (some (wrap64 ((shl .i64 1 (wrap64 (a0 + 1))) - 2))) else (none)
set_option maxHeartbeats 8000000 in
set_option maxRecDepth 100000 in
theorem impl_allValues.calls (a0 : Int) (r : Int) (w : World) (h : impl_allValues.f a0 = some r) :
    Calls Try.prog 112 #[.int .i64 a0] w fun e w' => e = .returned (.int .i64 r) ∧ Drawn0 w w' := by
  have H : (if 0 ≤ (wrap64 (a0 + 1)) then (some (wrap64 ((shl .i64 1 (wrap64 (a0 + 1))) - 2))) else (none)) = some r := h
  clear h
  obtain ⟨ji2, hji2⟩ : ∃ j_ : Int, (wrap64 (a0 + 1)) = j_ := ⟨_, rfl⟩
  replace H : (if 0 ≤ (ji2) then (some (wrap64 ((shl .i64 1 (ji2)) - 2))) else (none)) = some r := by first | (rw [hji2] at H; exact H) | (simp only [hji2] at H ⊢; exact H)
  have hji2w : (IntKind.i64.wrap (a0 + 1)) = ji2 := (i64_w _).trans hji2
  by_cases c3 : 0 ≤ (ji2)
  · rw [if_pos c3] at H
    have c3b0 := eq_true c3
    have c3b1 : decide (0 ≤ (ji2)) = true := decide_eq_true c3
    clear c3
    obtain ⟨ji4, hji4⟩ : ∃ j_ : Int, (shl .i64 1 (ji2)) = j_ := ⟨_, rfl⟩
    replace H : (some (wrap64 ((ji4) - 2))) = some r := by first | (rw [hji4] at H; exact H) | (simp only [hji4] at H ⊢; exact H)
    have hji4_ : (IntKind.i64.wrap (1 * 2 ^ min (ji2).toNat 64)) = ji4 := hji4
    have hji4z : (ji2) ≤ 64 → (IntKind.i64.wrap (1 * 2 ^ (ji2).toNat)) = ji4 := shl_small hji4
    have hji4u : (IntKind.i64.wrap (2 ^ min (ji2).toNat 64)) = ji4 := by have h_ := hji4_; rw [Int.one_mul] at h_; exact h_
    have hji4v : (ji2) ≤ 64 → (IntKind.i64.wrap (2 ^ (ji2).toNat)) = ji4 := fun hle_ => by have h_ := hji4z hle_; rw [Int.one_mul] at h_; exact h_
    have hji4y : (wrap64 (1 * 2 ^ min (ji2).toNat 64)) = ji4 := (i64_w _).symm.trans hji4_
    have hji4x : (ji2) ≤ 64 → (wrap64 (1 * 2 ^ (ji2).toNat)) = ji4 := fun h_ => (i64_w _).symm.trans (hji4z h_)
    obtain rfl := Option.some.inj H
    go_enter Try.func112, Try.ntmps112
    go_wp2
    go_ret
    exact ⟨by first | rfl | (simp; done) | (simp only [← hji2, ← hji4] <;> (first | rfl | simp)) | (simp [*]; done), by repeat (first | exact Drawn0.refl _ | apply Drawn0.step)⟩
  · rw [if_neg c3] at H
    exact absurd H (by simp)
end Go.Proofs.Ytbcikbekdhdpaaa.Q
end
section
namespace Go.Proofs.Ytbcikbekdhdpaaa.Q
open Go.RowKit Go.Proofs.YtbcikbekdhdpaaaW.PrintWords Go.Proofs.YtbcikbekdhdpaaaW.PrintLast Go.Proofs.YtbcikbekdhdpaaaW.PrintMore
set_option linter.unusedVariables false
set_option linter.unusedSimpArgs false
def orUpto : Nat → List Int → List Int → List Int
  | i + 1, o :: os, v :: vs => Go.bits .or .i64 o (shl .i64 1 v) :: orUpto i os vs
  | _, os, _ => os
def orAll (os vs : List Int) : List Int := orUpto vs.length os vs
theorem orUpto_zero (os vs : List Int) : orUpto 0 os vs = os := by cases os <;> cases vs <;> rfl
theorem orUpto_len : ∀ (i : Nat) (os vs : List Int), (orUpto i os vs).length = os.length
  | 0, os, vs => by rw [orUpto_zero]
  | _ + 1, [], _ => rfl
  | _ + 1, _ :: _, [] => rfl
  | i + 1, o :: os, v :: vs => by rw [orUpto, List.length_cons, List.length_cons, orUpto_len i os vs]
theorem orUpto_succ : ∀ (i : Nat) (os vs : List Int), i < os.length → i < vs.length → (orUpto i os vs).set i (Go.bits .or .i64 (rd (orUpto i os vs) (i : Int)) (shl .i64 1 (rd vs (i : Int)))) = orUpto (i + 1) os vs
  | 0, o :: os, v :: vs, _, _ => by
    rw [orUpto_zero, orUpto, orUpto_zero]; rfl
  | i + 1, o :: os, v :: vs, h1, h2 => by
    have ih := orUpto_succ i os vs (by simpa using h1) (by simpa using h2)
    rw [orUpto, orUpto, ← ih]
    have e : ∀ (a : Int) (l : List Int), rd (a :: l) ((i + 1 : Nat) : Int) = rd l (i : Int) := fun a l => by unfold rd; rw [Int.toNat_natCast, Int.toNat_natCast, List.getD_cons_succ]
    rw [e, e, List.set_cons_succ]
abbrev Two := List Int × List Int
def foldS (f : Int → Two → Option Two) : List Int → Two → Option Two
  | [], s => some s
  | v :: r, s => (f v s).bind (foldS f r)
def bitAt (m v : Int) : Bool := Go.bits .and .i64 (shr .i64 m v) 1 == 1
def tryF (k : Nat) (kind : Int) (cells : List Int) (value : Int) (own : List Int) : Nat → Two → Option Two
  | 0, s => (impl_valuesHold.f k kind cells value s.1).bind fun b => if s.1.all (fun v => decide (0 ≤ v)) = true then some (s.1, if b = true then orAll s.2 s.1 else s.2) else none
  | m + 1, s => foldS (fun v t => if bitAt (rd own ((own.length : Int) - ((m + 1 : Nat) : Int))) v = true then tryF k kind cells value own m (t.1.set (own.length - (m + 1)) v, t.2) else some t) [1, 2, 3, 4] s
def impl_ruleMasks.f (k : Nat) (kind : Int) (cells : List Int) (value : Int) (own : List Int) : Option (List Int) :=
  if 0 < own.length then (if own.length ≤ 1000 then (tryF k kind cells value own own.length (List.replicate own.length 0, List.replicate own.length 0)).bind fun s => some s.2 else none) else none
theorem foldS_mono {f g : Int → Two → Option Two} (h : ∀ v s, LeO (f v s) (g v s)) : ∀ l s, LeO (foldS f l s) (foldS g l s)
  | [], s => LeO.refl _
  | v :: r, s => LeO.bind (h v s) (foldS_mono h r)
theorem tryF_mono (kind : Int) (cells : List Int) (value : Int) (own : List Int) (k : Nat) : ∀ m s, LeO (tryF k kind cells value own m s) (tryF (k + 1) kind cells value own m s)
  | 0, s => LeO.bind (impl_valuesHold.mono kind cells value s.1 k) (fun _ => LeO.refl _)
  | m + 1, s => foldS_mono (fun v t => LeO.ite (tryF_mono kind cells value own k m _) (LeO.refl _)) _ _
theorem impl_ruleMasks.mono (kind : Int) (cells : List Int) (value : Int) (own : List Int) (k : Nat) : LeO (impl_ruleMasks.f k kind cells value own) (impl_ruleMasks.f (k + 1) kind cells value own) :=
  LeO.ite (LeO.ite (LeO.bind (tryF_mono kind cells value own k _ _) (fun _ => LeO.refl _)) (LeO.refl _)) (LeO.refl _)
structure RM (w : World) (B bo br bv bO bt V O : Nat) (kind : Int) (cells : List Int) (value : Int) (own vals outs : List Int) (Ao Ac : Option Addr) (co cc cV cO : Nat) : Prop where
  own_ : w.cell? ⟨bo, 0, none⟩ = some (.slice Ao own.length co)
  ownC : Kd.F (Kd.int .i64) w (fun k => k < B) Ao own.length own
  r0 : w.cell? ⟨br, 0, none⟩ = some (.int .i64 kind)
  r1 : w.cell? ⟨br, 1, none⟩ = some (.slice Ac cells.length cc)
  r2 : w.cell? ⟨br, 2, none⟩ = some (.int .i64 value)
  rC : Kd.F (Kd.int .i64) w (fun k => k < B) Ac cells.length cells
  v_ : w.cell? ⟨bv, 0, none⟩ = some (.slice (some ⟨V, 0, none⟩) own.length cV)
  o_ : w.cell? ⟨bO, 0, none⟩ = some (.slice (some ⟨O, 0, none⟩) own.length cO)
  t_ : w.cell? ⟨bt, 0, none⟩ = some (.func (.func 122) #[] #[.pointer (some ⟨bo, 0, none⟩), .pointer (some ⟨br, 0, none⟩), .pointer (some ⟨bv, 0, none⟩), .pointer (some ⟨bO, 0, none⟩), .pointer (some ⟨bt, 0, none⟩)])
  rowV : Kd.R (Kd.int .i64) 3 w B (fun k => k = V) (.slice (some ⟨V, 0, none⟩) own.length cV) vals
  rowO : Kd.R (Kd.int .i64) 3 w B (fun k => k = O) (.slice (some ⟨O, 0, none⟩) own.length cO) outs
  nv : vals.length = own.length
  no : outs.length = own.length
  bs : B ≤ w.heap.size
structure RMs (B bo br bv bO bt V O : Nat) (cells own : List Int) (co cc : Nat) : Prop where
  lc : cells.length ≤ cc
  l1 : 0 < own.length
  l2 : own.length ≤ 1000
  hV : B ≤ V
  hO : B ≤ O
  vo : V ≠ O
  a : bo ≠ V ∧ bo ≠ O
  b : br ≠ V ∧ br ≠ O
  c : bv ≠ V ∧ bv ≠ O
  d : bO ≠ V ∧ bO ≠ O
  e : bt ≠ V ∧ bt ≠ O
section
variable {w w1 : World} {B bo br bv bO bt V O : Nat} {kind : Int} {cells : List Int} {value : Int} {own vals outs : List Int} {Ao Ac : Option Addr} {co cc cV cO : Nat}
theorem RM.kept (h : RM w B bo br bv bO bt V O kind cells value own vals outs Ao Ac co cc cV cO) (s : RMs B bo br bv bO bt V O cells own co cc) {S : Nat → Prop} (hk : Kept w w1 S) (hS : ∀ k, S k → False) : RM w1 B bo br bv bO bt V O kind cells value own vals outs Ao Ac co cc cV cO :=
  ⟨cell_kept h.own_ hk (fun z => hS _ z), Kd.F_kept h.ownC hk (fun k _ z => hS _ z), cell_kept h.r0 hk (fun z => hS _ z), cell_kept h.r1 hk (fun z => hS _ z), cell_kept h.r2 hk (fun z => hS _ z), Kd.F_kept h.rC hk (fun k _ z => hS _ z),
   cell_kept h.v_ hk (fun z => hS _ z), cell_kept h.o_ hk (fun z => hS _ z), cell_kept h.t_ hk (fun z => hS _ z), Kd.R_kept h.rowV hk (fun k _ z => hS _ z), Kd.R_kept h.rowO hk (fun k _ z => hS _ z), h.nv, h.no, Nat.le_trans h.bs hk.1⟩
theorem RM.below (h : RM w B bo br bv bO bt V O kind cells value own vals outs Ao Ac co cc cV cO) (s : RMs B bo br bv bO bt V O cells own co cc) (hb : Below w.heap.size w w1) : RM w1 B bo br bv bO bt V O kind cells value own vals outs Ao Ac co cc cV cO :=
  h.kept s (Kept.of_below hb (fun _ => False)) (fun _ z => z)
theorem RM.setV (h : RM w B bo br bv bO bt V O kind cells value own vals outs Ao Ac co cc cV cO) (s : RMs B bo br bv bO bt V O cells own co cc) (i : Int) (x : Int) : RM (w.setCell ⟨V, i.toNat, none⟩ (.int .i64 x)) B bo br bv bO bt V O kind cells value own (vals.set i.toNat x) outs Ao Ac co cc cV cO := by
  have hk : Kept w (w.setCell ⟨V, i.toNat, none⟩ (.int .i64 x)) (fun k => k = V) := Kept.setCell (Kept.refl w (fun k => k = V)) (p := ⟨V, i.toNat, none⟩) (.inl rfl) _
  exact ⟨cell_kept h.own_ hk s.a.1, Kd.F_kept h.ownC hk (fun k z e => by have := s.hV; omega), cell_kept h.r0 hk s.b.1, cell_kept h.r1 hk s.b.1, cell_kept h.r2 hk s.b.1, Kd.F_kept h.rC hk (fun k z e => by have := s.hV; omega),
    cell_kept h.v_ hk s.c.1, cell_kept h.o_ hk s.d.1, cell_kept h.t_ hk s.e.1, (Kd.R_putg h.rowV i x).1, Kd.R_kept h.rowO hk (fun k z e => s.vo (by rw [← e, z])), by rw [List.length_set]; exact h.nv, h.no, Nat.le_trans h.bs hk.1⟩
theorem RM.setO (h : RM w B bo br bv bO bt V O kind cells value own vals outs Ao Ac co cc cV cO) (s : RMs B bo br bv bO bt V O cells own co cc) (i : Int) (x : Int) : RM (w.setCell ⟨O, i.toNat, none⟩ (.int .i64 x)) B bo br bv bO bt V O kind cells value own vals (outs.set i.toNat x) Ao Ac co cc cV cO := by
  have hk : Kept w (w.setCell ⟨O, i.toNat, none⟩ (.int .i64 x)) (fun k => k = O) := Kept.setCell (Kept.refl w (fun k => k = O)) (p := ⟨O, i.toNat, none⟩) (.inl rfl) _
  exact ⟨cell_kept h.own_ hk s.a.2, Kd.F_kept h.ownC hk (fun k z e => by have := s.hO; omega), cell_kept h.r0 hk s.b.2, cell_kept h.r1 hk s.b.2, cell_kept h.r2 hk s.b.2, Kd.F_kept h.rC hk (fun k z e => by have := s.hO; omega),
    cell_kept h.v_ hk s.c.2, cell_kept h.o_ hk s.d.2, cell_kept h.t_ hk s.e.2, Kd.R_kept h.rowV hk (fun k z e => s.vo (by rw [← z, e])), (Kd.R_putg h.rowO i x).1, h.nv, by rw [List.length_set]; exact h.no, Nat.le_trans h.bs hk.1⟩
def RMpost (w : World) (B bo br bv bO bt V O : Nat) (kind : Int) (cells : List Int) (value : Int) (own : List Int) (t : Two) (Ao Ac : Option Addr) (co cc cV cO : Nat) (e : Ending) (w' : World) : Prop :=
  e = .returned (.tuple #[]) ∧ RM w' B bo br bv bO bt V O kind cells value own t.1 t.2 Ao Ac co cc cV cO ∧ Below B w w'
end
set_option maxHeartbeats 4000000 in
set_option maxRecDepth 100000 in
theorem try_leaf (k : Nat) (w : World) (B bo br bv bO bt V O : Nat) (kind : Int) (cells : List Int) (value : Int) (own vals outs : List Int) (Ao Ac : Option Addr) (co cc cV cO : Nat) (h : RM w B bo br bv bO bt V O kind cells value own vals outs Ao Ac co cc cV cO) (s : RMs B bo br bv bO bt V O cells own co cc)
    (t : Two) (ht : tryF k kind cells value own 0 (vals, outs) = some t) :
    Calls Try.prog 122 #[.int .i64 (own.length : Int), .pointer (some ⟨bo, 0, none⟩), .pointer (some ⟨br, 0, none⟩), .pointer (some ⟨bv, 0, none⟩), .pointer (some ⟨bO, 0, none⟩), .pointer (some ⟨bt, 0, none⟩)] w (RMpost w B bo br bv bO bt V O kind cells value own t Ao Ac co cc cV cO) := by
  have HS := Aside0.mk s
  have H := Aside0.mk h
  have c1 := h.own_
  have c2 := h.r0
  have c3 := h.r1
  have c4 := h.r2
  have c5 := h.v_
  have c6 := h.o_
  clear h s
  rw [tryF] at ht
  obtain ⟨b, hb, ht⟩ := Option.bind_eq_some_iff.1 ht
  have HV := Aside0.mk hb
  have HT := Aside0.mk ht
  clear hb ht
  have C1 : ∀ W, RM W B bo br bv bO bt V O kind cells value own vals outs Ao Ac co cc cV cO → Calls Try.prog 94 #[.agg #[.int .i64 kind, .slice Ac cells.length cc, .int .i64 value], .slice (some ⟨V, 0, none⟩) own.length cV] W fun e w' => e = .returned (.bool b) ∧ Below W.heap.size W w' := by
    intro W hW
    have hR := Kd.R_reads' hW.rowV
    have := impl_valuesHold.calls k kind Ac cc cells value (some ⟨V, 0, none⟩) cV vals b W (Kd.F_now hW.rC) HS.out.lc hR.2.2 (by rw [hW.nv]; exact hR.2.1) HV.out
    rw [hW.nv] at this
    exact this
  have C1H := Aside0.mk C1
  clear C1
  cases b with
  | false =>
    have HE : t = (vals, outs) := by
      have := HT.out
      by_cases hp : vals.all (fun v => decide (0 ≤ v)) = true
      · rw [if_pos hp, if_neg (by decide)] at this; exact (Option.some.inj this).symm
      · rw [if_neg hp] at this; cases this
    subst HE
    go_enter Try.func122, Try.ntmps122
    go_wp2_with (go_at_call 94; refine (C1H.out _ H.out).mono ?_; rintro e w1 ⟨rfl, hb⟩; have HB := Aside0.mk hb; clear hb)
    go_end0
    exact ⟨rfl, H.out.below HS.out HB.out, HB.out.mono H.out.bs⟩
  | true =>
    have HA : ∀ v ∈ vals, 0 ≤ v := by
      have := HT.out
      by_cases hp : vals.all (fun v => decide (0 ≤ v)) = true
      · intro v hv
        exact of_decide_eq_true (List.all_eq_true.1 hp v hv)
      · rw [if_neg hp] at this; cases this
    have HE : t = (vals, orAll outs vals) := by
      have := HT.out
      by_cases hp : vals.all (fun v => decide (0 ≤ v)) = true
      · rw [if_pos hp, if_pos rfl] at this; exact (Option.some.inj this).symm
      · rw [if_neg hp] at this; cases this
    subst HE
    have HAA := Aside0.mk HA
    clear HA
    go_enter Try.func122, Try.ntmps122
    go_wp2_with (go_at_call 94; refine (C1H.out _ H.out).mono ?_; rintro e w1 ⟨rfl, hb⟩; have HB := Aside0.mk hb; have H1 := Aside0.mk (H.out.below HS.out hb); clear hb; have d5 := H1.out.v_; have d6 := H1.out.o_)
    go_loopw [19] (fun v19 wr => ∃ i : Nat, i ≤ own.length ∧ v19 = .int .i64 i ∧ Aside0 (RM wr B bo br bv bO bt V O kind cells value own vals (orUpto i outs vals) Ao Ac co cc cV cO) ∧ Aside0 (Below B w wr)) (fun v19 _ => own.length - (intOf v19).toNat)
    case atStart => exact ⟨0, Nat.zero_le _, rfl, ⟨by rw [orUpto_zero]; exact H1.out⟩, ⟨HB.out.mono H.out.bs⟩⟩
    case round =>
      obtain ⟨i, hi, rfl, H2, HK⟩ := hrel
      have hl := HS.out.l2
      by_cases hlt : i < own.length
      · have e1 : wr.cell? ⟨V, (i : Int).toNat, none⟩ = some (.int .i64 (rd vals (i : Int))) := (Kd.R_celln (0 : Int) H2.out.rowV (i : Int) (by omega) (by omega)).1
        have e2 : wr.cell? ⟨O, (i : Int).toNat, none⟩ = some (.int .i64 (rd (orUpto i outs vals) (i : Int))) := (Kd.R_celln (0 : Int) H2.out.rowO (i : Int) (by omega) (by omega)).1
        have e3 := (Kd.R_celln (0 : Int) H2.out.rowO (i : Int) (by omega) (by omega)).2
        have hv0 : 0 ≤ rd vals (i : Int) := by
          have := H2.out.nv
          unfold rd
          rw [Int.toNat_natCast, List.getD_eq_getElem?_getD, List.getElem?_eq_getElem (by omega)]
          exact HAA.out _ (List.getElem_mem _)
        have HO := Aside0.mk (orUpto_succ i outs vals (by have := H2.out.no; rw [orUpto_len] at this; omega) (by have := H2.out.nv; omega))
        have HN := Aside0.mk (H2.out.setO HS.out (i : Int) (Go.bits .or .i64 (rd (orUpto i outs vals) (i : Int)) (shl .i64 1 (rd vals (i : Int)))))
        have e4 := H2.out.o_
        have e5 := H2.out.v_
        rw [Int.toNat_natCast] at e1 e2 e3
        generalize rd vals (i : Int) = x at e1 hv0 HO HN
        generalize rd (orUpto i outs vals) (i : Int) = y at e2 HO HN
        obtain ⟨j, hj⟩ : ∃ j_ : Int, shl .i64 1 x = j_ := ⟨_, rfl⟩
        rw [hj] at HO HN
        have hj1 : (IntKind.i64.wrap (1 * 2 ^ min x.toNat 64)) = j := hj
        have hjz : x ≤ 64 → (IntKind.i64.wrap (1 * 2 ^ x.toNat)) = j := shl_small hj
        have hju : (IntKind.i64.wrap (2 ^ min x.toNat 64)) = j := by have h_ := hj1; rw [Int.one_mul] at h_; exact h_
        have hjv : x ≤ 64 → (IntKind.i64.wrap (2 ^ x.toNat)) = j := fun hle_ => by have h_ := hjz hle_; rw [Int.one_mul] at h_; exact h_
        have hjy : (wrap64 (1 * 2 ^ min x.toNat 64)) = j := (i64_w _).symm.trans hj1
        have hjx : x ≤ 64 → (wrap64 (1 * 2 ^ x.toNat)) = j := fun h_ => (i64_w _).symm.trans (hjz h_)
        have hx0 := eq_true hv0
        clear hj hv0
        go_wp2
        go_region
        all_goals go_wp2
        go_roundw
        case rel =>
          refine ⟨i + 1, by omega, by go_num, ⟨?_⟩, ⟨?_⟩⟩
          · have hN := HN.out
            rw [Int.toNat_natCast, HO.out] at hN
            exact hN.below HS.out (below_drew (Below.refl _ _))
          · exact below_drew (HK.out.setCell (p := ⟨O, i, none⟩) HS.out.hO _)
        case measure => simp [intOf]; omega
      · go_wp2
        go_end0
        have hin : i = own.length := by omega
        subst hin
        refine ⟨rfl, ?_, HK.out⟩
        have := H2.out
        unfold orAll
        rw [H2.out.nv]
        exact this
def tryV (k : Nat) (kind : Int) (cells : List Int) (value : Int) (own : List Int) (m : Nat) (v : Int) (t : Two) : Option Two :=
  if bitAt (rd own ((own.length : Int) - ((m + 1 : Nat) : Int))) v = true then tryF k kind cells value own m (t.1.set (own.length - (m + 1)) v, t.2) else some t
set_option maxHeartbeats 4000000 in
set_option maxRecDepth 100000 in
theorem try_calls (k : Nat) (B bo br bv bO bt V O : Nat) (kind : Int) (cells : List Int) (value : Int) (own : List Int) (Ao Ac : Option Addr) (co cc cV cO : Nat) (s : RMs B bo br bv bO bt V O cells own co cc) : ∀ (m i : Nat) (w : World) (vals outs : List Int), i + m = own.length → RM w B bo br bv bO bt V O kind cells value own vals outs Ao Ac co cc cV cO →
    ∀ t : Two, tryF k kind cells value own m (vals, outs) = some t →
    Calls Try.prog 122 #[.int .i64 (i : Int), .pointer (some ⟨bo, 0, none⟩), .pointer (some ⟨br, 0, none⟩), .pointer (some ⟨bv, 0, none⟩), .pointer (some ⟨bO, 0, none⟩), .pointer (some ⟨bt, 0, none⟩)] w (RMpost w B bo br bv bO bt V O kind cells value own t Ao Ac co cc cV cO) := by
  intro m
  induction m with
  | zero =>
    intro i w vals outs hi h t ht
    obtain rfl : i = own.length := by omega
    exact try_leaf k w B bo br bv bO bt V O kind cells value own vals outs Ao Ac co cc cV cO h s t ht
  | succ m ih =>
    intro i w vals outs hi h t ht
    have HS := Aside0.mk s
    have H := Aside0.mk h
    have c1 := h.own_
    have hl := s.l2
    have hne : ((i : Int) == (own.length : Int)) = false := beq_eq_false_iff_ne.mpr (by omega)
    have HT : Aside0 (foldS (tryV k kind cells value own m) [1, 2, 3, 4] (vals, outs) = some t) := ⟨ht⟩
    clear h s ht
    go_enter Try.func122, Try.ntmps122
    go_wp2_with fail
    go_loopw [9] (fun v9 wr => ∃ (v : Nat) (u : Two), 1 ≤ v ∧ v ≤ 5 ∧ v9 = .int .i64 v ∧ Aside0 (RM wr B bo br bv bO bt V O kind cells value own u.1 u.2 Ao Ac co cc cV cO) ∧ Aside0 (Below B w wr) ∧ Aside0 (foldS (tryV k kind cells value own m) ([1, 2, 3, 4].drop (v - 1)) u = some t)) (fun v9 _ => 5 - (intOf v9).toNat)
    case atStart => exact ⟨1, (vals, outs), by omega, by omega, rfl, H, ⟨Below.refl _ _⟩, HT⟩
    case round =>
      obtain ⟨v, u, h1, h5, rfl, H2, HK, HF⟩ := hrel
      by_cases hlt : v ≤ 4
      · have e1 := H2.out.own_
        obtain ⟨ad, e, hx⟩ := Kd.at_int (Kd.F_now H2.out.ownC) (i : Int) (by omega) (by omega)
        rw [Int.toNat_natCast] at hx
        cases e
        have HX := Aside0.mk (show (own.length : Int) - ((m + 1 : Nat) : Int) = (i : Int) by omega)
        obtain ⟨b, hb⟩ : ∃ b, bitAt (rd own (i : Int)) (v : Int) = b := ⟨_, rfl⟩
        have HB := Aside0.mk hb
        have hv4 : v = 1 ∨ v = 2 ∨ v = 3 ∨ v = 4 := by omega
        have HD : Aside0 ([1, 2, 3, 4].drop (v - 1) = (v : Int) :: [1, 2, 3, 4].drop v) := ⟨by rcases hv4 with rfl | rfl | rfl | rfl <;> rfl⟩
        clear hv4
        have HF2 := HF.out
        rw [HD.out, foldS] at HF2
        obtain ⟨u2, hu2, HF2⟩ := Option.bind_eq_some_iff.1 HF2
        have HF3 := Aside0.mk HF2
        unfold tryV at hu2
        rw [HX.out, HB.out] at hu2
        have HU := Aside0.mk hu2
        clear hu2 HF2
        have hb : (Go.bits .and .i64 (rd own (i : Int) / 2 ^ v) 1 == 1) = b := by
          have e : shr .i64 (rd own (i : Int)) (v : Int) = rd own (i : Int) / 2 ^ v := by unfold shr; rw [Int.toNat_natCast, Nat.min_eq_left (by show v ≤ 64; omega)]
          have := HB.out
          unfold bitAt at this
          rwa [e] at this
        generalize rd own (i : Int) = x at hx hb
        cases b with
        | false =>
          have HE : u = u2 := by have := HU.out; rw [if_neg (by decide)] at this; exact Option.some.inj this
          subst HE
          go_wp2_with fail
          go_roundw
          case rel => exact ⟨v + 1, u, by omega, by omega, by go_num, H2, HK, HF3⟩
          case measure => simp [intOf]; omega
        | true =>
          have HE : tryF k kind cells value own m (u.1.set i (v : Int), u.2) = some u2 := by
            have := HU.out
            rw [if_pos rfl, show own.length - (m + 1) = i by omega] at this
            exact this
          have e5 := H2.out.v_
          have e6 := Kd.R_celln (0 : Int) H2.out.rowV (i : Int) (by omega) (by omega)
          have e7 : wr.cell? ⟨V, (i : Int).toNat, none⟩ = some (.int .i64 (rd u.1 (i : Int))) := e6.1
          have e8 := e6.2
          have HN := Aside0.mk (H2.out.setV HS.out (i : Int) (v : Int))
          rw [Int.toNat_natCast] at e7 e8 HN
          have e9 := HN.out.t_
          have HK2 := Aside0.mk (HK.out.setCell (p := ⟨V, i, none⟩) HS.out.hV (.int .i64 (v : Int)))
          have HC := Aside0.mk (ih (i + 1) _ _ _ (by omega) HN.out u2 HE)
          have hi2 : ((i + 1 : Nat) : Int) = (i : Int) + 1 := by omega
          rw [hi2] at HC
          clear e6 HE hi2
          go_wp2_with (go_at_call 122; refine HC.out.mono ?_; rintro e w2 ⟨rfl, h2, hk2⟩; have H3 := Aside0.mk h2; have HK3 := Aside0.mk (HK2.out.trans hk2); clear h2 hk2)
          go_roundw
          case rel => exact ⟨v + 1, u2, by omega, by omega, by go_num, H3, HK3, HF3⟩
          case measure => simp [intOf]; omega
      · go_wp2_with fail
        obtain rfl : v = 5 := by omega
        go_end0
        have HE : u = t := Option.some.inj HF.out
        subst HE
        exact ⟨rfl, H2.out, HK.out⟩
theorem row_made {W : World} {base V n : Nat} (hV : W.heap.size = V) (hb : base ≤ V) (hm : n ≤ 1000) : Kd.R (Kd.int .i64) 3 (W.alloc (.cells (madeCells #[.int .i64 0] n) 3)) base (fun k => k = V) (.slice (some ⟨V, 0, none⟩) n n) (List.replicate n 0) := by
  subst hV
  have h := own_made W base 3 .i64 n hb (by omega)
  refine Kd.R_of_own (by rw [List.length_replicate]; exact h) (fun k hk => ?_)
  simp [Value.ownBlock] at hk
  exact hk.symm
set_option maxHeartbeats 4000000 in
set_option maxRecDepth 100000 in
theorem impl_ruleMasks.calls (k : Nat) (a0_0 : Int) (A0_1 : Option Addr) (c0_1 : Nat) (l0_1 : List Int) (a0_2 : Int) (A1 : Option Addr) (c1 : Nat) (l1 : List Int) (r : List Int) (w : World) (hr0_1 : Kd.C (Kd.int .i64) w A0_1 l0_1.length l0_1) (hc0_1 : l0_1.length ≤ c0_1) (hr1 : Kd.C (Kd.int .i64) w A1 l1.length l1) (hc1 : l1.length ≤ c1)
    (h : impl_ruleMasks.f k a0_0 l0_1 a0_2 l1 = some r) :
    Calls Try.prog 113 #[.agg #[.int .i64 a0_0, .slice A0_1 l0_1.length c0_1, .int .i64 a0_2], .slice A1 l1.length c1] w fun e w' => ∃ v0_ : Value, e = .returned (v0_) ∧ Kd.R (Kd.int .i64) 3 w' w.heap.size (fun _ => True) v0_ r ∧ Below w.heap.size w w' := by
  unfold impl_ruleMasks.f at h
  by_cases h0 : 0 < l1.length
  · rw [if_pos h0] at h
    by_cases h1 : l1.length ≤ 1000
    · rw [if_pos h1] at h
      obtain ⟨t, ht, h⟩ := Option.bind_eq_some_iff.1 h
      obtain rfl := Option.some.inj h
      have HT := Aside0.mk ht
      have HR0 := Aside0.mk hr0_1
      have HR1 := Aside0.mk hr1
      have HC0 := Aside0.mk hc0_1
      have HC1 := Aside0.mk hc1
      clear hr0_1 hr1 hc0_1 hc1 ht h
      have hmk := print_make (P := Try.prog) 23 3 .i64 8 Try.underlying23 info3 (by decide) l1.length (by omega)
      go_enter Try.func113, Try.ntmps113
      have HSS := Aside0.mk (show RMs w.heap.size (w.heap.size + 1) w.heap.size (w.heap.size + 1 + 1 + 1 + 1 + 1) (w.heap.size + 1 + 1 + 1) (w.heap.size + 1 + 1 + 1 + 1 + 1 + 1) (w.heap.size + 1 + 1 + 1 + 1) (w.heap.size + 1 + 1) l0_1 l1 c1 c0_1 from ⟨HC0.out, h0, h1, by omega, by omega, by omega, by omega, by omega, by omega, by omega, by omega⟩)
      go_wp2_with (go_at_call 122; refine (try_calls k _ _ _ _ _ _ _ _ a0_0 l0_1 a0_2 l1 A1 A0_1 c1 c0_1 l1.length l1.length HSS.out l1.length 0 _ _ _ (by omega) ?rm t HT.out).mono ?_; (case rm => exact (by constructor; (case own_ => go_simp); (case ownC => exact Kd.F_below (Kd.C_F (Kd.heap_int _) HR1.out) (by repeat (first | exact Below.refl _ _ | apply below_alloc | refine below_set ?_ (by show _ ≤ _; omega)))); (case r0 => go_simp); (case r1 => go_simp); (case r2 => go_simp); (case rC => exact Kd.F_below (Kd.C_F (Kd.heap_int _) HR0.out) (by repeat (first | exact Below.refl _ _ | apply below_alloc | refine below_set ?_ (by show _ ≤ _; omega)))); (case v_ => go_simp); (case o_ => go_simp); (case t_ => go_simp); (case rowV => repeat (first | exact row_made (by simp) (by omega) h1 | refine Kd.R_alloc ?_ _)); (case rowO => refine Kd.R_alloc (Kd.R_alloc (Kd.R_alloc (Kd.R_alloc (row_made ?_ (by omega) h1) _) _) _) _; simp); (case nv => simp); (case no => simp); (case bs => simp; omega))); rintro e w2 ⟨rfl, h2, hk2⟩; have g1 := h2.o_; have H2 := Aside0.mk h2; have HB := Aside0.mk (Below.trans (show Below w.heap.size w _ from by repeat (first | exact Below.refl _ _ | apply below_alloc | refine below_set ?_ (by show _ ≤ _; omega))) hk2); clear h2 hk2)
      go_ret
      exact ⟨_, rfl, Kd.R_mono H2.out.rowO (fun _ _ => trivial), HB.out⟩
    · rw [if_neg h1] at h; cases h
  · rw [if_neg h0] at h; cases h
end Go.Proofs.Ytbcikbekdhdpaaa.Q
end
