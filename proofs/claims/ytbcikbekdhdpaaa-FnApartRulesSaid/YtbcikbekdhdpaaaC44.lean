/- laws.FnApartRules: for every input it returns true and leaves its argument as it was. -/
import Derived.Test.YtbcikbekdhdpaaaC43
section
namespace Go.Proofs.Ytbcikbekdhdpaaa.Q
open Go.RowKit Go.Proofs.YtbcikbekdhdpaaaW.PrintWords Go.Proofs.YtbcikbekdhdpaaaW.PrintLast Go.Proofs.YtbcikbekdhdpaaaW.PrintMore
attribute [local go_sem] max2_int min2_int max_two min_two max_three min_three max_four min_four   -- for this text's walks alone
set_option linter.unusedVariables false
set_option linter.unusedSimpArgs false
mutual
def spec_ApartRules.j0 : Nat → List Int → Int → Int → List (S29) → Bool → Option ((List (S29)))
  | 0, _, _, _, _, _ => none
  | k + 1, x0, x1, x2, x7, x22 => if x22 = true then (some x7) else ((spec_l19Pairs.f k x1).bind fun t523 => (spec_ApartRules.l0 k x0 x2 x7 0 t523))
def spec_ApartRules.l0 : Nat → List Int → Int → List (S29) → Int → List (List Int) → Option ((List (S29)))
  | 0, _, _, _, _, _ => none
  | k + 1, x0, x2, x7, x9, x25 => if x9 < (x25.length : Int) then (spec_ApartRules.j2 k x0 x2 x7 x25 x9 x25 (decide ((x7.length : Int) < 20))) else (spec_ApartRules.j2 k x0 x2 x7 x25 x9 x25 false)
def spec_ApartRules.j2 : Nat → List Int → Int → List (S29) → List (List Int) → Int → List (List Int) → Bool → Option ((List (S29)))
  | 0, _, _, _, _, _, _, _ => none
  | k + 1, x0, x2, x7, x8, x9, x25, x34 => if x34 = true then (if 0 ≤ x9 then (if x9 < (x8.length : Int) then (if 0 < ((rd_L1 x8 x9).length : Int) then (if 0 ≤ (rd (rd_L1 x8 x9) 0) then (if (rd (rd_L1 x8 x9) 0) < (x0.length : Int) then (if 1 < ((rd_L1 x8 x9).length : Int) then (if 0 ≤ (rd (rd_L1 x8 x9) 1) then (if (rd (rd_L1 x8 x9) 1) < (x0.length : Int) then (if (mx (wrap64 ((rd x0 (rd (rd_L1 x8 x9) 0)) - (rd x0 (rd (rd_L1 x8 x9) 1)))) (wrap64 (-(wrap64 ((rd x0 (rd (rd_L1 x8 x9) 0)) - (rd x0 (rd (rd_L1 x8 x9) 1))))))) = x2 then (if x7.length < 3518437208883 then (spec_ApartRules.l0 k x0 x2 (x7 ++ [(⟨5, rd_L1 x8 x9, x2⟩ : S29)]) (wrap64 (x9 + 1)) x25) else (none)) else (spec_ApartRules.l0 k x0 x2 x7 (wrap64 (x9 + 1)) x25)) else (none)) else (none)) else (none)) else (none)) else (none)) else (none)) else (none)) else (none)) else (some x7)
end
def spec_ApartRules.f (k : Nat) (l0 : List Int) (a1 : Int) (a2 : Int) : Option ((List (S29))) := (some (([] : List (S29)) : List (S29))).bind fun y518 => ((spec_SquareSolved.f k l0 a1).bind fun t521 => (if t521 = true then ((spec_l1In.f a2 0 (wrap64 (a1 - 1))).bind fun t522 => (spec_ApartRules.j0 k l0 a1 a2 y518 (!t522))) else (spec_ApartRules.j0 k l0 a1 a2 y518 true)))
set_option maxHeartbeats 8000000 in
set_option maxRecDepth 100000 in
theorem spec_ApartRules.calls (k : Nat) (A0 : Option Addr) (c0 : Nat) (l0 : List Int) (a1 : Int) (a2 : Int) (r : List (S29)) (w : World) (hr0 : Kd.C (Kd.int .i64) w A0 l0.length l0) (hc0 : l0.length ≤ c0) (h : spec_ApartRules.f k l0 a1 a2 = some r) :
    Calls Try.prog 12 #[.slice A0 l0.length c0, .int .i64 a1, .int .i64 a2] w fun e w' => ∃ v0_ : Value, e = .returned (v0_) ∧ Kd.N k29 29 w' w.heap.size (fun k_ => (w.heap.size ≤ k_)) v0_ r ∧ Below w.heap.size w w' := by
  have hu29 := Try.underlying29
  have HR0 := Aside0.mk hr0
  have HC0 := Aside0.mk hc0
  clear hr0 hc0
  have HB := Aside0.mk (Below.refl w.heap.size w)
  have H : ((some (([] : List (S29)) : List (S29))).bind fun y518 => ((spec_SquareSolved.f k l0 a1).bind fun t521 => (if t521 = true then ((spec_l1In.f a2 0 (wrap64 (a1 - 1))).bind fun t522 => (spec_ApartRules.j0 k l0 a1 a2 y518 (!t522))) else (spec_ApartRules.j0 k l0 a1 a2 y518 true)))) = some r := h
  clear h
  obtain ⟨y518, hy518⟩ : ∃ y_ : List (S29), y_ = (([] : List (S29))) := ⟨_, rfl⟩
  replace H : ((spec_SquareSolved.f k l0 a1).bind fun t521 => (if t521 = true then ((spec_l1In.f a2 0 (wrap64 (a1 - 1))).bind fun t522 => (spec_ApartRules.j0 k l0 a1 a2 y518 (!t522))) else (spec_ApartRules.j0 k l0 a1 a2 y518 true))) = some r := by first | (rw [hy518]; with_reducible exact H) | (have H2_ := (Option.bind_some _ _).symm.trans H; rw [hy518]; with_reducible exact H2_) | (have H2_ := (Option.bind_some _ _).symm.trans H; with_reducible exact H2_) | with_reducible exact H | (rw [hy518]; exact H) | exact H
  have Ny518 := Aside0.mk hy518
  clear hy518
  have HC4 := Aside0.mk H
  clear H
  go_enter Try.func12, Try.ntmps12
  go_upto_region 2 with (first | ((with_reducible refine gate_dst (N := 11) rfl ?_); (try (refine gate_guard (by rfl) ?_; dsimp only)); refine Kd.N_lit k29 _ 29 ?hg (N' := 11) ?hd (xs := ([] : List (S29))) (inner := []) (ok := (fun k_ => (w.heap.size ≤ k_))) (okp := (fun k_ => (w.heap.size ≤ k_))) ?hr ?hp (fun _ hk => hk) ((show ∀ k_, w.heap.size ≤ k_ → (fun k_ => (w.heap.size ≤ k_)) k_ from fun k_ hk => (Nat.le_trans (below_size (by repeat (first | (with_reducible first | exact HB.out | apply below_alloc | apply pw_below_drewN | apply below_drew1) | exact HB.out))) hk)) _ (Nat.le_refl _)) (Below.refl _ _) (Nat.le_refl _) (by simp) ?_; (case hd => rfl); (case hg => rfl); (case hr => first | (go_simp; done) | (go_simp; rfl)); (case hp => exact (Reps.none _ _)); intro v519 w5 ho6 hb hg_ hnew_; clear hg_ hnew_; (first | rw [← Ny518.out] at ho6 | (simp only [Int.reduceToNat] at ho6; rw [← Ny518.out] at ho6)); have n0_ := Aside0.mk (Kd.N_lower ho6 (below_size (by repeat (first | (with_reducible first | exact HB.out | apply below_alloc | apply pw_below_drewN | apply below_drew1) | exact HB.out)))); have n1_ := Aside0.mk (below_step (by repeat (first | (with_reducible first | exact HB.out | apply below_alloc | apply pw_below_drewN | apply below_drew1) | exact HB.out)) hb); clear HB; have HO520 := n0_; have HB := n1_; clear n0_ n1_; clear hb ho6))
  repeat (go_quiet (first | ((with_reducible refine gate_dst (N := 11) rfl ?_); (try (refine gate_guard (by rfl) ?_; dsimp only)); refine Kd.N_lit k29 _ 29 ?hg (N' := 11) ?hd (xs := ([] : List (S29))) (inner := []) (ok := (fun k_ => (w.heap.size ≤ k_))) (okp := (fun k_ => (w.heap.size ≤ k_))) ?hr ?hp (fun _ hk => hk) ((show ∀ k_, w.heap.size ≤ k_ → (fun k_ => (w.heap.size ≤ k_)) k_ from fun k_ hk => (Nat.le_trans (below_size (by repeat (first | (with_reducible first | exact HB.out | apply below_alloc | apply pw_below_drewN | apply below_drew1) | exact HB.out))) hk)) _ (Nat.le_refl _)) (Below.refl _ _) (Nat.le_refl _) (by simp) ?_; (case hd => rfl); (case hg => rfl); (case hr => first | (go_simp; done) | (go_simp; rfl)); (case hp => exact (Reps.none _ _)); intro v519 w5 ho6 hb hg_ hnew_; clear hg_ hnew_; (first | rw [← Ny518.out] at ho6 | (simp only [Int.reduceToNat] at ho6; rw [← Ny518.out] at ho6)); have n0_ := Aside0.mk (Kd.N_lower ho6 (below_size (by repeat (first | (with_reducible first | exact HB.out | apply below_alloc | apply pw_below_drewN | apply below_drew1) | exact HB.out)))); have n1_ := Aside0.mk (below_step (by repeat (first | (with_reducible first | exact HB.out | apply below_alloc | apply pw_below_drewN | apply below_drew1) | exact HB.out)) hb); clear HB; have HO520 := n0_; have HB := n1_; clear n0_ n1_; clear hb ho6)); go_upto_region 2 with (first | ((with_reducible refine gate_dst (N := 11) rfl ?_); (try (refine gate_guard (by rfl) ?_; dsimp only)); refine Kd.N_lit k29 _ 29 ?hg (N' := 11) ?hd (xs := ([] : List (S29))) (inner := []) (ok := (fun k_ => (w.heap.size ≤ k_))) (okp := (fun k_ => (w.heap.size ≤ k_))) ?hr ?hp (fun _ hk => hk) ((show ∀ k_, w.heap.size ≤ k_ → (fun k_ => (w.heap.size ≤ k_)) k_ from fun k_ hk => (Nat.le_trans (below_size (by repeat (first | (with_reducible first | exact HB.out | apply below_alloc | apply pw_below_drewN | apply below_drew1) | exact HB.out))) hk)) _ (Nat.le_refl _)) (Below.refl _ _) (Nat.le_refl _) (by simp) ?_; (case hd => rfl); (case hg => rfl); (case hr => first | (go_simp; done) | (go_simp; rfl)); (case hp => exact (Reps.none _ _)); intro v519 w5 ho6 hb hg_ hnew_; clear hg_ hnew_; (first | rw [← Ny518.out] at ho6 | (simp only [Int.reduceToNat] at ho6; rw [← Ny518.out] at ho6)); have n0_ := Aside0.mk (Kd.N_lower ho6 (below_size (by repeat (first | (with_reducible first | exact HB.out | apply below_alloc | apply pw_below_drewN | apply below_drew1) | exact HB.out)))); have n1_ := Aside0.mk (below_step (by repeat (first | (with_reducible first | exact HB.out | apply below_alloc | apply pw_below_drewN | apply below_drew1) | exact HB.out)) hb); clear HB; have HO520 := n0_; have HB := n1_; clear n0_ n1_; clear hb ho6)))
  (try simp only [Act.put, List.setIfInBounds_toArray, List.set_cons_zero, List.set_cons_succ])
  go_cut [22] (fun v22 wc => ∃ (kq : Nat) (x22_3 : Bool), v22 = .bool x22_3 ∧ Aside0 (spec_ApartRules.j0 kq l0 a1 a2 y518 x22_3 = some r) ∧ Aside0 (kq ≤ k) ∧ Aside0 (Kd.N k29 29 wc w.heap.size (fun k_ => (w.heap.size ≤ k_)) v519 y518) ∧ Aside0 (Below w.heap.size w wc))
  case first =>
    have H := HC4.out
    clear HC4
    replace H := Option.bind_eq_some_iff.mp H
    obtain ⟨t521, A70, H⟩ := H
    replace H : (if t521 = true then ((spec_l1In.f a2 0 (wrap64 (a1 - 1))).bind fun t522 => (spec_ApartRules.j0 k l0 a1 a2 y518 (!t522))) else (spec_ApartRules.j0 k l0 a1 a2 y518 true)) = some r := H
    have A7 := Aside0.mk A70
    clear A70
    by_cases c8 : t521 = true
    · subst c8
      have H1 : ((spec_l1In.f a2 0 (wrap64 (a1 - 1))).bind fun t522 => (spec_ApartRules.j0 k l0 a1 a2 y518 (!t522))) = some r := by rw [if_pos rfl] at H; exact H
      clear H
      have H := H1
      clear H1
      replace H := Option.bind_eq_some_iff.mp H
      obtain ⟨t522, A90, H⟩ := H
      replace H : (spec_ApartRules.j0 k l0 a1 a2 y518 (!t522)) = some r := H
      have A9 := Aside0.mk A90
      clear A90
      have H' := Aside0.mk H
      clear H
      go_wp2_with (first | (go_at_call 14; (with_reducible refine (spec_SquareSolved.calls k _ _ l0 a1 true _ ?side1 ?side2 A7.out).mono ?_); (case side1 => repeat (first | exact (Kd.C_below HR0.out HB.out) | (with_reducible refine Kd.C_alloc ?_ _) | (with_reducible refine Kd.C_drewN ?_ _) | (with_reducible refine Kd.C_drew ?_))); (case side2 => exact HC0.out); rintro e w10 ⟨rfl, hb⟩; have n0_ := Aside0.mk (Kd.N_below (by (with_reducible repeat (first | apply Kd.N_alloc | apply Kd.N_drewN | apply Kd.N_drew)); exact HO520.out) hb); have n1_ := Aside0.mk (below_step (by repeat (first | (with_reducible first | exact HB.out | apply below_alloc | apply pw_below_drewN | apply below_drew1) | exact HB.out)) hb); clear HO520; clear HB; have HO520 := n0_; have HB := n1_; clear n0_ n1_; (try clear hb); (try clear hb2); (try clear hk); (try clear hi)) | (go_at_call 52; (with_reducible refine (spec_l1In.calls a2 0 (wrap64 (a1 - 1)) t522 _ A9.out).mono ?_); rintro e w' ⟨rfl, ⟨nd, rfl⟩⟩; (try first | exact ⟨rfl, _, World.drewN_drewN _ _ _⟩ | exact ⟨rfl, _, Eq.trans (World.drewN_drewN _ _ _) (congrArg (World.drewN _) (Nat.add_assoc _ _ _))⟩)))
      repeat (go_quiet (first | (go_at_call 14; (with_reducible refine (spec_SquareSolved.calls k _ _ l0 a1 true _ ?side1 ?side2 A7.out).mono ?_); (case side1 => repeat (first | exact (Kd.C_below HR0.out HB.out) | (with_reducible refine Kd.C_alloc ?_ _) | (with_reducible refine Kd.C_drewN ?_ _) | (with_reducible refine Kd.C_drew ?_))); (case side2 => exact HC0.out); rintro e w10 ⟨rfl, hb⟩; have n0_ := Aside0.mk (Kd.N_below (by (with_reducible repeat (first | apply Kd.N_alloc | apply Kd.N_drewN | apply Kd.N_drew)); exact HO520.out) hb); have n1_ := Aside0.mk (below_step (by repeat (first | (with_reducible first | exact HB.out | apply below_alloc | apply pw_below_drewN | apply below_drew1) | exact HB.out)) hb); clear HO520; clear HB; have HO520 := n0_; have HB := n1_; clear n0_ n1_; (try clear hb); (try clear hb2); (try clear hk); (try clear hi)) | (go_at_call 52; (with_reducible refine (spec_l1In.calls a2 0 (wrap64 (a1 - 1)) t522 _ A9.out).mono ?_); rintro e w' ⟨rfl, ⟨nd, rfl⟩⟩; (try first | exact ⟨rfl, _, World.drewN_drewN _ _ _⟩ | exact ⟨rfl, _, Eq.trans (World.drewN_drewN _ _ _) (congrArg (World.drewN _) (Nat.add_assoc _ _ _))⟩))); try go_wp2_with (first | (go_at_call 14; (with_reducible refine (spec_SquareSolved.calls k _ _ l0 a1 true _ ?side1 ?side2 A7.out).mono ?_); (case side1 => repeat (first | exact (Kd.C_below HR0.out HB.out) | (with_reducible refine Kd.C_alloc ?_ _) | (with_reducible refine Kd.C_drewN ?_ _) | (with_reducible refine Kd.C_drew ?_))); (case side2 => exact HC0.out); rintro e w10 ⟨rfl, hb⟩; have n0_ := Aside0.mk (Kd.N_below (by (with_reducible repeat (first | apply Kd.N_alloc | apply Kd.N_drewN | apply Kd.N_drew)); exact HO520.out) hb); have n1_ := Aside0.mk (below_step (by repeat (first | (with_reducible first | exact HB.out | apply below_alloc | apply pw_below_drewN | apply below_drew1) | exact HB.out)) hb); clear HO520; clear HB; have HO520 := n0_; have HB := n1_; clear n0_ n1_; (try clear hb); (try clear hb2); (try clear hk); (try clear hi)) | (go_at_call 52; (with_reducible refine (spec_l1In.calls a2 0 (wrap64 (a1 - 1)) t522 _ A9.out).mono ?_); rintro e w' ⟨rfl, ⟨nd, rfl⟩⟩; (try first | exact ⟨rfl, _, World.drewN_drewN _ _ _⟩ | exact ⟨rfl, _, Eq.trans (World.drewN_drewN _ _ _) (congrArg (World.drewN _) (Nat.add_assoc _ _ _))⟩))))
      go_meet
      case rel => exact ⟨_, (!t522), (by first | rfl | (simp; done) | (simp [*]; done)), H', ⟨by first | omega | exact Nat.le_refl _⟩, ⟨by (with_reducible repeat (first | apply Kd.N_alloc | apply Kd.N_drewN | apply Kd.N_drew)); exact HO520.out⟩, ⟨by repeat (first | (with_reducible first | exact HB.out | apply below_alloc | apply pw_below_drewN | apply below_drew1) | exact HB.out)⟩⟩
    · replace c8 := Bool.eq_false_iff.mpr c8
      subst c8
      have H1 : (spec_ApartRules.j0 k l0 a1 a2 y518 true) = some r := by rw [if_neg (show ¬ (false = true) by decide)] at H; exact H
      clear H
      have H := H1
      clear H1
      have H' := Aside0.mk H
      clear H
      go_wp2_with (first | (go_at_call 14; (with_reducible refine (spec_SquareSolved.calls k _ _ l0 a1 false _ ?side1 ?side2 A7.out).mono ?_); (case side1 => repeat (first | exact (Kd.C_below HR0.out HB.out) | (with_reducible refine Kd.C_alloc ?_ _) | (with_reducible refine Kd.C_drewN ?_ _) | (with_reducible refine Kd.C_drew ?_))); (case side2 => exact HC0.out); rintro e w11 ⟨rfl, hb⟩; have n0_ := Aside0.mk (Kd.N_below (by (with_reducible repeat (first | apply Kd.N_alloc | apply Kd.N_drewN | apply Kd.N_drew)); exact HO520.out) hb); have n1_ := Aside0.mk (below_step (by repeat (first | (with_reducible first | exact HB.out | apply below_alloc | apply pw_below_drewN | apply below_drew1) | exact HB.out)) hb); clear HO520; clear HB; have HO520 := n0_; have HB := n1_; clear n0_ n1_; (try clear hb); (try clear hb2); (try clear hk); (try clear hi)))
      repeat (go_quiet (first | (go_at_call 14; (with_reducible refine (spec_SquareSolved.calls k _ _ l0 a1 false _ ?side1 ?side2 A7.out).mono ?_); (case side1 => repeat (first | exact (Kd.C_below HR0.out HB.out) | (with_reducible refine Kd.C_alloc ?_ _) | (with_reducible refine Kd.C_drewN ?_ _) | (with_reducible refine Kd.C_drew ?_))); (case side2 => exact HC0.out); rintro e w11 ⟨rfl, hb⟩; have n0_ := Aside0.mk (Kd.N_below (by (with_reducible repeat (first | apply Kd.N_alloc | apply Kd.N_drewN | apply Kd.N_drew)); exact HO520.out) hb); have n1_ := Aside0.mk (below_step (by repeat (first | (with_reducible first | exact HB.out | apply below_alloc | apply pw_below_drewN | apply below_drew1) | exact HB.out)) hb); clear HO520; clear HB; have HO520 := n0_; have HB := n1_; clear n0_ n1_; (try clear hb); (try clear hb2); (try clear hk); (try clear hi))); try go_wp2_with (first | (go_at_call 14; (with_reducible refine (spec_SquareSolved.calls k _ _ l0 a1 false _ ?side1 ?side2 A7.out).mono ?_); (case side1 => repeat (first | exact (Kd.C_below HR0.out HB.out) | (with_reducible refine Kd.C_alloc ?_ _) | (with_reducible refine Kd.C_drewN ?_ _) | (with_reducible refine Kd.C_drew ?_))); (case side2 => exact HC0.out); rintro e w11 ⟨rfl, hb⟩; have n0_ := Aside0.mk (Kd.N_below (by (with_reducible repeat (first | apply Kd.N_alloc | apply Kd.N_drewN | apply Kd.N_drew)); exact HO520.out) hb); have n1_ := Aside0.mk (below_step (by repeat (first | (with_reducible first | exact HB.out | apply below_alloc | apply pw_below_drewN | apply below_drew1) | exact HB.out)) hb); clear HO520; clear HB; have HO520 := n0_; have HB := n1_; clear n0_ n1_; (try clear hb); (try clear hb2); (try clear hk); (try clear hi))))
      go_meet
      case rel => exact ⟨_, (true), (by first | rfl | (simp; done) | (simp [*]; done)), H', ⟨by first | omega | exact Nat.le_refl _⟩, ⟨by (with_reducible repeat (first | apply Kd.N_alloc | apply Kd.N_drewN | apply Kd.N_drew)); exact HO520.out⟩, ⟨by repeat (first | (with_reducible first | exact HB.out | apply below_alloc | apply pw_below_drewN | apply below_drew1) | exact HB.out)⟩⟩
  case rest =>
    clear HC4
    try clear c1
    try clear p2
    try clear p6
    try clear c8
    try clear HJ3
    try clear HO_7
    try clear HB
    obtain ⟨kq, x22_3, rfl, HA, HJ3, HO_7, HB⟩ := hcut
    cases kq with
    | zero => exact absurd HA.out (by simp [spec_ApartRules.j0])
    | succ kj3 =>
      have H := HA.out
      clear HA
      simp only [spec_ApartRules.j0] at H
      by_cases c12 : x22_3 = true
      · subst c12
        have H1 : (some y518) = some r := by rw [if_pos rfl] at H; exact H
        clear H
        have H := H1
        clear H1
        obtain rfl := Option.some.inj H
        go_wp2
        repeat (go_quiet (fail); try go_wp2)
        go_ret
        exact ⟨_, by first | rfl | (simp [errW_none, errW_some] <;> rfl) | (simp [*, errW_none, errW_some] <;> rfl), by (with_reducible repeat (first | apply Kd.N_alloc | apply Kd.N_drewN | apply Kd.N_drew)); exact HO_7.out, by repeat (first | (with_reducible first | exact HB.out | apply below_alloc | apply pw_below_drewN | apply below_drew1) | exact HB.out)⟩
      · replace c12 := Bool.eq_false_iff.mpr c12
        subst c12
        have H1 : ((spec_l19Pairs.f kj3 a1).bind fun t523 => (spec_ApartRules.l0 kj3 l0 a2 y518 0 t523)) = some r := by rw [if_neg (show ¬ (false = true) by decide)] at H; exact H
        clear H
        have H := H1
        clear H1
        replace H := Option.bind_eq_some_iff.mp H
        obtain ⟨t523, A130, H⟩ := H
        replace H : (spec_ApartRules.l0 kj3 l0 a2 y518 0 t523) = some r := H
        have A13 := Aside0.mk A130
        clear A130
        have H' := Aside0.mk H
        clear H
        go_wp2_with (first | (go_at_call 53; (with_reducible refine (spec_l19Pairs.calls kj3 a1 t523 _ A13.out).mono ?_); rintro e w14 ⟨v524, rfl, ho0, hb⟩; have n0_ := Aside0.mk (Kd.N_elder' (by (with_reducible repeat (first | apply Kd.N_alloc | apply Kd.N_drewN | apply Kd.N_drew)); exact HO_7.out) (by first | exact Kd.N_base ho0 | exact Kd.N_base (Kd.S_N ho0) | exact Kd.N_base (Kd.R_N ho0)) hb); have n1_ := Aside0.mk (Kd.N_lower (Kd.N_mono (ok' := fun k_ => (w.heap.size ≤ k_) ∧ some k_ ≠ (v519 : Value).ownBlock) (Kd.S_N (Kd.S_bound ho0)) (fun k_ hk_ => ⟨(Nat.le_trans (below_size (by repeat (first | (with_reducible first | exact HB.out | apply below_alloc | apply pw_below_drewN | apply below_drew1) | exact HB.out))) hk_.2.1), (Kd.fresh' (Kd.N_lt (by (with_reducible repeat (first | apply Kd.N_alloc | apply Kd.N_drewN | apply Kd.N_drew)); exact HO_7.out)) k_ hk_.2.1)⟩)) (below_size (by repeat (first | (with_reducible first | exact HB.out | apply below_alloc | apply pw_below_drewN | apply below_drew1) | exact HB.out)))); have n2_ := Aside0.mk (below_step (by repeat (first | (with_reducible first | exact HB.out | apply below_alloc | apply pw_below_drewN | apply below_drew1) | exact HB.out)) hb); clear HO_7; clear HB; have HO_7 := n0_; have HO525 := n1_; have HB := n2_; clear n0_ n1_ n2_; (try clear hb); (try clear hb2); (try clear hk); (try clear hi); (try clear ho0)))
        repeat (go_quiet (first | (go_at_call 53; (with_reducible refine (spec_l19Pairs.calls kj3 a1 t523 _ A13.out).mono ?_); rintro e w14 ⟨v524, rfl, ho0, hb⟩; have n0_ := Aside0.mk (Kd.N_elder' (by (with_reducible repeat (first | apply Kd.N_alloc | apply Kd.N_drewN | apply Kd.N_drew)); exact HO_7.out) (by first | exact Kd.N_base ho0 | exact Kd.N_base (Kd.S_N ho0) | exact Kd.N_base (Kd.R_N ho0)) hb); have n1_ := Aside0.mk (Kd.N_lower (Kd.N_mono (ok' := fun k_ => (w.heap.size ≤ k_) ∧ some k_ ≠ (v519 : Value).ownBlock) (Kd.S_N (Kd.S_bound ho0)) (fun k_ hk_ => ⟨(Nat.le_trans (below_size (by repeat (first | (with_reducible first | exact HB.out | apply below_alloc | apply pw_below_drewN | apply below_drew1) | exact HB.out))) hk_.2.1), (Kd.fresh' (Kd.N_lt (by (with_reducible repeat (first | apply Kd.N_alloc | apply Kd.N_drewN | apply Kd.N_drew)); exact HO_7.out)) k_ hk_.2.1)⟩)) (below_size (by repeat (first | (with_reducible first | exact HB.out | apply below_alloc | apply pw_below_drewN | apply below_drew1) | exact HB.out)))); have n2_ := Aside0.mk (below_step (by repeat (first | (with_reducible first | exact HB.out | apply below_alloc | apply pw_below_drewN | apply below_drew1) | exact HB.out)) hb); clear HO_7; clear HB; have HO_7 := n0_; have HO525 := n1_; have HB := n2_; clear n0_ n1_ n2_; (try clear hb); (try clear hb2); (try clear hk); (try clear hi); (try clear ho0))); try go_wp2_with (first | (go_at_call 53; (with_reducible refine (spec_l19Pairs.calls kj3 a1 t523 _ A13.out).mono ?_); rintro e w14 ⟨v524, rfl, ho0, hb⟩; have n0_ := Aside0.mk (Kd.N_elder' (by (with_reducible repeat (first | apply Kd.N_alloc | apply Kd.N_drewN | apply Kd.N_drew)); exact HO_7.out) (by first | exact Kd.N_base ho0 | exact Kd.N_base (Kd.S_N ho0) | exact Kd.N_base (Kd.R_N ho0)) hb); have n1_ := Aside0.mk (Kd.N_lower (Kd.N_mono (ok' := fun k_ => (w.heap.size ≤ k_) ∧ some k_ ≠ (v519 : Value).ownBlock) (Kd.S_N (Kd.S_bound ho0)) (fun k_ hk_ => ⟨(Nat.le_trans (below_size (by repeat (first | (with_reducible first | exact HB.out | apply below_alloc | apply pw_below_drewN | apply below_drew1) | exact HB.out))) hk_.2.1), (Kd.fresh' (Kd.N_lt (by (with_reducible repeat (first | apply Kd.N_alloc | apply Kd.N_drewN | apply Kd.N_drew)); exact HO_7.out)) k_ hk_.2.1)⟩)) (below_size (by repeat (first | (with_reducible first | exact HB.out | apply below_alloc | apply pw_below_drewN | apply below_drew1) | exact HB.out)))); have n2_ := Aside0.mk (below_step (by repeat (first | (with_reducible first | exact HB.out | apply below_alloc | apply pw_below_drewN | apply below_drew1) | exact HB.out)) hb); clear HO_7; clear HB; have HO_7 := n0_; have HO525 := n1_; have HB := n2_; clear n0_ n1_ n2_; (try clear hb); (try clear hb2); (try clear hk); (try clear hi); (try clear ho0))))
        go_loopg [7, 9] kj3 (fun kq v7 v9 w' => ∃ (x7_2 : List (S29)) (x9_2 : Int), v9 = .int .i64 x9_2 ∧ Aside0 (spec_ApartRules.l0 kq l0 a2 x7_2 x9_2 t523 = some r) ∧ Aside0 (kq ≤ kj3) ∧ Aside0 (Kd.N k29 29 w' w.heap.size (fun k_ => (w.heap.size ≤ k_)) v7 x7_2) ∧ Aside0 (Kd.N (Kd.slice 3 (Kd.int .i64)) 23 w' w.heap.size (fun k_ => (w.heap.size ≤ k_) ∧ some k_ ≠ (v7 : Value).ownBlock) v524 t523) ∧ Aside0 (Below w.heap.size w w'))
        case atStart => exact ⟨(y518), (0), (by first | rfl | (simp; done) | (simp [*]; done)), H', ⟨Nat.le_refl _⟩, ⟨by (with_reducible repeat (first | apply Kd.N_alloc | apply Kd.N_drewN | apply Kd.N_drew)); exact Kd.N_mono HO_7.out (fun _ hk => hk.1)⟩, ⟨by (with_reducible repeat (first | apply Kd.N_alloc | apply Kd.N_drewN | apply Kd.N_drew)); exact HO525.out⟩, ⟨by repeat (first | (with_reducible first | exact HB.out | apply below_alloc | apply pw_below_drewN | apply below_drew1) | exact HB.out)⟩⟩
        case round =>
          clear H'
          try clear c1
          try clear p2
          try clear p6
          try clear c8
          try clear c12
          try clear p2
          try clear p6
          try clear HK2
          try clear HO_7
          try clear HO_25
          try clear HB
          obtain ⟨x7_2, x9_2, rfl, HA, HK2, HO_7, HO_25, HB⟩ := hrel
          cases gk with
          | zero => exact absurd HA.out (by simp [spec_ApartRules.l0])
          | succ k2 =>
            have H := HA.out
            clear HA
            simp only [spec_ApartRules.l0] at H
            have HC15 := Aside0.mk H
            clear H
            go_upto_region 6 with (fail)
            repeat (go_quiet (fail); go_upto_region 6 with (fail))
            go_cut [34] (fun v34 wc => ∃ (kq : Nat) (x34_14 : Bool), v34 = .bool x34_14 ∧ Aside0 (spec_ApartRules.j2 kq l0 a2 x7_2 t523 x9_2 t523 x34_14 = some r) ∧ Aside0 (kq ≤ k2) ∧ Aside0 (Kd.N k29 29 wc w.heap.size (fun k_ => (w.heap.size ≤ k_)) u7 x7_2) ∧ Aside0 (Kd.N (Kd.slice 3 (Kd.int .i64)) 23 wc w.heap.size (fun k_ => (w.heap.size ≤ k_) ∧ some k_ ≠ (u7 : Value).ownBlock) v524 t523) ∧ Aside0 (Kd.N (Kd.slice 3 (Kd.int .i64)) 23 wc w.heap.size (fun k_ => (w.heap.size ≤ k_) ∧ some k_ ≠ (u7 : Value).ownBlock) v524 t523) ∧ Aside0 (Below w.heap.size w wc))
            case first =>
              have H := HC15.out
              clear HC15
              by_cases c16 : x9_2 < (t523.length : Int)
              · rw [if_pos c16] at H
                have c16b0 : decide (x9_2 < (t523.length : Int)) = true := decide_eq_true c16
                clear c16
                (first | rw [c16b0] | (simp only [i64_w, i32_w]; rw [c16b0]) | skip)
                have H' := Aside0.mk H
                clear H
                obtain ⟨Ao17, co17, eo17⟩ := Kd.N_slice HO_25.out
                subst eo17
                obtain ⟨Ao18, co18, eo18⟩ := Kd.N_slice HO_7.out
                subst eo18
                go_wp2
                repeat (go_quiet (fail); try go_wp2)
                go_meet
                case rel => exact ⟨_, (decide ((x7_2.length : Int) < 20)), (by first | rfl | (simp; done) | (simp [*]; done)), H', ⟨by have := HJ3.out; have := HK2.out; first | omega | exact Nat.le_refl _⟩, ⟨by (with_reducible repeat (first | apply Kd.N_alloc | apply Kd.N_drewN | apply Kd.N_drew)); exact HO_7.out⟩, ⟨by (with_reducible repeat (first | apply Kd.N_alloc | apply Kd.N_drewN | apply Kd.N_drew)); exact HO_25.out⟩, ⟨by (with_reducible repeat (first | apply Kd.N_alloc | apply Kd.N_drewN | apply Kd.N_drew)); exact HO_25.out⟩, ⟨by repeat (first | (with_reducible first | exact HB.out | apply below_alloc | apply pw_below_drewN | apply below_drew1) | exact HB.out)⟩⟩
              · rw [if_neg c16] at H
                have c16b0 : decide (x9_2 < (t523.length : Int)) = false := decide_eq_false c16
                clear c16
                (first | rw [c16b0] | (simp only [i64_w, i32_w]; rw [c16b0]) | skip)
                have H' := Aside0.mk H
                clear H
                obtain ⟨Ao19, co19, eo19⟩ := Kd.N_slice HO_25.out
                subst eo19
                go_wp2
                repeat (go_quiet (fail); try go_wp2)
                go_meet
                case rel => exact ⟨_, (false), (by first | rfl | (simp; done) | (simp [*]; done)), H', ⟨by have := HJ3.out; have := HK2.out; first | omega | exact Nat.le_refl _⟩, ⟨by (with_reducible repeat (first | apply Kd.N_alloc | apply Kd.N_drewN | apply Kd.N_drew)); exact HO_7.out⟩, ⟨by (with_reducible repeat (first | apply Kd.N_alloc | apply Kd.N_drewN | apply Kd.N_drew)); exact HO_25.out⟩, ⟨by (with_reducible repeat (first | apply Kd.N_alloc | apply Kd.N_drewN | apply Kd.N_drew)); exact HO_25.out⟩, ⟨by repeat (first | (with_reducible first | exact HB.out | apply below_alloc | apply pw_below_drewN | apply below_drew1) | exact HB.out)⟩⟩
            case rest =>
              clear HC15
              try clear c1
              try clear p2
              try clear p6
              try clear c8
              try clear c12
              try clear c16
              try clear c16b0
              try clear p2
              try clear p6
              try clear HJ14
              try clear HO_7
              try clear HO_8
              try clear HO_25
              try clear HB
              obtain ⟨kq, x34_14, rfl, HA, HJ14, HO_7, HO_8, HO_25, HB⟩ := hcut
              cases kq with
              | zero => exact absurd HA.out (by simp [spec_ApartRules.j2])
              | succ kj14 =>
                have H := HA.out
                clear HA
                simp only [spec_ApartRules.j2] at H
                by_cases c20 : x34_14 = true
                · subst c20
                  have H1 : (if 0 ≤ x9_2 then (if x9_2 < (t523.length : Int) then (if 0 < ((rd_L1 t523 x9_2).length : Int) then (if 0 ≤ (rd (rd_L1 t523 x9_2) 0) then (if (rd (rd_L1 t523 x9_2) 0) < (l0.length : Int) then (if 1 < ((rd_L1 t523 x9_2).length : Int) then (if 0 ≤ (rd (rd_L1 t523 x9_2) 1) then (if (rd (rd_L1 t523 x9_2) 1) < (l0.length : Int) then (if (mx (wrap64 ((rd l0 (rd (rd_L1 t523 x9_2) 0)) - (rd l0 (rd (rd_L1 t523 x9_2) 1)))) (wrap64 (-(wrap64 ((rd l0 (rd (rd_L1 t523 x9_2) 0)) - (rd l0 (rd (rd_L1 t523 x9_2) 1))))))) = a2 then (if x7_2.length < 3518437208883 then (spec_ApartRules.l0 kj14 l0 a2 (x7_2 ++ [(⟨5, rd_L1 t523 x9_2, a2⟩ : S29)]) (wrap64 (x9_2 + 1)) t523) else (none)) else (spec_ApartRules.l0 kj14 l0 a2 x7_2 (wrap64 (x9_2 + 1)) t523)) else (none)) else (none)) else (none)) else (none)) else (none)) else (none)) else (none)) else (none)) = some r := by rw [if_pos rfl] at H; exact H
                  clear H
                  have H := H1
                  clear H1
                  by_cases c21 : 0 ≤ x9_2
                  · rw [if_pos c21] at H
                    have c21b0 : decide (0 ≤ x9_2) = true := decide_eq_true c21
                    clear c21
                    by_cases c22 : x9_2 < (t523.length : Int)
                    · rw [if_pos c22] at H
                      have c22b0 : decide (x9_2 < (t523.length : Int)) = true := decide_eq_true c22
                      clear c22
                      by_cases c23 : 0 < ((rd_L1 t523 x9_2).length : Int)
                      · rw [if_pos c23] at H
                        have c23b0 : decide (0 < ((rd_L1 t523 x9_2).length : Int)) = true := decide_eq_true c23
                        have c23b1 : decide (0 < (rd_L1 t523 x9_2).length) = true := decide_eq_true (by omega)
                        clear c23
                        by_cases c24 : 0 ≤ (rd (rd_L1 t523 x9_2) 0)
                        · rw [if_pos c24] at H
                          have c24b0 : decide (0 ≤ (rd (rd_L1 t523 x9_2) 0)) = true := decide_eq_true c24
                          clear c24
                          by_cases c25 : (rd (rd_L1 t523 x9_2) 0) < (l0.length : Int)
                          · rw [if_pos c25] at H
                            have c25b0 : decide ((rd (rd_L1 t523 x9_2) 0) < (l0.length : Int)) = true := decide_eq_true c25
                            clear c25
                            by_cases c26 : 1 < ((rd_L1 t523 x9_2).length : Int)
                            · rw [if_pos c26] at H
                              have c26b0 : decide (1 < ((rd_L1 t523 x9_2).length : Int)) = true := decide_eq_true c26
                              have c26b1 : decide (1 < (rd_L1 t523 x9_2).length) = true := decide_eq_true (by omega)
                              clear c26
                              by_cases c27 : 0 ≤ (rd (rd_L1 t523 x9_2) 1)
                              · rw [if_pos c27] at H
                                have c27b0 : decide (0 ≤ (rd (rd_L1 t523 x9_2) 1)) = true := decide_eq_true c27
                                clear c27
                                by_cases c28 : (rd (rd_L1 t523 x9_2) 1) < (l0.length : Int)
                                · rw [if_pos c28] at H
                                  have c28b0 : decide ((rd (rd_L1 t523 x9_2) 1) < (l0.length : Int)) = true := decide_eq_true c28
                                  clear c28
                                  obtain ⟨ji29, hji29⟩ : ∃ j_ : Int, (mx (wrap64 ((rd l0 (rd (rd_L1 t523 x9_2) 0)) - (rd l0 (rd (rd_L1 t523 x9_2) 1)))) (wrap64 (-(wrap64 ((rd l0 (rd (rd_L1 t523 x9_2) 0)) - (rd l0 (rd (rd_L1 t523 x9_2) 1))))))) = j_ := ⟨_, rfl⟩
                                  replace H : (if (ji29) = a2 then (if x7_2.length < 3518437208883 then (spec_ApartRules.l0 kj14 l0 a2 (x7_2 ++ [(⟨5, rd_L1 t523 x9_2, a2⟩ : S29)]) (wrap64 (x9_2 + 1)) t523) else (none)) else (spec_ApartRules.l0 kj14 l0 a2 x7_2 (wrap64 (x9_2 + 1)) t523)) = some r := by first | (rw [hji29] at H; exact H) | (simp only [hji29] at H ⊢; exact H)
                                  have hji29_ : (if (wrap64 ((rd l0 (rd (rd_L1 t523 x9_2) 0)) - (rd l0 (rd (rd_L1 t523 x9_2) 1)))) < (wrap64 (-(wrap64 ((rd l0 (rd (rd_L1 t523 x9_2) 0)) - (rd l0 (rd (rd_L1 t523 x9_2) 1)))))) then (wrap64 (-(wrap64 ((rd l0 (rd (rd_L1 t523 x9_2) 0)) - (rd l0 (rd (rd_L1 t523 x9_2) 1)))))) else (wrap64 ((rd l0 (rd (rd_L1 t523 x9_2) 0)) - (rd l0 (rd (rd_L1 t523 x9_2) 1))))) = ji29 := hji29
                                  by_cases c30 : (ji29) = a2
                                  · rw [if_pos c30] at H
                                    have c30b0 : ((ji29) == a2) = true := beq_iff_eq.mpr c30
                                    have c30b1 : ((ji29) != a2) = false := bne_eq_false_iff_eq.mpr c30
                                    clear c30
                                    by_cases c31 : x7_2.length < 3518437208883
                                    · rw [if_pos c31] at H
                                      have LMc31 := Aside0.mk c31
                                      clear c31
                                      obtain ⟨y533, hy533⟩ : ∃ y_ : List (S29), y_ = (x7_2 ++ [(⟨5, rd_L1 t523 x9_2, a2⟩ : S29)]) := ⟨_, rfl⟩
                                      replace H : (spec_ApartRules.l0 kj14 l0 a2 y533 (wrap64 (x9_2 + 1)) t523) = some r := by first | (rw [hy533]; with_reducible exact H) | (have H2_ := (Option.bind_some _ _).symm.trans H; rw [hy533]; with_reducible exact H2_) | (have H2_ := (Option.bind_some _ _).symm.trans H; with_reducible exact H2_) | with_reducible exact H | (rw [hy533]; exact H) | exact H
                                      have Ny533 := Aside0.mk hy533
                                      clear hy533
                                      have H' := Aside0.mk H
                                      clear H
                                      obtain ⟨Ao32, co32, eo32⟩ := Kd.N_slice HO_8.out
                                      subst eo32
                                      have p526 : 0 ≤ (x9_2 : Int) := of_decide_eq_true (by first | (with_reducible assumption) | assumption)
                                      have q526 : x9_2 < (t523.length : Int) := of_decide_eq_true (by first | (with_reducible assumption) | assumption)
                                      obtain ⟨ad526, A526_0, c526_0, e526, hx526_0, hl526_0, hi526_0⟩ := at_L1 (Kd.N_reads' HO_8.out).2.2 x9_2 p526 q526
                                      cases e526
                                      obtain ⟨ce526, hce526, hMe526, hcc526⟩ := Kd.N_get HO_8.out [] x9_2 p526 (by first | exact q526 | exact of_decide_eq_true (by first | (with_reducible assumption) | assumption) | (have e_ := (Kd.N_reads' HO_8.out).1; omega))
                                      obtain ⟨ua526_0, uc526_0, rfl, ul526_0, ge526_0⟩ := Kd.FK_slice_open hMe526
                                      have hv526_0 := hcc526 0 _ rfl
                                      rw [Nat.add_zero, show ((Kd.slice 3 (Kd.int .i64))).sz = 1 from rfl, Nat.mul_one] at hv526_0
                                      replace hv526_0 := Option.some.inj (hv526_0.symm.trans hx526_0)
                                      injection hv526_0 with hva_ hvn_ hvc_
                                      rw [hva_] at ge526_0
                                      rw [hvc_] at ul526_0
                                      have HL526_0 := Aside0.mk (show Kd.V (Kd.int .i64) 3 _ w.heap.size _ _ (rd_L1 t523 x9_2) from Kd.V_mk ul526_0 ge526_0)
                                      clear hva_ hvn_ hvc_ ge526_0 ul526_0
                                      clear hcc526 hce526
                                      have HR526_0 := Aside0.mk hi526_0
                                      have HC526_0 := Aside0.mk hl526_0
                                      clear hi526_0 hl526_0
                                      replace p526 := eq_true p526
                                      replace q526 := eq_true q526
                                      have p527 : 0 ≤ (0 : Int) := (by omega)
                                      have q527 : 0 < ((rd_L1 t523 x9_2).length : Int) := of_decide_eq_true (by first | (with_reducible assumption) | assumption)
                                      obtain ⟨ad527, e527, hx527_0⟩ := Kd.at_int (by repeat (first | (with_reducible exact HR526_0.out) | (with_reducible refine Kd.C_alloc ?_ _) | (with_reducible refine Kd.C_drewN ?_ _) | (with_reducible refine Kd.C_drew ?_) | exact HR526_0.out)) 0 p527 q527
                                      cases e527
                                      have qi527 : (0 < (rd_L1 t523 x9_2).length) = True := eq_true (by omega)
                                      (try rw [show ((0 : Int)).toNat = 0 from rfl] at hx527_0)
                                      (try rw [Addr.add_zero'] at hx527_0)
                                      replace p527 := eq_true p527
                                      replace q527 := eq_true q527
                                      have p528 : 0 ≤ ((rd (rd_L1 t523 x9_2) 0) : Int) := of_decide_eq_true (by first | (with_reducible assumption) | assumption)
                                      have q528 : (rd (rd_L1 t523 x9_2) 0) < (l0.length : Int) := of_decide_eq_true (by first | (with_reducible assumption) | assumption)
                                      obtain ⟨ad528, e528, hx528_0⟩ := Kd.at_int HR0.out (rd (rd_L1 t523 x9_2) 0) p528 q528
                                      cases e528
                                      replace hx528_0 := (HB.out.cell (World.block_lt_of_cell? w _ hx528_0)).trans hx528_0
                                      replace p528 := eq_true p528
                                      replace q528 := eq_true q528
                                      have p529 : 0 ≤ (x9_2 : Int) := of_decide_eq_true (by first | (with_reducible assumption) | assumption)
                                      have q529 : x9_2 < (t523.length : Int) := of_decide_eq_true (by first | (with_reducible assumption) | assumption)
                                      obtain ⟨ad529, A529_0, c529_0, e529, hx529_0, hl529_0, hi529_0⟩ := at_L1 (Kd.N_reads' HO_8.out).2.2 x9_2 p529 q529
                                      obtain rfl : ad526 = ad529 := (by injection e529)
                                      obtain ⟨ce529, hce529, hMe529, hcc529⟩ := Kd.N_get HO_8.out [] x9_2 p529 (by first | exact q529 | exact of_decide_eq_true (by first | (with_reducible assumption) | assumption) | (have e_ := (Kd.N_reads' HO_8.out).1; omega))
                                      obtain ⟨ua529_0, uc529_0, rfl, ul529_0, ge529_0⟩ := Kd.FK_slice_open hMe529
                                      have hv529_0 := hcc529 0 _ rfl
                                      rw [Nat.add_zero, show ((Kd.slice 3 (Kd.int .i64))).sz = 1 from rfl, Nat.mul_one] at hv529_0
                                      replace hv529_0 := Option.some.inj (hv529_0.symm.trans hx529_0)
                                      injection hv529_0 with hva_ hvn_ hvc_
                                      rw [hva_] at ge529_0
                                      rw [hvc_] at ul529_0
                                      have HL529_0 := Aside0.mk (show Kd.V (Kd.int .i64) 3 _ w.heap.size _ _ (rd_L1 t523 x9_2) from Kd.V_mk ul529_0 ge529_0)
                                      clear hva_ hvn_ hvc_ ge529_0 ul529_0
                                      clear hcc529 hce529
                                      have HR529_0 := Aside0.mk hi529_0
                                      have HC529_0 := Aside0.mk hl529_0
                                      clear hi529_0 hl529_0
                                      replace p529 := eq_true p529
                                      replace q529 := eq_true q529
                                      have ea_ := Option.some.inj (hx526_0.symm.trans hx529_0)
                                      injection ea_ with ea_ en_ ec_
                                      subst ea_
                                      subst ec_
                                      clear en_
                                      have p530 : 0 ≤ (1 : Int) := (by omega)
                                      have q530 : 1 < ((rd_L1 t523 x9_2).length : Int) := of_decide_eq_true (by first | (with_reducible assumption) | assumption)
                                      obtain ⟨ad530, e530, hx530_0⟩ := Kd.at_int (by repeat (first | (with_reducible exact HR529_0.out) | (with_reducible refine Kd.C_alloc ?_ _) | (with_reducible refine Kd.C_drewN ?_ _) | (with_reducible refine Kd.C_drew ?_) | exact HR529_0.out)) 1 p530 q530
                                      cases e530
                                      (try simp only [show (1 : Int).toNat = 1 from rfl, Nat.reduceMul, Nat.reduceEqDiff, Go.Addr.add, ↓reduceIte] at hx530_0)
                                      have qi530 : (1 < (rd_L1 t523 x9_2).length) = True := eq_true (by omega)
                                      (try rw [show ((1 : Int)).toNat = 1 from rfl] at hx530_0)
                                      replace p530 := eq_true p530
                                      replace q530 := eq_true q530
                                      have p531 : 0 ≤ ((rd (rd_L1 t523 x9_2) 1) : Int) := of_decide_eq_true (by first | (with_reducible assumption) | assumption)
                                      have q531 : (rd (rd_L1 t523 x9_2) 1) < (l0.length : Int) := of_decide_eq_true (by first | (with_reducible assumption) | assumption)
                                      obtain ⟨ad531, e531, hx531_0⟩ := Kd.at_int HR0.out (rd (rd_L1 t523 x9_2) 1) p531 q531
                                      obtain rfl : ad528 = ad531 := (by injection e531)
                                      replace hx531_0 := (HB.out.cell (World.block_lt_of_cell? w _ hx531_0)).trans hx531_0
                                      replace p531 := eq_true p531
                                      replace q531 := eq_true q531
                                      have p532 : 0 ≤ (x9_2 : Int) := of_decide_eq_true (by first | (with_reducible assumption) | assumption)
                                      have q532 : x9_2 < (t523.length : Int) := of_decide_eq_true (by first | (with_reducible assumption) | assumption)
                                      obtain ⟨ad532, A532_0, c532_0, e532, hx532_0, hl532_0, hi532_0⟩ := at_L1 (Kd.N_reads' HO_8.out).2.2 x9_2 p532 q532
                                      obtain rfl : ad526 = ad532 := (by injection e532)
                                      obtain ⟨ce532, hce532, hMe532, hcc532⟩ := Kd.N_get HO_8.out [] x9_2 p532 (by first | exact q532 | exact of_decide_eq_true (by first | (with_reducible assumption) | assumption) | (have e_ := (Kd.N_reads' HO_8.out).1; omega))
                                      obtain ⟨ua532_0, uc532_0, rfl, ul532_0, ge532_0⟩ := Kd.FK_slice_open hMe532
                                      have hv532_0 := hcc532 0 _ rfl
                                      rw [Nat.add_zero, show ((Kd.slice 3 (Kd.int .i64))).sz = 1 from rfl, Nat.mul_one] at hv532_0
                                      replace hv532_0 := Option.some.inj (hv532_0.symm.trans hx532_0)
                                      injection hv532_0 with hva_ hvn_ hvc_
                                      rw [hva_] at ge532_0
                                      rw [hvc_] at ul532_0
                                      have HL532_0 := Aside0.mk (show Kd.V (Kd.int .i64) 3 _ w.heap.size _ _ (rd_L1 t523 x9_2) from Kd.V_mk ul532_0 ge532_0)
                                      clear hva_ hvn_ hvc_ ge532_0 ul532_0
                                      clear hcc532 hce532
                                      have HR532_0 := Aside0.mk hi532_0
                                      have HC532_0 := Aside0.mk hl532_0
                                      clear hi532_0 hl532_0
                                      replace p532 := eq_true p532
                                      replace q532 := eq_true q532
                                      have ea_ := Option.some.inj (hx526_0.symm.trans hx532_0)
                                      injection ea_ with ea_ en_ ec_
                                      subst ea_
                                      subst ec_
                                      clear en_
                                      go_wp2_with (first | ((with_reducible refine gate_builtin (b := .append) (xs := #[.tmp 62, .tmp 69]) rfl ?_); (try (refine gate_guard (by rfl) ?_; dsimp only)); at_builtin; refine Kd.N_append k29 (w0 := w) w.heap.size rfl (.tmp 62) (.tmp 69) 26 29 (.agg #[(.int .i64 0), (.slice none 0 0), (.int .i64 0)]) 40 rfl Try.underlying26 info29 rfl (by decide) (by omega) u7 x7_2 (⟨5, rd_L1 t523 x9_2, a2⟩ : S29) [.int .i64 5, .slice (some ad527) (rd_L1 t523 x9_2).length c526_0, .int .i64 a2] (fun k_ => (w.heap.size ≤ k_)) (fun k_ => ((fun k_ => (w.heap.size ≤ k_))) k_ ∧ some k_ ≠ (u7 : Value).ownBlock) rfl rfl ?aP (fun _ hk => hk) ?aF ?aO ?aB ?aS ?aL ?_; (case aP => have z2 := Kd.V_drewN (Kd.V_mono (ok' := fun k_ => w.heap.size ≤ k_ ∧ some k_ ≠ (u7 : Value).ownBlock) HL532_0.out (fun k_ hk => ⟨hk.1.1, hk.1.2⟩)) nq; refine k29_mkF _ _ (⟨5, rd_L1 t523 x9_2, a2⟩ : S29) (Kd.V_reads' z2).2.1 ?_; exact Kd.V_F z2); (case aB => exact (by repeat (first | (with_reducible first | exact HB.out | apply below_alloc | apply pw_below_drewN | apply below_drew1) | exact HB.out))); (case aF => exact (fun k_ hk => (Nat.le_trans (below_size (by repeat (first | (with_reducible first | exact HB.out | apply below_alloc | apply pw_below_drewN | apply below_drew1) | exact HB.out))) hk))); (case aO => exact (by (with_reducible repeat (first | apply Kd.N_alloc | apply Kd.N_drewN | apply Kd.N_drew)); exact HO_7.out)); (case aS => exact (below_size (by repeat (first | (with_reducible first | exact HB.out | apply below_alloc | apply pw_below_drewN | apply below_drew1) | exact HB.out)))); (case aL => have := LMc31.out; omega); intro v534 w33 ho hb hg hat; rw [← Ny533.out] at ho; have n0_ := Aside0.mk (Kd.N_afterv (ok := (fun k_ => (w.heap.size ≤ k_))) (by (with_reducible repeat (first | apply Kd.N_alloc | apply Kd.N_drewN | apply Kd.N_drew)); exact HO_8.out) hg hat); have n1_ := Aside0.mk (Kd.N_afterv (ok := (fun k_ => (w.heap.size ≤ k_))) (by (with_reducible repeat (first | apply Kd.N_alloc | apply Kd.N_drewN | apply Kd.N_drew)); exact HO_25.out) hg hat); have n2_ := Aside0.mk (Kd.V_afterv (ok := (fun k_ => (w.heap.size ≤ k_) ∧ some k_ ≠ (.slice (some ad526) t523.length co32 : Value).ownBlock)) (by (with_reducible repeat (first | apply Kd.V_alloc | apply Kd.V_drewN | apply Kd.V_drew)); exact Kd.V_mono HL526_0.out (fun _ hk => ⟨⟨hk.1.1, hk.2⟩, hk.1.2⟩)) hg hat); have n3_ := Aside0.mk (Kd.V_afterv (ok := (fun k_ => (w.heap.size ≤ k_) ∧ some k_ ≠ (.slice (some ad526) t523.length co32 : Value).ownBlock)) (by (with_reducible repeat (first | apply Kd.V_alloc | apply Kd.V_drewN | apply Kd.V_drew)); exact Kd.V_mono HL529_0.out (fun _ hk => ⟨⟨hk.1.1, hk.2⟩, hk.1.2⟩)) hg hat); have n4_ := Aside0.mk (Kd.V_afterv (ok := (fun k_ => (w.heap.size ≤ k_) ∧ some k_ ≠ (.slice (some ad526) t523.length co32 : Value).ownBlock)) (by (with_reducible repeat (first | apply Kd.V_alloc | apply Kd.V_drewN | apply Kd.V_drew)); exact Kd.V_mono HL532_0.out (fun _ hk => ⟨⟨hk.1.1, hk.2⟩, hk.1.2⟩)) hg hat); have n5_ := Aside0.mk (hb); have n6_ := Aside0.mk (ho); clear HO_8; clear HO_25; clear HL526_0; clear HL529_0; clear HL532_0; clear HB; clear HO_7; have HO_8 := n0_; have HO_25 := n1_; have HL526_0 := n2_; have HL529_0 := n3_; have HL532_0 := n4_; have HB := n5_; have HO535 := n6_; clear n0_ n1_ n2_ n3_ n4_ n5_ n6_; clear ho hb hg hat))
                                      repeat (go_quiet (first | ((with_reducible refine gate_builtin (b := .append) (xs := #[.tmp 62, .tmp 69]) rfl ?_); (try (refine gate_guard (by rfl) ?_; dsimp only)); at_builtin; refine Kd.N_append k29 (w0 := w) w.heap.size rfl (.tmp 62) (.tmp 69) 26 29 (.agg #[(.int .i64 0), (.slice none 0 0), (.int .i64 0)]) 40 rfl Try.underlying26 info29 rfl (by decide) (by omega) u7 x7_2 (⟨5, rd_L1 t523 x9_2, a2⟩ : S29) [.int .i64 5, .slice (some ad527) (rd_L1 t523 x9_2).length c526_0, .int .i64 a2] (fun k_ => (w.heap.size ≤ k_)) (fun k_ => ((fun k_ => (w.heap.size ≤ k_))) k_ ∧ some k_ ≠ (u7 : Value).ownBlock) rfl rfl ?aP (fun _ hk => hk) ?aF ?aO ?aB ?aS ?aL ?_; (case aP => have z2 := Kd.V_drewN (Kd.V_mono (ok' := fun k_ => w.heap.size ≤ k_ ∧ some k_ ≠ (u7 : Value).ownBlock) HL532_0.out (fun k_ hk => ⟨hk.1.1, hk.1.2⟩)) nq; refine k29_mkF _ _ (⟨5, rd_L1 t523 x9_2, a2⟩ : S29) (Kd.V_reads' z2).2.1 ?_; exact Kd.V_F z2); (case aB => exact (by repeat (first | (with_reducible first | exact HB.out | apply below_alloc | apply pw_below_drewN | apply below_drew1) | exact HB.out))); (case aF => exact (fun k_ hk => (Nat.le_trans (below_size (by repeat (first | (with_reducible first | exact HB.out | apply below_alloc | apply pw_below_drewN | apply below_drew1) | exact HB.out))) hk))); (case aO => exact (by (with_reducible repeat (first | apply Kd.N_alloc | apply Kd.N_drewN | apply Kd.N_drew)); exact HO_7.out)); (case aS => exact (below_size (by repeat (first | (with_reducible first | exact HB.out | apply below_alloc | apply pw_below_drewN | apply below_drew1) | exact HB.out)))); (case aL => have := LMc31.out; omega); intro v534 w33 ho hb hg hat; rw [← Ny533.out] at ho; have n0_ := Aside0.mk (Kd.N_afterv (ok := (fun k_ => (w.heap.size ≤ k_))) (by (with_reducible repeat (first | apply Kd.N_alloc | apply Kd.N_drewN | apply Kd.N_drew)); exact HO_8.out) hg hat); have n1_ := Aside0.mk (Kd.N_afterv (ok := (fun k_ => (w.heap.size ≤ k_))) (by (with_reducible repeat (first | apply Kd.N_alloc | apply Kd.N_drewN | apply Kd.N_drew)); exact HO_25.out) hg hat); have n2_ := Aside0.mk (Kd.V_afterv (ok := (fun k_ => (w.heap.size ≤ k_) ∧ some k_ ≠ (.slice (some ad526) t523.length co32 : Value).ownBlock)) (by (with_reducible repeat (first | apply Kd.V_alloc | apply Kd.V_drewN | apply Kd.V_drew)); exact Kd.V_mono HL526_0.out (fun _ hk => ⟨⟨hk.1.1, hk.2⟩, hk.1.2⟩)) hg hat); have n3_ := Aside0.mk (Kd.V_afterv (ok := (fun k_ => (w.heap.size ≤ k_) ∧ some k_ ≠ (.slice (some ad526) t523.length co32 : Value).ownBlock)) (by (with_reducible repeat (first | apply Kd.V_alloc | apply Kd.V_drewN | apply Kd.V_drew)); exact Kd.V_mono HL529_0.out (fun _ hk => ⟨⟨hk.1.1, hk.2⟩, hk.1.2⟩)) hg hat); have n4_ := Aside0.mk (Kd.V_afterv (ok := (fun k_ => (w.heap.size ≤ k_) ∧ some k_ ≠ (.slice (some ad526) t523.length co32 : Value).ownBlock)) (by (with_reducible repeat (first | apply Kd.V_alloc | apply Kd.V_drewN | apply Kd.V_drew)); exact Kd.V_mono HL532_0.out (fun _ hk => ⟨⟨hk.1.1, hk.2⟩, hk.1.2⟩)) hg hat); have n5_ := Aside0.mk (hb); have n6_ := Aside0.mk (ho); clear HO_8; clear HO_25; clear HL526_0; clear HL529_0; clear HL532_0; clear HB; clear HO_7; have HO_8 := n0_; have HO_25 := n1_; have HL526_0 := n2_; have HL529_0 := n3_; have HL532_0 := n4_; have HB := n5_; have HO535 := n6_; clear n0_ n1_ n2_ n3_ n4_ n5_ n6_; clear ho hb hg hat)); try go_wp2_with (first | ((with_reducible refine gate_builtin (b := .append) (xs := #[.tmp 62, .tmp 69]) rfl ?_); (try (refine gate_guard (by rfl) ?_; dsimp only)); at_builtin; refine Kd.N_append k29 (w0 := w) w.heap.size rfl (.tmp 62) (.tmp 69) 26 29 (.agg #[(.int .i64 0), (.slice none 0 0), (.int .i64 0)]) 40 rfl Try.underlying26 info29 rfl (by decide) (by omega) u7 x7_2 (⟨5, rd_L1 t523 x9_2, a2⟩ : S29) [.int .i64 5, .slice (some ad527) (rd_L1 t523 x9_2).length c526_0, .int .i64 a2] (fun k_ => (w.heap.size ≤ k_)) (fun k_ => ((fun k_ => (w.heap.size ≤ k_))) k_ ∧ some k_ ≠ (u7 : Value).ownBlock) rfl rfl ?aP (fun _ hk => hk) ?aF ?aO ?aB ?aS ?aL ?_; (case aP => have z2 := Kd.V_drewN (Kd.V_mono (ok' := fun k_ => w.heap.size ≤ k_ ∧ some k_ ≠ (u7 : Value).ownBlock) HL532_0.out (fun k_ hk => ⟨hk.1.1, hk.1.2⟩)) nq; refine k29_mkF _ _ (⟨5, rd_L1 t523 x9_2, a2⟩ : S29) (Kd.V_reads' z2).2.1 ?_; exact Kd.V_F z2); (case aB => exact (by repeat (first | (with_reducible first | exact HB.out | apply below_alloc | apply pw_below_drewN | apply below_drew1) | exact HB.out))); (case aF => exact (fun k_ hk => (Nat.le_trans (below_size (by repeat (first | (with_reducible first | exact HB.out | apply below_alloc | apply pw_below_drewN | apply below_drew1) | exact HB.out))) hk))); (case aO => exact (by (with_reducible repeat (first | apply Kd.N_alloc | apply Kd.N_drewN | apply Kd.N_drew)); exact HO_7.out)); (case aS => exact (below_size (by repeat (first | (with_reducible first | exact HB.out | apply below_alloc | apply pw_below_drewN | apply below_drew1) | exact HB.out)))); (case aL => have := LMc31.out; omega); intro v534 w33 ho hb hg hat; rw [← Ny533.out] at ho; have n0_ := Aside0.mk (Kd.N_afterv (ok := (fun k_ => (w.heap.size ≤ k_))) (by (with_reducible repeat (first | apply Kd.N_alloc | apply Kd.N_drewN | apply Kd.N_drew)); exact HO_8.out) hg hat); have n1_ := Aside0.mk (Kd.N_afterv (ok := (fun k_ => (w.heap.size ≤ k_))) (by (with_reducible repeat (first | apply Kd.N_alloc | apply Kd.N_drewN | apply Kd.N_drew)); exact HO_25.out) hg hat); have n2_ := Aside0.mk (Kd.V_afterv (ok := (fun k_ => (w.heap.size ≤ k_) ∧ some k_ ≠ (.slice (some ad526) t523.length co32 : Value).ownBlock)) (by (with_reducible repeat (first | apply Kd.V_alloc | apply Kd.V_drewN | apply Kd.V_drew)); exact Kd.V_mono HL526_0.out (fun _ hk => ⟨⟨hk.1.1, hk.2⟩, hk.1.2⟩)) hg hat); have n3_ := Aside0.mk (Kd.V_afterv (ok := (fun k_ => (w.heap.size ≤ k_) ∧ some k_ ≠ (.slice (some ad526) t523.length co32 : Value).ownBlock)) (by (with_reducible repeat (first | apply Kd.V_alloc | apply Kd.V_drewN | apply Kd.V_drew)); exact Kd.V_mono HL529_0.out (fun _ hk => ⟨⟨hk.1.1, hk.2⟩, hk.1.2⟩)) hg hat); have n4_ := Aside0.mk (Kd.V_afterv (ok := (fun k_ => (w.heap.size ≤ k_) ∧ some k_ ≠ (.slice (some ad526) t523.length co32 : Value).ownBlock)) (by (with_reducible repeat (first | apply Kd.V_alloc | apply Kd.V_drewN | apply Kd.V_drew)); exact Kd.V_mono HL532_0.out (fun _ hk => ⟨⟨hk.1.1, hk.2⟩, hk.1.2⟩)) hg hat); have n5_ := Aside0.mk (hb); have n6_ := Aside0.mk (ho); clear HO_8; clear HO_25; clear HL526_0; clear HL529_0; clear HL532_0; clear HB; clear HO_7; have HO_8 := n0_; have HO_25 := n1_; have HL526_0 := n2_; have HL529_0 := n3_; have HL532_0 := n4_; have HB := n5_; have HO535 := n6_; clear n0_ n1_ n2_ n3_ n4_ n5_ n6_; clear ho hb hg hat)))
                                      go_roundg kj14
                                      case measure => have := HJ3.out; have := HK2.out; have := HJ14.out; omega
                                      case rel => exact ⟨(y533), (wrap64 (x9_2 + 1)), (by first | rfl | (simp; done) | (simp [*]; done)), H', ⟨by have := HJ3.out; have := HK2.out; have := HJ14.out; omega⟩, ⟨by (with_reducible repeat (first | apply Kd.N_alloc | apply Kd.N_drewN | apply Kd.N_drew)); exact HO535.out⟩, ⟨by (with_reducible repeat (first | apply Kd.N_alloc | apply Kd.N_drewN | apply Kd.N_drew)); exact HO_25.out⟩, ⟨by repeat (first | (with_reducible first | exact HB.out | apply below_alloc | apply pw_below_drewN | apply below_drew1) | exact HB.out)⟩⟩
                                    · rw [if_neg c31] at H
                                      exact absurd H (by simp)
                                  · rw [if_neg c30] at H
                                    have c30b0 : ((ji29) == a2) = false := beq_eq_false_iff_ne.mpr c30
                                    have c30b1 : ((ji29) != a2) = true := bne_iff_ne.mpr c30
                                    have H' := Aside0.mk H
                                    clear H
                                    obtain ⟨Ao34, co34, eo34⟩ := Kd.N_slice HO_8.out
                                    subst eo34
                                    have p526 : 0 ≤ (x9_2 : Int) := of_decide_eq_true (by first | (with_reducible assumption) | assumption)
                                    have q526 : x9_2 < (t523.length : Int) := of_decide_eq_true (by first | (with_reducible assumption) | assumption)
                                    obtain ⟨ad526, A526_0, c526_0, e526, hx526_0, hl526_0, hi526_0⟩ := at_L1 (Kd.N_reads' HO_8.out).2.2 x9_2 p526 q526
                                    cases e526
                                    obtain ⟨ce526, hce526, hMe526, hcc526⟩ := Kd.N_get HO_8.out [] x9_2 p526 (by first | exact q526 | exact of_decide_eq_true (by first | (with_reducible assumption) | assumption) | (have e_ := (Kd.N_reads' HO_8.out).1; omega))
                                    obtain ⟨ua526_0, uc526_0, rfl, ul526_0, ge526_0⟩ := Kd.FK_slice_open hMe526
                                    have hv526_0 := hcc526 0 _ rfl
                                    rw [Nat.add_zero, show ((Kd.slice 3 (Kd.int .i64))).sz = 1 from rfl, Nat.mul_one] at hv526_0
                                    replace hv526_0 := Option.some.inj (hv526_0.symm.trans hx526_0)
                                    injection hv526_0 with hva_ hvn_ hvc_
                                    rw [hva_] at ge526_0
                                    rw [hvc_] at ul526_0
                                    have HL526_0 := Aside0.mk (show Kd.V (Kd.int .i64) 3 _ w.heap.size _ _ (rd_L1 t523 x9_2) from Kd.V_mk ul526_0 ge526_0)
                                    clear hva_ hvn_ hvc_ ge526_0 ul526_0
                                    clear hcc526 hce526
                                    have HR526_0 := Aside0.mk hi526_0
                                    have HC526_0 := Aside0.mk hl526_0
                                    clear hi526_0 hl526_0
                                    replace p526 := eq_true p526
                                    replace q526 := eq_true q526
                                    have p527 : 0 ≤ (0 : Int) := (by omega)
                                    have q527 : 0 < ((rd_L1 t523 x9_2).length : Int) := of_decide_eq_true (by first | (with_reducible assumption) | assumption)
                                    obtain ⟨ad527, e527, hx527_0⟩ := Kd.at_int (by repeat (first | (with_reducible exact HR526_0.out) | (with_reducible refine Kd.C_alloc ?_ _) | (with_reducible refine Kd.C_drewN ?_ _) | (with_reducible refine Kd.C_drew ?_) | exact HR526_0.out)) 0 p527 q527
                                    cases e527
                                    have qi527 : (0 < (rd_L1 t523 x9_2).length) = True := eq_true (by omega)
                                    (try rw [show ((0 : Int)).toNat = 0 from rfl] at hx527_0)
                                    (try rw [Addr.add_zero'] at hx527_0)
                                    replace p527 := eq_true p527
                                    replace q527 := eq_true q527
                                    have p528 : 0 ≤ ((rd (rd_L1 t523 x9_2) 0) : Int) := of_decide_eq_true (by first | (with_reducible assumption) | assumption)
                                    have q528 : (rd (rd_L1 t523 x9_2) 0) < (l0.length : Int) := of_decide_eq_true (by first | (with_reducible assumption) | assumption)
                                    obtain ⟨ad528, e528, hx528_0⟩ := Kd.at_int HR0.out (rd (rd_L1 t523 x9_2) 0) p528 q528
                                    cases e528
                                    replace hx528_0 := (HB.out.cell (World.block_lt_of_cell? w _ hx528_0)).trans hx528_0
                                    replace p528 := eq_true p528
                                    replace q528 := eq_true q528
                                    have p529 : 0 ≤ (x9_2 : Int) := of_decide_eq_true (by first | (with_reducible assumption) | assumption)
                                    have q529 : x9_2 < (t523.length : Int) := of_decide_eq_true (by first | (with_reducible assumption) | assumption)
                                    obtain ⟨ad529, A529_0, c529_0, e529, hx529_0, hl529_0, hi529_0⟩ := at_L1 (Kd.N_reads' HO_8.out).2.2 x9_2 p529 q529
                                    obtain rfl : ad526 = ad529 := (by injection e529)
                                    obtain ⟨ce529, hce529, hMe529, hcc529⟩ := Kd.N_get HO_8.out [] x9_2 p529 (by first | exact q529 | exact of_decide_eq_true (by first | (with_reducible assumption) | assumption) | (have e_ := (Kd.N_reads' HO_8.out).1; omega))
                                    obtain ⟨ua529_0, uc529_0, rfl, ul529_0, ge529_0⟩ := Kd.FK_slice_open hMe529
                                    have hv529_0 := hcc529 0 _ rfl
                                    rw [Nat.add_zero, show ((Kd.slice 3 (Kd.int .i64))).sz = 1 from rfl, Nat.mul_one] at hv529_0
                                    replace hv529_0 := Option.some.inj (hv529_0.symm.trans hx529_0)
                                    injection hv529_0 with hva_ hvn_ hvc_
                                    rw [hva_] at ge529_0
                                    rw [hvc_] at ul529_0
                                    have HL529_0 := Aside0.mk (show Kd.V (Kd.int .i64) 3 _ w.heap.size _ _ (rd_L1 t523 x9_2) from Kd.V_mk ul529_0 ge529_0)
                                    clear hva_ hvn_ hvc_ ge529_0 ul529_0
                                    clear hcc529 hce529
                                    have HR529_0 := Aside0.mk hi529_0
                                    have HC529_0 := Aside0.mk hl529_0
                                    clear hi529_0 hl529_0
                                    replace p529 := eq_true p529
                                    replace q529 := eq_true q529
                                    have ea_ := Option.some.inj (hx526_0.symm.trans hx529_0)
                                    injection ea_ with ea_ en_ ec_
                                    subst ea_
                                    subst ec_
                                    clear en_
                                    have p530 : 0 ≤ (1 : Int) := (by omega)
                                    have q530 : 1 < ((rd_L1 t523 x9_2).length : Int) := of_decide_eq_true (by first | (with_reducible assumption) | assumption)
                                    obtain ⟨ad530, e530, hx530_0⟩ := Kd.at_int (by repeat (first | (with_reducible exact HR529_0.out) | (with_reducible refine Kd.C_alloc ?_ _) | (with_reducible refine Kd.C_drewN ?_ _) | (with_reducible refine Kd.C_drew ?_) | exact HR529_0.out)) 1 p530 q530
                                    cases e530
                                    (try simp only [show (1 : Int).toNat = 1 from rfl, Nat.reduceMul, Nat.reduceEqDiff, Go.Addr.add, ↓reduceIte] at hx530_0)
                                    have qi530 : (1 < (rd_L1 t523 x9_2).length) = True := eq_true (by omega)
                                    (try rw [show ((1 : Int)).toNat = 1 from rfl] at hx530_0)
                                    replace p530 := eq_true p530
                                    replace q530 := eq_true q530
                                    have p531 : 0 ≤ ((rd (rd_L1 t523 x9_2) 1) : Int) := of_decide_eq_true (by first | (with_reducible assumption) | assumption)
                                    have q531 : (rd (rd_L1 t523 x9_2) 1) < (l0.length : Int) := of_decide_eq_true (by first | (with_reducible assumption) | assumption)
                                    obtain ⟨ad531, e531, hx531_0⟩ := Kd.at_int HR0.out (rd (rd_L1 t523 x9_2) 1) p531 q531
                                    obtain rfl : ad528 = ad531 := (by injection e531)
                                    replace hx531_0 := (HB.out.cell (World.block_lt_of_cell? w _ hx531_0)).trans hx531_0
                                    replace p531 := eq_true p531
                                    replace q531 := eq_true q531
                                    go_wp2
                                    repeat (go_quiet (fail); try go_wp2)
                                    go_roundg kj14
                                    case measure => have := HJ3.out; have := HK2.out; have := HJ14.out; omega
                                    case rel => exact ⟨(x7_2), (wrap64 (x9_2 + 1)), (by first | rfl | (simp; done) | (simp [*]; done)), H', ⟨by have := HJ3.out; have := HK2.out; have := HJ14.out; omega⟩, ⟨by (with_reducible repeat (first | apply Kd.N_alloc | apply Kd.N_drewN | apply Kd.N_drew)); exact HO_7.out⟩, ⟨by (with_reducible repeat (first | apply Kd.N_alloc | apply Kd.N_drewN | apply Kd.N_drew)); exact HO_25.out⟩, ⟨by repeat (first | (with_reducible first | exact HB.out | apply below_alloc | apply pw_below_drewN | apply below_drew1) | exact HB.out)⟩⟩
                                · rw [if_neg c28] at H
                                  exact absurd H (by simp)
                              · rw [if_neg c27] at H
                                exact absurd H (by simp)
                            · rw [if_neg c26] at H
                              exact absurd H (by simp)
                          · rw [if_neg c25] at H
                            exact absurd H (by simp)
                        · rw [if_neg c24] at H
                          exact absurd H (by simp)
                      · rw [if_neg c23] at H
                        exact absurd H (by simp)
                    · rw [if_neg c22] at H
                      exact absurd H (by simp)
                  · rw [if_neg c21] at H
                    exact absurd H (by simp)
                · replace c20 := Bool.eq_false_iff.mpr c20
                  subst c20
                  have H1 : (some x7_2) = some r := by rw [if_neg (show ¬ (false = true) by decide)] at H; exact H
                  clear H
                  have H := H1
                  clear H1
                  obtain rfl := Option.some.inj H
                  go_wp2
                  repeat (go_quiet (fail); try go_wp2)
                  go_ret
                  exact ⟨_, by first | rfl | (simp [errW_none, errW_some] <;> rfl) | (simp [*, errW_none, errW_some] <;> rfl), by (with_reducible repeat (first | apply Kd.N_alloc | apply Kd.N_drewN | apply Kd.N_drew)); exact HO_7.out, by repeat (first | (with_reducible first | exact HB.out | apply below_alloc | apply pw_below_drewN | apply below_drew1) | exact HB.out)⟩
end Go.Proofs.Ytbcikbekdhdpaaa.Q
end
section
namespace Go.Proofs.Ytbcikbekdhdpaaa.Q
open Go.RowKit Go.Proofs.YtbcikbekdhdpaaaW.PrintWords Go.Proofs.YtbcikbekdhdpaaaW.PrintLast Go.Proofs.YtbcikbekdhdpaaaW.PrintMore
attribute [local go_sem] max2_int min2_int max_two min_two max_three min_three max_four min_four   -- for this text's walks alone
set_option linter.unusedVariables false
set_option linter.unusedSimpArgs false
mutual
def laws_FnApartRules.l0 : Nat → Int → Int → Int → List Int → List (S29) → List (S29) → Option (Bool)
  | 0, _, _, _, _, _, _ => none
  | k + 1, x4, x5, x8, x17, x23, x27 => if x8 < (x23.length : Int) then (if 0 ≤ x8 then (if ((rd_T29 x23 x8).f0) = 5 then (if ((rd_T29 x23 x8).f2) = x5 then (if x8 < (x27.length : Int) then ((laws_sameInts.f k ((rd_T29 x23 x8).f1) ((rd_T29 x27 x8).f1)).bind fun t551 => (if t551 = true then (laws_FnApartRules.l0 k x4 x5 (wrap64 (x8 + 1)) x17 x23 x27) else (some false))) else (none)) else (some false)) else (some false)) else (none)) else ((spec_SquareSolved.f k x17 x4).bind fun t552 => (if t552 = true then (if x5 < 0 then (laws_FnApartRules.j1 k x17 x4 x5 x23 true) else (laws_FnApartRules.j1 k x17 x4 x5 x23 (decide (x5 ≥ x4)))) else (laws_FnApartRules.j1 k x17 x4 x5 x23 true)))
def laws_FnApartRules.j1 : Nat → List Int → Int → Int → List (S29) → Bool → Option (Bool)
  | 0, _, _, _, _, _ => none
  | k + 1, x3, x4, x5, x6, x80 => if x80 = true then (if (x6.length : Int) = 0 then ((laws_alive.f k).bind fun t553 => (some t553)) else (some false)) else (laws_FnApartRules.l1 k x3 x4 x5 x6 0 0)
def laws_FnApartRules.l1 : Nat → List Int → Int → Int → List (S29) → Int → Int → Option (Bool)
  | 0, _, _, _, _, _, _ => none
  | k + 1, x3, x4, x5, x6, x9, x10 => if x10 < (x3.length : Int) then (if x4 = 0 then (none) else (if (Int.tmod x10 x4) < (wrap64 (x4 - 1)) then (if 0 ≤ x10 then (if 0 ≤ (wrap64 (x10 + 1)) then (if (wrap64 (x10 + 1)) < (x3.length : Int) then (if (wrap64 ((rd x3 x10) - (rd x3 (wrap64 (x10 + 1))))) = x5 then (laws_FnApartRules.j3 k x3 x4 x5 x6 x9 x10 true) else (laws_FnApartRules.j3 k x3 x4 x5 x6 x9 x10 ((wrap64 ((rd x3 (wrap64 (x10 + 1))) - (rd x3 x10))) == x5))) else (none)) else (none)) else (none)) else (laws_FnApartRules.j3 k x3 x4 x5 x6 x9 x10 false))) else ((laws_hold.f k x6 x3 x4).bind fun t554 => (if t554 = true then (some ((x6.length : Int) == (mn x9 20))) else (some false)))
def laws_FnApartRules.j3 : Nat → List Int → Int → Int → List (S29) → Int → Int → Bool → Option (Bool)
  | 0, _, _, _, _, _, _, _ => none
  | k + 1, x3, x4, x5, x6, x9, x10, x126 => if x126 = true then (if x4 = 0 then (none) else (if (wrap64 (Int.tdiv x10 x4)) < (wrap64 (x4 - 1)) then (if 0 ≤ x10 then (if x10 < (x3.length : Int) then (if 0 ≤ (wrap64 (x10 + x4)) then (if (wrap64 (x10 + x4)) < (x3.length : Int) then (if (wrap64 ((rd x3 x10) - (rd x3 (wrap64 (x10 + x4))))) = x5 then (laws_FnApartRules.l1 k x3 x4 x5 x6 (wrap64 ((wrap64 (x9 + 1)) + 1)) (wrap64 (x10 + 1))) else (if (wrap64 ((rd x3 (wrap64 (x10 + x4))) - (rd x3 x10))) = x5 then (laws_FnApartRules.l1 k x3 x4 x5 x6 (wrap64 ((wrap64 (x9 + 1)) + 1)) (wrap64 (x10 + 1))) else (laws_FnApartRules.l1 k x3 x4 x5 x6 (wrap64 (x9 + 1)) (wrap64 (x10 + 1))))) else (none)) else (none)) else (none)) else (none)) else (laws_FnApartRules.l1 k x3 x4 x5 x6 (wrap64 (x9 + 1)) (wrap64 (x10 + 1))))) else (if x4 = 0 then (none) else (if (wrap64 (Int.tdiv x10 x4)) < (wrap64 (x4 - 1)) then (if 0 ≤ x10 then (if x10 < (x3.length : Int) then (if 0 ≤ (wrap64 (x10 + x4)) then (if (wrap64 (x10 + x4)) < (x3.length : Int) then (if (wrap64 ((rd x3 x10) - (rd x3 (wrap64 (x10 + x4))))) = x5 then (laws_FnApartRules.l1 k x3 x4 x5 x6 (wrap64 (x9 + 1)) (wrap64 (x10 + 1))) else (if (wrap64 ((rd x3 (wrap64 (x10 + x4))) - (rd x3 x10))) = x5 then (laws_FnApartRules.l1 k x3 x4 x5 x6 (wrap64 (x9 + 1)) (wrap64 (x10 + 1))) else (laws_FnApartRules.l1 k x3 x4 x5 x6 x9 (wrap64 (x10 + 1))))) else (none)) else (none)) else (none)) else (none)) else (laws_FnApartRules.l1 k x3 x4 x5 x6 x9 (wrap64 (x10 + 1)))))
end
def laws_FnApartRules.f (k : Nat) (l0 : List Int) : Option (Bool) := if (l0.length : Int) > 1048576 then (some true) else ((spec_DrawApartRules.f k l0).bind fun bt536 => ((impl_ApartRules.f k bt536.1 bt536.2.1 bt536.2.2).bind fun t541 => ((spec_ApartRules.f k bt536.1 bt536.2.1 bt536.2.2).bind fun t544 => (if (t541.length : Int) = (t544.length : Int) then (laws_FnApartRules.l0 k bt536.2.1 bt536.2.2 0 bt536.1 t541 t544) else (some false)))))
set_option maxHeartbeats 8000000 in
set_option maxRecDepth 100000 in
theorem laws_FnApartRules.calls (k : Nat) (A0 : Option Addr) (c0 : Nat) (l0 : List Int) (r : Bool) (w : World) (hr0 : Kd.C (Kd.int .u8) w A0 l0.length l0) (hc0 : l0.length ≤ c0) (h : laws_FnApartRules.f k l0 = some r) :
    Calls Try.prog 3 #[.slice A0 l0.length c0] w fun e w' => e = .returned (.bool r) ∧ Below w.heap.size w w' := by
  have HR0 := Aside0.mk hr0
  have HC0 := Aside0.mk hc0
  clear hr0 hc0
  have HB := Aside0.mk (Below.refl w.heap.size w)
  have H : (if (l0.length : Int) > 1048576 then (some true) else ((spec_DrawApartRules.f k l0).bind fun bt536 => ((impl_ApartRules.f k bt536.1 bt536.2.1 bt536.2.2).bind fun t541 => ((spec_ApartRules.f k bt536.1 bt536.2.1 bt536.2.2).bind fun t544 => (if (t541.length : Int) = (t544.length : Int) then (laws_FnApartRules.l0 k bt536.2.1 bt536.2.2 0 bt536.1 t541 t544) else (some false)))))) = some r := h
  clear h
  by_cases c2 : (l0.length : Int) > 1048576
  · rw [if_pos c2] at H
    have c2b0 : decide (1048576 < (l0.length : Int)) = true := decide_eq_true c2
    have c2b1 : decide (1048576 < l0.length) = true := decide_eq_true (by omega)
    clear c2
    obtain rfl := Option.some.inj H
    go_enter Try.func3, Try.ntmps3
    go_wp2
    repeat (go_quiet (fail); try go_wp2)
    go_ret
    exact ⟨by first | rfl | (simp [errW_none, errW_some] <;> rfl) | (simp [*, errW_none, errW_some] <;> rfl), by repeat (first | (with_reducible first | exact HB.out | apply below_alloc | apply pw_below_drewN | apply below_drew1) | exact HB.out)⟩
  · rw [if_neg c2] at H
    have c2b0 : decide (1048576 < (l0.length : Int)) = false := decide_eq_false c2
    have c2b1 : decide (1048576 < l0.length) = false := decide_eq_false (by omega)
    clear c2
    replace H := Option.bind_eq_some_iff.mp H
    obtain ⟨⟨t536, t537, t538⟩, A30, H⟩ := H
    replace H : ((impl_ApartRules.f k t536 t537 t538).bind fun t541 => ((spec_ApartRules.f k t536 t537 t538).bind fun t544 => (if (t541.length : Int) = (t544.length : Int) then (laws_FnApartRules.l0 k t537 t538 0 t536 t541 t544) else (some false)))) = some r := H
    have A3 := Aside0.mk A30
    clear A30
    replace H := Option.bind_eq_some_iff.mp H
    obtain ⟨t541, A40, H⟩ := H
    replace H : ((spec_ApartRules.f k t536 t537 t538).bind fun t544 => (if (t541.length : Int) = (t544.length : Int) then (laws_FnApartRules.l0 k t537 t538 0 t536 t541 t544) else (some false))) = some r := H
    have A4 := Aside0.mk A40
    clear A40
    replace H := Option.bind_eq_some_iff.mp H
    obtain ⟨t544, A50, H⟩ := H
    replace H : (if (t541.length : Int) = (t544.length : Int) then (laws_FnApartRules.l0 k t537 t538 0 t536 t541 t544) else (some false)) = some r := H
    have A5 := Aside0.mk A50
    clear A50
    by_cases c6 : (t541.length : Int) = (t544.length : Int)
    · rw [if_pos c6] at H
      have c6b0 : ((t541.length : Int) == (t544.length : Int)) = true := beq_iff_eq.mpr c6
      have c6b1 : ((t541.length : Int) != (t544.length : Int)) = false := bne_eq_false_iff_eq.mpr c6
      have c6b2 : (t541.length == t544.length) = true := by first | simpa using c6 | (simp at c6 ⊢; omega)
      clear c6
      have H' := Aside0.mk H
      clear H
      go_enter Try.func3, Try.ntmps3
      go_wp2_with (first | (go_at_call 10; (with_reducible refine (spec_DrawApartRules.calls k _ _ l0 t536 t537 t538 _ ?side1 ?side2 A3.out).mono ?_); (case side1 => repeat (first | exact HR0.out | (with_reducible refine Kd.C_alloc ?_ _) | (with_reducible refine Kd.C_drewN ?_ _) | (with_reducible refine Kd.C_drew ?_))); (case side2 => exact HC0.out); rintro e w7 ⟨v539, rfl, ho0, hb⟩; have n0_ := Aside0.mk (Kd.Q_lower ho0 (below_size (by repeat (first | (with_reducible first | exact HB.out | apply below_alloc | apply pw_below_drewN | apply below_drew1) | exact HB.out)))); have n1_ := Aside0.mk (below_step (by repeat (first | (with_reducible first | exact HB.out | apply below_alloc | apply pw_below_drewN | apply below_drew1) | exact HB.out)) hb); clear HB; have HO540 := n0_; have HB := n1_; clear n0_ n1_; (try clear hb); (try clear hb2); (try clear hk); (try clear hi); (try clear ho0); obtain ⟨Ao8, co8, eo8, _⟩ := Kd.Q_slice HO540.out; subst eo8) | (go_at_call 11; (with_reducible refine (impl_ApartRules.calls k _ _ t536 t537 t538 t541 _ ?side1 ?side2 A4.out).mono ?_); (case side1 => repeat (first | exact (Kd.Q_reads' HO540.out).2.2 | (with_reducible refine Kd.C_alloc ?_ _) | (with_reducible refine Kd.C_drewN ?_ _) | (with_reducible refine Kd.C_drew ?_))); (case side2 => exact (Kd.Q_reads' HO540.out).2.1); rintro e w9 ⟨v542, rfl, ho0, hb⟩; have n0_ := Aside0.mk (Kd.Q_below (by (with_reducible repeat (first | apply Kd.Q_alloc | apply Kd.Q_drewN | apply Kd.Q_drew)); exact HO540.out) hb); have n1_ := Aside0.mk (Kd.N_lower (Kd.N_mono (ok' := fun k_ => some k_ ≠ (.slice Ao8 t536.length co8 : Value).ownBlock) (Kd.S_N (Kd.S_bound ho0)) (fun k_ hk_ => (Kd.fresh' (Kd.Q_lt (by (with_reducible repeat (first | apply Kd.Q_alloc | apply Kd.Q_drewN | apply Kd.Q_drew)); exact HO540.out)) k_ hk_.2.1))) (below_size (by repeat (first | (with_reducible first | exact HB.out | apply below_alloc | apply pw_below_drewN | apply below_drew1) | exact HB.out)))); have n2_ := Aside0.mk (below_step (by repeat (first | (with_reducible first | exact HB.out | apply below_alloc | apply pw_below_drewN | apply below_drew1) | exact HB.out)) hb); clear HO540; clear HB; have HO540 := n0_; have HO543 := n1_; have HB := n2_; clear n0_ n1_ n2_; (try clear hb); (try clear hb2); (try clear hk); (try clear hi); (try clear ho0)) | (go_at_call 12; (with_reducible refine (spec_ApartRules.calls k _ _ t536 t537 t538 t544 _ ?side1 ?side2 A5.out).mono ?_); (case side1 => repeat (first | exact (Kd.Q_reads' HO540.out).2.2 | (with_reducible refine Kd.C_alloc ?_ _) | (with_reducible refine Kd.C_drewN ?_ _) | (with_reducible refine Kd.C_drew ?_))); (case side2 => exact (Kd.Q_reads' HO540.out).2.1); rintro e w10 ⟨v545, rfl, ho0, hb⟩; have n0_ := Aside0.mk (Kd.Q_below (by (with_reducible repeat (first | apply Kd.Q_alloc | apply Kd.Q_drewN | apply Kd.Q_drew)); exact HO540.out) hb); have n1_ := Aside0.mk (Kd.N_elder' (by (with_reducible repeat (first | apply Kd.N_alloc | apply Kd.N_drewN | apply Kd.N_drew)); exact HO543.out) (by first | exact Kd.N_base ho0 | exact Kd.N_base (Kd.S_N ho0) | exact Kd.N_base (Kd.R_N ho0)) hb); have n2_ := Aside0.mk (Kd.N_lower (Kd.N_mono (ok' := fun k_ => some k_ ≠ (.slice Ao8 t536.length co8 : Value).ownBlock ∧ some k_ ≠ (v542 : Value).ownBlock) ho0 (fun k_ hk_ => ⟨(Kd.fresh' (Kd.Q_lt (by (with_reducible repeat (first | apply Kd.Q_alloc | apply Kd.Q_drewN | apply Kd.Q_drew)); exact HO540.out)) k_ hk_), (Kd.fresh' (Kd.N_lt (by (with_reducible repeat (first | apply Kd.N_alloc | apply Kd.N_drewN | apply Kd.N_drew)); exact HO543.out)) k_ hk_)⟩)) (below_size (by repeat (first | (with_reducible first | exact HB.out | apply below_alloc | apply pw_below_drewN | apply below_drew1) | exact HB.out)))); have n3_ := Aside0.mk (below_step (by repeat (first | (with_reducible first | exact HB.out | apply below_alloc | apply pw_below_drewN | apply below_drew1) | exact HB.out)) hb); clear HO540; clear HO543; clear HB; have HO540 := n0_; have HO543 := n1_; have HO546 := n2_; have HB := n3_; clear n0_ n1_ n2_ n3_; (try clear hb); (try clear hb2); (try clear hk); (try clear hi); (try clear ho0); obtain ⟨Ao11, co11, eo11⟩ := Kd.N_slice HO543.out; subst eo11; obtain ⟨Ao12, co12, eo12⟩ := Kd.N_slice HO546.out; subst eo12))
      repeat (go_quiet (first | (go_at_call 10; (with_reducible refine (spec_DrawApartRules.calls k _ _ l0 t536 t537 t538 _ ?side1 ?side2 A3.out).mono ?_); (case side1 => repeat (first | exact HR0.out | (with_reducible refine Kd.C_alloc ?_ _) | (with_reducible refine Kd.C_drewN ?_ _) | (with_reducible refine Kd.C_drew ?_))); (case side2 => exact HC0.out); rintro e w7 ⟨v539, rfl, ho0, hb⟩; have n0_ := Aside0.mk (Kd.Q_lower ho0 (below_size (by repeat (first | (with_reducible first | exact HB.out | apply below_alloc | apply pw_below_drewN | apply below_drew1) | exact HB.out)))); have n1_ := Aside0.mk (below_step (by repeat (first | (with_reducible first | exact HB.out | apply below_alloc | apply pw_below_drewN | apply below_drew1) | exact HB.out)) hb); clear HB; have HO540 := n0_; have HB := n1_; clear n0_ n1_; (try clear hb); (try clear hb2); (try clear hk); (try clear hi); (try clear ho0); obtain ⟨Ao8, co8, eo8, _⟩ := Kd.Q_slice HO540.out; subst eo8) | (go_at_call 11; (with_reducible refine (impl_ApartRules.calls k _ _ t536 t537 t538 t541 _ ?side1 ?side2 A4.out).mono ?_); (case side1 => repeat (first | exact (Kd.Q_reads' HO540.out).2.2 | (with_reducible refine Kd.C_alloc ?_ _) | (with_reducible refine Kd.C_drewN ?_ _) | (with_reducible refine Kd.C_drew ?_))); (case side2 => exact (Kd.Q_reads' HO540.out).2.1); rintro e w9 ⟨v542, rfl, ho0, hb⟩; have n0_ := Aside0.mk (Kd.Q_below (by (with_reducible repeat (first | apply Kd.Q_alloc | apply Kd.Q_drewN | apply Kd.Q_drew)); exact HO540.out) hb); have n1_ := Aside0.mk (Kd.N_lower (Kd.N_mono (ok' := fun k_ => some k_ ≠ (.slice Ao8 t536.length co8 : Value).ownBlock) (Kd.S_N (Kd.S_bound ho0)) (fun k_ hk_ => (Kd.fresh' (Kd.Q_lt (by (with_reducible repeat (first | apply Kd.Q_alloc | apply Kd.Q_drewN | apply Kd.Q_drew)); exact HO540.out)) k_ hk_.2.1))) (below_size (by repeat (first | (with_reducible first | exact HB.out | apply below_alloc | apply pw_below_drewN | apply below_drew1) | exact HB.out)))); have n2_ := Aside0.mk (below_step (by repeat (first | (with_reducible first | exact HB.out | apply below_alloc | apply pw_below_drewN | apply below_drew1) | exact HB.out)) hb); clear HO540; clear HB; have HO540 := n0_; have HO543 := n1_; have HB := n2_; clear n0_ n1_ n2_; (try clear hb); (try clear hb2); (try clear hk); (try clear hi); (try clear ho0)) | (go_at_call 12; (with_reducible refine (spec_ApartRules.calls k _ _ t536 t537 t538 t544 _ ?side1 ?side2 A5.out).mono ?_); (case side1 => repeat (first | exact (Kd.Q_reads' HO540.out).2.2 | (with_reducible refine Kd.C_alloc ?_ _) | (with_reducible refine Kd.C_drewN ?_ _) | (with_reducible refine Kd.C_drew ?_))); (case side2 => exact (Kd.Q_reads' HO540.out).2.1); rintro e w10 ⟨v545, rfl, ho0, hb⟩; have n0_ := Aside0.mk (Kd.Q_below (by (with_reducible repeat (first | apply Kd.Q_alloc | apply Kd.Q_drewN | apply Kd.Q_drew)); exact HO540.out) hb); have n1_ := Aside0.mk (Kd.N_elder' (by (with_reducible repeat (first | apply Kd.N_alloc | apply Kd.N_drewN | apply Kd.N_drew)); exact HO543.out) (by first | exact Kd.N_base ho0 | exact Kd.N_base (Kd.S_N ho0) | exact Kd.N_base (Kd.R_N ho0)) hb); have n2_ := Aside0.mk (Kd.N_lower (Kd.N_mono (ok' := fun k_ => some k_ ≠ (.slice Ao8 t536.length co8 : Value).ownBlock ∧ some k_ ≠ (v542 : Value).ownBlock) ho0 (fun k_ hk_ => ⟨(Kd.fresh' (Kd.Q_lt (by (with_reducible repeat (first | apply Kd.Q_alloc | apply Kd.Q_drewN | apply Kd.Q_drew)); exact HO540.out)) k_ hk_), (Kd.fresh' (Kd.N_lt (by (with_reducible repeat (first | apply Kd.N_alloc | apply Kd.N_drewN | apply Kd.N_drew)); exact HO543.out)) k_ hk_)⟩)) (below_size (by repeat (first | (with_reducible first | exact HB.out | apply below_alloc | apply pw_below_drewN | apply below_drew1) | exact HB.out)))); have n3_ := Aside0.mk (below_step (by repeat (first | (with_reducible first | exact HB.out | apply below_alloc | apply pw_below_drewN | apply below_drew1) | exact HB.out)) hb); clear HO540; clear HO543; clear HB; have HO540 := n0_; have HO543 := n1_; have HO546 := n2_; have HB := n3_; clear n0_ n1_ n2_ n3_; (try clear hb); (try clear hb2); (try clear hk); (try clear hi); (try clear ho0); obtain ⟨Ao11, co11, eo11⟩ := Kd.N_slice HO543.out; subst eo11; obtain ⟨Ao12, co12, eo12⟩ := Kd.N_slice HO546.out; subst eo12)); try go_wp2_with (first | (go_at_call 10; (with_reducible refine (spec_DrawApartRules.calls k _ _ l0 t536 t537 t538 _ ?side1 ?side2 A3.out).mono ?_); (case side1 => repeat (first | exact HR0.out | (with_reducible refine Kd.C_alloc ?_ _) | (with_reducible refine Kd.C_drewN ?_ _) | (with_reducible refine Kd.C_drew ?_))); (case side2 => exact HC0.out); rintro e w7 ⟨v539, rfl, ho0, hb⟩; have n0_ := Aside0.mk (Kd.Q_lower ho0 (below_size (by repeat (first | (with_reducible first | exact HB.out | apply below_alloc | apply pw_below_drewN | apply below_drew1) | exact HB.out)))); have n1_ := Aside0.mk (below_step (by repeat (first | (with_reducible first | exact HB.out | apply below_alloc | apply pw_below_drewN | apply below_drew1) | exact HB.out)) hb); clear HB; have HO540 := n0_; have HB := n1_; clear n0_ n1_; (try clear hb); (try clear hb2); (try clear hk); (try clear hi); (try clear ho0); obtain ⟨Ao8, co8, eo8, _⟩ := Kd.Q_slice HO540.out; subst eo8) | (go_at_call 11; (with_reducible refine (impl_ApartRules.calls k _ _ t536 t537 t538 t541 _ ?side1 ?side2 A4.out).mono ?_); (case side1 => repeat (first | exact (Kd.Q_reads' HO540.out).2.2 | (with_reducible refine Kd.C_alloc ?_ _) | (with_reducible refine Kd.C_drewN ?_ _) | (with_reducible refine Kd.C_drew ?_))); (case side2 => exact (Kd.Q_reads' HO540.out).2.1); rintro e w9 ⟨v542, rfl, ho0, hb⟩; have n0_ := Aside0.mk (Kd.Q_below (by (with_reducible repeat (first | apply Kd.Q_alloc | apply Kd.Q_drewN | apply Kd.Q_drew)); exact HO540.out) hb); have n1_ := Aside0.mk (Kd.N_lower (Kd.N_mono (ok' := fun k_ => some k_ ≠ (.slice Ao8 t536.length co8 : Value).ownBlock) (Kd.S_N (Kd.S_bound ho0)) (fun k_ hk_ => (Kd.fresh' (Kd.Q_lt (by (with_reducible repeat (first | apply Kd.Q_alloc | apply Kd.Q_drewN | apply Kd.Q_drew)); exact HO540.out)) k_ hk_.2.1))) (below_size (by repeat (first | (with_reducible first | exact HB.out | apply below_alloc | apply pw_below_drewN | apply below_drew1) | exact HB.out)))); have n2_ := Aside0.mk (below_step (by repeat (first | (with_reducible first | exact HB.out | apply below_alloc | apply pw_below_drewN | apply below_drew1) | exact HB.out)) hb); clear HO540; clear HB; have HO540 := n0_; have HO543 := n1_; have HB := n2_; clear n0_ n1_ n2_; (try clear hb); (try clear hb2); (try clear hk); (try clear hi); (try clear ho0)) | (go_at_call 12; (with_reducible refine (spec_ApartRules.calls k _ _ t536 t537 t538 t544 _ ?side1 ?side2 A5.out).mono ?_); (case side1 => repeat (first | exact (Kd.Q_reads' HO540.out).2.2 | (with_reducible refine Kd.C_alloc ?_ _) | (with_reducible refine Kd.C_drewN ?_ _) | (with_reducible refine Kd.C_drew ?_))); (case side2 => exact (Kd.Q_reads' HO540.out).2.1); rintro e w10 ⟨v545, rfl, ho0, hb⟩; have n0_ := Aside0.mk (Kd.Q_below (by (with_reducible repeat (first | apply Kd.Q_alloc | apply Kd.Q_drewN | apply Kd.Q_drew)); exact HO540.out) hb); have n1_ := Aside0.mk (Kd.N_elder' (by (with_reducible repeat (first | apply Kd.N_alloc | apply Kd.N_drewN | apply Kd.N_drew)); exact HO543.out) (by first | exact Kd.N_base ho0 | exact Kd.N_base (Kd.S_N ho0) | exact Kd.N_base (Kd.R_N ho0)) hb); have n2_ := Aside0.mk (Kd.N_lower (Kd.N_mono (ok' := fun k_ => some k_ ≠ (.slice Ao8 t536.length co8 : Value).ownBlock ∧ some k_ ≠ (v542 : Value).ownBlock) ho0 (fun k_ hk_ => ⟨(Kd.fresh' (Kd.Q_lt (by (with_reducible repeat (first | apply Kd.Q_alloc | apply Kd.Q_drewN | apply Kd.Q_drew)); exact HO540.out)) k_ hk_), (Kd.fresh' (Kd.N_lt (by (with_reducible repeat (first | apply Kd.N_alloc | apply Kd.N_drewN | apply Kd.N_drew)); exact HO543.out)) k_ hk_)⟩)) (below_size (by repeat (first | (with_reducible first | exact HB.out | apply below_alloc | apply pw_below_drewN | apply below_drew1) | exact HB.out)))); have n3_ := Aside0.mk (below_step (by repeat (first | (with_reducible first | exact HB.out | apply below_alloc | apply pw_below_drewN | apply below_drew1) | exact HB.out)) hb); clear HO540; clear HO543; clear HB; have HO540 := n0_; have HO543 := n1_; have HO546 := n2_; have HB := n3_; clear n0_ n1_ n2_ n3_; (try clear hb); (try clear hb2); (try clear hk); (try clear hi); (try clear ho0); obtain ⟨Ao11, co11, eo11⟩ := Kd.N_slice HO543.out; subst eo11; obtain ⟨Ao12, co12, eo12⟩ := Kd.N_slice HO546.out; subst eo12)))
      go_loopg [8] k (fun kq v8 w' => ∃ (x8_1 : Int), v8 = .int .i64 x8_1 ∧ Aside0 (laws_FnApartRules.l0 kq t537 t538 x8_1 t536 t541 t544 = some r) ∧ Aside0 (kq ≤ k) ∧ Aside0 (Kd.Q (Kd.int .i64) 3 w' w.heap.size (fun _ => True) (.slice Ao8 t536.length co8) t536) ∧ Aside0 (Kd.N k29 29 w' w.heap.size (fun k_ => some k_ ≠ ((.slice Ao8 t536.length co8) : Value).ownBlock ∧ some k_ ≠ ((.slice Ao12 t544.length co12) : Value).ownBlock) (.slice Ao11 t541.length co11) t541) ∧ Aside0 (Kd.N k29 29 w' w.heap.size (fun k_ => some k_ ≠ ((.slice Ao8 t536.length co8) : Value).ownBlock ∧ some k_ ≠ ((.slice Ao11 t541.length co11) : Value).ownBlock) (.slice Ao12 t544.length co12) t544) ∧ Aside0 (Below w.heap.size w w'))
      case atStart => exact ⟨(0), (by first | rfl | (simp; done) | (simp [*]; done)), H', ⟨Nat.le_refl _⟩, ⟨by (with_reducible repeat (first | apply Kd.Q_alloc | apply Kd.Q_drewN | apply Kd.Q_drew)); exact HO540.out⟩, ⟨by (with_reducible repeat (first | apply Kd.N_alloc | apply Kd.N_drewN | apply Kd.N_drew)); exact HO543.out⟩, ⟨by (with_reducible repeat (first | apply Kd.N_alloc | apply Kd.N_drewN | apply Kd.N_drew)); exact HO546.out⟩, ⟨by repeat (first | (with_reducible first | exact HB.out | apply below_alloc | apply pw_below_drewN | apply below_drew1) | exact HB.out)⟩⟩
      case round =>
        clear H'
        try clear c2
        try clear c2b0
        try clear c2b1
        try clear p2
        try clear c3
        try clear c6
        try clear c6b0
        try clear c6b1
        try clear c6b2
        obtain ⟨x8_1, rfl, HA, HK1, HO_17, HO_23, HO_27, HB⟩ := hrel
        cases gk with
        | zero => exact absurd HA.out (by simp [laws_FnApartRules.l0])
        | succ k1 =>
          have H := HA.out
          clear HA
          simp only [laws_FnApartRules.l0] at H
          by_cases c13 : x8_1 < (t541.length : Int)
          · rw [if_pos c13] at H
            have c13b0 : decide (x8_1 < (t541.length : Int)) = true := decide_eq_true c13
            clear c13
            by_cases c14 : 0 ≤ x8_1
            · rw [if_pos c14] at H
              have c14b0 : decide (0 ≤ x8_1) = true := decide_eq_true c14
              clear c14
              by_cases c15 : ((rd_T29 t541 x8_1).f0) = 5
              · rw [if_pos c15] at H
                have c15b0 : (((rd_T29 t541 x8_1).f0) == 5) = true := beq_iff_eq.mpr c15
                have c15b1 : (((rd_T29 t541 x8_1).f0) != 5) = false := bne_eq_false_iff_eq.mpr c15
                clear c15
                by_cases c16 : ((rd_T29 t541 x8_1).f2) = t538
                · rw [if_pos c16] at H
                  have c16b0 : (((rd_T29 t541 x8_1).f2) == t538) = true := beq_iff_eq.mpr c16
                  have c16b1 : (((rd_T29 t541 x8_1).f2) != t538) = false := bne_eq_false_iff_eq.mpr c16
                  clear c16
                  by_cases c17 : x8_1 < (t544.length : Int)
                  · rw [if_pos c17] at H
                    have c17b0 : decide (x8_1 < (t544.length : Int)) = true := decide_eq_true c17
                    clear c17
                    replace H := Option.bind_eq_some_iff.mp H
                    obtain ⟨t551, A180, H⟩ := H
                    replace H : (if t551 = true then (laws_FnApartRules.l0 k1 t537 t538 (wrap64 (x8_1 + 1)) t536 t541 t544) else (some false)) = some r := H
                    have A18 := Aside0.mk A180
                    clear A180
                    by_cases c19 : t551 = true
                    · subst c19
                      have H1 : (laws_FnApartRules.l0 k1 t537 t538 (wrap64 (x8_1 + 1)) t536 t541 t544) = some r := by rw [if_pos rfl] at H; exact H
                      clear H
                      have H := H1
                      clear H1
                      have H' := Aside0.mk H
                      clear H
                      have p547 : 0 ≤ (x8_1 : Int) := of_decide_eq_true (by first | (with_reducible assumption) | assumption)
                      have q547 : x8_1 < (t541.length : Int) := of_decide_eq_true (by first | (with_reducible assumption) | assumption)
                      obtain ⟨ad547, A547_1, c547_1, e547, hx547_0, hx547_1, hx547_2, hl547_1, hi547_1⟩ := at_T29 (Kd.N_reads' HO_23.out).2.2 x8_1 p547 q547
                      cases e547
                      obtain ⟨ce547, hce547, hMe547, hcc547⟩ := Kd.N_get HO_23.out z29 x8_1 p547 (by first | exact q547 | exact of_decide_eq_true (by first | (with_reducible assumption) | assumption) | (have e_ := (Kd.N_reads' HO_23.out).1; omega))
                      obtain ⟨ua547_1, uc547_1, rfl, ul547_1, ge547_1⟩ := k29_openF hMe547
                      have hv547_1 := hcc547 1 _ rfl
                      rw [add_field _ _ 1 (by omega)] at hv547_1
                      replace hv547_1 := Option.some.inj (hv547_1.symm.trans hx547_1)
                      injection hv547_1 with hva_ hvn_ hvc_
                      rw [hva_] at ge547_1
                      rw [hvc_] at ul547_1
                      have HL547_1 := Aside0.mk (show Kd.V (Kd.int .i64) 3 _ w.heap.size _ _ ((rd_T29 t541 x8_1).f1) from Kd.V_mk ul547_1 ge547_1)
                      clear hva_ hvn_ hvc_ ge547_1 ul547_1
                      clear hcc547 hce547
                      have HR547_1 := Aside0.mk hi547_1
                      have HC547_1 := Aside0.mk hl547_1
                      clear hi547_1 hl547_1
                      replace p547 := eq_true p547
                      replace q547 := eq_true q547
                      have p548 : 0 ≤ (x8_1 : Int) := of_decide_eq_true (by first | (with_reducible assumption) | assumption)
                      have q548 : x8_1 < (t541.length : Int) := of_decide_eq_true (by first | (with_reducible assumption) | assumption)
                      obtain ⟨ad548, A548_1, c548_1, e548, hx548_0, hx548_1, hx548_2, hl548_1, hi548_1⟩ := at_T29 (Kd.N_reads' HO_23.out).2.2 x8_1 p548 q548
                      obtain rfl : ad547 = ad548 := (by injection e548)
                      obtain ⟨ce548, hce548, hMe548, hcc548⟩ := Kd.N_get HO_23.out z29 x8_1 p548 (by first | exact q548 | exact of_decide_eq_true (by first | (with_reducible assumption) | assumption) | (have e_ := (Kd.N_reads' HO_23.out).1; omega))
                      obtain ⟨ua548_1, uc548_1, rfl, ul548_1, ge548_1⟩ := k29_openF hMe548
                      have hv548_1 := hcc548 1 _ rfl
                      rw [add_field _ _ 1 (by omega)] at hv548_1
                      replace hv548_1 := Option.some.inj (hv548_1.symm.trans hx548_1)
                      injection hv548_1 with hva_ hvn_ hvc_
                      rw [hva_] at ge548_1
                      rw [hvc_] at ul548_1
                      have HL548_1 := Aside0.mk (show Kd.V (Kd.int .i64) 3 _ w.heap.size _ _ ((rd_T29 t541 x8_1).f1) from Kd.V_mk ul548_1 ge548_1)
                      clear hva_ hvn_ hvc_ ge548_1 ul548_1
                      clear hcc548 hce548
                      have HR548_1 := Aside0.mk hi548_1
                      have HC548_1 := Aside0.mk hl548_1
                      clear hi548_1 hl548_1
                      replace p548 := eq_true p548
                      replace q548 := eq_true q548
                      have ea_ := Option.some.inj (hx547_1.symm.trans hx548_1)
                      injection ea_ with ea_ en_ ec_
                      subst ea_
                      subst ec_
                      clear en_
                      have p549 : 0 ≤ (x8_1 : Int) := of_decide_eq_true (by first | (with_reducible assumption) | assumption)
                      have q549 : x8_1 < (t541.length : Int) := of_decide_eq_true (by first | (with_reducible assumption) | assumption)
                      obtain ⟨ad549, A549_1, c549_1, e549, hx549_0, hx549_1, hx549_2, hl549_1, hi549_1⟩ := at_T29 (Kd.N_reads' HO_23.out).2.2 x8_1 p549 q549
                      obtain rfl : ad547 = ad549 := (by injection e549)
                      obtain ⟨ce549, hce549, hMe549, hcc549⟩ := Kd.N_get HO_23.out z29 x8_1 p549 (by first | exact q549 | exact of_decide_eq_true (by first | (with_reducible assumption) | assumption) | (have e_ := (Kd.N_reads' HO_23.out).1; omega))
                      obtain ⟨ua549_1, uc549_1, rfl, ul549_1, ge549_1⟩ := k29_openF hMe549
                      have hv549_1 := hcc549 1 _ rfl
                      rw [add_field _ _ 1 (by omega)] at hv549_1
                      replace hv549_1 := Option.some.inj (hv549_1.symm.trans hx549_1)
                      injection hv549_1 with hva_ hvn_ hvc_
                      rw [hva_] at ge549_1
                      rw [hvc_] at ul549_1
                      have HL549_1 := Aside0.mk (show Kd.V (Kd.int .i64) 3 _ w.heap.size _ _ ((rd_T29 t541 x8_1).f1) from Kd.V_mk ul549_1 ge549_1)
                      clear hva_ hvn_ hvc_ ge549_1 ul549_1
                      clear hcc549 hce549
                      have HR549_1 := Aside0.mk hi549_1
                      have HC549_1 := Aside0.mk hl549_1
                      clear hi549_1 hl549_1
                      replace p549 := eq_true p549
                      replace q549 := eq_true q549
                      have ea_ := Option.some.inj (hx547_1.symm.trans hx549_1)
                      injection ea_ with ea_ en_ ec_
                      subst ea_
                      subst ec_
                      clear en_
                      have p550 : 0 ≤ (x8_1 : Int) := of_decide_eq_true (by first | (with_reducible assumption) | assumption)
                      have q550 : x8_1 < (t544.length : Int) := of_decide_eq_true (by first | (with_reducible assumption) | assumption)
                      obtain ⟨ad550, A550_1, c550_1, e550, hx550_0, hx550_1, hx550_2, hl550_1, hi550_1⟩ := at_T29 (Kd.N_reads' HO_27.out).2.2 x8_1 p550 q550
                      cases e550
                      obtain ⟨ce550, hce550, hMe550, hcc550⟩ := Kd.N_get HO_27.out z29 x8_1 p550 (by first | exact q550 | exact of_decide_eq_true (by first | (with_reducible assumption) | assumption) | (have e_ := (Kd.N_reads' HO_27.out).1; omega))
                      obtain ⟨ua550_1, uc550_1, rfl, ul550_1, ge550_1⟩ := k29_openF hMe550
                      have hv550_1 := hcc550 1 _ rfl
                      rw [add_field _ _ 1 (by omega)] at hv550_1
                      replace hv550_1 := Option.some.inj (hv550_1.symm.trans hx550_1)
                      injection hv550_1 with hva_ hvn_ hvc_
                      rw [hva_] at ge550_1
                      rw [hvc_] at ul550_1
                      have HL550_1 := Aside0.mk (show Kd.V (Kd.int .i64) 3 _ w.heap.size _ _ ((rd_T29 t544 x8_1).f1) from Kd.V_mk ul550_1 ge550_1)
                      clear hva_ hvn_ hvc_ ge550_1 ul550_1
                      clear hcc550 hce550
                      have HR550_1 := Aside0.mk hi550_1
                      have HC550_1 := Aside0.mk hl550_1
                      clear hi550_1 hl550_1
                      replace p550 := eq_true p550
                      replace q550 := eq_true q550
                      go_wp2_with (first | (go_at_call 13; (with_reducible refine (laws_sameInts.calls k1 _ _ ((rd_T29 t541 x8_1).f1) _ _ ((rd_T29 t544 x8_1).f1) true _ ?side1 ?side2 ?side3 ?side4 A18.out).mono ?_); (case side1 => repeat (first | exact (by repeat (first | (with_reducible exact HR549_1.out) | (with_reducible refine Kd.C_alloc ?_ _) | (with_reducible refine Kd.C_drewN ?_ _) | (with_reducible refine Kd.C_drew ?_) | exact HR549_1.out)) | (with_reducible refine Kd.C_alloc ?_ _) | (with_reducible refine Kd.C_drewN ?_ _) | (with_reducible refine Kd.C_drew ?_))); (case side2 => exact HC549_1.out); (case side3 => repeat (first | exact (by repeat (first | (with_reducible exact HR550_1.out) | (with_reducible refine Kd.C_alloc ?_ _) | (with_reducible refine Kd.C_drewN ?_ _) | (with_reducible refine Kd.C_drew ?_) | exact HR550_1.out)) | (with_reducible refine Kd.C_alloc ?_ _) | (with_reducible refine Kd.C_drewN ?_ _) | (with_reducible refine Kd.C_drew ?_))); (case side4 => exact HC550_1.out); rintro e w' ⟨rfl, ⟨nd, rfl⟩⟩; (try first | exact ⟨rfl, _, World.drewN_drewN _ _ _⟩ | exact ⟨rfl, _, Eq.trans (World.drewN_drewN _ _ _) (congrArg (World.drewN _) (Nat.add_assoc _ _ _))⟩)))
                      repeat (go_quiet (first | (go_at_call 13; (with_reducible refine (laws_sameInts.calls k1 _ _ ((rd_T29 t541 x8_1).f1) _ _ ((rd_T29 t544 x8_1).f1) true _ ?side1 ?side2 ?side3 ?side4 A18.out).mono ?_); (case side1 => repeat (first | exact (by repeat (first | (with_reducible exact HR549_1.out) | (with_reducible refine Kd.C_alloc ?_ _) | (with_reducible refine Kd.C_drewN ?_ _) | (with_reducible refine Kd.C_drew ?_) | exact HR549_1.out)) | (with_reducible refine Kd.C_alloc ?_ _) | (with_reducible refine Kd.C_drewN ?_ _) | (with_reducible refine Kd.C_drew ?_))); (case side2 => exact HC549_1.out); (case side3 => repeat (first | exact (by repeat (first | (with_reducible exact HR550_1.out) | (with_reducible refine Kd.C_alloc ?_ _) | (with_reducible refine Kd.C_drewN ?_ _) | (with_reducible refine Kd.C_drew ?_) | exact HR550_1.out)) | (with_reducible refine Kd.C_alloc ?_ _) | (with_reducible refine Kd.C_drewN ?_ _) | (with_reducible refine Kd.C_drew ?_))); (case side4 => exact HC550_1.out); rintro e w' ⟨rfl, ⟨nd, rfl⟩⟩; (try first | exact ⟨rfl, _, World.drewN_drewN _ _ _⟩ | exact ⟨rfl, _, Eq.trans (World.drewN_drewN _ _ _) (congrArg (World.drewN _) (Nat.add_assoc _ _ _))⟩))); try go_wp2_with (first | (go_at_call 13; (with_reducible refine (laws_sameInts.calls k1 _ _ ((rd_T29 t541 x8_1).f1) _ _ ((rd_T29 t544 x8_1).f1) true _ ?side1 ?side2 ?side3 ?side4 A18.out).mono ?_); (case side1 => repeat (first | exact (by repeat (first | (with_reducible exact HR549_1.out) | (with_reducible refine Kd.C_alloc ?_ _) | (with_reducible refine Kd.C_drewN ?_ _) | (with_reducible refine Kd.C_drew ?_) | exact HR549_1.out)) | (with_reducible refine Kd.C_alloc ?_ _) | (with_reducible refine Kd.C_drewN ?_ _) | (with_reducible refine Kd.C_drew ?_))); (case side2 => exact HC549_1.out); (case side3 => repeat (first | exact (by repeat (first | (with_reducible exact HR550_1.out) | (with_reducible refine Kd.C_alloc ?_ _) | (with_reducible refine Kd.C_drewN ?_ _) | (with_reducible refine Kd.C_drew ?_) | exact HR550_1.out)) | (with_reducible refine Kd.C_alloc ?_ _) | (with_reducible refine Kd.C_drewN ?_ _) | (with_reducible refine Kd.C_drew ?_))); (case side4 => exact HC550_1.out); rintro e w' ⟨rfl, ⟨nd, rfl⟩⟩; (try first | exact ⟨rfl, _, World.drewN_drewN _ _ _⟩ | exact ⟨rfl, _, Eq.trans (World.drewN_drewN _ _ _) (congrArg (World.drewN _) (Nat.add_assoc _ _ _))⟩))))
                      go_roundg k1
                      case measure => have := HK1.out; omega
                      case rel => exact ⟨(wrap64 (x8_1 + 1)), (by first | rfl | (simp; done) | (simp [*]; done)), H', ⟨by have := HK1.out; omega⟩, ⟨by (with_reducible repeat (first | apply Kd.Q_alloc | apply Kd.Q_drewN | apply Kd.Q_drew)); exact HO_17.out⟩, ⟨by (with_reducible repeat (first | apply Kd.N_alloc | apply Kd.N_drewN | apply Kd.N_drew)); exact HO_23.out⟩, ⟨by (with_reducible repeat (first | apply Kd.N_alloc | apply Kd.N_drewN | apply Kd.N_drew)); exact HO_27.out⟩, ⟨by repeat (first | (with_reducible first | exact HB.out | apply below_alloc | apply pw_below_drewN | apply below_drew1) | exact HB.out)⟩⟩
                    · replace c19 := Bool.eq_false_iff.mpr c19
                      subst c19
                      have H1 : (some false) = some r := by rw [if_neg (show ¬ (false = true) by decide)] at H; exact H
                      clear H
                      have H := H1
                      clear H1
                      obtain rfl := Option.some.inj H
                      have p547 : 0 ≤ (x8_1 : Int) := of_decide_eq_true (by first | (with_reducible assumption) | assumption)
                      have q547 : x8_1 < (t541.length : Int) := of_decide_eq_true (by first | (with_reducible assumption) | assumption)
                      obtain ⟨ad547, A547_1, c547_1, e547, hx547_0, hx547_1, hx547_2, hl547_1, hi547_1⟩ := at_T29 (Kd.N_reads' HO_23.out).2.2 x8_1 p547 q547
                      cases e547
                      obtain ⟨ce547, hce547, hMe547, hcc547⟩ := Kd.N_get HO_23.out z29 x8_1 p547 (by first | exact q547 | exact of_decide_eq_true (by first | (with_reducible assumption) | assumption) | (have e_ := (Kd.N_reads' HO_23.out).1; omega))
                      obtain ⟨ua547_1, uc547_1, rfl, ul547_1, ge547_1⟩ := k29_openF hMe547
                      have hv547_1 := hcc547 1 _ rfl
                      rw [add_field _ _ 1 (by omega)] at hv547_1
                      replace hv547_1 := Option.some.inj (hv547_1.symm.trans hx547_1)
                      injection hv547_1 with hva_ hvn_ hvc_
                      rw [hva_] at ge547_1
                      rw [hvc_] at ul547_1
                      have HL547_1 := Aside0.mk (show Kd.V (Kd.int .i64) 3 _ w.heap.size _ _ ((rd_T29 t541 x8_1).f1) from Kd.V_mk ul547_1 ge547_1)
                      clear hva_ hvn_ hvc_ ge547_1 ul547_1
                      clear hcc547 hce547
                      have HR547_1 := Aside0.mk hi547_1
                      have HC547_1 := Aside0.mk hl547_1
                      clear hi547_1 hl547_1
                      replace p547 := eq_true p547
                      replace q547 := eq_true q547
                      have p548 : 0 ≤ (x8_1 : Int) := of_decide_eq_true (by first | (with_reducible assumption) | assumption)
                      have q548 : x8_1 < (t541.length : Int) := of_decide_eq_true (by first | (with_reducible assumption) | assumption)
                      obtain ⟨ad548, A548_1, c548_1, e548, hx548_0, hx548_1, hx548_2, hl548_1, hi548_1⟩ := at_T29 (Kd.N_reads' HO_23.out).2.2 x8_1 p548 q548
                      obtain rfl : ad547 = ad548 := (by injection e548)
                      obtain ⟨ce548, hce548, hMe548, hcc548⟩ := Kd.N_get HO_23.out z29 x8_1 p548 (by first | exact q548 | exact of_decide_eq_true (by first | (with_reducible assumption) | assumption) | (have e_ := (Kd.N_reads' HO_23.out).1; omega))
                      obtain ⟨ua548_1, uc548_1, rfl, ul548_1, ge548_1⟩ := k29_openF hMe548
                      have hv548_1 := hcc548 1 _ rfl
                      rw [add_field _ _ 1 (by omega)] at hv548_1
                      replace hv548_1 := Option.some.inj (hv548_1.symm.trans hx548_1)
                      injection hv548_1 with hva_ hvn_ hvc_
                      rw [hva_] at ge548_1
                      rw [hvc_] at ul548_1
                      have HL548_1 := Aside0.mk (show Kd.V (Kd.int .i64) 3 _ w.heap.size _ _ ((rd_T29 t541 x8_1).f1) from Kd.V_mk ul548_1 ge548_1)
                      clear hva_ hvn_ hvc_ ge548_1 ul548_1
                      clear hcc548 hce548
                      have HR548_1 := Aside0.mk hi548_1
                      have HC548_1 := Aside0.mk hl548_1
                      clear hi548_1 hl548_1
                      replace p548 := eq_true p548
                      replace q548 := eq_true q548
                      have ea_ := Option.some.inj (hx547_1.symm.trans hx548_1)
                      injection ea_ with ea_ en_ ec_
                      subst ea_
                      subst ec_
                      clear en_
                      have p549 : 0 ≤ (x8_1 : Int) := of_decide_eq_true (by first | (with_reducible assumption) | assumption)
                      have q549 : x8_1 < (t541.length : Int) := of_decide_eq_true (by first | (with_reducible assumption) | assumption)
                      obtain ⟨ad549, A549_1, c549_1, e549, hx549_0, hx549_1, hx549_2, hl549_1, hi549_1⟩ := at_T29 (Kd.N_reads' HO_23.out).2.2 x8_1 p549 q549
                      obtain rfl : ad547 = ad549 := (by injection e549)
                      obtain ⟨ce549, hce549, hMe549, hcc549⟩ := Kd.N_get HO_23.out z29 x8_1 p549 (by first | exact q549 | exact of_decide_eq_true (by first | (with_reducible assumption) | assumption) | (have e_ := (Kd.N_reads' HO_23.out).1; omega))
                      obtain ⟨ua549_1, uc549_1, rfl, ul549_1, ge549_1⟩ := k29_openF hMe549
                      have hv549_1 := hcc549 1 _ rfl
                      rw [add_field _ _ 1 (by omega)] at hv549_1
                      replace hv549_1 := Option.some.inj (hv549_1.symm.trans hx549_1)
                      injection hv549_1 with hva_ hvn_ hvc_
                      rw [hva_] at ge549_1
                      rw [hvc_] at ul549_1
                      have HL549_1 := Aside0.mk (show Kd.V (Kd.int .i64) 3 _ w.heap.size _ _ ((rd_T29 t541 x8_1).f1) from Kd.V_mk ul549_1 ge549_1)
                      clear hva_ hvn_ hvc_ ge549_1 ul549_1
                      clear hcc549 hce549
                      have HR549_1 := Aside0.mk hi549_1
                      have HC549_1 := Aside0.mk hl549_1
                      clear hi549_1 hl549_1
                      replace p549 := eq_true p549
                      replace q549 := eq_true q549
                      have ea_ := Option.some.inj (hx547_1.symm.trans hx549_1)
                      injection ea_ with ea_ en_ ec_
                      subst ea_
                      subst ec_
                      clear en_
                      have p550 : 0 ≤ (x8_1 : Int) := of_decide_eq_true (by first | (with_reducible assumption) | assumption)
                      have q550 : x8_1 < (t544.length : Int) := of_decide_eq_true (by first | (with_reducible assumption) | assumption)
                      obtain ⟨ad550, A550_1, c550_1, e550, hx550_0, hx550_1, hx550_2, hl550_1, hi550_1⟩ := at_T29 (Kd.N_reads' HO_27.out).2.2 x8_1 p550 q550
                      cases e550
                      obtain ⟨ce550, hce550, hMe550, hcc550⟩ := Kd.N_get HO_27.out z29 x8_1 p550 (by first | exact q550 | exact of_decide_eq_true (by first | (with_reducible assumption) | assumption) | (have e_ := (Kd.N_reads' HO_27.out).1; omega))
                      obtain ⟨ua550_1, uc550_1, rfl, ul550_1, ge550_1⟩ := k29_openF hMe550
                      have hv550_1 := hcc550 1 _ rfl
                      rw [add_field _ _ 1 (by omega)] at hv550_1
                      replace hv550_1 := Option.some.inj (hv550_1.symm.trans hx550_1)
                      injection hv550_1 with hva_ hvn_ hvc_
                      rw [hva_] at ge550_1
                      rw [hvc_] at ul550_1
                      have HL550_1 := Aside0.mk (show Kd.V (Kd.int .i64) 3 _ w.heap.size _ _ ((rd_T29 t544 x8_1).f1) from Kd.V_mk ul550_1 ge550_1)
                      clear hva_ hvn_ hvc_ ge550_1 ul550_1
                      clear hcc550 hce550
                      have HR550_1 := Aside0.mk hi550_1
                      have HC550_1 := Aside0.mk hl550_1
                      clear hi550_1 hl550_1
                      replace p550 := eq_true p550
                      replace q550 := eq_true q550
                      go_wp2_with (first | (go_at_call 13; (with_reducible refine (laws_sameInts.calls k1 _ _ ((rd_T29 t541 x8_1).f1) _ _ ((rd_T29 t544 x8_1).f1) false _ ?side1 ?side2 ?side3 ?side4 A18.out).mono ?_); (case side1 => repeat (first | exact (by repeat (first | (with_reducible exact HR549_1.out) | (with_reducible refine Kd.C_alloc ?_ _) | (with_reducible refine Kd.C_drewN ?_ _) | (with_reducible refine Kd.C_drew ?_) | exact HR549_1.out)) | (with_reducible refine Kd.C_alloc ?_ _) | (with_reducible refine Kd.C_drewN ?_ _) | (with_reducible refine Kd.C_drew ?_))); (case side2 => exact HC549_1.out); (case side3 => repeat (first | exact (by repeat (first | (with_reducible exact HR550_1.out) | (with_reducible refine Kd.C_alloc ?_ _) | (with_reducible refine Kd.C_drewN ?_ _) | (with_reducible refine Kd.C_drew ?_) | exact HR550_1.out)) | (with_reducible refine Kd.C_alloc ?_ _) | (with_reducible refine Kd.C_drewN ?_ _) | (with_reducible refine Kd.C_drew ?_))); (case side4 => exact HC550_1.out); rintro e w' ⟨rfl, ⟨nd, rfl⟩⟩; (try first | exact ⟨rfl, _, World.drewN_drewN _ _ _⟩ | exact ⟨rfl, _, Eq.trans (World.drewN_drewN _ _ _) (congrArg (World.drewN _) (Nat.add_assoc _ _ _))⟩)))
                      repeat (go_quiet (first | (go_at_call 13; (with_reducible refine (laws_sameInts.calls k1 _ _ ((rd_T29 t541 x8_1).f1) _ _ ((rd_T29 t544 x8_1).f1) false _ ?side1 ?side2 ?side3 ?side4 A18.out).mono ?_); (case side1 => repeat (first | exact (by repeat (first | (with_reducible exact HR549_1.out) | (with_reducible refine Kd.C_alloc ?_ _) | (with_reducible refine Kd.C_drewN ?_ _) | (with_reducible refine Kd.C_drew ?_) | exact HR549_1.out)) | (with_reducible refine Kd.C_alloc ?_ _) | (with_reducible refine Kd.C_drewN ?_ _) | (with_reducible refine Kd.C_drew ?_))); (case side2 => exact HC549_1.out); (case side3 => repeat (first | exact (by repeat (first | (with_reducible exact HR550_1.out) | (with_reducible refine Kd.C_alloc ?_ _) | (with_reducible refine Kd.C_drewN ?_ _) | (with_reducible refine Kd.C_drew ?_) | exact HR550_1.out)) | (with_reducible refine Kd.C_alloc ?_ _) | (with_reducible refine Kd.C_drewN ?_ _) | (with_reducible refine Kd.C_drew ?_))); (case side4 => exact HC550_1.out); rintro e w' ⟨rfl, ⟨nd, rfl⟩⟩; (try first | exact ⟨rfl, _, World.drewN_drewN _ _ _⟩ | exact ⟨rfl, _, Eq.trans (World.drewN_drewN _ _ _) (congrArg (World.drewN _) (Nat.add_assoc _ _ _))⟩))); try go_wp2_with (first | (go_at_call 13; (with_reducible refine (laws_sameInts.calls k1 _ _ ((rd_T29 t541 x8_1).f1) _ _ ((rd_T29 t544 x8_1).f1) false _ ?side1 ?side2 ?side3 ?side4 A18.out).mono ?_); (case side1 => repeat (first | exact (by repeat (first | (with_reducible exact HR549_1.out) | (with_reducible refine Kd.C_alloc ?_ _) | (with_reducible refine Kd.C_drewN ?_ _) | (with_reducible refine Kd.C_drew ?_) | exact HR549_1.out)) | (with_reducible refine Kd.C_alloc ?_ _) | (with_reducible refine Kd.C_drewN ?_ _) | (with_reducible refine Kd.C_drew ?_))); (case side2 => exact HC549_1.out); (case side3 => repeat (first | exact (by repeat (first | (with_reducible exact HR550_1.out) | (with_reducible refine Kd.C_alloc ?_ _) | (with_reducible refine Kd.C_drewN ?_ _) | (with_reducible refine Kd.C_drew ?_) | exact HR550_1.out)) | (with_reducible refine Kd.C_alloc ?_ _) | (with_reducible refine Kd.C_drewN ?_ _) | (with_reducible refine Kd.C_drew ?_))); (case side4 => exact HC550_1.out); rintro e w' ⟨rfl, ⟨nd, rfl⟩⟩; (try first | exact ⟨rfl, _, World.drewN_drewN _ _ _⟩ | exact ⟨rfl, _, Eq.trans (World.drewN_drewN _ _ _) (congrArg (World.drewN _) (Nat.add_assoc _ _ _))⟩))))
                      go_ret
                      exact ⟨by first | rfl | (simp [errW_none, errW_some] <;> rfl) | (simp [*, errW_none, errW_some] <;> rfl), by repeat (first | (with_reducible first | exact HB.out | apply below_alloc | apply pw_below_drewN | apply below_drew1) | exact HB.out)⟩
                  · rw [if_neg c17] at H
                    exact absurd H (by simp)
                · rw [if_neg c16] at H
                  have c16b0 : (((rd_T29 t541 x8_1).f2) == t538) = false := beq_eq_false_iff_ne.mpr c16
                  have c16b1 : (((rd_T29 t541 x8_1).f2) != t538) = true := bne_iff_ne.mpr c16
                  obtain rfl := Option.some.inj H
                  have p547 : 0 ≤ (x8_1 : Int) := of_decide_eq_true (by first | (with_reducible assumption) | assumption)
                  have q547 : x8_1 < (t541.length : Int) := of_decide_eq_true (by first | (with_reducible assumption) | assumption)
                  obtain ⟨ad547, A547_1, c547_1, e547, hx547_0, hx547_1, hx547_2, hl547_1, hi547_1⟩ := at_T29 (Kd.N_reads' HO_23.out).2.2 x8_1 p547 q547
                  cases e547
                  obtain ⟨ce547, hce547, hMe547, hcc547⟩ := Kd.N_get HO_23.out z29 x8_1 p547 (by first | exact q547 | exact of_decide_eq_true (by first | (with_reducible assumption) | assumption) | (have e_ := (Kd.N_reads' HO_23.out).1; omega))
                  obtain ⟨ua547_1, uc547_1, rfl, ul547_1, ge547_1⟩ := k29_openF hMe547
                  have hv547_1 := hcc547 1 _ rfl
                  rw [add_field _ _ 1 (by omega)] at hv547_1
                  replace hv547_1 := Option.some.inj (hv547_1.symm.trans hx547_1)
                  injection hv547_1 with hva_ hvn_ hvc_
                  rw [hva_] at ge547_1
                  rw [hvc_] at ul547_1
                  have HL547_1 := Aside0.mk (show Kd.V (Kd.int .i64) 3 _ w.heap.size _ _ ((rd_T29 t541 x8_1).f1) from Kd.V_mk ul547_1 ge547_1)
                  clear hva_ hvn_ hvc_ ge547_1 ul547_1
                  clear hcc547 hce547
                  have HR547_1 := Aside0.mk hi547_1
                  have HC547_1 := Aside0.mk hl547_1
                  clear hi547_1 hl547_1
                  replace p547 := eq_true p547
                  replace q547 := eq_true q547
                  have p548 : 0 ≤ (x8_1 : Int) := of_decide_eq_true (by first | (with_reducible assumption) | assumption)
                  have q548 : x8_1 < (t541.length : Int) := of_decide_eq_true (by first | (with_reducible assumption) | assumption)
                  obtain ⟨ad548, A548_1, c548_1, e548, hx548_0, hx548_1, hx548_2, hl548_1, hi548_1⟩ := at_T29 (Kd.N_reads' HO_23.out).2.2 x8_1 p548 q548
                  obtain rfl : ad547 = ad548 := (by injection e548)
                  obtain ⟨ce548, hce548, hMe548, hcc548⟩ := Kd.N_get HO_23.out z29 x8_1 p548 (by first | exact q548 | exact of_decide_eq_true (by first | (with_reducible assumption) | assumption) | (have e_ := (Kd.N_reads' HO_23.out).1; omega))
                  obtain ⟨ua548_1, uc548_1, rfl, ul548_1, ge548_1⟩ := k29_openF hMe548
                  have hv548_1 := hcc548 1 _ rfl
                  rw [add_field _ _ 1 (by omega)] at hv548_1
                  replace hv548_1 := Option.some.inj (hv548_1.symm.trans hx548_1)
                  injection hv548_1 with hva_ hvn_ hvc_
                  rw [hva_] at ge548_1
                  rw [hvc_] at ul548_1
                  have HL548_1 := Aside0.mk (show Kd.V (Kd.int .i64) 3 _ w.heap.size _ _ ((rd_T29 t541 x8_1).f1) from Kd.V_mk ul548_1 ge548_1)
                  clear hva_ hvn_ hvc_ ge548_1 ul548_1
                  clear hcc548 hce548
                  have HR548_1 := Aside0.mk hi548_1
                  have HC548_1 := Aside0.mk hl548_1
                  clear hi548_1 hl548_1
                  replace p548 := eq_true p548
                  replace q548 := eq_true q548
                  have ea_ := Option.some.inj (hx547_1.symm.trans hx548_1)
                  injection ea_ with ea_ en_ ec_
                  subst ea_
                  subst ec_
                  clear en_
                  go_wp2
                  repeat (go_quiet (fail); try go_wp2)
                  go_ret
                  exact ⟨by first | rfl | (simp [errW_none, errW_some] <;> rfl) | (simp [*, errW_none, errW_some] <;> rfl), by repeat (first | (with_reducible first | exact HB.out | apply below_alloc | apply pw_below_drewN | apply below_drew1) | exact HB.out)⟩
              · rw [if_neg c15] at H
                have c15b0 : (((rd_T29 t541 x8_1).f0) == 5) = false := beq_eq_false_iff_ne.mpr c15
                have c15b1 : (((rd_T29 t541 x8_1).f0) != 5) = true := bne_iff_ne.mpr c15
                obtain rfl := Option.some.inj H
                have p547 : 0 ≤ (x8_1 : Int) := of_decide_eq_true (by first | (with_reducible assumption) | assumption)
                have q547 : x8_1 < (t541.length : Int) := of_decide_eq_true (by first | (with_reducible assumption) | assumption)
                obtain ⟨ad547, A547_1, c547_1, e547, hx547_0, hx547_1, hx547_2, hl547_1, hi547_1⟩ := at_T29 (Kd.N_reads' HO_23.out).2.2 x8_1 p547 q547
                cases e547
                obtain ⟨ce547, hce547, hMe547, hcc547⟩ := Kd.N_get HO_23.out z29 x8_1 p547 (by first | exact q547 | exact of_decide_eq_true (by first | (with_reducible assumption) | assumption) | (have e_ := (Kd.N_reads' HO_23.out).1; omega))
                obtain ⟨ua547_1, uc547_1, rfl, ul547_1, ge547_1⟩ := k29_openF hMe547
                have hv547_1 := hcc547 1 _ rfl
                rw [add_field _ _ 1 (by omega)] at hv547_1
                replace hv547_1 := Option.some.inj (hv547_1.symm.trans hx547_1)
                injection hv547_1 with hva_ hvn_ hvc_
                rw [hva_] at ge547_1
                rw [hvc_] at ul547_1
                have HL547_1 := Aside0.mk (show Kd.V (Kd.int .i64) 3 _ w.heap.size _ _ ((rd_T29 t541 x8_1).f1) from Kd.V_mk ul547_1 ge547_1)
                clear hva_ hvn_ hvc_ ge547_1 ul547_1
                clear hcc547 hce547
                have HR547_1 := Aside0.mk hi547_1
                have HC547_1 := Aside0.mk hl547_1
                clear hi547_1 hl547_1
                replace p547 := eq_true p547
                replace q547 := eq_true q547
                go_wp2
                repeat (go_quiet (fail); try go_wp2)
                go_ret
                exact ⟨by first | rfl | (simp [errW_none, errW_some] <;> rfl) | (simp [*, errW_none, errW_some] <;> rfl), by repeat (first | (with_reducible first | exact HB.out | apply below_alloc | apply pw_below_drewN | apply below_drew1) | exact HB.out)⟩
            · rw [if_neg c14] at H
              exact absurd H (by simp)
          · rw [if_neg c13] at H
            have c13b0 : decide (x8_1 < (t541.length : Int)) = false := decide_eq_false c13
            clear c13
            have HC20 := Aside0.mk H
            clear H
            go_upto_region 13 with (fail)
            repeat (go_quiet (fail); go_upto_region 13 with (fail))
            go_cut [80] (fun v80 wc => ∃ (kq : Nat) (x80_19 : Bool), v80 = .bool x80_19 ∧ Aside0 (laws_FnApartRules.j1 kq t536 t537 t538 t541 x80_19 = some r) ∧ Aside0 (kq ≤ k1) ∧ Aside0 (Kd.Q (Kd.int .i64) 3 wc w.heap.size (fun _ => True) (.slice Ao8 t536.length co8) t536) ∧ Aside0 (Kd.N k29 29 wc w.heap.size (fun k_ => some k_ ≠ ((.slice Ao8 t536.length co8) : Value).ownBlock) (.slice Ao11 t541.length co11) t541) ∧ Aside0 (Below w.heap.size w wc))
            case first =>
              have H := HC20.out
              clear HC20
              replace H := Option.bind_eq_some_iff.mp H
              obtain ⟨t552, A210, H⟩ := H
              replace H : (if t552 = true then (if t538 < 0 then (laws_FnApartRules.j1 k1 t536 t537 t538 t541 true) else (laws_FnApartRules.j1 k1 t536 t537 t538 t541 (decide (t538 ≥ t537)))) else (laws_FnApartRules.j1 k1 t536 t537 t538 t541 true)) = some r := H
              have A21 := Aside0.mk A210
              clear A210
              by_cases c22 : t552 = true
              · subst c22
                have H1 : (if t538 < 0 then (laws_FnApartRules.j1 k1 t536 t537 t538 t541 true) else (laws_FnApartRules.j1 k1 t536 t537 t538 t541 (decide (t538 ≥ t537)))) = some r := by rw [if_pos rfl] at H; exact H
                clear H
                have H := H1
                clear H1
                by_cases c23 : t538 < 0
                · rw [if_pos c23] at H
                  have c23b0 : decide (t538 < 0) = true := decide_eq_true c23
                  clear c23
                  (first | rw [c23b0] | (simp only [i64_w, i32_w]; rw [c23b0]) | skip)
                  have H' := Aside0.mk H
                  clear H
                  go_wp2_with (first | (go_at_call 14; (with_reducible refine (spec_SquareSolved.calls k1 _ _ t536 t537 true _ ?side1 ?side2 A21.out).mono ?_); (case side1 => repeat (first | exact (Kd.Q_reads' HO_17.out).2.2 | (with_reducible refine Kd.C_alloc ?_ _) | (with_reducible refine Kd.C_drewN ?_ _) | (with_reducible refine Kd.C_drew ?_))); (case side2 => exact (Kd.Q_reads' HO_17.out).2.1); rintro e w24 ⟨rfl, hb⟩; have n0_ := Aside0.mk (Kd.Q_below (by (with_reducible repeat (first | apply Kd.Q_alloc | apply Kd.Q_drewN | apply Kd.Q_drew)); exact HO_17.out) hb); have n1_ := Aside0.mk (Kd.N_below (by (with_reducible repeat (first | apply Kd.N_alloc | apply Kd.N_drewN | apply Kd.N_drew)); exact HO_23.out) hb); have n2_ := Aside0.mk (Kd.N_below (by (with_reducible repeat (first | apply Kd.N_alloc | apply Kd.N_drewN | apply Kd.N_drew)); exact HO_27.out) hb); have n3_ := Aside0.mk (below_step (by repeat (first | (with_reducible first | exact HB.out | apply below_alloc | apply pw_below_drewN | apply below_drew1) | exact HB.out)) hb); clear HO_17; clear HO_23; clear HO_27; clear HB; have HO_17 := n0_; have HO_23 := n1_; have HO_27 := n2_; have HB := n3_; clear n0_ n1_ n2_ n3_; (try clear hb); (try clear hb2); (try clear hk); (try clear hi)))
                  repeat (go_quiet (first | (go_at_call 14; (with_reducible refine (spec_SquareSolved.calls k1 _ _ t536 t537 true _ ?side1 ?side2 A21.out).mono ?_); (case side1 => repeat (first | exact (Kd.Q_reads' HO_17.out).2.2 | (with_reducible refine Kd.C_alloc ?_ _) | (with_reducible refine Kd.C_drewN ?_ _) | (with_reducible refine Kd.C_drew ?_))); (case side2 => exact (Kd.Q_reads' HO_17.out).2.1); rintro e w24 ⟨rfl, hb⟩; have n0_ := Aside0.mk (Kd.Q_below (by (with_reducible repeat (first | apply Kd.Q_alloc | apply Kd.Q_drewN | apply Kd.Q_drew)); exact HO_17.out) hb); have n1_ := Aside0.mk (Kd.N_below (by (with_reducible repeat (first | apply Kd.N_alloc | apply Kd.N_drewN | apply Kd.N_drew)); exact HO_23.out) hb); have n2_ := Aside0.mk (Kd.N_below (by (with_reducible repeat (first | apply Kd.N_alloc | apply Kd.N_drewN | apply Kd.N_drew)); exact HO_27.out) hb); have n3_ := Aside0.mk (below_step (by repeat (first | (with_reducible first | exact HB.out | apply below_alloc | apply pw_below_drewN | apply below_drew1) | exact HB.out)) hb); clear HO_17; clear HO_23; clear HO_27; clear HB; have HO_17 := n0_; have HO_23 := n1_; have HO_27 := n2_; have HB := n3_; clear n0_ n1_ n2_ n3_; (try clear hb); (try clear hb2); (try clear hk); (try clear hi))); try go_wp2_with (first | (go_at_call 14; (with_reducible refine (spec_SquareSolved.calls k1 _ _ t536 t537 true _ ?side1 ?side2 A21.out).mono ?_); (case side1 => repeat (first | exact (Kd.Q_reads' HO_17.out).2.2 | (with_reducible refine Kd.C_alloc ?_ _) | (with_reducible refine Kd.C_drewN ?_ _) | (with_reducible refine Kd.C_drew ?_))); (case side2 => exact (Kd.Q_reads' HO_17.out).2.1); rintro e w24 ⟨rfl, hb⟩; have n0_ := Aside0.mk (Kd.Q_below (by (with_reducible repeat (first | apply Kd.Q_alloc | apply Kd.Q_drewN | apply Kd.Q_drew)); exact HO_17.out) hb); have n1_ := Aside0.mk (Kd.N_below (by (with_reducible repeat (first | apply Kd.N_alloc | apply Kd.N_drewN | apply Kd.N_drew)); exact HO_23.out) hb); have n2_ := Aside0.mk (Kd.N_below (by (with_reducible repeat (first | apply Kd.N_alloc | apply Kd.N_drewN | apply Kd.N_drew)); exact HO_27.out) hb); have n3_ := Aside0.mk (below_step (by repeat (first | (with_reducible first | exact HB.out | apply below_alloc | apply pw_below_drewN | apply below_drew1) | exact HB.out)) hb); clear HO_17; clear HO_23; clear HO_27; clear HB; have HO_17 := n0_; have HO_23 := n1_; have HO_27 := n2_; have HB := n3_; clear n0_ n1_ n2_ n3_; (try clear hb); (try clear hb2); (try clear hk); (try clear hi))))
                  go_meet
                  case rel => exact ⟨_, (true), (by first | rfl | (simp; done) | (simp [*]; done)), H', ⟨by have := HK1.out; first | omega | exact Nat.le_refl _⟩, ⟨by (with_reducible repeat (first | apply Kd.Q_alloc | apply Kd.Q_drewN | apply Kd.Q_drew)); exact HO_17.out⟩, ⟨by (with_reducible repeat (first | apply Kd.N_alloc | apply Kd.N_drewN | apply Kd.N_drew)); exact Kd.N_mono HO_23.out (fun _ hk => hk.1)⟩, ⟨by repeat (first | (with_reducible first | exact HB.out | apply below_alloc | apply pw_below_drewN | apply below_drew1) | exact HB.out)⟩⟩
                · rw [if_neg c23] at H
                  have c23b0 : decide (t538 < 0) = false := decide_eq_false c23
                  clear c23
                  (first | rw [c23b0] | (simp only [i64_w, i32_w]; rw [c23b0]) | skip)
                  have H' := Aside0.mk H
                  clear H
                  go_wp2_with (first | (go_at_call 14; (with_reducible refine (spec_SquareSolved.calls k1 _ _ t536 t537 true _ ?side1 ?side2 A21.out).mono ?_); (case side1 => repeat (first | exact (Kd.Q_reads' HO_17.out).2.2 | (with_reducible refine Kd.C_alloc ?_ _) | (with_reducible refine Kd.C_drewN ?_ _) | (with_reducible refine Kd.C_drew ?_))); (case side2 => exact (Kd.Q_reads' HO_17.out).2.1); rintro e w25 ⟨rfl, hb⟩; have n0_ := Aside0.mk (Kd.Q_below (by (with_reducible repeat (first | apply Kd.Q_alloc | apply Kd.Q_drewN | apply Kd.Q_drew)); exact HO_17.out) hb); have n1_ := Aside0.mk (Kd.N_below (by (with_reducible repeat (first | apply Kd.N_alloc | apply Kd.N_drewN | apply Kd.N_drew)); exact HO_23.out) hb); have n2_ := Aside0.mk (Kd.N_below (by (with_reducible repeat (first | apply Kd.N_alloc | apply Kd.N_drewN | apply Kd.N_drew)); exact HO_27.out) hb); have n3_ := Aside0.mk (below_step (by repeat (first | (with_reducible first | exact HB.out | apply below_alloc | apply pw_below_drewN | apply below_drew1) | exact HB.out)) hb); clear HO_17; clear HO_23; clear HO_27; clear HB; have HO_17 := n0_; have HO_23 := n1_; have HO_27 := n2_; have HB := n3_; clear n0_ n1_ n2_ n3_; (try clear hb); (try clear hb2); (try clear hk); (try clear hi)))
                  repeat (go_quiet (first | (go_at_call 14; (with_reducible refine (spec_SquareSolved.calls k1 _ _ t536 t537 true _ ?side1 ?side2 A21.out).mono ?_); (case side1 => repeat (first | exact (Kd.Q_reads' HO_17.out).2.2 | (with_reducible refine Kd.C_alloc ?_ _) | (with_reducible refine Kd.C_drewN ?_ _) | (with_reducible refine Kd.C_drew ?_))); (case side2 => exact (Kd.Q_reads' HO_17.out).2.1); rintro e w25 ⟨rfl, hb⟩; have n0_ := Aside0.mk (Kd.Q_below (by (with_reducible repeat (first | apply Kd.Q_alloc | apply Kd.Q_drewN | apply Kd.Q_drew)); exact HO_17.out) hb); have n1_ := Aside0.mk (Kd.N_below (by (with_reducible repeat (first | apply Kd.N_alloc | apply Kd.N_drewN | apply Kd.N_drew)); exact HO_23.out) hb); have n2_ := Aside0.mk (Kd.N_below (by (with_reducible repeat (first | apply Kd.N_alloc | apply Kd.N_drewN | apply Kd.N_drew)); exact HO_27.out) hb); have n3_ := Aside0.mk (below_step (by repeat (first | (with_reducible first | exact HB.out | apply below_alloc | apply pw_below_drewN | apply below_drew1) | exact HB.out)) hb); clear HO_17; clear HO_23; clear HO_27; clear HB; have HO_17 := n0_; have HO_23 := n1_; have HO_27 := n2_; have HB := n3_; clear n0_ n1_ n2_ n3_; (try clear hb); (try clear hb2); (try clear hk); (try clear hi))); try go_wp2_with (first | (go_at_call 14; (with_reducible refine (spec_SquareSolved.calls k1 _ _ t536 t537 true _ ?side1 ?side2 A21.out).mono ?_); (case side1 => repeat (first | exact (Kd.Q_reads' HO_17.out).2.2 | (with_reducible refine Kd.C_alloc ?_ _) | (with_reducible refine Kd.C_drewN ?_ _) | (with_reducible refine Kd.C_drew ?_))); (case side2 => exact (Kd.Q_reads' HO_17.out).2.1); rintro e w25 ⟨rfl, hb⟩; have n0_ := Aside0.mk (Kd.Q_below (by (with_reducible repeat (first | apply Kd.Q_alloc | apply Kd.Q_drewN | apply Kd.Q_drew)); exact HO_17.out) hb); have n1_ := Aside0.mk (Kd.N_below (by (with_reducible repeat (first | apply Kd.N_alloc | apply Kd.N_drewN | apply Kd.N_drew)); exact HO_23.out) hb); have n2_ := Aside0.mk (Kd.N_below (by (with_reducible repeat (first | apply Kd.N_alloc | apply Kd.N_drewN | apply Kd.N_drew)); exact HO_27.out) hb); have n3_ := Aside0.mk (below_step (by repeat (first | (with_reducible first | exact HB.out | apply below_alloc | apply pw_below_drewN | apply below_drew1) | exact HB.out)) hb); clear HO_17; clear HO_23; clear HO_27; clear HB; have HO_17 := n0_; have HO_23 := n1_; have HO_27 := n2_; have HB := n3_; clear n0_ n1_ n2_ n3_; (try clear hb); (try clear hb2); (try clear hk); (try clear hi))))
                  go_meet
                  case rel => exact ⟨_, (decide (t538 ≥ t537)), (by first | rfl | (simp; done) | (simp [*]; done)), H', ⟨by have := HK1.out; first | omega | exact Nat.le_refl _⟩, ⟨by (with_reducible repeat (first | apply Kd.Q_alloc | apply Kd.Q_drewN | apply Kd.Q_drew)); exact HO_17.out⟩, ⟨by (with_reducible repeat (first | apply Kd.N_alloc | apply Kd.N_drewN | apply Kd.N_drew)); exact Kd.N_mono HO_23.out (fun _ hk => hk.1)⟩, ⟨by repeat (first | (with_reducible first | exact HB.out | apply below_alloc | apply pw_below_drewN | apply below_drew1) | exact HB.out)⟩⟩
              · replace c22 := Bool.eq_false_iff.mpr c22
                subst c22
                have H1 : (laws_FnApartRules.j1 k1 t536 t537 t538 t541 true) = some r := by rw [if_neg (show ¬ (false = true) by decide)] at H; exact H
                clear H
                have H := H1
                clear H1
                have H' := Aside0.mk H
                clear H
                go_wp2_with (first | (go_at_call 14; (with_reducible refine (spec_SquareSolved.calls k1 _ _ t536 t537 false _ ?side1 ?side2 A21.out).mono ?_); (case side1 => repeat (first | exact (Kd.Q_reads' HO_17.out).2.2 | (with_reducible refine Kd.C_alloc ?_ _) | (with_reducible refine Kd.C_drewN ?_ _) | (with_reducible refine Kd.C_drew ?_))); (case side2 => exact (Kd.Q_reads' HO_17.out).2.1); rintro e w26 ⟨rfl, hb⟩; have n0_ := Aside0.mk (Kd.Q_below (by (with_reducible repeat (first | apply Kd.Q_alloc | apply Kd.Q_drewN | apply Kd.Q_drew)); exact HO_17.out) hb); have n1_ := Aside0.mk (Kd.N_below (by (with_reducible repeat (first | apply Kd.N_alloc | apply Kd.N_drewN | apply Kd.N_drew)); exact HO_23.out) hb); have n2_ := Aside0.mk (Kd.N_below (by (with_reducible repeat (first | apply Kd.N_alloc | apply Kd.N_drewN | apply Kd.N_drew)); exact HO_27.out) hb); have n3_ := Aside0.mk (below_step (by repeat (first | (with_reducible first | exact HB.out | apply below_alloc | apply pw_below_drewN | apply below_drew1) | exact HB.out)) hb); clear HO_17; clear HO_23; clear HO_27; clear HB; have HO_17 := n0_; have HO_23 := n1_; have HO_27 := n2_; have HB := n3_; clear n0_ n1_ n2_ n3_; (try clear hb); (try clear hb2); (try clear hk); (try clear hi)))
                repeat (go_quiet (first | (go_at_call 14; (with_reducible refine (spec_SquareSolved.calls k1 _ _ t536 t537 false _ ?side1 ?side2 A21.out).mono ?_); (case side1 => repeat (first | exact (Kd.Q_reads' HO_17.out).2.2 | (with_reducible refine Kd.C_alloc ?_ _) | (with_reducible refine Kd.C_drewN ?_ _) | (with_reducible refine Kd.C_drew ?_))); (case side2 => exact (Kd.Q_reads' HO_17.out).2.1); rintro e w26 ⟨rfl, hb⟩; have n0_ := Aside0.mk (Kd.Q_below (by (with_reducible repeat (first | apply Kd.Q_alloc | apply Kd.Q_drewN | apply Kd.Q_drew)); exact HO_17.out) hb); have n1_ := Aside0.mk (Kd.N_below (by (with_reducible repeat (first | apply Kd.N_alloc | apply Kd.N_drewN | apply Kd.N_drew)); exact HO_23.out) hb); have n2_ := Aside0.mk (Kd.N_below (by (with_reducible repeat (first | apply Kd.N_alloc | apply Kd.N_drewN | apply Kd.N_drew)); exact HO_27.out) hb); have n3_ := Aside0.mk (below_step (by repeat (first | (with_reducible first | exact HB.out | apply below_alloc | apply pw_below_drewN | apply below_drew1) | exact HB.out)) hb); clear HO_17; clear HO_23; clear HO_27; clear HB; have HO_17 := n0_; have HO_23 := n1_; have HO_27 := n2_; have HB := n3_; clear n0_ n1_ n2_ n3_; (try clear hb); (try clear hb2); (try clear hk); (try clear hi))); try go_wp2_with (first | (go_at_call 14; (with_reducible refine (spec_SquareSolved.calls k1 _ _ t536 t537 false _ ?side1 ?side2 A21.out).mono ?_); (case side1 => repeat (first | exact (Kd.Q_reads' HO_17.out).2.2 | (with_reducible refine Kd.C_alloc ?_ _) | (with_reducible refine Kd.C_drewN ?_ _) | (with_reducible refine Kd.C_drew ?_))); (case side2 => exact (Kd.Q_reads' HO_17.out).2.1); rintro e w26 ⟨rfl, hb⟩; have n0_ := Aside0.mk (Kd.Q_below (by (with_reducible repeat (first | apply Kd.Q_alloc | apply Kd.Q_drewN | apply Kd.Q_drew)); exact HO_17.out) hb); have n1_ := Aside0.mk (Kd.N_below (by (with_reducible repeat (first | apply Kd.N_alloc | apply Kd.N_drewN | apply Kd.N_drew)); exact HO_23.out) hb); have n2_ := Aside0.mk (Kd.N_below (by (with_reducible repeat (first | apply Kd.N_alloc | apply Kd.N_drewN | apply Kd.N_drew)); exact HO_27.out) hb); have n3_ := Aside0.mk (below_step (by repeat (first | (with_reducible first | exact HB.out | apply below_alloc | apply pw_below_drewN | apply below_drew1) | exact HB.out)) hb); clear HO_17; clear HO_23; clear HO_27; clear HB; have HO_17 := n0_; have HO_23 := n1_; have HO_27 := n2_; have HB := n3_; clear n0_ n1_ n2_ n3_; (try clear hb); (try clear hb2); (try clear hk); (try clear hi))))
                go_meet
                case rel => exact ⟨_, (true), (by first | rfl | (simp; done) | (simp [*]; done)), H', ⟨by have := HK1.out; first | omega | exact Nat.le_refl _⟩, ⟨by (with_reducible repeat (first | apply Kd.Q_alloc | apply Kd.Q_drewN | apply Kd.Q_drew)); exact HO_17.out⟩, ⟨by (with_reducible repeat (first | apply Kd.N_alloc | apply Kd.N_drewN | apply Kd.N_drew)); exact Kd.N_mono HO_23.out (fun _ hk => hk.1)⟩, ⟨by repeat (first | (with_reducible first | exact HB.out | apply below_alloc | apply pw_below_drewN | apply below_drew1) | exact HB.out)⟩⟩
            case rest =>
              clear HC20
              try clear c1
              try clear c2
              try clear c2b0
              try clear c2b1
              try clear p2
              try clear c3
              try clear c5
              try clear p5
              try clear q5
              try clear hx5
              try clear c6
              try clear c6b0
              try clear c6b1
              try clear c6b2
              try clear p6
              try clear c13
              try clear c13b0
              try clear c14
              try clear c14b0
              try clear c15
              try clear c15b0
              try clear c15b1
              try clear c16
              try clear c16b0
              try clear c16b1
              try clear c17
              try clear c17b0
              try clear c19
              try clear c22
              try clear c23
              try clear c23b0
              try clear hx547_0
              try clear hx547_1
              try clear hx547_2
              try clear hx548_0
              try clear hx548_1
              try clear hx548_2
              try clear hx549_0
              try clear hx549_1
              try clear hx549_2
              try clear hx550_0
              try clear hx550_1
              try clear hx550_2
              try clear p2
              try clear p547
              try clear p548
              try clear p549
              try clear p550
              try clear q547
              try clear q548
              try clear q549
              try clear q550
              obtain ⟨kq, x80_19, rfl, HA, HJ19, HO_3, HO_6, HB⟩ := hcut
              cases kq with
              | zero => exact absurd HA.out (by simp [laws_FnApartRules.j1])
              | succ kj19 =>
                have H := HA.out
                clear HA
                simp only [laws_FnApartRules.j1] at H
                by_cases c27 : x80_19 = true
                · subst c27
                  have H1 : (if (t541.length : Int) = 0 then ((laws_alive.f kj19).bind fun t553 => (some t553)) else (some false)) = some r := by rw [if_pos rfl] at H; exact H
                  clear H
                  have H := H1
                  clear H1
                  by_cases c28 : (t541.length : Int) = 0
                  · rw [if_pos c28] at H
                    have c28b0 : ((t541.length : Int) == 0) = true := beq_iff_eq.mpr c28
                    have c28b1 : ((t541.length : Int) != 0) = false := bne_eq_false_iff_eq.mpr c28
                    clear c28
                    replace H := Option.bind_eq_some_iff.mp H
                    obtain ⟨t553, A290, H⟩ := H
                    replace H : (some t553) = some r := H
                    have A29 := Aside0.mk A290
                    clear A290
                    obtain rfl := Option.some.inj H
                    go_wp2_with (first | (go_at_call 15; (with_reducible refine (laws_alive.calls kj19  t553 _ A29.out).mono ?_); rintro e w30 ⟨rfl, hb⟩; have n0_ := Aside0.mk (Kd.Q_below (by (with_reducible repeat (first | apply Kd.Q_alloc | apply Kd.Q_drewN | apply Kd.Q_drew)); exact HO_3.out) hb); have n1_ := Aside0.mk (Kd.N_below (by (with_reducible repeat (first | apply Kd.N_alloc | apply Kd.N_drewN | apply Kd.N_drew)); exact HO_6.out) hb); have n2_ := Aside0.mk (below_step (by repeat (first | (with_reducible first | exact HB.out | apply below_alloc | apply pw_below_drewN | apply below_drew1) | exact HB.out)) hb); clear HO_3; clear HO_6; clear HB; have HO_3 := n0_; have HO_6 := n1_; have HB := n2_; clear n0_ n1_ n2_; (try clear hb); (try clear hb2); (try clear hk); (try clear hi)))
                    repeat (go_quiet (first | (go_at_call 15; (with_reducible refine (laws_alive.calls kj19  t553 _ A29.out).mono ?_); rintro e w30 ⟨rfl, hb⟩; have n0_ := Aside0.mk (Kd.Q_below (by (with_reducible repeat (first | apply Kd.Q_alloc | apply Kd.Q_drewN | apply Kd.Q_drew)); exact HO_3.out) hb); have n1_ := Aside0.mk (Kd.N_below (by (with_reducible repeat (first | apply Kd.N_alloc | apply Kd.N_drewN | apply Kd.N_drew)); exact HO_6.out) hb); have n2_ := Aside0.mk (below_step (by repeat (first | (with_reducible first | exact HB.out | apply below_alloc | apply pw_below_drewN | apply below_drew1) | exact HB.out)) hb); clear HO_3; clear HO_6; clear HB; have HO_3 := n0_; have HO_6 := n1_; have HB := n2_; clear n0_ n1_ n2_; (try clear hb); (try clear hb2); (try clear hk); (try clear hi))); try go_wp2_with (first | (go_at_call 15; (with_reducible refine (laws_alive.calls kj19  t553 _ A29.out).mono ?_); rintro e w30 ⟨rfl, hb⟩; have n0_ := Aside0.mk (Kd.Q_below (by (with_reducible repeat (first | apply Kd.Q_alloc | apply Kd.Q_drewN | apply Kd.Q_drew)); exact HO_3.out) hb); have n1_ := Aside0.mk (Kd.N_below (by (with_reducible repeat (first | apply Kd.N_alloc | apply Kd.N_drewN | apply Kd.N_drew)); exact HO_6.out) hb); have n2_ := Aside0.mk (below_step (by repeat (first | (with_reducible first | exact HB.out | apply below_alloc | apply pw_below_drewN | apply below_drew1) | exact HB.out)) hb); clear HO_3; clear HO_6; clear HB; have HO_3 := n0_; have HO_6 := n1_; have HB := n2_; clear n0_ n1_ n2_; (try clear hb); (try clear hb2); (try clear hk); (try clear hi))))
                    go_ret
                    exact ⟨by first | rfl | (simp [errW_none, errW_some] <;> rfl) | (simp [*, errW_none, errW_some] <;> rfl), by repeat (first | (with_reducible first | exact HB.out | apply below_alloc | apply pw_below_drewN | apply below_drew1) | exact HB.out)⟩
                  · rw [if_neg c28] at H
                    have c28b0 : ((t541.length : Int) == 0) = false := beq_eq_false_iff_ne.mpr c28
                    have c28b1 : ((t541.length : Int) != 0) = true := bne_iff_ne.mpr c28
                    have c28b2 : ¬ (t541 = []) := fun h_ => c28 (by rw [h_]; rfl)
                    obtain rfl := Option.some.inj H
                    go_wp2
                    repeat (go_quiet (fail); try go_wp2)
                    go_ret
                    exact ⟨by first | rfl | (simp [errW_none, errW_some] <;> rfl) | (simp [*, errW_none, errW_some] <;> rfl), by repeat (first | (with_reducible first | exact HB.out | apply below_alloc | apply pw_below_drewN | apply below_drew1) | exact HB.out)⟩
                · replace c27 := Bool.eq_false_iff.mpr c27
                  subst c27
                  have H1 : (laws_FnApartRules.l1 kj19 t536 t537 t538 t541 0 0) = some r := by rw [if_neg (show ¬ (false = true) by decide)] at H; exact H
                  clear H
                  have H := H1
                  clear H1
                  have H' := Aside0.mk H
                  clear H
                  go_wp2
                  repeat (go_quiet (fail); try go_wp2)
                  go_loopg [9, 10] kj19 (fun kq v9 v10 w' => ∃ (x9_3 : Int) (x10_3 : Int), v9 = .int .i64 x9_3 ∧ v10 = .int .i64 x10_3 ∧ Aside0 (laws_FnApartRules.l1 kq t536 t537 t538 t541 x9_3 x10_3 = some r) ∧ Aside0 (kq ≤ kj19) ∧ Aside0 (Kd.Q (Kd.int .i64) 3 w' w.heap.size (fun _ => True) (.slice Ao8 t536.length co8) t536) ∧ Aside0 (Kd.N k29 29 w' w.heap.size (fun k_ => some k_ ≠ ((.slice Ao8 t536.length co8) : Value).ownBlock) (.slice Ao11 t541.length co11) t541) ∧ Aside0 (Below w.heap.size w w'))
                  case atStart => exact ⟨(0), (0), (by first | rfl | (simp; done) | (simp [*]; done)), (by first | rfl | (simp; done) | (simp [*]; done)), H', ⟨Nat.le_refl _⟩, ⟨by (with_reducible repeat (first | apply Kd.Q_alloc | apply Kd.Q_drewN | apply Kd.Q_drew)); exact HO_3.out⟩, ⟨by (with_reducible repeat (first | apply Kd.N_alloc | apply Kd.N_drewN | apply Kd.N_drew)); exact HO_6.out⟩, ⟨by repeat (first | (with_reducible first | exact HB.out | apply below_alloc | apply pw_below_drewN | apply below_drew1) | exact HB.out)⟩⟩
                  case round =>
                    clear H'
                    try clear c1
                    try clear c2
                    try clear c2b0
                    try clear c2b1
                    try clear p2
                    try clear c3
                    try clear c5
                    try clear p5
                    try clear q5
                    try clear hx5
                    try clear c6
                    try clear c6b0
                    try clear c6b1
                    try clear c6b2
                    try clear p6
                    try clear c13
                    try clear c13b0
                    try clear c14
                    try clear c14b0
                    try clear c15
                    try clear c15b0
                    try clear c15b1
                    try clear c16
                    try clear c16b0
                    try clear c16b1
                    try clear c17
                    try clear c17b0
                    try clear c19
                    try clear c22
                    try clear c23
                    try clear c23b0
                    try clear c27
                    try clear c28
                    try clear c28b0
                    try clear c28b1
                    try clear c28b2
                    try clear hx547_0
                    try clear hx547_1
                    try clear hx547_2
                    try clear hx548_0
                    try clear hx548_1
                    try clear hx548_2
                    try clear hx549_0
                    try clear hx549_1
                    try clear hx549_2
                    try clear hx550_0
                    try clear hx550_1
                    try clear hx550_2
                    try clear p2
                    try clear p5
                    try clear p547
                    try clear p548
                    try clear p549
                    try clear p550
                    try clear p6
                    try clear q5
                    try clear q547
                    try clear q548
                    try clear q549
                    try clear q550
                    obtain ⟨x9_3, x10_3, rfl, rfl, HA, HK3, HO_3, HO_6, HB⟩ := hrel
                    cases gk with
                    | zero => exact absurd HA.out (by simp [laws_FnApartRules.l1])
                    | succ k3 =>
                      have H := HA.out
                      clear HA
                      simp only [laws_FnApartRules.l1] at H
                      by_cases c31 : x10_3 < (t536.length : Int)
                      · rw [if_pos c31] at H
                        have c31b0 : decide (x10_3 < (t536.length : Int)) = true := decide_eq_true c31
                        clear c31
                        have HC32 := Aside0.mk H
                        clear H
                        go_upto_region 19 with (fail)
                        repeat (go_quiet (fail); go_upto_region 19 with (fail))
                        go_cut [126] (fun v126 wc => ∃ (kq : Nat) (x126_31 : Bool), v126 = .bool x126_31 ∧ Aside0 (laws_FnApartRules.j3 kq t536 t537 t538 t541 x9_3 x10_3 x126_31 = some r) ∧ Aside0 (kq ≤ k3) ∧ Aside0 (Kd.Q (Kd.int .i64) 3 wc w.heap.size (fun _ => True) (.slice Ao8 t536.length co8) t536) ∧ Aside0 (Kd.N k29 29 wc w.heap.size (fun k_ => some k_ ≠ ((.slice Ao8 t536.length co8) : Value).ownBlock) (.slice Ao11 t541.length co11) t541) ∧ Aside0 (Below w.heap.size w wc))
                        case first =>
                          have H := HC32.out
                          clear HC32
                          by_cases c33 : t537 = 0
                          · rw [if_pos c33] at H
                            exact absurd H (by simp)
                          · rw [if_neg c33] at H
                            have c33b0 : (t537 == 0) = false := beq_eq_false_iff_ne.mpr c33
                            have c33b1 : (t537 != 0) = true := bne_iff_ne.mpr c33
                            (first | rw [c33b0] | (simp only [i64_w, i32_w]; rw [c33b0]) | skip)
                            by_cases c34 : (Int.tmod x10_3 t537) < (wrap64 (t537 - 1))
                            · rw [if_pos c34] at H
                              have c34b0 : decide ((Int.tmod x10_3 t537) < (wrap64 (t537 - 1))) = true := decide_eq_true c34
                              clear c34
                              by_cases c35 : 0 ≤ x10_3
                              · rw [if_pos c35] at H
                                have c35b0 : decide (0 ≤ x10_3) = true := decide_eq_true c35
                                clear c35
                                obtain ⟨ji36, hji36⟩ : ∃ j_ : Int, (wrap64 (x10_3 + 1)) = j_ := ⟨_, rfl⟩
                                replace H : (if 0 ≤ (ji36) then (if (ji36) < (t536.length : Int) then (if (wrap64 ((rd t536 x10_3) - (rd t536 (ji36)))) = t538 then (laws_FnApartRules.j3 k3 t536 t537 t538 t541 x9_3 x10_3 true) else (laws_FnApartRules.j3 k3 t536 t537 t538 t541 x9_3 x10_3 ((wrap64 ((rd t536 (ji36)) - (rd t536 x10_3))) == t538))) else (none)) else (none)) = some r := by first | (rw [hji36] at H; exact H) | (simp only [hji36] at H ⊢; exact H)
                                have hji36w : (IntKind.i64.wrap (x10_3 + 1)) = ji36 := (i64_w _).trans hji36
                                by_cases c37 : 0 ≤ (ji36)
                                · rw [if_pos c37] at H
                                  have c37b0 : decide (0 ≤ (ji36)) = true := decide_eq_true c37
                                  clear c37
                                  by_cases c38 : (ji36) < (t536.length : Int)
                                  · rw [if_pos c38] at H
                                    have c38b0 : decide ((ji36) < (t536.length : Int)) = true := decide_eq_true c38
                                    clear c38
                                    by_cases c39 : (wrap64 ((rd t536 x10_3) - (rd t536 (ji36)))) = t538
                                    · rw [if_pos c39] at H
                                      have c39b0 : ((wrap64 ((rd t536 x10_3) - (rd t536 (ji36)))) == t538) = true := beq_iff_eq.mpr c39
                                      have c39b1 : ((wrap64 ((rd t536 x10_3) - (rd t536 (ji36)))) != t538) = false := bne_eq_false_iff_eq.mpr c39
                                      clear c39
                                      have H' := Aside0.mk H
                                      clear H
                                      have p555 : 0 ≤ (x10_3 : Int) := of_decide_eq_true (by first | (with_reducible assumption) | assumption)
                                      have q555 : x10_3 < (t536.length : Int) := of_decide_eq_true (by first | (with_reducible assumption) | assumption)
                                      obtain ⟨ad555, e555, hx555_0⟩ := Kd.at_int (Kd.Q_reads' HO_3.out).2.2 x10_3 p555 q555
                                      cases e555
                                      replace p555 := eq_true p555
                                      replace q555 := eq_true q555
                                      have p556 : 0 ≤ ((ji36) : Int) := of_decide_eq_true (by first | (with_reducible assumption) | assumption)
                                      have q556 : (ji36) < (t536.length : Int) := of_decide_eq_true (by first | (with_reducible assumption) | assumption)
                                      obtain ⟨ad556, e556, hx556_0⟩ := Kd.at_int (Kd.Q_reads' HO_3.out).2.2 (ji36) p556 q556
                                      obtain rfl : ad555 = ad556 := (by injection e556)
                                      replace p556 := eq_true p556
                                      replace q556 := eq_true q556
                                      go_wp2
                                      repeat (go_quiet (fail); try go_wp2)
                                      go_meet
                                      case rel => exact ⟨_, (true), (by first | rfl | (simp; done) | (simp [*]; done)), H', ⟨by have := HK1.out; have := HJ19.out; have := HK3.out; first | omega | exact Nat.le_refl _⟩, ⟨by (with_reducible repeat (first | apply Kd.Q_alloc | apply Kd.Q_drewN | apply Kd.Q_drew)); exact HO_3.out⟩, ⟨by (with_reducible repeat (first | apply Kd.N_alloc | apply Kd.N_drewN | apply Kd.N_drew)); exact HO_6.out⟩, ⟨by repeat (first | (with_reducible first | exact HB.out | apply below_alloc | apply pw_below_drewN | apply below_drew1) | exact HB.out)⟩⟩
                                    · rw [if_neg c39] at H
                                      have c39b0 : ((wrap64 ((rd t536 x10_3) - (rd t536 (ji36)))) == t538) = false := beq_eq_false_iff_ne.mpr c39
                                      have c39b1 : ((wrap64 ((rd t536 x10_3) - (rd t536 (ji36)))) != t538) = true := bne_iff_ne.mpr c39
                                      have H' := Aside0.mk H
                                      clear H
                                      have p555 : 0 ≤ (x10_3 : Int) := of_decide_eq_true (by first | (with_reducible assumption) | assumption)
                                      have q555 : x10_3 < (t536.length : Int) := of_decide_eq_true (by first | (with_reducible assumption) | assumption)
                                      obtain ⟨ad555, e555, hx555_0⟩ := Kd.at_int (Kd.Q_reads' HO_3.out).2.2 x10_3 p555 q555
                                      cases e555
                                      replace p555 := eq_true p555
                                      replace q555 := eq_true q555
                                      have p556 : 0 ≤ ((ji36) : Int) := of_decide_eq_true (by first | (with_reducible assumption) | assumption)
                                      have q556 : (ji36) < (t536.length : Int) := of_decide_eq_true (by first | (with_reducible assumption) | assumption)
                                      obtain ⟨ad556, e556, hx556_0⟩ := Kd.at_int (Kd.Q_reads' HO_3.out).2.2 (ji36) p556 q556
                                      obtain rfl : ad555 = ad556 := (by injection e556)
                                      replace p556 := eq_true p556
                                      replace q556 := eq_true q556
                                      have p557 : 0 ≤ ((ji36) : Int) := of_decide_eq_true (by first | (with_reducible assumption) | assumption)
                                      have q557 : (ji36) < (t536.length : Int) := of_decide_eq_true (by first | (with_reducible assumption) | assumption)
                                      obtain ⟨ad557, e557, hx557_0⟩ := Kd.at_int (Kd.Q_reads' HO_3.out).2.2 (ji36) p557 q557
                                      obtain rfl : ad555 = ad557 := (by injection e557)
                                      replace p557 := eq_true p557
                                      replace q557 := eq_true q557
                                      have p558 : 0 ≤ (x10_3 : Int) := of_decide_eq_true (by first | (with_reducible assumption) | assumption)
                                      have q558 : x10_3 < (t536.length : Int) := of_decide_eq_true (by first | (with_reducible assumption) | assumption)
                                      obtain ⟨ad558, e558, hx558_0⟩ := Kd.at_int (Kd.Q_reads' HO_3.out).2.2 x10_3 p558 q558
                                      obtain rfl : ad555 = ad558 := (by injection e558)
                                      replace p558 := eq_true p558
                                      replace q558 := eq_true q558
                                      go_wp2
                                      repeat (go_quiet (fail); try go_wp2)
                                      go_meet
                                      case rel => exact ⟨_, (((wrap64 ((rd t536 (ji36)) - (rd t536 x10_3))) == t538)), (by first | rfl | (simp; done) | (simp only [← hji36] <;> (first | rfl | simp)) | (simp [*]; done)), H', ⟨by have := HK1.out; have := HJ19.out; have := HK3.out; first | omega | exact Nat.le_refl _⟩, ⟨by (with_reducible repeat (first | apply Kd.Q_alloc | apply Kd.Q_drewN | apply Kd.Q_drew)); exact HO_3.out⟩, ⟨by (with_reducible repeat (first | apply Kd.N_alloc | apply Kd.N_drewN | apply Kd.N_drew)); exact HO_6.out⟩, ⟨by repeat (first | (with_reducible first | exact HB.out | apply below_alloc | apply pw_below_drewN | apply below_drew1) | exact HB.out)⟩⟩
                                  · rw [if_neg c38] at H
                                    exact absurd H (by simp)
                                · rw [if_neg c37] at H
                                  exact absurd H (by simp)
                              · rw [if_neg c35] at H
                                exact absurd H (by simp)
                            · rw [if_neg c34] at H
                              have c34b0 : decide ((Int.tmod x10_3 t537) < (wrap64 (t537 - 1))) = false := decide_eq_false c34
                              clear c34
                              have H' := Aside0.mk H
                              clear H
                              go_wp2
                              repeat (go_quiet (fail); try go_wp2)
                              go_meet
                              case rel => exact ⟨_, (false), (by first | rfl | (simp; done) | (simp [*]; done)), H', ⟨by have := HK1.out; have := HJ19.out; have := HK3.out; first | omega | exact Nat.le_refl _⟩, ⟨by (with_reducible repeat (first | apply Kd.Q_alloc | apply Kd.Q_drewN | apply Kd.Q_drew)); exact HO_3.out⟩, ⟨by (with_reducible repeat (first | apply Kd.N_alloc | apply Kd.N_drewN | apply Kd.N_drew)); exact HO_6.out⟩, ⟨by repeat (first | (with_reducible first | exact HB.out | apply below_alloc | apply pw_below_drewN | apply below_drew1) | exact HB.out)⟩⟩
                        case rest =>
                          clear HC32
                          try clear c1
                          try clear c2
                          try clear c2b0
                          try clear c2b1
                          try clear p2
                          try clear c3
                          try clear c5
                          try clear p5
                          try clear q5
                          try clear hx5
                          try clear c6
                          try clear c6b0
                          try clear c6b1
                          try clear c6b2
                          try clear p6
                          try clear c13
                          try clear c13b0
                          try clear c14
                          try clear c14b0
                          try clear c15
                          try clear c15b0
                          try clear c15b1
                          try clear c16
                          try clear c16b0
                          try clear c16b1
                          try clear c17
                          try clear c17b0
                          try clear c19
                          try clear c22
                          try clear c23
                          try clear c23b0
                          try clear c27
                          try clear c28
                          try clear c28b0
                          try clear c28b1
                          try clear c28b2
                          try clear c31
                          try clear c31b0
                          try clear c33
                          try clear c33b0
                          try clear c33b1
                          try clear c34
                          try clear c34b0
                          try clear c35
                          try clear c35b0
                          try clear c37
                          try clear c37b0
                          try clear c38
                          try clear c38b0
                          try clear c39
                          try clear c39b0
                          try clear c39b1
                          try clear hx547_0
                          try clear hx547_1
                          try clear hx547_2
                          try clear hx548_0
                          try clear hx548_1
                          try clear hx548_2
                          try clear hx549_0
                          try clear hx549_1
                          try clear hx549_2
                          try clear hx550_0
                          try clear hx550_1
                          try clear hx550_2
                          try clear hx555_0
                          try clear hx556_0
                          try clear hx557_0
                          try clear hx558_0
                          try clear p2
                          try clear p5
                          try clear p547
                          try clear p548
                          try clear p549
                          try clear p550
                          try clear p555
                          try clear p556
                          try clear p557
                          try clear p558
                          try clear p6
                          try clear q5
                          try clear q547
                          try clear q548
                          try clear q549
                          try clear q550
                          try clear q555
                          try clear q556
                          try clear q557
                          try clear q558
                          obtain ⟨kq, x126_31, rfl, HA, HJ31, HO_3, HO_6, HB⟩ := hcut
                          cases kq with
                          | zero => exact absurd HA.out (by simp [laws_FnApartRules.j3])
                          | succ kj31 =>
                            have H := HA.out
                            clear HA
                            simp only [laws_FnApartRules.j3] at H
                            by_cases c40 : x126_31 = true
                            · subst c40
                              have H1 : (if t537 = 0 then (none) else (if (wrap64 (Int.tdiv x10_3 t537)) < (wrap64 (t537 - 1)) then (if 0 ≤ x10_3 then (if x10_3 < (t536.length : Int) then (if 0 ≤ (wrap64 (x10_3 + t537)) then (if (wrap64 (x10_3 + t537)) < (t536.length : Int) then (if (wrap64 ((rd t536 x10_3) - (rd t536 (wrap64 (x10_3 + t537))))) = t538 then (laws_FnApartRules.l1 kj31 t536 t537 t538 t541 (wrap64 ((wrap64 (x9_3 + 1)) + 1)) (wrap64 (x10_3 + 1))) else (if (wrap64 ((rd t536 (wrap64 (x10_3 + t537))) - (rd t536 x10_3))) = t538 then (laws_FnApartRules.l1 kj31 t536 t537 t538 t541 (wrap64 ((wrap64 (x9_3 + 1)) + 1)) (wrap64 (x10_3 + 1))) else (laws_FnApartRules.l1 kj31 t536 t537 t538 t541 (wrap64 (x9_3 + 1)) (wrap64 (x10_3 + 1))))) else (none)) else (none)) else (none)) else (none)) else (laws_FnApartRules.l1 kj31 t536 t537 t538 t541 (wrap64 (x9_3 + 1)) (wrap64 (x10_3 + 1))))) = some r := by rw [if_pos rfl] at H; exact H
                              clear H
                              have H := H1
                              clear H1
                              by_cases c41 : t537 = 0
                              · rw [if_pos c41] at H
                                exact absurd H (by simp)
                              · rw [if_neg c41] at H
                                have c41b0 : (t537 == 0) = false := beq_eq_false_iff_ne.mpr c41
                                have c41b1 : (t537 != 0) = true := bne_iff_ne.mpr c41
                                by_cases c42 : (wrap64 (Int.tdiv x10_3 t537)) < (wrap64 (t537 - 1))
                                · rw [if_pos c42] at H
                                  have c42b0 : decide ((wrap64 (Int.tdiv x10_3 t537)) < (wrap64 (t537 - 1))) = true := decide_eq_true c42
                                  clear c42
                                  by_cases c43 : 0 ≤ x10_3
                                  · rw [if_pos c43] at H
                                    have c43b0 : decide (0 ≤ x10_3) = true := decide_eq_true c43
                                    clear c43
                                    by_cases c44 : x10_3 < (t536.length : Int)
                                    · rw [if_pos c44] at H
                                      have c44b0 : decide (x10_3 < (t536.length : Int)) = true := decide_eq_true c44
                                      clear c44
                                      obtain ⟨ji45, hji45⟩ : ∃ j_ : Int, (wrap64 (x10_3 + t537)) = j_ := ⟨_, rfl⟩
                                      replace H : (if 0 ≤ (ji45) then (if (ji45) < (t536.length : Int) then (if (wrap64 ((rd t536 x10_3) - (rd t536 (ji45)))) = t538 then (laws_FnApartRules.l1 kj31 t536 t537 t538 t541 (wrap64 ((wrap64 (x9_3 + 1)) + 1)) (wrap64 (x10_3 + 1))) else (if (wrap64 ((rd t536 (ji45)) - (rd t536 x10_3))) = t538 then (laws_FnApartRules.l1 kj31 t536 t537 t538 t541 (wrap64 ((wrap64 (x9_3 + 1)) + 1)) (wrap64 (x10_3 + 1))) else (laws_FnApartRules.l1 kj31 t536 t537 t538 t541 (wrap64 (x9_3 + 1)) (wrap64 (x10_3 + 1))))) else (none)) else (none)) = some r := by first | (rw [hji45] at H; exact H) | (simp only [hji45] at H ⊢; exact H)
                                      have hji45w : (IntKind.i64.wrap (x10_3 + t537)) = ji45 := (i64_w _).trans hji45
                                      by_cases c46 : 0 ≤ (ji45)
                                      · rw [if_pos c46] at H
                                        have c46b0 : decide (0 ≤ (ji45)) = true := decide_eq_true c46
                                        clear c46
                                        by_cases c47 : (ji45) < (t536.length : Int)
                                        · rw [if_pos c47] at H
                                          have c47b0 : decide ((ji45) < (t536.length : Int)) = true := decide_eq_true c47
                                          clear c47
                                          by_cases c48 : (wrap64 ((rd t536 x10_3) - (rd t536 (ji45)))) = t538
                                          · rw [if_pos c48] at H
                                            have c48b0 : ((wrap64 ((rd t536 x10_3) - (rd t536 (ji45)))) == t538) = true := beq_iff_eq.mpr c48
                                            have c48b1 : ((wrap64 ((rd t536 x10_3) - (rd t536 (ji45)))) != t538) = false := bne_eq_false_iff_eq.mpr c48
                                            clear c48
                                            have H' := Aside0.mk H
                                            clear H
                                            have p559 : 0 ≤ (x10_3 : Int) := of_decide_eq_true (by first | (with_reducible assumption) | assumption)
                                            have q559 : x10_3 < (t536.length : Int) := of_decide_eq_true (by first | (with_reducible assumption) | assumption)
                                            obtain ⟨ad559, e559, hx559_0⟩ := Kd.at_int (Kd.Q_reads' HO_3.out).2.2 x10_3 p559 q559
                                            cases e559
                                            replace p559 := eq_true p559
                                            replace q559 := eq_true q559
                                            have p560 : 0 ≤ ((ji45) : Int) := of_decide_eq_true (by first | (with_reducible assumption) | assumption)
                                            have q560 : (ji45) < (t536.length : Int) := of_decide_eq_true (by first | (with_reducible assumption) | assumption)
                                            obtain ⟨ad560, e560, hx560_0⟩ := Kd.at_int (Kd.Q_reads' HO_3.out).2.2 (ji45) p560 q560
                                            obtain rfl : ad559 = ad560 := (by injection e560)
                                            replace p560 := eq_true p560
                                            replace q560 := eq_true q560
                                            go_wp2
                                            repeat (go_quiet (fail); try go_wp2)
                                            go_roundg kj31
                                            case measure => have := HK1.out; have := HJ19.out; have := HK3.out; have := HJ31.out; omega
                                            case rel => exact ⟨(wrap64 ((wrap64 (x9_3 + 1)) + 1)), (wrap64 (x10_3 + 1)), (by first | rfl | (simp; done) | (simp [*]; done)), (by first | rfl | (simp; done) | (simp [*]; done)), H', ⟨by have := HK1.out; have := HJ19.out; have := HK3.out; have := HJ31.out; omega⟩, ⟨by (with_reducible repeat (first | apply Kd.Q_alloc | apply Kd.Q_drewN | apply Kd.Q_drew)); exact HO_3.out⟩, ⟨by (with_reducible repeat (first | apply Kd.N_alloc | apply Kd.N_drewN | apply Kd.N_drew)); exact HO_6.out⟩, ⟨by repeat (first | (with_reducible first | exact HB.out | apply below_alloc | apply pw_below_drewN | apply below_drew1) | exact HB.out)⟩⟩
                                          · rw [if_neg c48] at H
                                            have c48b0 : ((wrap64 ((rd t536 x10_3) - (rd t536 (ji45)))) == t538) = false := beq_eq_false_iff_ne.mpr c48
                                            have c48b1 : ((wrap64 ((rd t536 x10_3) - (rd t536 (ji45)))) != t538) = true := bne_iff_ne.mpr c48
                                            by_cases c49 : (wrap64 ((rd t536 (ji45)) - (rd t536 x10_3))) = t538
                                            · rw [if_pos c49] at H
                                              have c49b0 : ((wrap64 ((rd t536 (ji45)) - (rd t536 x10_3))) == t538) = true := beq_iff_eq.mpr c49
                                              have c49b1 : ((wrap64 ((rd t536 (ji45)) - (rd t536 x10_3))) != t538) = false := bne_eq_false_iff_eq.mpr c49
                                              clear c49
                                              have H' := Aside0.mk H
                                              clear H
                                              have p559 : 0 ≤ (x10_3 : Int) := of_decide_eq_true (by first | (with_reducible assumption) | assumption)
                                              have q559 : x10_3 < (t536.length : Int) := of_decide_eq_true (by first | (with_reducible assumption) | assumption)
                                              obtain ⟨ad559, e559, hx559_0⟩ := Kd.at_int (Kd.Q_reads' HO_3.out).2.2 x10_3 p559 q559
                                              cases e559
                                              replace p559 := eq_true p559
                                              replace q559 := eq_true q559
                                              have p560 : 0 ≤ ((ji45) : Int) := of_decide_eq_true (by first | (with_reducible assumption) | assumption)
                                              have q560 : (ji45) < (t536.length : Int) := of_decide_eq_true (by first | (with_reducible assumption) | assumption)
                                              obtain ⟨ad560, e560, hx560_0⟩ := Kd.at_int (Kd.Q_reads' HO_3.out).2.2 (ji45) p560 q560
                                              obtain rfl : ad559 = ad560 := (by injection e560)
                                              replace p560 := eq_true p560
                                              replace q560 := eq_true q560
                                              have p561 : 0 ≤ ((ji45) : Int) := of_decide_eq_true (by first | (with_reducible assumption) | assumption)
                                              have q561 : (ji45) < (t536.length : Int) := of_decide_eq_true (by first | (with_reducible assumption) | assumption)
                                              obtain ⟨ad561, e561, hx561_0⟩ := Kd.at_int (Kd.Q_reads' HO_3.out).2.2 (ji45) p561 q561
                                              obtain rfl : ad559 = ad561 := (by injection e561)
                                              replace p561 := eq_true p561
                                              replace q561 := eq_true q561
                                              have p562 : 0 ≤ (x10_3 : Int) := of_decide_eq_true (by first | (with_reducible assumption) | assumption)
                                              have q562 : x10_3 < (t536.length : Int) := of_decide_eq_true (by first | (with_reducible assumption) | assumption)
                                              obtain ⟨ad562, e562, hx562_0⟩ := Kd.at_int (Kd.Q_reads' HO_3.out).2.2 x10_3 p562 q562
                                              obtain rfl : ad559 = ad562 := (by injection e562)
                                              replace p562 := eq_true p562
                                              replace q562 := eq_true q562
                                              go_wp2
                                              repeat (go_quiet (fail); try go_wp2)
                                              go_roundg kj31
                                              case measure => have := HK1.out; have := HJ19.out; have := HK3.out; have := HJ31.out; omega
                                              case rel => exact ⟨(wrap64 ((wrap64 (x9_3 + 1)) + 1)), (wrap64 (x10_3 + 1)), (by first | rfl | (simp; done) | (simp [*]; done)), (by first | rfl | (simp; done) | (simp [*]; done)), H', ⟨by have := HK1.out; have := HJ19.out; have := HK3.out; have := HJ31.out; omega⟩, ⟨by (with_reducible repeat (first | apply Kd.Q_alloc | apply Kd.Q_drewN | apply Kd.Q_drew)); exact HO_3.out⟩, ⟨by (with_reducible repeat (first | apply Kd.N_alloc | apply Kd.N_drewN | apply Kd.N_drew)); exact HO_6.out⟩, ⟨by repeat (first | (with_reducible first | exact HB.out | apply below_alloc | apply pw_below_drewN | apply below_drew1) | exact HB.out)⟩⟩
                                            · rw [if_neg c49] at H
                                              have c49b0 : ((wrap64 ((rd t536 (ji45)) - (rd t536 x10_3))) == t538) = false := beq_eq_false_iff_ne.mpr c49
                                              have c49b1 : ((wrap64 ((rd t536 (ji45)) - (rd t536 x10_3))) != t538) = true := bne_iff_ne.mpr c49
                                              have H' := Aside0.mk H
                                              clear H
                                              have p559 : 0 ≤ (x10_3 : Int) := of_decide_eq_true (by first | (with_reducible assumption) | assumption)
                                              have q559 : x10_3 < (t536.length : Int) := of_decide_eq_true (by first | (with_reducible assumption) | assumption)
                                              obtain ⟨ad559, e559, hx559_0⟩ := Kd.at_int (Kd.Q_reads' HO_3.out).2.2 x10_3 p559 q559
                                              cases e559
                                              replace p559 := eq_true p559
                                              replace q559 := eq_true q559
                                              have p560 : 0 ≤ ((ji45) : Int) := of_decide_eq_true (by first | (with_reducible assumption) | assumption)
                                              have q560 : (ji45) < (t536.length : Int) := of_decide_eq_true (by first | (with_reducible assumption) | assumption)
                                              obtain ⟨ad560, e560, hx560_0⟩ := Kd.at_int (Kd.Q_reads' HO_3.out).2.2 (ji45) p560 q560
                                              obtain rfl : ad559 = ad560 := (by injection e560)
                                              replace p560 := eq_true p560
                                              replace q560 := eq_true q560
                                              have p561 : 0 ≤ ((ji45) : Int) := of_decide_eq_true (by first | (with_reducible assumption) | assumption)
                                              have q561 : (ji45) < (t536.length : Int) := of_decide_eq_true (by first | (with_reducible assumption) | assumption)
                                              obtain ⟨ad561, e561, hx561_0⟩ := Kd.at_int (Kd.Q_reads' HO_3.out).2.2 (ji45) p561 q561
                                              obtain rfl : ad559 = ad561 := (by injection e561)
                                              replace p561 := eq_true p561
                                              replace q561 := eq_true q561
                                              have p562 : 0 ≤ (x10_3 : Int) := of_decide_eq_true (by first | (with_reducible assumption) | assumption)
                                              have q562 : x10_3 < (t536.length : Int) := of_decide_eq_true (by first | (with_reducible assumption) | assumption)
                                              obtain ⟨ad562, e562, hx562_0⟩ := Kd.at_int (Kd.Q_reads' HO_3.out).2.2 x10_3 p562 q562
                                              obtain rfl : ad559 = ad562 := (by injection e562)
                                              replace p562 := eq_true p562
                                              replace q562 := eq_true q562
                                              go_wp2
                                              repeat (go_quiet (fail); try go_wp2)
                                              go_roundg kj31
                                              case measure => have := HK1.out; have := HJ19.out; have := HK3.out; have := HJ31.out; omega
                                              case rel => exact ⟨(wrap64 (x9_3 + 1)), (wrap64 (x10_3 + 1)), (by first | rfl | (simp; done) | (simp [*]; done)), (by first | rfl | (simp; done) | (simp [*]; done)), H', ⟨by have := HK1.out; have := HJ19.out; have := HK3.out; have := HJ31.out; omega⟩, ⟨by (with_reducible repeat (first | apply Kd.Q_alloc | apply Kd.Q_drewN | apply Kd.Q_drew)); exact HO_3.out⟩, ⟨by (with_reducible repeat (first | apply Kd.N_alloc | apply Kd.N_drewN | apply Kd.N_drew)); exact HO_6.out⟩, ⟨by repeat (first | (with_reducible first | exact HB.out | apply below_alloc | apply pw_below_drewN | apply below_drew1) | exact HB.out)⟩⟩
                                        · rw [if_neg c47] at H
                                          exact absurd H (by simp)
                                      · rw [if_neg c46] at H
                                        exact absurd H (by simp)
                                    · rw [if_neg c44] at H
                                      exact absurd H (by simp)
                                  · rw [if_neg c43] at H
                                    exact absurd H (by simp)
                                · rw [if_neg c42] at H
                                  have c42b0 : decide ((wrap64 (Int.tdiv x10_3 t537)) < (wrap64 (t537 - 1))) = false := decide_eq_false c42
                                  clear c42
                                  have H' := Aside0.mk H
                                  clear H
                                  go_wp2
                                  repeat (go_quiet (fail); try go_wp2)
                                  go_roundg kj31
                                  case measure => have := HK1.out; have := HJ19.out; have := HK3.out; have := HJ31.out; omega
                                  case rel => exact ⟨(wrap64 (x9_3 + 1)), (wrap64 (x10_3 + 1)), (by first | rfl | (simp; done) | (simp [*]; done)), (by first | rfl | (simp; done) | (simp [*]; done)), H', ⟨by have := HK1.out; have := HJ19.out; have := HK3.out; have := HJ31.out; omega⟩, ⟨by (with_reducible repeat (first | apply Kd.Q_alloc | apply Kd.Q_drewN | apply Kd.Q_drew)); exact HO_3.out⟩, ⟨by (with_reducible repeat (first | apply Kd.N_alloc | apply Kd.N_drewN | apply Kd.N_drew)); exact HO_6.out⟩, ⟨by repeat (first | (with_reducible first | exact HB.out | apply below_alloc | apply pw_below_drewN | apply below_drew1) | exact HB.out)⟩⟩
                            · replace c40 := Bool.eq_false_iff.mpr c40
                              subst c40
                              have H1 : (if t537 = 0 then (none) else (if (wrap64 (Int.tdiv x10_3 t537)) < (wrap64 (t537 - 1)) then (if 0 ≤ x10_3 then (if x10_3 < (t536.length : Int) then (if 0 ≤ (wrap64 (x10_3 + t537)) then (if (wrap64 (x10_3 + t537)) < (t536.length : Int) then (if (wrap64 ((rd t536 x10_3) - (rd t536 (wrap64 (x10_3 + t537))))) = t538 then (laws_FnApartRules.l1 kj31 t536 t537 t538 t541 (wrap64 (x9_3 + 1)) (wrap64 (x10_3 + 1))) else (if (wrap64 ((rd t536 (wrap64 (x10_3 + t537))) - (rd t536 x10_3))) = t538 then (laws_FnApartRules.l1 kj31 t536 t537 t538 t541 (wrap64 (x9_3 + 1)) (wrap64 (x10_3 + 1))) else (laws_FnApartRules.l1 kj31 t536 t537 t538 t541 x9_3 (wrap64 (x10_3 + 1))))) else (none)) else (none)) else (none)) else (none)) else (laws_FnApartRules.l1 kj31 t536 t537 t538 t541 x9_3 (wrap64 (x10_3 + 1))))) = some r := by rw [if_neg (show ¬ (false = true) by decide)] at H; exact H
                              clear H
                              have H := H1
                              clear H1
                              by_cases c50 : t537 = 0
                              · rw [if_pos c50] at H
                                exact absurd H (by simp)
                              · rw [if_neg c50] at H
                                have c50b0 : (t537 == 0) = false := beq_eq_false_iff_ne.mpr c50
                                have c50b1 : (t537 != 0) = true := bne_iff_ne.mpr c50
                                by_cases c51 : (wrap64 (Int.tdiv x10_3 t537)) < (wrap64 (t537 - 1))
                                · rw [if_pos c51] at H
                                  have c51b0 : decide ((wrap64 (Int.tdiv x10_3 t537)) < (wrap64 (t537 - 1))) = true := decide_eq_true c51
                                  clear c51
                                  by_cases c52 : 0 ≤ x10_3
                                  · rw [if_pos c52] at H
                                    have c52b0 : decide (0 ≤ x10_3) = true := decide_eq_true c52
                                    clear c52
                                    by_cases c53 : x10_3 < (t536.length : Int)
                                    · rw [if_pos c53] at H
                                      have c53b0 : decide (x10_3 < (t536.length : Int)) = true := decide_eq_true c53
                                      clear c53
                                      obtain ⟨ji54, hji54⟩ : ∃ j_ : Int, (wrap64 (x10_3 + t537)) = j_ := ⟨_, rfl⟩
                                      replace H : (if 0 ≤ (ji54) then (if (ji54) < (t536.length : Int) then (if (wrap64 ((rd t536 x10_3) - (rd t536 (ji54)))) = t538 then (laws_FnApartRules.l1 kj31 t536 t537 t538 t541 (wrap64 (x9_3 + 1)) (wrap64 (x10_3 + 1))) else (if (wrap64 ((rd t536 (ji54)) - (rd t536 x10_3))) = t538 then (laws_FnApartRules.l1 kj31 t536 t537 t538 t541 (wrap64 (x9_3 + 1)) (wrap64 (x10_3 + 1))) else (laws_FnApartRules.l1 kj31 t536 t537 t538 t541 x9_3 (wrap64 (x10_3 + 1))))) else (none)) else (none)) = some r := by first | (rw [hji54] at H; exact H) | (simp only [hji54] at H ⊢; exact H)
                                      have hji54w : (IntKind.i64.wrap (x10_3 + t537)) = ji54 := (i64_w _).trans hji54
                                      by_cases c55 : 0 ≤ (ji54)
                                      · rw [if_pos c55] at H
                                        have c55b0 : decide (0 ≤ (ji54)) = true := decide_eq_true c55
                                        clear c55
                                        by_cases c56 : (ji54) < (t536.length : Int)
                                        · rw [if_pos c56] at H
                                          have c56b0 : decide ((ji54) < (t536.length : Int)) = true := decide_eq_true c56
                                          clear c56
                                          by_cases c57 : (wrap64 ((rd t536 x10_3) - (rd t536 (ji54)))) = t538
                                          · rw [if_pos c57] at H
                                            have c57b0 : ((wrap64 ((rd t536 x10_3) - (rd t536 (ji54)))) == t538) = true := beq_iff_eq.mpr c57
                                            have c57b1 : ((wrap64 ((rd t536 x10_3) - (rd t536 (ji54)))) != t538) = false := bne_eq_false_iff_eq.mpr c57
                                            clear c57
                                            have H' := Aside0.mk H
                                            clear H
                                            have p563 : 0 ≤ (x10_3 : Int) := of_decide_eq_true (by first | (with_reducible assumption) | assumption)
                                            have q563 : x10_3 < (t536.length : Int) := of_decide_eq_true (by first | (with_reducible assumption) | assumption)
                                            obtain ⟨ad563, e563, hx563_0⟩ := Kd.at_int (Kd.Q_reads' HO_3.out).2.2 x10_3 p563 q563
                                            cases e563
                                            replace p563 := eq_true p563
                                            replace q563 := eq_true q563
                                            have p564 : 0 ≤ ((ji54) : Int) := of_decide_eq_true (by first | (with_reducible assumption) | assumption)
                                            have q564 : (ji54) < (t536.length : Int) := of_decide_eq_true (by first | (with_reducible assumption) | assumption)
                                            obtain ⟨ad564, e564, hx564_0⟩ := Kd.at_int (Kd.Q_reads' HO_3.out).2.2 (ji54) p564 q564
                                            obtain rfl : ad563 = ad564 := (by injection e564)
                                            replace p564 := eq_true p564
                                            replace q564 := eq_true q564
                                            go_wp2
                                            repeat (go_quiet (fail); try go_wp2)
                                            go_roundg kj31
                                            case measure => have := HK1.out; have := HJ19.out; have := HK3.out; have := HJ31.out; omega
                                            case rel => exact ⟨(wrap64 (x9_3 + 1)), (wrap64 (x10_3 + 1)), (by first | rfl | (simp; done) | (simp [*]; done)), (by first | rfl | (simp; done) | (simp [*]; done)), H', ⟨by have := HK1.out; have := HJ19.out; have := HK3.out; have := HJ31.out; omega⟩, ⟨by (with_reducible repeat (first | apply Kd.Q_alloc | apply Kd.Q_drewN | apply Kd.Q_drew)); exact HO_3.out⟩, ⟨by (with_reducible repeat (first | apply Kd.N_alloc | apply Kd.N_drewN | apply Kd.N_drew)); exact HO_6.out⟩, ⟨by repeat (first | (with_reducible first | exact HB.out | apply below_alloc | apply pw_below_drewN | apply below_drew1) | exact HB.out)⟩⟩
                                          · rw [if_neg c57] at H
                                            have c57b0 : ((wrap64 ((rd t536 x10_3) - (rd t536 (ji54)))) == t538) = false := beq_eq_false_iff_ne.mpr c57
                                            have c57b1 : ((wrap64 ((rd t536 x10_3) - (rd t536 (ji54)))) != t538) = true := bne_iff_ne.mpr c57
                                            by_cases c58 : (wrap64 ((rd t536 (ji54)) - (rd t536 x10_3))) = t538
                                            · rw [if_pos c58] at H
                                              have c58b0 : ((wrap64 ((rd t536 (ji54)) - (rd t536 x10_3))) == t538) = true := beq_iff_eq.mpr c58
                                              have c58b1 : ((wrap64 ((rd t536 (ji54)) - (rd t536 x10_3))) != t538) = false := bne_eq_false_iff_eq.mpr c58
                                              clear c58
                                              have H' := Aside0.mk H
                                              clear H
                                              have p563 : 0 ≤ (x10_3 : Int) := of_decide_eq_true (by first | (with_reducible assumption) | assumption)
                                              have q563 : x10_3 < (t536.length : Int) := of_decide_eq_true (by first | (with_reducible assumption) | assumption)
                                              obtain ⟨ad563, e563, hx563_0⟩ := Kd.at_int (Kd.Q_reads' HO_3.out).2.2 x10_3 p563 q563
                                              cases e563
                                              replace p563 := eq_true p563
                                              replace q563 := eq_true q563
                                              have p564 : 0 ≤ ((ji54) : Int) := of_decide_eq_true (by first | (with_reducible assumption) | assumption)
                                              have q564 : (ji54) < (t536.length : Int) := of_decide_eq_true (by first | (with_reducible assumption) | assumption)
                                              obtain ⟨ad564, e564, hx564_0⟩ := Kd.at_int (Kd.Q_reads' HO_3.out).2.2 (ji54) p564 q564
                                              obtain rfl : ad563 = ad564 := (by injection e564)
                                              replace p564 := eq_true p564
                                              replace q564 := eq_true q564
                                              have p565 : 0 ≤ ((ji54) : Int) := of_decide_eq_true (by first | (with_reducible assumption) | assumption)
                                              have q565 : (ji54) < (t536.length : Int) := of_decide_eq_true (by first | (with_reducible assumption) | assumption)
                                              obtain ⟨ad565, e565, hx565_0⟩ := Kd.at_int (Kd.Q_reads' HO_3.out).2.2 (ji54) p565 q565
                                              obtain rfl : ad563 = ad565 := (by injection e565)
                                              replace p565 := eq_true p565
                                              replace q565 := eq_true q565
                                              have p566 : 0 ≤ (x10_3 : Int) := of_decide_eq_true (by first | (with_reducible assumption) | assumption)
                                              have q566 : x10_3 < (t536.length : Int) := of_decide_eq_true (by first | (with_reducible assumption) | assumption)
                                              obtain ⟨ad566, e566, hx566_0⟩ := Kd.at_int (Kd.Q_reads' HO_3.out).2.2 x10_3 p566 q566
                                              obtain rfl : ad563 = ad566 := (by injection e566)
                                              replace p566 := eq_true p566
                                              replace q566 := eq_true q566
                                              go_wp2
                                              repeat (go_quiet (fail); try go_wp2)
                                              go_roundg kj31
                                              case measure => have := HK1.out; have := HJ19.out; have := HK3.out; have := HJ31.out; omega
                                              case rel => exact ⟨(wrap64 (x9_3 + 1)), (wrap64 (x10_3 + 1)), (by first | rfl | (simp; done) | (simp [*]; done)), (by first | rfl | (simp; done) | (simp [*]; done)), H', ⟨by have := HK1.out; have := HJ19.out; have := HK3.out; have := HJ31.out; omega⟩, ⟨by (with_reducible repeat (first | apply Kd.Q_alloc | apply Kd.Q_drewN | apply Kd.Q_drew)); exact HO_3.out⟩, ⟨by (with_reducible repeat (first | apply Kd.N_alloc | apply Kd.N_drewN | apply Kd.N_drew)); exact HO_6.out⟩, ⟨by repeat (first | (with_reducible first | exact HB.out | apply below_alloc | apply pw_below_drewN | apply below_drew1) | exact HB.out)⟩⟩
                                            · rw [if_neg c58] at H
                                              have c58b0 : ((wrap64 ((rd t536 (ji54)) - (rd t536 x10_3))) == t538) = false := beq_eq_false_iff_ne.mpr c58
                                              have c58b1 : ((wrap64 ((rd t536 (ji54)) - (rd t536 x10_3))) != t538) = true := bne_iff_ne.mpr c58
                                              have H' := Aside0.mk H
                                              clear H
                                              have p563 : 0 ≤ (x10_3 : Int) := of_decide_eq_true (by first | (with_reducible assumption) | assumption)
                                              have q563 : x10_3 < (t536.length : Int) := of_decide_eq_true (by first | (with_reducible assumption) | assumption)
                                              obtain ⟨ad563, e563, hx563_0⟩ := Kd.at_int (Kd.Q_reads' HO_3.out).2.2 x10_3 p563 q563
                                              cases e563
                                              replace p563 := eq_true p563
                                              replace q563 := eq_true q563
                                              have p564 : 0 ≤ ((ji54) : Int) := of_decide_eq_true (by first | (with_reducible assumption) | assumption)
                                              have q564 : (ji54) < (t536.length : Int) := of_decide_eq_true (by first | (with_reducible assumption) | assumption)
                                              obtain ⟨ad564, e564, hx564_0⟩ := Kd.at_int (Kd.Q_reads' HO_3.out).2.2 (ji54) p564 q564
                                              obtain rfl : ad563 = ad564 := (by injection e564)
                                              replace p564 := eq_true p564
                                              replace q564 := eq_true q564
                                              have p565 : 0 ≤ ((ji54) : Int) := of_decide_eq_true (by first | (with_reducible assumption) | assumption)
                                              have q565 : (ji54) < (t536.length : Int) := of_decide_eq_true (by first | (with_reducible assumption) | assumption)
                                              obtain ⟨ad565, e565, hx565_0⟩ := Kd.at_int (Kd.Q_reads' HO_3.out).2.2 (ji54) p565 q565
                                              obtain rfl : ad563 = ad565 := (by injection e565)
                                              replace p565 := eq_true p565
                                              replace q565 := eq_true q565
                                              have p566 : 0 ≤ (x10_3 : Int) := of_decide_eq_true (by first | (with_reducible assumption) | assumption)
                                              have q566 : x10_3 < (t536.length : Int) := of_decide_eq_true (by first | (with_reducible assumption) | assumption)
                                              obtain ⟨ad566, e566, hx566_0⟩ := Kd.at_int (Kd.Q_reads' HO_3.out).2.2 x10_3 p566 q566
                                              obtain rfl : ad563 = ad566 := (by injection e566)
                                              replace p566 := eq_true p566
                                              replace q566 := eq_true q566
                                              go_wp2
                                              repeat (go_quiet (fail); try go_wp2)
                                              go_roundg kj31
                                              case measure => have := HK1.out; have := HJ19.out; have := HK3.out; have := HJ31.out; omega
                                              case rel => exact ⟨(x9_3), (wrap64 (x10_3 + 1)), (by first | rfl | (simp; done) | (simp [*]; done)), (by first | rfl | (simp; done) | (simp [*]; done)), H', ⟨by have := HK1.out; have := HJ19.out; have := HK3.out; have := HJ31.out; omega⟩, ⟨by (with_reducible repeat (first | apply Kd.Q_alloc | apply Kd.Q_drewN | apply Kd.Q_drew)); exact HO_3.out⟩, ⟨by (with_reducible repeat (first | apply Kd.N_alloc | apply Kd.N_drewN | apply Kd.N_drew)); exact HO_6.out⟩, ⟨by repeat (first | (with_reducible first | exact HB.out | apply below_alloc | apply pw_below_drewN | apply below_drew1) | exact HB.out)⟩⟩
                                        · rw [if_neg c56] at H
                                          exact absurd H (by simp)
                                      · rw [if_neg c55] at H
                                        exact absurd H (by simp)
                                    · rw [if_neg c53] at H
                                      exact absurd H (by simp)
                                  · rw [if_neg c52] at H
                                    exact absurd H (by simp)
                                · rw [if_neg c51] at H
                                  have c51b0 : decide ((wrap64 (Int.tdiv x10_3 t537)) < (wrap64 (t537 - 1))) = false := decide_eq_false c51
                                  clear c51
                                  have H' := Aside0.mk H
                                  clear H
                                  go_wp2
                                  repeat (go_quiet (fail); try go_wp2)
                                  go_roundg kj31
                                  case measure => have := HK1.out; have := HJ19.out; have := HK3.out; have := HJ31.out; omega
                                  case rel => exact ⟨(x9_3), (wrap64 (x10_3 + 1)), (by first | rfl | (simp; done) | (simp [*]; done)), (by first | rfl | (simp; done) | (simp [*]; done)), H', ⟨by have := HK1.out; have := HJ19.out; have := HK3.out; have := HJ31.out; omega⟩, ⟨by (with_reducible repeat (first | apply Kd.Q_alloc | apply Kd.Q_drewN | apply Kd.Q_drew)); exact HO_3.out⟩, ⟨by (with_reducible repeat (first | apply Kd.N_alloc | apply Kd.N_drewN | apply Kd.N_drew)); exact HO_6.out⟩, ⟨by repeat (first | (with_reducible first | exact HB.out | apply below_alloc | apply pw_below_drewN | apply below_drew1) | exact HB.out)⟩⟩
                      · rw [if_neg c31] at H
                        have c31b0 : decide (x10_3 < (t536.length : Int)) = false := decide_eq_false c31
                        clear c31
                        replace H := Option.bind_eq_some_iff.mp H
                        obtain ⟨t554, A590, H⟩ := H
                        replace H : (if t554 = true then (some ((t541.length : Int) == (mn x9_3 20))) else (some false)) = some r := H
                        have A59 := Aside0.mk A590
                        clear A590
                        by_cases c60 : t554 = true
                        · subst c60
                          have H1 : (some ((t541.length : Int) == (mn x9_3 20))) = some r := by rw [if_pos rfl] at H; exact H
                          clear H
                          have H := H1
                          clear H1
                          obtain ⟨ji61, hji61⟩ : ∃ j_ : Int, (mn x9_3 20) = j_ := ⟨_, rfl⟩
                          replace H : (some ((t541.length : Int) == (ji61))) = some r := by first | (rw [hji61] at H; exact H) | (simp only [hji61] at H ⊢; exact H)
                          (try rw [hji61] at A59)
                          have hji61_ : (if 20 < x9_3 then 20 else x9_3) = ji61 := hji61
                          obtain rfl := Option.some.inj H
                          go_wp2_with (first | (go_at_call 16; (with_reducible refine (laws_hold.calls k3 _ _ t541 _ _ t536 t537 true _ ?side1 ?side2 ?side3 ?side4 A59.out).mono ?_); (case side1 => repeat (first | exact (Kd.N_reads' HO_6.out).2.2 | (with_reducible refine Kd.C_alloc ?_ _) | (with_reducible refine Kd.C_drewN ?_ _) | (with_reducible refine Kd.C_drew ?_))); (case side2 => exact (Kd.N_reads' HO_6.out).2.1); (case side3 => repeat (first | exact (Kd.Q_reads' HO_3.out).2.2 | (with_reducible refine Kd.C_alloc ?_ _) | (with_reducible refine Kd.C_drewN ?_ _) | (with_reducible refine Kd.C_drew ?_))); (case side4 => exact (Kd.Q_reads' HO_3.out).2.1); rintro e w62 ⟨rfl, hb⟩; have n0_ := Aside0.mk (Kd.Q_below (by (with_reducible repeat (first | apply Kd.Q_alloc | apply Kd.Q_drewN | apply Kd.Q_drew)); exact HO_3.out) hb); have n1_ := Aside0.mk (Kd.N_below (by (with_reducible repeat (first | apply Kd.N_alloc | apply Kd.N_drewN | apply Kd.N_drew)); exact HO_6.out) hb); have n2_ := Aside0.mk (below_step (by repeat (first | (with_reducible first | exact HB.out | apply below_alloc | apply pw_below_drewN | apply below_drew1) | exact HB.out)) hb); clear HO_3; clear HO_6; clear HB; have HO_3 := n0_; have HO_6 := n1_; have HB := n2_; clear n0_ n1_ n2_; (try clear hb); (try clear hb2); (try clear hk); (try clear hi)))
                          repeat (go_quiet (first | (go_at_call 16; (with_reducible refine (laws_hold.calls k3 _ _ t541 _ _ t536 t537 true _ ?side1 ?side2 ?side3 ?side4 A59.out).mono ?_); (case side1 => repeat (first | exact (Kd.N_reads' HO_6.out).2.2 | (with_reducible refine Kd.C_alloc ?_ _) | (with_reducible refine Kd.C_drewN ?_ _) | (with_reducible refine Kd.C_drew ?_))); (case side2 => exact (Kd.N_reads' HO_6.out).2.1); (case side3 => repeat (first | exact (Kd.Q_reads' HO_3.out).2.2 | (with_reducible refine Kd.C_alloc ?_ _) | (with_reducible refine Kd.C_drewN ?_ _) | (with_reducible refine Kd.C_drew ?_))); (case side4 => exact (Kd.Q_reads' HO_3.out).2.1); rintro e w62 ⟨rfl, hb⟩; have n0_ := Aside0.mk (Kd.Q_below (by (with_reducible repeat (first | apply Kd.Q_alloc | apply Kd.Q_drewN | apply Kd.Q_drew)); exact HO_3.out) hb); have n1_ := Aside0.mk (Kd.N_below (by (with_reducible repeat (first | apply Kd.N_alloc | apply Kd.N_drewN | apply Kd.N_drew)); exact HO_6.out) hb); have n2_ := Aside0.mk (below_step (by repeat (first | (with_reducible first | exact HB.out | apply below_alloc | apply pw_below_drewN | apply below_drew1) | exact HB.out)) hb); clear HO_3; clear HO_6; clear HB; have HO_3 := n0_; have HO_6 := n1_; have HB := n2_; clear n0_ n1_ n2_; (try clear hb); (try clear hb2); (try clear hk); (try clear hi))); try go_wp2_with (first | (go_at_call 16; (with_reducible refine (laws_hold.calls k3 _ _ t541 _ _ t536 t537 true _ ?side1 ?side2 ?side3 ?side4 A59.out).mono ?_); (case side1 => repeat (first | exact (Kd.N_reads' HO_6.out).2.2 | (with_reducible refine Kd.C_alloc ?_ _) | (with_reducible refine Kd.C_drewN ?_ _) | (with_reducible refine Kd.C_drew ?_))); (case side2 => exact (Kd.N_reads' HO_6.out).2.1); (case side3 => repeat (first | exact (Kd.Q_reads' HO_3.out).2.2 | (with_reducible refine Kd.C_alloc ?_ _) | (with_reducible refine Kd.C_drewN ?_ _) | (with_reducible refine Kd.C_drew ?_))); (case side4 => exact (Kd.Q_reads' HO_3.out).2.1); rintro e w62 ⟨rfl, hb⟩; have n0_ := Aside0.mk (Kd.Q_below (by (with_reducible repeat (first | apply Kd.Q_alloc | apply Kd.Q_drewN | apply Kd.Q_drew)); exact HO_3.out) hb); have n1_ := Aside0.mk (Kd.N_below (by (with_reducible repeat (first | apply Kd.N_alloc | apply Kd.N_drewN | apply Kd.N_drew)); exact HO_6.out) hb); have n2_ := Aside0.mk (below_step (by repeat (first | (with_reducible first | exact HB.out | apply below_alloc | apply pw_below_drewN | apply below_drew1) | exact HB.out)) hb); clear HO_3; clear HO_6; clear HB; have HO_3 := n0_; have HO_6 := n1_; have HB := n2_; clear n0_ n1_ n2_; (try clear hb); (try clear hb2); (try clear hk); (try clear hi))))
                          go_ret
                          exact ⟨by first | rfl | (simp [errW_none, errW_some] <;> rfl) | (simp only [← hji61]; first | rfl | (simp [errW_none, errW_some] <;> rfl)) | (simp [*, errW_none, errW_some] <;> rfl), by repeat (first | (with_reducible first | exact HB.out | apply below_alloc | apply pw_below_drewN | apply below_drew1) | exact HB.out)⟩
                        · replace c60 := Bool.eq_false_iff.mpr c60
                          subst c60
                          have H1 : (some false) = some r := by rw [if_neg (show ¬ (false = true) by decide)] at H; exact H
                          clear H
                          have H := H1
                          clear H1
                          obtain rfl := Option.some.inj H
                          go_wp2_with (first | (go_at_call 16; (with_reducible refine (laws_hold.calls k3 _ _ t541 _ _ t536 t537 false _ ?side1 ?side2 ?side3 ?side4 A59.out).mono ?_); (case side1 => repeat (first | exact (Kd.N_reads' HO_6.out).2.2 | (with_reducible refine Kd.C_alloc ?_ _) | (with_reducible refine Kd.C_drewN ?_ _) | (with_reducible refine Kd.C_drew ?_))); (case side2 => exact (Kd.N_reads' HO_6.out).2.1); (case side3 => repeat (first | exact (Kd.Q_reads' HO_3.out).2.2 | (with_reducible refine Kd.C_alloc ?_ _) | (with_reducible refine Kd.C_drewN ?_ _) | (with_reducible refine Kd.C_drew ?_))); (case side4 => exact (Kd.Q_reads' HO_3.out).2.1); rintro e w63 ⟨rfl, hb⟩; have n0_ := Aside0.mk (Kd.Q_below (by (with_reducible repeat (first | apply Kd.Q_alloc | apply Kd.Q_drewN | apply Kd.Q_drew)); exact HO_3.out) hb); have n1_ := Aside0.mk (Kd.N_below (by (with_reducible repeat (first | apply Kd.N_alloc | apply Kd.N_drewN | apply Kd.N_drew)); exact HO_6.out) hb); have n2_ := Aside0.mk (below_step (by repeat (first | (with_reducible first | exact HB.out | apply below_alloc | apply pw_below_drewN | apply below_drew1) | exact HB.out)) hb); clear HO_3; clear HO_6; clear HB; have HO_3 := n0_; have HO_6 := n1_; have HB := n2_; clear n0_ n1_ n2_; (try clear hb); (try clear hb2); (try clear hk); (try clear hi)))
                          repeat (go_quiet (first | (go_at_call 16; (with_reducible refine (laws_hold.calls k3 _ _ t541 _ _ t536 t537 false _ ?side1 ?side2 ?side3 ?side4 A59.out).mono ?_); (case side1 => repeat (first | exact (Kd.N_reads' HO_6.out).2.2 | (with_reducible refine Kd.C_alloc ?_ _) | (with_reducible refine Kd.C_drewN ?_ _) | (with_reducible refine Kd.C_drew ?_))); (case side2 => exact (Kd.N_reads' HO_6.out).2.1); (case side3 => repeat (first | exact (Kd.Q_reads' HO_3.out).2.2 | (with_reducible refine Kd.C_alloc ?_ _) | (with_reducible refine Kd.C_drewN ?_ _) | (with_reducible refine Kd.C_drew ?_))); (case side4 => exact (Kd.Q_reads' HO_3.out).2.1); rintro e w63 ⟨rfl, hb⟩; have n0_ := Aside0.mk (Kd.Q_below (by (with_reducible repeat (first | apply Kd.Q_alloc | apply Kd.Q_drewN | apply Kd.Q_drew)); exact HO_3.out) hb); have n1_ := Aside0.mk (Kd.N_below (by (with_reducible repeat (first | apply Kd.N_alloc | apply Kd.N_drewN | apply Kd.N_drew)); exact HO_6.out) hb); have n2_ := Aside0.mk (below_step (by repeat (first | (with_reducible first | exact HB.out | apply below_alloc | apply pw_below_drewN | apply below_drew1) | exact HB.out)) hb); clear HO_3; clear HO_6; clear HB; have HO_3 := n0_; have HO_6 := n1_; have HB := n2_; clear n0_ n1_ n2_; (try clear hb); (try clear hb2); (try clear hk); (try clear hi))); try go_wp2_with (first | (go_at_call 16; (with_reducible refine (laws_hold.calls k3 _ _ t541 _ _ t536 t537 false _ ?side1 ?side2 ?side3 ?side4 A59.out).mono ?_); (case side1 => repeat (first | exact (Kd.N_reads' HO_6.out).2.2 | (with_reducible refine Kd.C_alloc ?_ _) | (with_reducible refine Kd.C_drewN ?_ _) | (with_reducible refine Kd.C_drew ?_))); (case side2 => exact (Kd.N_reads' HO_6.out).2.1); (case side3 => repeat (first | exact (Kd.Q_reads' HO_3.out).2.2 | (with_reducible refine Kd.C_alloc ?_ _) | (with_reducible refine Kd.C_drewN ?_ _) | (with_reducible refine Kd.C_drew ?_))); (case side4 => exact (Kd.Q_reads' HO_3.out).2.1); rintro e w63 ⟨rfl, hb⟩; have n0_ := Aside0.mk (Kd.Q_below (by (with_reducible repeat (first | apply Kd.Q_alloc | apply Kd.Q_drewN | apply Kd.Q_drew)); exact HO_3.out) hb); have n1_ := Aside0.mk (Kd.N_below (by (with_reducible repeat (first | apply Kd.N_alloc | apply Kd.N_drewN | apply Kd.N_drew)); exact HO_6.out) hb); have n2_ := Aside0.mk (below_step (by repeat (first | (with_reducible first | exact HB.out | apply below_alloc | apply pw_below_drewN | apply below_drew1) | exact HB.out)) hb); clear HO_3; clear HO_6; clear HB; have HO_3 := n0_; have HO_6 := n1_; have HB := n2_; clear n0_ n1_ n2_; (try clear hb); (try clear hb2); (try clear hk); (try clear hi))))
                          go_ret
                          exact ⟨by first | rfl | (simp [errW_none, errW_some] <;> rfl) | (simp [*, errW_none, errW_some] <;> rfl), by repeat (first | (with_reducible first | exact HB.out | apply below_alloc | apply pw_below_drewN | apply below_drew1) | exact HB.out)⟩
    · rw [if_neg c6] at H
      have c6b0 : ((t541.length : Int) == (t544.length : Int)) = false := beq_eq_false_iff_ne.mpr c6
      have c6b1 : ((t541.length : Int) != (t544.length : Int)) = true := bne_iff_ne.mpr c6
      have c6b2 : (t541.length == t544.length) = false := by first | simpa using c6 | (simp at c6 ⊢; omega)
      obtain rfl := Option.some.inj H
      go_enter Try.func3, Try.ntmps3
      go_wp2_with (first | (go_at_call 10; (with_reducible refine (spec_DrawApartRules.calls k _ _ l0 t536 t537 t538 _ ?side1 ?side2 A3.out).mono ?_); (case side1 => repeat (first | exact HR0.out | (with_reducible refine Kd.C_alloc ?_ _) | (with_reducible refine Kd.C_drewN ?_ _) | (with_reducible refine Kd.C_drew ?_))); (case side2 => exact HC0.out); rintro e w64 ⟨v539, rfl, ho0, hb⟩; have n0_ := Aside0.mk (Kd.Q_lower ho0 (below_size (by repeat (first | (with_reducible first | exact HB.out | apply below_alloc | apply pw_below_drewN | apply below_drew1) | exact HB.out)))); have n1_ := Aside0.mk (below_step (by repeat (first | (with_reducible first | exact HB.out | apply below_alloc | apply pw_below_drewN | apply below_drew1) | exact HB.out)) hb); clear HB; have HO540 := n0_; have HB := n1_; clear n0_ n1_; (try clear hb); (try clear hb2); (try clear hk); (try clear hi); (try clear ho0); obtain ⟨Ao65, co65, eo65, _⟩ := Kd.Q_slice HO540.out; subst eo65) | (go_at_call 11; (with_reducible refine (impl_ApartRules.calls k _ _ t536 t537 t538 t541 _ ?side1 ?side2 A4.out).mono ?_); (case side1 => repeat (first | exact (Kd.Q_reads' HO540.out).2.2 | (with_reducible refine Kd.C_alloc ?_ _) | (with_reducible refine Kd.C_drewN ?_ _) | (with_reducible refine Kd.C_drew ?_))); (case side2 => exact (Kd.Q_reads' HO540.out).2.1); rintro e w66 ⟨v542, rfl, ho0, hb⟩; have n0_ := Aside0.mk (Kd.Q_below (by (with_reducible repeat (first | apply Kd.Q_alloc | apply Kd.Q_drewN | apply Kd.Q_drew)); exact HO540.out) hb); have n1_ := Aside0.mk (Kd.N_lower (Kd.N_mono (ok' := fun k_ => some k_ ≠ (.slice Ao65 t536.length co65 : Value).ownBlock) (Kd.S_N (Kd.S_bound ho0)) (fun k_ hk_ => (Kd.fresh' (Kd.Q_lt (by (with_reducible repeat (first | apply Kd.Q_alloc | apply Kd.Q_drewN | apply Kd.Q_drew)); exact HO540.out)) k_ hk_.2.1))) (below_size (by repeat (first | (with_reducible first | exact HB.out | apply below_alloc | apply pw_below_drewN | apply below_drew1) | exact HB.out)))); have n2_ := Aside0.mk (below_step (by repeat (first | (with_reducible first | exact HB.out | apply below_alloc | apply pw_below_drewN | apply below_drew1) | exact HB.out)) hb); clear HO540; clear HB; have HO540 := n0_; have HO543 := n1_; have HB := n2_; clear n0_ n1_ n2_; (try clear hb); (try clear hb2); (try clear hk); (try clear hi); (try clear ho0)) | (go_at_call 12; (with_reducible refine (spec_ApartRules.calls k _ _ t536 t537 t538 t544 _ ?side1 ?side2 A5.out).mono ?_); (case side1 => repeat (first | exact (Kd.Q_reads' HO540.out).2.2 | (with_reducible refine Kd.C_alloc ?_ _) | (with_reducible refine Kd.C_drewN ?_ _) | (with_reducible refine Kd.C_drew ?_))); (case side2 => exact (Kd.Q_reads' HO540.out).2.1); rintro e w67 ⟨v545, rfl, ho0, hb⟩; have n0_ := Aside0.mk (Kd.Q_below (by (with_reducible repeat (first | apply Kd.Q_alloc | apply Kd.Q_drewN | apply Kd.Q_drew)); exact HO540.out) hb); have n1_ := Aside0.mk (Kd.N_elder' (by (with_reducible repeat (first | apply Kd.N_alloc | apply Kd.N_drewN | apply Kd.N_drew)); exact HO543.out) (by first | exact Kd.N_base ho0 | exact Kd.N_base (Kd.S_N ho0) | exact Kd.N_base (Kd.R_N ho0)) hb); have n2_ := Aside0.mk (Kd.N_lower (Kd.N_mono (ok' := fun k_ => some k_ ≠ (.slice Ao65 t536.length co65 : Value).ownBlock ∧ some k_ ≠ (v542 : Value).ownBlock) ho0 (fun k_ hk_ => ⟨(Kd.fresh' (Kd.Q_lt (by (with_reducible repeat (first | apply Kd.Q_alloc | apply Kd.Q_drewN | apply Kd.Q_drew)); exact HO540.out)) k_ hk_), (Kd.fresh' (Kd.N_lt (by (with_reducible repeat (first | apply Kd.N_alloc | apply Kd.N_drewN | apply Kd.N_drew)); exact HO543.out)) k_ hk_)⟩)) (below_size (by repeat (first | (with_reducible first | exact HB.out | apply below_alloc | apply pw_below_drewN | apply below_drew1) | exact HB.out)))); have n3_ := Aside0.mk (below_step (by repeat (first | (with_reducible first | exact HB.out | apply below_alloc | apply pw_below_drewN | apply below_drew1) | exact HB.out)) hb); clear HO540; clear HO543; clear HB; have HO540 := n0_; have HO543 := n1_; have HO546 := n2_; have HB := n3_; clear n0_ n1_ n2_ n3_; (try clear hb); (try clear hb2); (try clear hk); (try clear hi); (try clear ho0); obtain ⟨Ao68, co68, eo68⟩ := Kd.N_slice HO543.out; subst eo68; obtain ⟨Ao69, co69, eo69⟩ := Kd.N_slice HO546.out; subst eo69))
      repeat (go_quiet (first | (go_at_call 10; (with_reducible refine (spec_DrawApartRules.calls k _ _ l0 t536 t537 t538 _ ?side1 ?side2 A3.out).mono ?_); (case side1 => repeat (first | exact HR0.out | (with_reducible refine Kd.C_alloc ?_ _) | (with_reducible refine Kd.C_drewN ?_ _) | (with_reducible refine Kd.C_drew ?_))); (case side2 => exact HC0.out); rintro e w64 ⟨v539, rfl, ho0, hb⟩; have n0_ := Aside0.mk (Kd.Q_lower ho0 (below_size (by repeat (first | (with_reducible first | exact HB.out | apply below_alloc | apply pw_below_drewN | apply below_drew1) | exact HB.out)))); have n1_ := Aside0.mk (below_step (by repeat (first | (with_reducible first | exact HB.out | apply below_alloc | apply pw_below_drewN | apply below_drew1) | exact HB.out)) hb); clear HB; have HO540 := n0_; have HB := n1_; clear n0_ n1_; (try clear hb); (try clear hb2); (try clear hk); (try clear hi); (try clear ho0); obtain ⟨Ao65, co65, eo65, _⟩ := Kd.Q_slice HO540.out; subst eo65) | (go_at_call 11; (with_reducible refine (impl_ApartRules.calls k _ _ t536 t537 t538 t541 _ ?side1 ?side2 A4.out).mono ?_); (case side1 => repeat (first | exact (Kd.Q_reads' HO540.out).2.2 | (with_reducible refine Kd.C_alloc ?_ _) | (with_reducible refine Kd.C_drewN ?_ _) | (with_reducible refine Kd.C_drew ?_))); (case side2 => exact (Kd.Q_reads' HO540.out).2.1); rintro e w66 ⟨v542, rfl, ho0, hb⟩; have n0_ := Aside0.mk (Kd.Q_below (by (with_reducible repeat (first | apply Kd.Q_alloc | apply Kd.Q_drewN | apply Kd.Q_drew)); exact HO540.out) hb); have n1_ := Aside0.mk (Kd.N_lower (Kd.N_mono (ok' := fun k_ => some k_ ≠ (.slice Ao65 t536.length co65 : Value).ownBlock) (Kd.S_N (Kd.S_bound ho0)) (fun k_ hk_ => (Kd.fresh' (Kd.Q_lt (by (with_reducible repeat (first | apply Kd.Q_alloc | apply Kd.Q_drewN | apply Kd.Q_drew)); exact HO540.out)) k_ hk_.2.1))) (below_size (by repeat (first | (with_reducible first | exact HB.out | apply below_alloc | apply pw_below_drewN | apply below_drew1) | exact HB.out)))); have n2_ := Aside0.mk (below_step (by repeat (first | (with_reducible first | exact HB.out | apply below_alloc | apply pw_below_drewN | apply below_drew1) | exact HB.out)) hb); clear HO540; clear HB; have HO540 := n0_; have HO543 := n1_; have HB := n2_; clear n0_ n1_ n2_; (try clear hb); (try clear hb2); (try clear hk); (try clear hi); (try clear ho0)) | (go_at_call 12; (with_reducible refine (spec_ApartRules.calls k _ _ t536 t537 t538 t544 _ ?side1 ?side2 A5.out).mono ?_); (case side1 => repeat (first | exact (Kd.Q_reads' HO540.out).2.2 | (with_reducible refine Kd.C_alloc ?_ _) | (with_reducible refine Kd.C_drewN ?_ _) | (with_reducible refine Kd.C_drew ?_))); (case side2 => exact (Kd.Q_reads' HO540.out).2.1); rintro e w67 ⟨v545, rfl, ho0, hb⟩; have n0_ := Aside0.mk (Kd.Q_below (by (with_reducible repeat (first | apply Kd.Q_alloc | apply Kd.Q_drewN | apply Kd.Q_drew)); exact HO540.out) hb); have n1_ := Aside0.mk (Kd.N_elder' (by (with_reducible repeat (first | apply Kd.N_alloc | apply Kd.N_drewN | apply Kd.N_drew)); exact HO543.out) (by first | exact Kd.N_base ho0 | exact Kd.N_base (Kd.S_N ho0) | exact Kd.N_base (Kd.R_N ho0)) hb); have n2_ := Aside0.mk (Kd.N_lower (Kd.N_mono (ok' := fun k_ => some k_ ≠ (.slice Ao65 t536.length co65 : Value).ownBlock ∧ some k_ ≠ (v542 : Value).ownBlock) ho0 (fun k_ hk_ => ⟨(Kd.fresh' (Kd.Q_lt (by (with_reducible repeat (first | apply Kd.Q_alloc | apply Kd.Q_drewN | apply Kd.Q_drew)); exact HO540.out)) k_ hk_), (Kd.fresh' (Kd.N_lt (by (with_reducible repeat (first | apply Kd.N_alloc | apply Kd.N_drewN | apply Kd.N_drew)); exact HO543.out)) k_ hk_)⟩)) (below_size (by repeat (first | (with_reducible first | exact HB.out | apply below_alloc | apply pw_below_drewN | apply below_drew1) | exact HB.out)))); have n3_ := Aside0.mk (below_step (by repeat (first | (with_reducible first | exact HB.out | apply below_alloc | apply pw_below_drewN | apply below_drew1) | exact HB.out)) hb); clear HO540; clear HO543; clear HB; have HO540 := n0_; have HO543 := n1_; have HO546 := n2_; have HB := n3_; clear n0_ n1_ n2_ n3_; (try clear hb); (try clear hb2); (try clear hk); (try clear hi); (try clear ho0); obtain ⟨Ao68, co68, eo68⟩ := Kd.N_slice HO543.out; subst eo68; obtain ⟨Ao69, co69, eo69⟩ := Kd.N_slice HO546.out; subst eo69)); try go_wp2_with (first | (go_at_call 10; (with_reducible refine (spec_DrawApartRules.calls k _ _ l0 t536 t537 t538 _ ?side1 ?side2 A3.out).mono ?_); (case side1 => repeat (first | exact HR0.out | (with_reducible refine Kd.C_alloc ?_ _) | (with_reducible refine Kd.C_drewN ?_ _) | (with_reducible refine Kd.C_drew ?_))); (case side2 => exact HC0.out); rintro e w64 ⟨v539, rfl, ho0, hb⟩; have n0_ := Aside0.mk (Kd.Q_lower ho0 (below_size (by repeat (first | (with_reducible first | exact HB.out | apply below_alloc | apply pw_below_drewN | apply below_drew1) | exact HB.out)))); have n1_ := Aside0.mk (below_step (by repeat (first | (with_reducible first | exact HB.out | apply below_alloc | apply pw_below_drewN | apply below_drew1) | exact HB.out)) hb); clear HB; have HO540 := n0_; have HB := n1_; clear n0_ n1_; (try clear hb); (try clear hb2); (try clear hk); (try clear hi); (try clear ho0); obtain ⟨Ao65, co65, eo65, _⟩ := Kd.Q_slice HO540.out; subst eo65) | (go_at_call 11; (with_reducible refine (impl_ApartRules.calls k _ _ t536 t537 t538 t541 _ ?side1 ?side2 A4.out).mono ?_); (case side1 => repeat (first | exact (Kd.Q_reads' HO540.out).2.2 | (with_reducible refine Kd.C_alloc ?_ _) | (with_reducible refine Kd.C_drewN ?_ _) | (with_reducible refine Kd.C_drew ?_))); (case side2 => exact (Kd.Q_reads' HO540.out).2.1); rintro e w66 ⟨v542, rfl, ho0, hb⟩; have n0_ := Aside0.mk (Kd.Q_below (by (with_reducible repeat (first | apply Kd.Q_alloc | apply Kd.Q_drewN | apply Kd.Q_drew)); exact HO540.out) hb); have n1_ := Aside0.mk (Kd.N_lower (Kd.N_mono (ok' := fun k_ => some k_ ≠ (.slice Ao65 t536.length co65 : Value).ownBlock) (Kd.S_N (Kd.S_bound ho0)) (fun k_ hk_ => (Kd.fresh' (Kd.Q_lt (by (with_reducible repeat (first | apply Kd.Q_alloc | apply Kd.Q_drewN | apply Kd.Q_drew)); exact HO540.out)) k_ hk_.2.1))) (below_size (by repeat (first | (with_reducible first | exact HB.out | apply below_alloc | apply pw_below_drewN | apply below_drew1) | exact HB.out)))); have n2_ := Aside0.mk (below_step (by repeat (first | (with_reducible first | exact HB.out | apply below_alloc | apply pw_below_drewN | apply below_drew1) | exact HB.out)) hb); clear HO540; clear HB; have HO540 := n0_; have HO543 := n1_; have HB := n2_; clear n0_ n1_ n2_; (try clear hb); (try clear hb2); (try clear hk); (try clear hi); (try clear ho0)) | (go_at_call 12; (with_reducible refine (spec_ApartRules.calls k _ _ t536 t537 t538 t544 _ ?side1 ?side2 A5.out).mono ?_); (case side1 => repeat (first | exact (Kd.Q_reads' HO540.out).2.2 | (with_reducible refine Kd.C_alloc ?_ _) | (with_reducible refine Kd.C_drewN ?_ _) | (with_reducible refine Kd.C_drew ?_))); (case side2 => exact (Kd.Q_reads' HO540.out).2.1); rintro e w67 ⟨v545, rfl, ho0, hb⟩; have n0_ := Aside0.mk (Kd.Q_below (by (with_reducible repeat (first | apply Kd.Q_alloc | apply Kd.Q_drewN | apply Kd.Q_drew)); exact HO540.out) hb); have n1_ := Aside0.mk (Kd.N_elder' (by (with_reducible repeat (first | apply Kd.N_alloc | apply Kd.N_drewN | apply Kd.N_drew)); exact HO543.out) (by first | exact Kd.N_base ho0 | exact Kd.N_base (Kd.S_N ho0) | exact Kd.N_base (Kd.R_N ho0)) hb); have n2_ := Aside0.mk (Kd.N_lower (Kd.N_mono (ok' := fun k_ => some k_ ≠ (.slice Ao65 t536.length co65 : Value).ownBlock ∧ some k_ ≠ (v542 : Value).ownBlock) ho0 (fun k_ hk_ => ⟨(Kd.fresh' (Kd.Q_lt (by (with_reducible repeat (first | apply Kd.Q_alloc | apply Kd.Q_drewN | apply Kd.Q_drew)); exact HO540.out)) k_ hk_), (Kd.fresh' (Kd.N_lt (by (with_reducible repeat (first | apply Kd.N_alloc | apply Kd.N_drewN | apply Kd.N_drew)); exact HO543.out)) k_ hk_)⟩)) (below_size (by repeat (first | (with_reducible first | exact HB.out | apply below_alloc | apply pw_below_drewN | apply below_drew1) | exact HB.out)))); have n3_ := Aside0.mk (below_step (by repeat (first | (with_reducible first | exact HB.out | apply below_alloc | apply pw_below_drewN | apply below_drew1) | exact HB.out)) hb); clear HO540; clear HO543; clear HB; have HO540 := n0_; have HO543 := n1_; have HO546 := n2_; have HB := n3_; clear n0_ n1_ n2_ n3_; (try clear hb); (try clear hb2); (try clear hk); (try clear hi); (try clear ho0); obtain ⟨Ao68, co68, eo68⟩ := Kd.N_slice HO543.out; subst eo68; obtain ⟨Ao69, co69, eo69⟩ := Kd.N_slice HO546.out; subst eo69)))
      go_ret
      exact ⟨by first | rfl | (simp [errW_none, errW_some] <;> rfl) | (simp [*, errW_none, errW_some] <;> rfl), by repeat (first | (with_reducible first | exact HB.out | apply below_alloc | apply pw_below_drewN | apply below_drew1) | exact HB.out)⟩
end Go.Proofs.Ytbcikbekdhdpaaa.Q
end
