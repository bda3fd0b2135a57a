/- laws.FnRulesGrid: for every input it returns true and leaves its argument as it was. -/
import Derived.Test.YtbcikbekdhdpaaaC64
section
namespace Go.Proofs.Ytbcikbekdhdpaaa.Q
open Go.RowKit Go.Proofs.YtbcikbekdhdpaaaW.PrintWords Go.Proofs.YtbcikbekdhdpaaaW.PrintLast Go.Proofs.YtbcikbekdhdpaaaW.PrintMore
attribute [local go_sem] max2_int min2_int max_two min_two max_three min_three max_four min_four   -- for this text's walks alone
set_option linter.unusedVariables false
set_option linter.unusedSimpArgs false
def impl_canHold.l0 : Nat → List Int → Int → List Int → List Int → Int → Int → Int → List Int → Int → Option (Bool)
  | 0, _, _, _, _, _, _, _, _, _ => none
  | k + 1, x1, x2, x7, x12, x13, x14, x698000, x698001, x698002 => if x14 < x13 then (if 0 ≤ x14 then (if x14 < (x12.length : Int) then (if 0 ≤ (rd x12 x14) then (if (rd x12 x14) < (x1.length : Int) then (if (rd x1 (rd x12 x14)) > 0 then (if 0 ≤ (rd x1 (rd x12 x14)) then (if x7.length < 17592186044416 then (impl_canHold.l0 k x1 x2 (x7 ++ [shl .i64 1 (rd x1 (rd x12 x14))]) x12 x13 (wrap64 (x14 + 1)) x698000 x698001 x698002) else (none)) else (none)) else ((impl_allValues.f x2).bind fun t707 => (if x7.length < 17592186044416 then (impl_canHold.l0 k x1 x2 (x7 ++ [t707]) x12 x13 (wrap64 (x14 + 1)) x698000 x698001 x698002) else (none)))) else (none)) else (none)) else (none)) else (none)) else ((impl_ruleMasks.f k x698000 x698001 x698002 x7).bind fun t711 => (if 0 < (t711.length : Int) then (some ((rd t711 0) != 0)) else (none)))
def impl_canHold.f (k : Nat) (a0_0 : Int) (l0_1 : List Int) (a0_2 : Int) (l1 : List Int) (a2 : Int) : Option (Bool) := impl_canHold.l0 k l1 a2 (([] : List Int)) l0_1 (l0_1.length : Int) 0 a0_0 l0_1 a0_2
set_option maxHeartbeats 8000000 in
set_option maxRecDepth 100000 in
theorem impl_canHold.calls (k : Nat) (a0_0 : Int) (A0_1 : Option Addr) (c0_1 : Nat) (l0_1 : List Int) (a0_2 : Int) (A1 : Option Addr) (c1 : Nat) (l1 : List Int) (a2 : Int) (r : Bool) (w : World) (hr0_1 : Kd.C (Kd.int .i64) w A0_1 l0_1.length l0_1) (hc0_1 : l0_1.length ≤ c0_1) (hr1 : Kd.C (Kd.int .i64) w A1 l1.length l1) (hc1 : l1.length ≤ c1) (h : impl_canHold.f k a0_0 l0_1 a0_2 l1 a2 = some r) :
    Calls Try.prog 95 #[.agg #[.int .i64 a0_0, .slice A0_1 l0_1.length c0_1, .int .i64 a0_2], .slice A1 l1.length c1, .int .i64 a2] w fun e w' => e = .returned (.bool r) ∧ Below w.heap.size w w' := by
  have hu29 := Try.underlying29
  have HR0_1 := Aside0.mk hr0_1
  have HC0_1 := Aside0.mk hc0_1
  clear hr0_1 hc0_1
  have HR1 := Aside0.mk hr1
  have HC1 := Aside0.mk hc1
  clear hr1 hc1
  have HB := Aside0.mk (Below.refl w.heap.size w)
  have H : (impl_canHold.l0 k l1 a2 (([] : List Int)) l0_1 (l0_1.length : Int) 0 a0_0 l0_1 a0_2) = some r := h
  clear h
  obtain ⟨y698, hy698⟩ : ∃ y_ : List Int, y_ = (([] : List Int)) := ⟨_, rfl⟩
  replace H : (impl_canHold.l0 k l1 a2 y698 l0_1 (l0_1.length : Int) 0 a0_0 l0_1 a0_2) = some r := by first | (rw [hy698]; with_reducible exact H) | (have H2_ := (Option.bind_some _ _).symm.trans H; rw [hy698]; with_reducible exact H2_) | (have H2_ := (Option.bind_some _ _).symm.trans H; with_reducible exact H2_) | with_reducible exact H | (rw [hy698]; exact H) | exact H
  have Ny698 := Aside0.mk hy698
  clear hy698
  have H' := Aside0.mk H
  clear H
  go_enter Try.func95, Try.ntmps95
  go_wp2_with (first | ((with_reducible refine gate_dst (N := 3) rfl ?_); refine box_event ?hg (N := 3) ?hd (cs := #[.int .i64 a0_0, .slice A0_1 l0_1.length c0_1, .int .i64 a0_2]) (t := 29) ?hr ?_; (case hd => rfl); (case hg => rfl); (case hr => first | (go_simp; done) | (go_simp; rfl)); intro gb697 hg w4 hbox hb; have n0_ := Aside0.mk (below_step (by repeat (first | (with_reducible first | exact HB.out | apply below_alloc | apply pw_below_drewN | apply below_drew1) | exact HB.out)) hb); have n1_ := Aside0.mk (hbox); have n2_ := Aside0.mk ((by rw [hg]; exact (below_size (by repeat (first | (with_reducible first | exact HB.out | apply below_alloc | apply pw_below_drewN | apply below_drew1) | exact HB.out))) : w.heap.size ≤ gb697)); have n3_ := Aside0.mk ((by rw [hg]; exact (below_size (by repeat (first | (with_reducible first | exact HB.out | apply below_alloc | apply pw_below_drewN | apply below_drew1) | exact HB.out))) : w.heap.size ≤ gb697)); clear HB; have HB := n0_; have BK697 := n1_; have GW697 := n2_; have GE697 := n3_; clear n0_ n1_ n2_ n3_; clear hb hbox hg) | ((with_reducible refine gate_dst (N := 10) rfl ?_); refine Kd.R_lit (Kd.int .i64) _ 3 ?hg (N := 10) ?hd (xs := ([] : List Int)) (inner := []) (ok := fun _ => True) (okp := fun _ => True) ?hr ?hp (fun _ hk => hk) trivial (Below.refl _ _) (Nat.le_refl _) (by simp) ?_; (case hd => rfl); (case hg => rfl); (case hr => first | (go_simp; done) | (go_simp; rfl)); (case hp => exact (Reps.none _ _)); intro v699 w5 ho6 hb hg_ hnew_; clear hg_ hnew_; (first | rw [← Ny698.out] at ho6 | (simp only [Int.reduceToNat] at ho6; rw [← Ny698.out] at ho6)); have n0_ := Aside0.mk (Kd.R_lower ho6 (below_size (by repeat (first | (with_reducible first | exact HB.out | apply below_alloc | apply pw_below_drewN | apply below_drew1 | refine below_set ?_ GE697.out) | exact HB.out)))); have n1_ := Aside0.mk (blk_below (g := gb697) (o := .cells #[.int .i64 a0_0, .slice A0_1 l0_1.length c0_1, .int .i64 a0_2] 29 (0, 0)) (by (with_reducible repeat (first | refine blk_drewN ?_ _ | refine blk_drew ?_ | refine blk_alloc ?_ _)); exact BK697.out) hb); have n2_ := Aside0.mk (below_step (by repeat (first | (with_reducible first | exact HB.out | apply below_alloc | apply pw_below_drewN | apply below_drew1 | refine below_set ?_ GE697.out) | exact HB.out)) hb); clear BK697; clear HB; have HO700 := n0_; have BK697 := n1_; have HB := n2_; clear n0_ n1_ n2_; clear hb ho6; have hcz7_0 : w5.cell? ⟨gb697, 0, none⟩ = some (.int .i64 a0_0) := (blk_cell BK697.out 0).trans rfl; have hcz7_1 : w5.cell? ⟨gb697, 1, none⟩ = some (.slice A0_1 l0_1.length c0_1) := (blk_cell BK697.out 1).trans rfl; have hcz7_2 : w5.cell? ⟨gb697, 2, none⟩ = some (.int .i64 a0_2) := (blk_cell BK697.out 2).trans rfl; have hfz7_0 := blk_frozen BK697.out 0; have hfz7_1 := blk_frozen BK697.out 1; have hfz7_2 := blk_frozen BK697.out 2))
  go_loopg [7, 14] k (fun kq v7 v14 w' => ∃ (x7_1 : List Int) (x14_1 : Int), v14 = .int .i64 x14_1 ∧ Aside0 (impl_canHold.l0 kq l1 a2 x7_1 l0_1 (l0_1.length : Int) x14_1 a0_0 l0_1 a0_2 = some r) ∧ Aside0 (kq ≤ k) ∧ Aside0 (Kd.R (Kd.int .i64) 3 w' w.heap.size (fun _ => True) v7 x7_1) ∧ Aside0 (w'.heap[gb697]? = some (.cells #[.int .i64 a0_0, (.slice A0_1 l0_1.length c0_1), .int .i64 a0_2] 29 (0, 0))) ∧ Aside0 (Below w.heap.size w w'))
  case atStart => exact ⟨(y698), (0), (by first | rfl | (simp; done) | (simp [*]; done)), H', ⟨Nat.le_refl _⟩, ⟨by (with_reducible repeat (first | apply Kd.R_alloc | apply Kd.R_drewN | apply Kd.R_drew)); exact HO700.out⟩, ⟨by (with_reducible repeat (first | refine blk_drewN ?_ _ | refine blk_drew ?_ | refine blk_alloc ?_ _)); exact BK697.out⟩, ⟨by repeat (first | (with_reducible first | exact HB.out | apply below_alloc | apply pw_below_drewN | apply below_drew1 | refine below_set ?_ GE697.out) | exact HB.out)⟩⟩
  case round =>
    clear H'
    try clear c1
    try clear p2
    try clear hcz7_0
    try clear hcz7_1
    try clear hcz7_2
    try clear hfz7_0
    try clear hfz7_1
    try clear hfz7_2
    obtain ⟨x7_1, x14_1, rfl, HA, HK1, HO_7, BK697, HB⟩ := hrel
    cases gk with
    | zero => exact absurd HA.out (by simp [impl_canHold.l0])
    | succ k1 =>
      have H := HA.out
      clear HA
      simp only [impl_canHold.l0] at H
      by_cases c8 : x14_1 < (l0_1.length : Int)
      · rw [if_pos c8] at H
        have c8b0 : decide (x14_1 < (l0_1.length : Int)) = true := decide_eq_true c8
        clear c8
        by_cases c9 : 0 ≤ x14_1
        · rw [if_pos c9] at H
          have c9b0 : decide (0 ≤ x14_1) = true := decide_eq_true c9
          clear c9
          by_cases c10 : x14_1 < (l0_1.length : Int)
          · rw [if_pos c10] at H
            have c10b0 : decide (x14_1 < (l0_1.length : Int)) = true := decide_eq_true c10
            clear c10
            by_cases c11 : 0 ≤ (rd l0_1 x14_1)
            · rw [if_pos c11] at H
              have c11b0 : decide (0 ≤ (rd l0_1 x14_1)) = true := decide_eq_true c11
              clear c11
              by_cases c12 : (rd l0_1 x14_1) < (l1.length : Int)
              · rw [if_pos c12] at H
                have c12b0 : decide ((rd l0_1 x14_1) < (l1.length : Int)) = true := decide_eq_true c12
                clear c12
                by_cases c13 : (rd l1 (rd l0_1 x14_1)) > 0
                · rw [if_pos c13] at H
                  have c13b0 : decide (0 < (rd l1 (rd l0_1 x14_1))) = true := decide_eq_true c13
                  clear c13
                  by_cases c14 : 0 ≤ (rd l1 (rd l0_1 x14_1))
                  · rw [if_pos c14] at H
                    have c14b0 := eq_true c14
                    have c14b1 : decide (0 ≤ (rd l1 (rd l0_1 x14_1))) = true := decide_eq_true c14
                    clear c14
                    obtain ⟨ji15, hji15⟩ : ∃ j_ : Int, (shl .i64 1 (rd l1 (rd l0_1 x14_1))) = j_ := ⟨_, rfl⟩
                    replace H : (if x7_1.length < 17592186044416 then (impl_canHold.l0 k1 l1 a2 (x7_1 ++ [ji15]) l0_1 (l0_1.length : Int) (wrap64 (x14_1 + 1)) a0_0 l0_1 a0_2) else (none)) = some r := by first | (rw [hji15] at H; exact H) | (simp only [hji15] at H ⊢; exact H)
                    have hji15_ : (IntKind.i64.wrap (1 * 2 ^ min (rd l1 (rd l0_1 x14_1)).toNat 64)) = ji15 := hji15
                    have hji15z : (rd l1 (rd l0_1 x14_1)) ≤ 64 → (IntKind.i64.wrap (1 * 2 ^ (rd l1 (rd l0_1 x14_1)).toNat)) = ji15 := shl_small hji15
                    have hji15u : (IntKind.i64.wrap (2 ^ min (rd l1 (rd l0_1 x14_1)).toNat 64)) = ji15 := by have h_ := hji15_; rw [Int.one_mul] at h_; exact h_
                    have hji15v : (rd l1 (rd l0_1 x14_1)) ≤ 64 → (IntKind.i64.wrap (2 ^ (rd l1 (rd l0_1 x14_1)).toNat)) = ji15 := fun hle_ => by have h_ := hji15z hle_; rw [Int.one_mul] at h_; exact h_
                    have hji15y : (wrap64 (1 * 2 ^ min (rd l1 (rd l0_1 x14_1)).toNat 64)) = ji15 := (i64_w _).symm.trans hji15_
                    have hji15x : (rd l1 (rd l0_1 x14_1)) ≤ 64 → (wrap64 (1 * 2 ^ (rd l1 (rd l0_1 x14_1)).toNat)) = ji15 := fun h_ => (i64_w _).symm.trans (hji15z h_)
                    by_cases c16 : x7_1.length < 17592186044416
                    · rw [if_pos c16] at H
                      have LMc16 := Aside0.mk c16
                      clear c16
                      obtain ⟨y704, hy704⟩ : ∃ y_ : List Int, y_ = (x7_1 ++ [ji15]) := ⟨_, rfl⟩
                      replace H : (impl_canHold.l0 k1 l1 a2 y704 l0_1 (l0_1.length : Int) (wrap64 (x14_1 + 1)) a0_0 l0_1 a0_2) = some r := by first | (rw [hy704]; with_reducible exact H) | (have H2_ := (Option.bind_some _ _).symm.trans H; rw [hy704]; with_reducible exact H2_) | (have H2_ := (Option.bind_some _ _).symm.trans H; with_reducible exact H2_) | with_reducible exact H | (rw [hy704]; exact H) | exact H
                      have Ny704 := Aside0.mk hy704
                      clear hy704
                      have H' := Aside0.mk H
                      clear H
                      have p701 : 0 ≤ (x14_1 : Int) := of_decide_eq_true (by first | (with_reducible assumption) | assumption)
                      have q701 : x14_1 < (l0_1.length : Int) := of_decide_eq_true (by first | (with_reducible assumption) | assumption)
                      obtain ⟨ad701, e701, hx701_0⟩ := Kd.at_int HR0_1.out x14_1 p701 q701
                      cases e701
                      replace hx701_0 := (HB.out.cell (World.block_lt_of_cell? w _ hx701_0)).trans hx701_0
                      replace p701 := eq_true p701
                      replace q701 := eq_true q701
                      have p702 : 0 ≤ ((rd l0_1 x14_1) : Int) := of_decide_eq_true (by first | (with_reducible assumption) | assumption)
                      have q702 : (rd l0_1 x14_1) < (l1.length : Int) := of_decide_eq_true (by first | (with_reducible assumption) | assumption)
                      obtain ⟨ad702, e702, hx702_0⟩ := Kd.at_int HR1.out (rd l0_1 x14_1) p702 q702
                      cases e702
                      replace hx702_0 := (HB.out.cell (World.block_lt_of_cell? w _ hx702_0)).trans hx702_0
                      replace p702 := eq_true p702
                      replace q702 := eq_true q702
                      have p703 : 0 ≤ ((rd l0_1 x14_1) : Int) := of_decide_eq_true (by first | (with_reducible assumption) | assumption)
                      have q703 : (rd l0_1 x14_1) < (l1.length : Int) := of_decide_eq_true (by first | (with_reducible assumption) | assumption)
                      obtain ⟨ad703, e703, hx703_0⟩ := Kd.at_int HR1.out (rd l0_1 x14_1) p703 q703
                      obtain rfl : ad702 = ad703 := (by injection e703)
                      replace hx703_0 := (HB.out.cell (World.block_lt_of_cell? w _ hx703_0)).trans hx703_0
                      replace p703 := eq_true p703
                      replace q703 := eq_true q703
                      go_wp2_with (first | ((with_reducible refine gate_builtin (b := .append) (xs := #[.tmp 23, .tmp 29]) rfl ?_); at_builtin; refine Kd.R_append (Kd.int .i64) (w0 := w) w.heap.size rfl (.tmp 23) (.tmp 29) 23 3 (.int .i64 0) 8 rfl Try.underlying23 info3 rfl (by decide) (by omega) u7 x7_1 ji15 [.int .i64 ji15] (fun _ => True) (fun _ => False) rfl rfl ?aP (fun _ hk => hk.elim) ?aF ?aO ?aB ?aS ?aL ?_; (case aP => exact rfl); (case aB => exact (by repeat (first | (with_reducible first | exact HB.out | apply below_alloc | apply pw_below_drewN | apply below_drew1 | refine below_set ?_ GE697.out) | exact HB.out))); (case aF => exact (fun _ _ => trivial)); (case aO => exact (by (with_reducible repeat (first | apply Kd.R_alloc | apply Kd.R_drewN | apply Kd.R_drew)); exact HO_7.out)); (case aS => exact (below_size (by repeat (first | (with_reducible first | exact HB.out | apply below_alloc | apply pw_below_drewN | apply below_drew1 | refine below_set ?_ GE697.out) | exact HB.out)))); (case aL => have := LMc16.out; omega); intro v705 w17 ho hb hg hat; rw [← Ny704.out] at ho; have n0_ := Aside0.mk (blk_grown (g := gb697) (o := .cells #[.int .i64 a0_0, .slice (some ad701) l0_1.length c0_1, .int .i64 a0_2] 29 (0, 0)) (by (with_reducible repeat (first | refine blk_drewN ?_ _ | refine blk_drew ?_ | refine blk_alloc ?_ _)); exact BK697.out) hg (Kd.R_ne HO_7.out BK697.out (by decide))); have n1_ := Aside0.mk (hb); have n2_ := Aside0.mk (ho); clear BK697; clear HB; clear HO_7; have BK697 := n0_; have HB := n1_; have HO706 := n2_; clear n0_ n1_ n2_; clear ho hb hg hat))
                      go_roundg k1
                      case measure => have := HK1.out; omega
                      case rel => exact ⟨(y704), (wrap64 (x14_1 + 1)), (by first | rfl | (simp; done) | (simp [*]; done)), H', ⟨by have := HK1.out; omega⟩, ⟨by (with_reducible repeat (first | apply Kd.R_alloc | apply Kd.R_drewN | apply Kd.R_drew)); exact HO706.out⟩, ⟨by (with_reducible repeat (first | refine blk_drewN ?_ _ | refine blk_drew ?_ | refine blk_alloc ?_ _)); exact BK697.out⟩, ⟨by repeat (first | (with_reducible first | exact HB.out | apply below_alloc | apply pw_below_drewN | apply below_drew1 | refine below_set ?_ GE697.out) | exact HB.out)⟩⟩
                    · rw [if_neg c16] at H
                      exact absurd H (by simp)
                  · rw [if_neg c14] at H
                    exact absurd H (by simp)
                · rw [if_neg c13] at H
                  have c13b0 : decide (0 < (rd l1 (rd l0_1 x14_1))) = false := decide_eq_false c13
                  clear c13
                  replace H := Option.bind_eq_some_iff.mp H
                  obtain ⟨t707, A180, H⟩ := H
                  replace H : (if x7_1.length < 17592186044416 then (impl_canHold.l0 k1 l1 a2 (x7_1 ++ [t707]) l0_1 (l0_1.length : Int) (wrap64 (x14_1 + 1)) a0_0 l0_1 a0_2) else (none)) = some r := H
                  have A18 := Aside0.mk A180
                  clear A180
                  by_cases c19 : x7_1.length < 17592186044416
                  · rw [if_pos c19] at H
                    have LMc19 := Aside0.mk c19
                    clear c19
                    obtain ⟨y708, hy708⟩ : ∃ y_ : List Int, y_ = (x7_1 ++ [t707]) := ⟨_, rfl⟩
                    replace H : (impl_canHold.l0 k1 l1 a2 y708 l0_1 (l0_1.length : Int) (wrap64 (x14_1 + 1)) a0_0 l0_1 a0_2) = some r := by first | (rw [hy708]; with_reducible exact H) | (have H2_ := (Option.bind_some _ _).symm.trans H; rw [hy708]; with_reducible exact H2_) | (have H2_ := (Option.bind_some _ _).symm.trans H; with_reducible exact H2_) | with_reducible exact H | (rw [hy708]; exact H) | exact H
                    have Ny708 := Aside0.mk hy708
                    clear hy708
                    have H' := Aside0.mk H
                    clear H
                    have p701 : 0 ≤ (x14_1 : Int) := of_decide_eq_true (by first | (with_reducible assumption) | assumption)
                    have q701 : x14_1 < (l0_1.length : Int) := of_decide_eq_true (by first | (with_reducible assumption) | assumption)
                    obtain ⟨ad701, e701, hx701_0⟩ := Kd.at_int HR0_1.out x14_1 p701 q701
                    cases e701
                    replace hx701_0 := (HB.out.cell (World.block_lt_of_cell? w _ hx701_0)).trans hx701_0
                    replace p701 := eq_true p701
                    replace q701 := eq_true q701
                    have p702 : 0 ≤ ((rd l0_1 x14_1) : Int) := of_decide_eq_true (by first | (with_reducible assumption) | assumption)
                    have q702 : (rd l0_1 x14_1) < (l1.length : Int) := of_decide_eq_true (by first | (with_reducible assumption) | assumption)
                    obtain ⟨ad702, e702, hx702_0⟩ := Kd.at_int HR1.out (rd l0_1 x14_1) p702 q702
                    cases e702
                    replace hx702_0 := (HB.out.cell (World.block_lt_of_cell? w _ hx702_0)).trans hx702_0
                    replace p702 := eq_true p702
                    replace q702 := eq_true q702
                    go_wp2_with (first | ((with_reducible refine gate_callee (f := 112) rfl ?_); refine goesL_ (some 33) rfl rfl Try.func112 (by kernel_rfl) rfl #[.int .i64 a2] rfl (by (try simp only [List.map_toArray, List.map_cons, List.map_nil]); first | done | rfl | (simp only [List.length_drop, List.length_take]; rfl)) ?_; (with_reducible refine (impl_allValues.calls a2 t707 _ A18.out).mono ?_); rintro e w' ⟨rfl, ⟨nd, rfl⟩⟩; refine ⟨_, rfl, ?_⟩) | ((with_reducible refine gate_builtin (b := .append) (xs := #[.tmp 31, .tmp 34]) rfl ?_); at_builtin; refine Kd.R_append (Kd.int .i64) (w0 := w) w.heap.size rfl (.tmp 31) (.tmp 34) 23 3 (.int .i64 0) 8 rfl Try.underlying23 info3 rfl (by decide) (by omega) u7 x7_1 t707 [.int .i64 t707] (fun _ => True) (fun _ => False) rfl rfl ?aP (fun _ hk => hk.elim) ?aF ?aO ?aB ?aS ?aL ?_; (case aP => exact rfl); (case aB => exact (by repeat (first | (with_reducible first | exact HB.out | apply below_alloc | apply pw_below_drewN | apply below_drew1 | refine below_set ?_ GE697.out) | exact HB.out))); (case aF => exact (fun _ _ => trivial)); (case aO => exact (by (with_reducible repeat (first | apply Kd.R_alloc | apply Kd.R_drewN | apply Kd.R_drew)); exact HO_7.out)); (case aS => exact (below_size (by repeat (first | (with_reducible first | exact HB.out | apply below_alloc | apply pw_below_drewN | apply below_drew1 | refine below_set ?_ GE697.out) | exact HB.out)))); (case aL => have := LMc19.out; omega); intro v709 w20 ho hb hg hat; rw [← Ny708.out] at ho; have n0_ := Aside0.mk (blk_grown (g := gb697) (o := .cells #[.int .i64 a0_0, .slice (some ad701) l0_1.length c0_1, .int .i64 a0_2] 29 (0, 0)) (by (with_reducible repeat (first | refine blk_drewN ?_ _ | refine blk_drew ?_ | refine blk_alloc ?_ _)); exact BK697.out) hg (Kd.R_ne HO_7.out BK697.out (by decide))); have n1_ := Aside0.mk (hb); have n2_ := Aside0.mk (ho); clear BK697; clear HB; clear HO_7; have BK697 := n0_; have HB := n1_; have HO710 := n2_; clear n0_ n1_ n2_; clear ho hb hg hat))
                    go_roundg k1
                    case measure => have := HK1.out; omega
                    case rel => exact ⟨(y708), (wrap64 (x14_1 + 1)), (by first | rfl | (simp; done) | (simp [*]; done)), H', ⟨by have := HK1.out; omega⟩, ⟨by (with_reducible repeat (first | apply Kd.R_alloc | apply Kd.R_drewN | apply Kd.R_drew)); exact HO710.out⟩, ⟨by (with_reducible repeat (first | refine blk_drewN ?_ _ | refine blk_drew ?_ | refine blk_alloc ?_ _)); exact BK697.out⟩, ⟨by repeat (first | (with_reducible first | exact HB.out | apply below_alloc | apply pw_below_drewN | apply below_drew1 | refine below_set ?_ GE697.out) | exact HB.out)⟩⟩
                  · rw [if_neg c19] at H
                    exact absurd H (by simp)
              · rw [if_neg c12] at H
                exact absurd H (by simp)
            · rw [if_neg c11] at H
              exact absurd H (by simp)
          · rw [if_neg c10] at H
            exact absurd H (by simp)
        · rw [if_neg c9] at H
          exact absurd H (by simp)
      · rw [if_neg c8] at H
        have c8b0 : decide (x14_1 < (l0_1.length : Int)) = false := decide_eq_false c8
        clear c8
        replace H := Option.bind_eq_some_iff.mp H
        obtain ⟨t711, A210, H⟩ := H
        replace H : (if 0 < (t711.length : Int) then (some ((rd t711 0) != 0)) else (none)) = some r := H
        have A21 := Aside0.mk A210
        clear A210
        by_cases c22 : 0 < (t711.length : Int)
        · rw [if_pos c22] at H
          have c22b0 : decide (0 < (t711.length : Int)) = true := decide_eq_true c22
          have c22b1 : decide (0 < t711.length) = true := decide_eq_true (by omega)
          clear c22
          obtain rfl := Option.some.inj H
          have hcz23_0 : wr.cell? ⟨gb697, 0, none⟩ = some (.int .i64 a0_0) := (blk_cell BK697.out 0).trans rfl
          have hcz23_1 : wr.cell? ⟨gb697, 1, none⟩ = some (.slice A0_1 l0_1.length c0_1) := (blk_cell BK697.out 1).trans rfl
          have hcz23_2 : wr.cell? ⟨gb697, 2, none⟩ = some (.int .i64 a0_2) := (blk_cell BK697.out 2).trans rfl
          have hfz23_0 := blk_frozen BK697.out 0
          have hfz23_1 := blk_frozen BK697.out 1
          have hfz23_2 := blk_frozen BK697.out 2
          obtain ⟨Ao24, co24, eo24⟩ := Kd.R_slice HO_7.out
          subst eo24
          go_wp2_with (first | ((with_reducible refine gate_callee (f := 113) rfl ?_); refine goesL_ (some 39) rfl rfl Try.func113 (by kernel_rfl) rfl #[.agg #[.int .i64 a0_0, .slice A0_1 l0_1.length c0_1, .int .i64 a0_2], .slice Ao24 x7_1.length co24] rfl (by (try simp only [List.map_toArray, List.map_cons, List.map_nil]); first | done | rfl | (simp only [List.length_drop, List.length_take]; rfl)) ?_; (with_reducible refine (impl_ruleMasks.calls k1 a0_0 _ _ l0_1 a0_2 _ _ x7_1 t711 _ ?side1 ?side2 ?side3 ?side4 A21.out).mono ?_); (case side1 => repeat (first | exact (Kd.C_below HR0_1.out HB.out) | (with_reducible refine Kd.C_alloc ?_ _) | (with_reducible refine Kd.C_drewN ?_ _) | (with_reducible refine Kd.C_drew ?_))); (case side2 => exact HC0_1.out); (case side3 => repeat (first | exact (Kd.R_reads' HO_7.out).2.2 | (with_reducible refine Kd.C_alloc ?_ _) | (with_reducible refine Kd.C_drewN ?_ _) | (with_reducible refine Kd.C_drew ?_))); (case side4 => exact (Kd.R_reads' HO_7.out).2.1); rintro e w25 ⟨v712, rfl, ho0, hb⟩; refine ⟨_, rfl, ?_⟩; have n0_ := Aside0.mk (Kd.R_elder' (by (with_reducible repeat (first | apply Kd.R_alloc | apply Kd.R_drewN | apply Kd.R_drew)); exact HO_7.out) (Kd.R_base ho0) hb); have n1_ := Aside0.mk (Kd.R_lower (Kd.R_new' ho0 (Kd.R_lt (by (with_reducible repeat (first | apply Kd.R_alloc | apply Kd.R_drewN | apply Kd.R_drew)); exact HO_7.out))) (below_size (by repeat (first | (with_reducible first | exact HB.out | apply below_alloc | apply pw_below_drewN | apply below_drew1 | refine below_set ?_ GE697.out) | exact HB.out)))); have n2_ := Aside0.mk (blk_below (g := gb697) (o := .cells #[.int .i64 a0_0, .slice A0_1 l0_1.length c0_1, .int .i64 a0_2] 29 (0, 0)) (by (with_reducible repeat (first | refine blk_drewN ?_ _ | refine blk_drew ?_ | refine blk_alloc ?_ _)); exact BK697.out) hb); have n3_ := Aside0.mk (below_step (by repeat (first | (with_reducible first | exact HB.out | apply below_alloc | apply pw_below_drewN | apply below_drew1 | refine below_set ?_ GE697.out) | exact HB.out)) hb); clear HO_7; clear BK697; clear HB; have HO_7 := n0_; have HO713 := n1_; have BK697 := n2_; have HB := n3_; clear n0_ n1_ n2_ n3_; (try clear hb); (try clear hb2); (try clear hk); (try clear hi); (try clear ho0); obtain ⟨Ao26, co26, eo26⟩ := Kd.R_slice HO713.out; subst eo26; have p714 : 0 ≤ (0 : Int) := (by omega); have q714 : 0 < (t711.length : Int) := of_decide_eq_true (by first | (with_reducible assumption) | assumption); obtain ⟨ad714, e714, hx714_0⟩ := Kd.at_int (Kd.R_reads' HO713.out).2.2 0 p714 q714; cases e714; have qi714 : (0 < t711.length) = True := eq_true (by omega); (try rw [show ((0 : Int)).toNat = 0 from rfl] at hx714_0); (try rw [Addr.add_zero'] at hx714_0); replace p714 := eq_true p714; replace q714 := eq_true q714))
          go_ret
          exact ⟨by first | rfl | (simp [errW_none, errW_some] <;> rfl) | (simp [*, errW_none, errW_some] <;> rfl), by repeat (first | (with_reducible first | exact HB.out | apply below_alloc | apply pw_below_drewN | apply below_drew1 | refine below_set ?_ GE697.out) | exact HB.out)⟩
        · rw [if_neg c22] at H
          exact absurd H (by simp)
mutual
def impl_PuzzleFits.j0 : Nat → List Int → Bool → Int → List Int → List (S29) → Option (Bool)
  | 0, _, _, _, _, _ => none
  | k + 1, x1, x18, x716000, x716001, x716002 => if x18 = true then (some false) else (impl_PuzzleFits.l0 k x1 x1 (x1.length : Int) 0 x716000 x716001 x716002)
def impl_PuzzleFits.l0 : Nat → List Int → List Int → Int → Int → Int → List Int → List (S29) → Option (Bool)
  | 0, _, _, _, _, _, _, _ => none
  | k + 1, x1, x19, x20, x21, x716000, x716001, x716002 => if x21 < x20 then (if 0 ≤ x21 then (if x21 < (x19.length : Int) then (if (rd x19 x21) > 0 then (if x21 < (x716001.length : Int) then (if (rd x716001 x21) > 0 then (if (rd x19 x21) = (rd x716001 x21) then (impl_PuzzleFits.l0 k x1 x19 x20 (wrap64 (x21 + 1)) x716000 x716001 x716002) else (some false)) else (impl_PuzzleFits.l0 k x1 x19 x20 (wrap64 (x21 + 1)) x716000 x716001 x716002)) else (none)) else (impl_PuzzleFits.l0 k x1 x19 x20 (wrap64 (x21 + 1)) x716000 x716001 x716002)) else (none)) else (none)) else (impl_PuzzleFits.l1 k x1 x716002 (x716002.length : Int) 0 x716000 x716001 x716002)
def impl_PuzzleFits.l1 : Nat → List Int → List (S29) → Int → Int → Int → List Int → List (S29) → Option (Bool)
  | 0, _, _, _, _, _, _, _ => none
  | k + 1, x1, x47, x48, x49, x716000, x716001, x716002 => if x49 < x48 then (if 0 ≤ x49 then (if x49 < (x47.length : Int) then ((impl_canHold.f k ((rd_T29 x47 x49).f0) ((rd_T29 x47 x49).f1) ((rd_T29 x47 x49).f2) x1 x716000).bind fun t723 => (if t723 = true then (impl_PuzzleFits.l1 k x1 x47 x48 (wrap64 (x49 + 1)) x716000 x716001 x716002) else (some false))) else (none)) else (none)) else (some true)
end
def impl_PuzzleFits.f (k : Nat) (a0_0 : Int) (l0_1 : List Int) (l0_2 : List (S29)) (l1 : List Int) : Option (Bool) := (impl_PuzzleValid.f k a0_0 l0_1 l0_2).bind fun t716 => (if t716 = true then ((impl_SquareFits.f k l1 a0_0).bind fun t717 => (impl_PuzzleFits.j0 k l1 (!t717) a0_0 l0_1 l0_2)) else (impl_PuzzleFits.j0 k l1 true a0_0 l0_1 l0_2))
set_option maxHeartbeats 8000000 in
set_option maxRecDepth 100000 in
theorem impl_PuzzleFits.calls (k : Nat) (a0_0 : Int) (A0_1 : Option Addr) (c0_1 : Nat) (l0_1 : List Int) (A0_2 : Option Addr) (c0_2 : Nat) (l0_2 : List (S29)) (A1 : Option Addr) (c1 : Nat) (l1 : List Int) (r : Bool) (w : World) (hr0_1 : Kd.C (Kd.int .i64) w A0_1 l0_1.length l0_1) (hc0_1 : l0_1.length ≤ c0_1) (hr0_2 : Kd.C k29 w A0_2 l0_2.length l0_2) (hc0_2 : l0_2.length ≤ c0_2) (hr1 : Kd.C (Kd.int .i64) w A1 l1.length l1) (hc1 : l1.length ≤ c1) (h : impl_PuzzleFits.f k a0_0 l0_1 l0_2 l1 = some r) :
    Calls Try.prog 60 #[.agg #[.int .i64 a0_0, .slice A0_1 l0_1.length c0_1, .slice A0_2 l0_2.length c0_2], .slice A1 l1.length c1] w fun e w' => e = .returned (.bool r) ∧ Below w.heap.size w w' := by
  have hu37 := Try.underlying37
  have hu29 := Try.underlying29
  have HR0_1 := Aside0.mk hr0_1
  have HC0_1 := Aside0.mk hc0_1
  clear hr0_1 hc0_1
  have HR0_2 := Aside0.mk hr0_2
  have HC0_2 := Aside0.mk hc0_2
  clear hr0_2 hc0_2
  have HR1 := Aside0.mk hr1
  have HC1 := Aside0.mk hc1
  clear hr1 hc1
  have HB := Aside0.mk (Below.refl w.heap.size w)
  have H : ((impl_PuzzleValid.f k a0_0 l0_1 l0_2).bind fun t716 => (if t716 = true then ((impl_SquareFits.f k l1 a0_0).bind fun t717 => (impl_PuzzleFits.j0 k l1 (!t717) a0_0 l0_1 l0_2)) else (impl_PuzzleFits.j0 k l1 true a0_0 l0_1 l0_2))) = some r := h
  clear h
  have HC3 := Aside0.mk H
  clear H
  go_enter Try.func60, Try.ntmps60
  go_upto_region 1 with (first | ((with_reducible refine gate_dst (N := 2) rfl ?_); refine box_event ?hg (N := 2) ?hd (cs := #[.int .i64 a0_0, .slice A0_1 l0_1.length c0_1, .slice A0_2 l0_2.length c0_2]) (t := 37) ?hr ?_; (case hd => rfl); (case hg => rfl); (case hr => first | (go_simp; done) | (go_simp; rfl)); intro gb715 hg w4 hbox hb; have n0_ := Aside0.mk (below_step (by repeat (first | (with_reducible first | exact HB.out | apply below_alloc | apply pw_below_drewN | apply below_drew1) | exact HB.out)) hb); have n1_ := Aside0.mk (hbox); have n2_ := Aside0.mk ((by rw [hg]; exact (below_size (by repeat (first | (with_reducible first | exact HB.out | apply below_alloc | apply pw_below_drewN | apply below_drew1) | exact HB.out))) : w.heap.size ≤ gb715)); have n3_ := Aside0.mk ((by rw [hg]; exact (below_size (by repeat (first | (with_reducible first | exact HB.out | apply below_alloc | apply pw_below_drewN | apply below_drew1) | exact HB.out))) : w.heap.size ≤ gb715)); clear HB; have HB := n0_; have BK715 := n1_; have GW715 := n2_; have GE715 := n3_; clear n0_ n1_ n2_ n3_; clear hb hbox hg))
  (try simp only [Act.put, List.setIfInBounds_toArray, List.set_cons_zero, List.set_cons_succ])
  go_cut [18] (fun v18 wc => ∃ (kq : Nat) (x18_2 : Bool), v18 = .bool x18_2 ∧ Aside0 (impl_PuzzleFits.j0 kq l1 x18_2 a0_0 l0_1 l0_2 = some r) ∧ Aside0 (kq ≤ k) ∧ Aside0 (wc.heap[gb715]? = some (.cells #[.int .i64 a0_0, (.slice A0_1 l0_1.length c0_1), (.slice A0_2 l0_2.length c0_2)] 37 (0, 0))) ∧ Aside0 (Below w.heap.size w wc))
  case first =>
    have H := HC3.out
    clear HC3
    replace H := Option.bind_eq_some_iff.mp H
    obtain ⟨t716, A50, H⟩ := H
    replace H : (if t716 = true then ((impl_SquareFits.f k l1 a0_0).bind fun t717 => (impl_PuzzleFits.j0 k l1 (!t717) a0_0 l0_1 l0_2)) else (impl_PuzzleFits.j0 k l1 true a0_0 l0_1 l0_2)) = some r := H
    have A5 := Aside0.mk A50
    clear A50
    by_cases c6 : t716 = true
    · subst c6
      have H1 : ((impl_SquareFits.f k l1 a0_0).bind fun t717 => (impl_PuzzleFits.j0 k l1 (!t717) a0_0 l0_1 l0_2)) = some r := by rw [if_pos rfl] at H; exact H
      clear H
      have H := H1
      clear H1
      replace H := Option.bind_eq_some_iff.mp H
      obtain ⟨t717, A70, H⟩ := H
      replace H : (impl_PuzzleFits.j0 k l1 (!t717) a0_0 l0_1 l0_2) = some r := H
      have A7 := Aside0.mk A70
      clear A70
      have H' := Aside0.mk H
      clear H
      have hcz8_0 : w4.cell? ⟨gb715, 0, none⟩ = some (.int .i64 a0_0) := (blk_cell BK715.out 0).trans rfl
      have hcz8_1 : w4.cell? ⟨gb715, 1, none⟩ = some (.slice A0_1 l0_1.length c0_1) := (blk_cell BK715.out 1).trans rfl
      have hcz8_2 : w4.cell? ⟨gb715, 2, none⟩ = some (.slice A0_2 l0_2.length c0_2) := (blk_cell BK715.out 2).trans rfl
      have hfz8_0 := blk_frozen BK715.out 0
      have hfz8_1 := blk_frozen BK715.out 1
      have hfz8_2 := blk_frozen BK715.out 2
      go_wp2_with (first | ((with_reducible refine gate_callee (f := 67) rfl ?_); refine goesL_ (some 10) rfl rfl Try.func67 (by kernel_rfl) rfl #[.agg #[.int .i64 a0_0, .slice A0_1 l0_1.length c0_1, .slice A0_2 l0_2.length c0_2]] rfl (by (try simp only [List.map_toArray, List.map_cons, List.map_nil]); first | done | rfl | (simp only [List.length_drop, List.length_take]; rfl)) ?_; (with_reducible refine (impl_PuzzleValid.calls k a0_0 _ _ l0_1 _ _ l0_2 true _ ?side1 ?side2 ?side3 ?side4 A5.out).mono ?_); (case side1 => repeat (first | exact (Kd.C_below HR0_1.out HB.out) | (with_reducible refine Kd.C_alloc ?_ _) | (with_reducible refine Kd.C_drewN ?_ _) | (with_reducible refine Kd.C_drew ?_))); (case side2 => exact HC0_1.out); (case side3 => repeat (first | exact (Kd.C_below HR0_2.out HB.out) | (with_reducible refine Kd.C_alloc ?_ _) | (with_reducible refine Kd.C_drewN ?_ _) | (with_reducible refine Kd.C_drew ?_))); (case side4 => exact HC0_2.out); rintro e w9 ⟨rfl, hb⟩; refine ⟨_, rfl, ?_⟩; have n0_ := Aside0.mk (blk_below (g := gb715) (o := .cells #[.int .i64 a0_0, .slice A0_1 l0_1.length c0_1, .slice A0_2 l0_2.length c0_2] 37 (0, 0)) (by (with_reducible repeat (first | refine blk_drewN ?_ _ | refine blk_drew ?_ | refine blk_alloc ?_ _)); exact BK715.out) hb); have n1_ := Aside0.mk (below_step (by repeat (first | (with_reducible first | exact HB.out | apply below_alloc | apply pw_below_drewN | apply below_drew1 | refine below_set ?_ GE715.out) | exact HB.out)) hb); clear BK715; clear HB; have BK715 := n0_; have HB := n1_; clear n0_ n1_; (try clear hb); (try clear hb2); (try clear hk); (try clear hi); have hcz10_0 : w9.cell? ⟨gb715, 0, none⟩ = some (.int .i64 a0_0) := (blk_cell BK715.out 0).trans rfl; have hcz10_1 : w9.cell? ⟨gb715, 1, none⟩ = some (.slice A0_1 l0_1.length c0_1) := (blk_cell BK715.out 1).trans rfl; have hcz10_2 : w9.cell? ⟨gb715, 2, none⟩ = some (.slice A0_2 l0_2.length c0_2) := (blk_cell BK715.out 2).trans rfl; have hfz10_0 := blk_frozen BK715.out 0; have hfz10_1 := blk_frozen BK715.out 1; have hfz10_2 := blk_frozen BK715.out 2) | (go_at_call 91; (with_reducible refine (impl_SquareFits.calls k _ _ l1 a0_0 t717 _ ?side1 ?side2 A7.out).mono ?_); (case side1 => repeat (first | exact (Kd.C_below HR1.out HB.out) | (with_reducible refine Kd.C_alloc ?_ _) | (with_reducible refine Kd.C_drewN ?_ _) | (with_reducible refine Kd.C_drew ?_))); (case side2 => exact HC1.out); rintro e w11 ⟨rfl, hb⟩; have n0_ := Aside0.mk (blk_below (g := gb715) (o := .cells #[.int .i64 a0_0, .slice A0_1 l0_1.length c0_1, .slice A0_2 l0_2.length c0_2] 37 (0, 0)) (by (with_reducible repeat (first | refine blk_drewN ?_ _ | refine blk_drew ?_ | refine blk_alloc ?_ _)); exact BK715.out) hb); have n1_ := Aside0.mk (below_step (by repeat (first | (with_reducible first | exact HB.out | apply below_alloc | apply pw_below_drewN | apply below_drew1 | refine below_set ?_ GE715.out) | exact HB.out)) hb); clear BK715; clear HB; have BK715 := n0_; have HB := n1_; clear n0_ n1_; (try clear hb); (try clear hb2); (try clear hk); (try clear hi)))
      go_meet
      case rel => exact ⟨_, (!t717), (by first | rfl | (simp; done) | (simp [*]; done)), H', ⟨by first | omega | exact Nat.le_refl _⟩, ⟨by (with_reducible repeat (first | refine blk_drewN ?_ _ | refine blk_drew ?_ | refine blk_alloc ?_ _)); exact BK715.out⟩, ⟨by repeat (first | (with_reducible first | exact HB.out | apply below_alloc | apply pw_below_drewN | apply below_drew1 | refine below_set ?_ GE715.out) | exact HB.out)⟩⟩
    · replace c6 := Bool.eq_false_iff.mpr c6
      subst c6
      have H1 : (impl_PuzzleFits.j0 k l1 true a0_0 l0_1 l0_2) = some r := by rw [if_neg (show ¬ (false = true) by decide)] at H; exact H
      clear H
      have H := H1
      clear H1
      have H' := Aside0.mk H
      clear H
      have hcz12_0 : w4.cell? ⟨gb715, 0, none⟩ = some (.int .i64 a0_0) := (blk_cell BK715.out 0).trans rfl
      have hcz12_1 : w4.cell? ⟨gb715, 1, none⟩ = some (.slice A0_1 l0_1.length c0_1) := (blk_cell BK715.out 1).trans rfl
      have hcz12_2 : w4.cell? ⟨gb715, 2, none⟩ = some (.slice A0_2 l0_2.length c0_2) := (blk_cell BK715.out 2).trans rfl
      have hfz12_0 := blk_frozen BK715.out 0
      have hfz12_1 := blk_frozen BK715.out 1
      have hfz12_2 := blk_frozen BK715.out 2
      go_wp2_with (first | ((with_reducible refine gate_callee (f := 67) rfl ?_); refine goesL_ (some 10) rfl rfl Try.func67 (by kernel_rfl) rfl #[.agg #[.int .i64 a0_0, .slice A0_1 l0_1.length c0_1, .slice A0_2 l0_2.length c0_2]] rfl (by (try simp only [List.map_toArray, List.map_cons, List.map_nil]); first | done | rfl | (simp only [List.length_drop, List.length_take]; rfl)) ?_; (with_reducible refine (impl_PuzzleValid.calls k a0_0 _ _ l0_1 _ _ l0_2 false _ ?side1 ?side2 ?side3 ?side4 A5.out).mono ?_); (case side1 => repeat (first | exact (Kd.C_below HR0_1.out HB.out) | (with_reducible refine Kd.C_alloc ?_ _) | (with_reducible refine Kd.C_drewN ?_ _) | (with_reducible refine Kd.C_drew ?_))); (case side2 => exact HC0_1.out); (case side3 => repeat (first | exact (Kd.C_below HR0_2.out HB.out) | (with_reducible refine Kd.C_alloc ?_ _) | (with_reducible refine Kd.C_drewN ?_ _) | (with_reducible refine Kd.C_drew ?_))); (case side4 => exact HC0_2.out); rintro e w13 ⟨rfl, hb⟩; refine ⟨_, rfl, ?_⟩; have n0_ := Aside0.mk (blk_below (g := gb715) (o := .cells #[.int .i64 a0_0, .slice A0_1 l0_1.length c0_1, .slice A0_2 l0_2.length c0_2] 37 (0, 0)) (by (with_reducible repeat (first | refine blk_drewN ?_ _ | refine blk_drew ?_ | refine blk_alloc ?_ _)); exact BK715.out) hb); have n1_ := Aside0.mk (below_step (by repeat (first | (with_reducible first | exact HB.out | apply below_alloc | apply pw_below_drewN | apply below_drew1 | refine below_set ?_ GE715.out) | exact HB.out)) hb); clear BK715; clear HB; have BK715 := n0_; have HB := n1_; clear n0_ n1_; (try clear hb); (try clear hb2); (try clear hk); (try clear hi)))
      go_meet
      case rel => exact ⟨_, (true), (by first | rfl | (simp; done) | (simp [*]; done)), H', ⟨by first | omega | exact Nat.le_refl _⟩, ⟨by (with_reducible repeat (first | refine blk_drewN ?_ _ | refine blk_drew ?_ | refine blk_alloc ?_ _)); exact BK715.out⟩, ⟨by repeat (first | (with_reducible first | exact HB.out | apply below_alloc | apply pw_below_drewN | apply below_drew1 | refine below_set ?_ GE715.out) | exact HB.out)⟩⟩
  case rest =>
    clear HC3
    try clear c1
    try clear p2
    try clear c6
    try clear hcz10_0
    try clear hcz10_1
    try clear hcz10_2
    try clear hcz12_0
    try clear hcz12_1
    try clear hcz12_2
    try clear hcz8_0
    try clear hcz8_1
    try clear hcz8_2
    try clear hfz10_0
    try clear hfz10_1
    try clear hfz10_2
    try clear hfz12_0
    try clear hfz12_1
    try clear hfz12_2
    try clear hfz8_0
    try clear hfz8_1
    try clear hfz8_2
    obtain ⟨kq, x18_2, rfl, HA, HJ2, BK715, HB⟩ := hcut
    cases kq with
    | zero => exact absurd HA.out (by simp [impl_PuzzleFits.j0])
    | succ kj2 =>
      have H := HA.out
      clear HA
      simp only [impl_PuzzleFits.j0] at H
      by_cases c14 : x18_2 = true
      · subst c14
        have H1 : (some false) = some r := by rw [if_pos rfl] at H; exact H
        clear H
        have H := H1
        clear H1
        obtain rfl := Option.some.inj H
        go_wp2
        go_ret
        exact ⟨by first | rfl | (simp [errW_none, errW_some] <;> rfl) | (simp [*, errW_none, errW_some] <;> rfl), by repeat (first | (with_reducible first | exact HB.out | apply below_alloc | apply pw_below_drewN | apply below_drew1 | refine below_set ?_ GE715.out) | exact HB.out)⟩
      · replace c14 := Bool.eq_false_iff.mpr c14
        subst c14
        have H1 : (impl_PuzzleFits.l0 kj2 l1 l1 (l1.length : Int) 0 a0_0 l0_1 l0_2) = some r := by rw [if_neg (show ¬ (false = true) by decide)] at H; exact H
        clear H
        have H := H1
        clear H1
        have H' := Aside0.mk H
        clear H
        go_wp2
        go_loopg [21] kj2 (fun kq v21 w' => ∃ (x21_2 : Int), v21 = .int .i64 x21_2 ∧ Aside0 (impl_PuzzleFits.l0 kq l1 l1 (l1.length : Int) x21_2 a0_0 l0_1 l0_2 = some r) ∧ Aside0 (kq ≤ kj2) ∧ Aside0 (w'.heap[gb715]? = some (.cells #[.int .i64 a0_0, (.slice A0_1 l0_1.length c0_1), (.slice A0_2 l0_2.length c0_2)] 37 (0, 0))) ∧ Aside0 (Below w.heap.size w w'))
        case atStart => exact ⟨(0), (by first | rfl | (simp; done) | (simp [*]; done)), H', ⟨Nat.le_refl _⟩, ⟨by (with_reducible repeat (first | refine blk_drewN ?_ _ | refine blk_drew ?_ | refine blk_alloc ?_ _)); exact BK715.out⟩, ⟨by repeat (first | (with_reducible first | exact HB.out | apply below_alloc | apply pw_below_drewN | apply below_drew1 | refine below_set ?_ GE715.out) | exact HB.out)⟩⟩
        case round =>
          clear H'
          try clear c1
          try clear p2
          try clear c6
          try clear c14
          try clear hcz10_0
          try clear hcz10_1
          try clear hcz10_2
          try clear hcz12_0
          try clear hcz12_1
          try clear hcz12_2
          try clear hcz8_0
          try clear hcz8_1
          try clear hcz8_2
          try clear hfz10_0
          try clear hfz10_1
          try clear hfz10_2
          try clear hfz12_0
          try clear hfz12_1
          try clear hfz12_2
          try clear hfz8_0
          try clear hfz8_1
          try clear hfz8_2
          try clear p2
          obtain ⟨x21_2, rfl, HA, HK2, BK715, HB⟩ := hrel
          cases gk with
          | zero => exact absurd HA.out (by simp [impl_PuzzleFits.l0])
          | succ k2 =>
            have H := HA.out
            clear HA
            simp only [impl_PuzzleFits.l0] at H
            by_cases c15 : x21_2 < (l1.length : Int)
            · rw [if_pos c15] at H
              have c15b0 : decide (x21_2 < (l1.length : Int)) = true := decide_eq_true c15
              clear c15
              by_cases c16 : 0 ≤ x21_2
              · rw [if_pos c16] at H
                have c16b0 : decide (0 ≤ x21_2) = true := decide_eq_true c16
                clear c16
                by_cases c17 : x21_2 < (l1.length : Int)
                · rw [if_pos c17] at H
                  have c17b0 : decide (x21_2 < (l1.length : Int)) = true := decide_eq_true c17
                  clear c17
                  by_cases c18 : (rd l1 x21_2) > 0
                  · rw [if_pos c18] at H
                    have c18b0 : decide (0 < (rd l1 x21_2)) = true := decide_eq_true c18
                    clear c18
                    by_cases c19 : x21_2 < (l0_1.length : Int)
                    · rw [if_pos c19] at H
                      have c19b0 : decide (x21_2 < (l0_1.length : Int)) = true := decide_eq_true c19
                      clear c19
                      by_cases c20 : (rd l0_1 x21_2) > 0
                      · rw [if_pos c20] at H
                        have c20b0 : decide (0 < (rd l0_1 x21_2)) = true := decide_eq_true c20
                        clear c20
                        by_cases c21 : (rd l1 x21_2) = (rd l0_1 x21_2)
                        · rw [if_pos c21] at H
                          have c21b0 : ((rd l1 x21_2) == (rd l0_1 x21_2)) = true := beq_iff_eq.mpr c21
                          have c21b1 : ((rd l1 x21_2) != (rd l0_1 x21_2)) = false := bne_eq_false_iff_eq.mpr c21
                          clear c21
                          have H' := Aside0.mk H
                          clear H
                          have p718 : 0 ≤ (x21_2 : Int) := of_decide_eq_true (by first | (with_reducible assumption) | assumption)
                          have q718 : x21_2 < (l1.length : Int) := of_decide_eq_true (by first | (with_reducible assumption) | assumption)
                          obtain ⟨ad718, e718, hx718_0⟩ := Kd.at_int HR1.out x21_2 p718 q718
                          cases e718
                          replace hx718_0 := (HB.out.cell (World.block_lt_of_cell? w _ hx718_0)).trans hx718_0
                          replace p718 := eq_true p718
                          replace q718 := eq_true q718
                          have hcz22_0 : wr.cell? ⟨gb715, 0, none⟩ = some (.int .i64 a0_0) := (blk_cell BK715.out 0).trans rfl
                          have hcz22_1 : wr.cell? ⟨gb715, 1, none⟩ = some (.slice A0_1 l0_1.length c0_1) := (blk_cell BK715.out 1).trans rfl
                          have hcz22_2 : wr.cell? ⟨gb715, 2, none⟩ = some (.slice A0_2 l0_2.length c0_2) := (blk_cell BK715.out 2).trans rfl
                          have hfz22_0 := blk_frozen BK715.out 0
                          have hfz22_1 := blk_frozen BK715.out 1
                          have hfz22_2 := blk_frozen BK715.out 2
                          have p719 : 0 ≤ (x21_2 : Int) := of_decide_eq_true (by first | (with_reducible assumption) | assumption)
                          have q719 : x21_2 < (l0_1.length : Int) := of_decide_eq_true (by first | (with_reducible assumption) | assumption)
                          obtain ⟨ad719, e719, hx719_0⟩ := Kd.at_int HR0_1.out x21_2 p719 q719
                          cases e719
                          replace hx719_0 := (HB.out.cell (World.block_lt_of_cell? w _ hx719_0)).trans hx719_0
                          replace p719 := eq_true p719
                          replace q719 := eq_true q719
                          have p720 : 0 ≤ (x21_2 : Int) := of_decide_eq_true (by first | (with_reducible assumption) | assumption)
                          have q720 : x21_2 < (l0_1.length : Int) := of_decide_eq_true (by first | (with_reducible assumption) | assumption)
                          obtain ⟨ad720, e720, hx720_0⟩ := Kd.at_int HR0_1.out x21_2 p720 q720
                          obtain rfl : ad719 = ad720 := (by injection e720)
                          replace hx720_0 := (HB.out.cell (World.block_lt_of_cell? w _ hx720_0)).trans hx720_0
                          replace p720 := eq_true p720
                          replace q720 := eq_true q720
                          go_wp2
                          go_roundg k2
                          case measure => have := HJ2.out; have := HK2.out; omega
                          case rel => exact ⟨(wrap64 (x21_2 + 1)), (by first | rfl | (simp; done) | (simp [*]; done)), H', ⟨by have := HJ2.out; have := HK2.out; omega⟩, ⟨by (with_reducible repeat (first | refine blk_drewN ?_ _ | refine blk_drew ?_ | refine blk_alloc ?_ _)); exact BK715.out⟩, ⟨by repeat (first | (with_reducible first | exact HB.out | apply below_alloc | apply pw_below_drewN | apply below_drew1 | refine below_set ?_ GE715.out) | exact HB.out)⟩⟩
                        · rw [if_neg c21] at H
                          have c21b0 : ((rd l1 x21_2) == (rd l0_1 x21_2)) = false := beq_eq_false_iff_ne.mpr c21
                          have c21b1 : ((rd l1 x21_2) != (rd l0_1 x21_2)) = true := bne_iff_ne.mpr c21
                          obtain rfl := Option.some.inj H
                          have p718 : 0 ≤ (x21_2 : Int) := of_decide_eq_true (by first | (with_reducible assumption) | assumption)
                          have q718 : x21_2 < (l1.length : Int) := of_decide_eq_true (by first | (with_reducible assumption) | assumption)
                          obtain ⟨ad718, e718, hx718_0⟩ := Kd.at_int HR1.out x21_2 p718 q718
                          cases e718
                          replace hx718_0 := (HB.out.cell (World.block_lt_of_cell? w _ hx718_0)).trans hx718_0
                          replace p718 := eq_true p718
                          replace q718 := eq_true q718
                          have hcz23_0 : wr.cell? ⟨gb715, 0, none⟩ = some (.int .i64 a0_0) := (blk_cell BK715.out 0).trans rfl
                          have hcz23_1 : wr.cell? ⟨gb715, 1, none⟩ = some (.slice A0_1 l0_1.length c0_1) := (blk_cell BK715.out 1).trans rfl
                          have hcz23_2 : wr.cell? ⟨gb715, 2, none⟩ = some (.slice A0_2 l0_2.length c0_2) := (blk_cell BK715.out 2).trans rfl
                          have hfz23_0 := blk_frozen BK715.out 0
                          have hfz23_1 := blk_frozen BK715.out 1
                          have hfz23_2 := blk_frozen BK715.out 2
                          have p719 : 0 ≤ (x21_2 : Int) := of_decide_eq_true (by first | (with_reducible assumption) | assumption)
                          have q719 : x21_2 < (l0_1.length : Int) := of_decide_eq_true (by first | (with_reducible assumption) | assumption)
                          obtain ⟨ad719, e719, hx719_0⟩ := Kd.at_int HR0_1.out x21_2 p719 q719
                          cases e719
                          replace hx719_0 := (HB.out.cell (World.block_lt_of_cell? w _ hx719_0)).trans hx719_0
                          replace p719 := eq_true p719
                          replace q719 := eq_true q719
                          have p720 : 0 ≤ (x21_2 : Int) := of_decide_eq_true (by first | (with_reducible assumption) | assumption)
                          have q720 : x21_2 < (l0_1.length : Int) := of_decide_eq_true (by first | (with_reducible assumption) | assumption)
                          obtain ⟨ad720, e720, hx720_0⟩ := Kd.at_int HR0_1.out x21_2 p720 q720
                          obtain rfl : ad719 = ad720 := (by injection e720)
                          replace hx720_0 := (HB.out.cell (World.block_lt_of_cell? w _ hx720_0)).trans hx720_0
                          replace p720 := eq_true p720
                          replace q720 := eq_true q720
                          go_wp2
                          go_ret
                          exact ⟨by first | rfl | (simp [errW_none, errW_some] <;> rfl) | (simp [*, errW_none, errW_some] <;> rfl), by repeat (first | (with_reducible first | exact HB.out | apply below_alloc | apply pw_below_drewN | apply below_drew1 | refine below_set ?_ GE715.out) | exact HB.out)⟩
                      · rw [if_neg c20] at H
                        have c20b0 : decide (0 < (rd l0_1 x21_2)) = false := decide_eq_false c20
                        clear c20
                        have H' := Aside0.mk H
                        clear H
                        have p718 : 0 ≤ (x21_2 : Int) := of_decide_eq_true (by first | (with_reducible assumption) | assumption)
                        have q718 : x21_2 < (l1.length : Int) := of_decide_eq_true (by first | (with_reducible assumption) | assumption)
                        obtain ⟨ad718, e718, hx718_0⟩ := Kd.at_int HR1.out x21_2 p718 q718
                        cases e718
                        replace hx718_0 := (HB.out.cell (World.block_lt_of_cell? w _ hx718_0)).trans hx718_0
                        replace p718 := eq_true p718
                        replace q718 := eq_true q718
                        have hcz24_0 : wr.cell? ⟨gb715, 0, none⟩ = some (.int .i64 a0_0) := (blk_cell BK715.out 0).trans rfl
                        have hcz24_1 : wr.cell? ⟨gb715, 1, none⟩ = some (.slice A0_1 l0_1.length c0_1) := (blk_cell BK715.out 1).trans rfl
                        have hcz24_2 : wr.cell? ⟨gb715, 2, none⟩ = some (.slice A0_2 l0_2.length c0_2) := (blk_cell BK715.out 2).trans rfl
                        have hfz24_0 := blk_frozen BK715.out 0
                        have hfz24_1 := blk_frozen BK715.out 1
                        have hfz24_2 := blk_frozen BK715.out 2
                        have p719 : 0 ≤ (x21_2 : Int) := of_decide_eq_true (by first | (with_reducible assumption) | assumption)
                        have q719 : x21_2 < (l0_1.length : Int) := of_decide_eq_true (by first | (with_reducible assumption) | assumption)
                        obtain ⟨ad719, e719, hx719_0⟩ := Kd.at_int HR0_1.out x21_2 p719 q719
                        cases e719
                        replace hx719_0 := (HB.out.cell (World.block_lt_of_cell? w _ hx719_0)).trans hx719_0
                        replace p719 := eq_true p719
                        replace q719 := eq_true q719
                        go_wp2
                        go_roundg k2
                        case measure => have := HJ2.out; have := HK2.out; omega
                        case rel => exact ⟨(wrap64 (x21_2 + 1)), (by first | rfl | (simp; done) | (simp [*]; done)), H', ⟨by have := HJ2.out; have := HK2.out; omega⟩, ⟨by (with_reducible repeat (first | refine blk_drewN ?_ _ | refine blk_drew ?_ | refine blk_alloc ?_ _)); exact BK715.out⟩, ⟨by repeat (first | (with_reducible first | exact HB.out | apply below_alloc | apply pw_below_drewN | apply below_drew1 | refine below_set ?_ GE715.out) | exact HB.out)⟩⟩
                    · rw [if_neg c19] at H
                      exact absurd H (by simp)
                  · rw [if_neg c18] at H
                    have c18b0 : decide (0 < (rd l1 x21_2)) = false := decide_eq_false c18
                    clear c18
                    have H' := Aside0.mk H
                    clear H
                    have p718 : 0 ≤ (x21_2 : Int) := of_decide_eq_true (by first | (with_reducible assumption) | assumption)
                    have q718 : x21_2 < (l1.length : Int) := of_decide_eq_true (by first | (with_reducible assumption) | assumption)
                    obtain ⟨ad718, e718, hx718_0⟩ := Kd.at_int HR1.out x21_2 p718 q718
                    cases e718
                    replace hx718_0 := (HB.out.cell (World.block_lt_of_cell? w _ hx718_0)).trans hx718_0
                    replace p718 := eq_true p718
                    replace q718 := eq_true q718
                    go_wp2
                    go_roundg k2
                    case measure => have := HJ2.out; have := HK2.out; omega
                    case rel => exact ⟨(wrap64 (x21_2 + 1)), (by first | rfl | (simp; done) | (simp [*]; done)), H', ⟨by have := HJ2.out; have := HK2.out; omega⟩, ⟨by (with_reducible repeat (first | refine blk_drewN ?_ _ | refine blk_drew ?_ | refine blk_alloc ?_ _)); exact BK715.out⟩, ⟨by repeat (first | (with_reducible first | exact HB.out | apply below_alloc | apply pw_below_drewN | apply below_drew1 | refine below_set ?_ GE715.out) | exact HB.out)⟩⟩
                · rw [if_neg c17] at H
                  exact absurd H (by simp)
              · rw [if_neg c16] at H
                exact absurd H (by simp)
            · rw [if_neg c15] at H
              have c15b0 : decide (x21_2 < (l1.length : Int)) = false := decide_eq_false c15
              clear c15
              have H' := Aside0.mk H
              clear H
              have hcz25_0 : wr.cell? ⟨gb715, 0, none⟩ = some (.int .i64 a0_0) := (blk_cell BK715.out 0).trans rfl
              have hcz25_1 : wr.cell? ⟨gb715, 1, none⟩ = some (.slice A0_1 l0_1.length c0_1) := (blk_cell BK715.out 1).trans rfl
              have hcz25_2 : wr.cell? ⟨gb715, 2, none⟩ = some (.slice A0_2 l0_2.length c0_2) := (blk_cell BK715.out 2).trans rfl
              have hfz25_0 := blk_frozen BK715.out 0
              have hfz25_1 := blk_frozen BK715.out 1
              have hfz25_2 := blk_frozen BK715.out 2
              go_wp2
              go_loopg [49] k2 (fun kq v49 w' => ∃ (x49_3 : Int), v49 = .int .i64 x49_3 ∧ Aside0 (impl_PuzzleFits.l1 kq l1 l0_2 (l0_2.length : Int) x49_3 a0_0 l0_1 l0_2 = some r) ∧ Aside0 (kq ≤ k2) ∧ Aside0 (w'.heap[gb715]? = some (.cells #[.int .i64 a0_0, (.slice A0_1 l0_1.length c0_1), (.slice A0_2 l0_2.length c0_2)] 37 (0, 0))) ∧ Aside0 (Below w.heap.size w w'))
              case atStart => exact ⟨(0), (by first | rfl | (simp; done) | (simp [*]; done)), H', ⟨Nat.le_refl _⟩, ⟨by (with_reducible repeat (first | refine blk_drewN ?_ _ | refine blk_drew ?_ | refine blk_alloc ?_ _)); exact BK715.out⟩, ⟨by repeat (first | (with_reducible first | exact HB.out | apply below_alloc | apply pw_below_drewN | apply below_drew1 | refine below_set ?_ GE715.out) | exact HB.out)⟩⟩
              case round =>
                clear H'
                try clear c1
                try clear c2
                try clear p2
                try clear c6
                try clear p6
                try clear p7
                try clear q7
                try clear hx7
                try clear c14
                try clear c15
                try clear c15b0
                try clear c16
                try clear c16b0
                try clear c17
                try clear c17b0
                try clear c18
                try clear c18b0
                try clear c19
                try clear c19b0
                try clear c20
                try clear c20b0
                try clear c21
                try clear c21b0
                try clear c21b1
                try clear hcz10_0
                try clear hcz10_1
                try clear hcz10_2
                try clear hcz12_0
                try clear hcz12_1
                try clear hcz12_2
                try clear hcz22_0
                try clear hcz22_1
                try clear hcz22_2
                try clear hcz23_0
                try clear hcz23_1
                try clear hcz23_2
                try clear hcz24_0
                try clear hcz24_1
                try clear hcz24_2
                try clear hcz25_0
                try clear hcz25_1
                try clear hcz25_2
                try clear hcz8_0
                try clear hcz8_1
                try clear hcz8_2
                try clear hfz10_0
                try clear hfz10_1
                try clear hfz10_2
                try clear hfz12_0
                try clear hfz12_1
                try clear hfz12_2
                try clear hfz22_0
                try clear hfz22_1
                try clear hfz22_2
                try clear hfz23_0
                try clear hfz23_1
                try clear hfz23_2
                try clear hfz24_0
                try clear hfz24_1
                try clear hfz24_2
                try clear hfz25_0
                try clear hfz25_1
                try clear hfz25_2
                try clear hfz8_0
                try clear hfz8_1
                try clear hfz8_2
                try clear hx718_0
                try clear hx719_0
                try clear hx720_0
                try clear p2
                try clear p718
                try clear p719
                try clear p720
                try clear q718
                try clear q719
                try clear q720
                obtain ⟨x49_3, rfl, HA, HK3, BK715, HB⟩ := hrel
                cases gk with
                | zero => exact absurd HA.out (by simp [impl_PuzzleFits.l1])
                | succ k3 =>
                  have H := HA.out
                  clear HA
                  simp only [impl_PuzzleFits.l1] at H
                  by_cases c26 : x49_3 < (l0_2.length : Int)
                  · rw [if_pos c26] at H
                    have c26b0 : decide (x49_3 < (l0_2.length : Int)) = true := decide_eq_true c26
                    clear c26
                    by_cases c27 : 0 ≤ x49_3
                    · rw [if_pos c27] at H
                      have c27b0 : decide (0 ≤ x49_3) = true := decide_eq_true c27
                      clear c27
                      by_cases c28 : x49_3 < (l0_2.length : Int)
                      · rw [if_pos c28] at H
                        have c28b0 : decide (x49_3 < (l0_2.length : Int)) = true := decide_eq_true c28
                        clear c28
                        replace H := Option.bind_eq_some_iff.mp H
                        obtain ⟨t723, A290, H⟩ := H
                        replace H : (if t723 = true then (impl_PuzzleFits.l1 k3 l1 l0_2 (l0_2.length : Int) (wrap64 (x49_3 + 1)) a0_0 l0_1 l0_2) else (some false)) = some r := H
                        have A29 := Aside0.mk A290
                        clear A290
                        by_cases c30 : t723 = true
                        · subst c30
                          have H1 : (impl_PuzzleFits.l1 k3 l1 l0_2 (l0_2.length : Int) (wrap64 (x49_3 + 1)) a0_0 l0_1 l0_2) = some r := by rw [if_pos rfl] at H; exact H
                          clear H
                          have H := H1
                          clear H1
                          have H' := Aside0.mk H
                          clear H
                          have p721 : 0 ≤ (x49_3 : Int) := of_decide_eq_true (by first | (with_reducible assumption) | assumption)
                          have q721 : x49_3 < (l0_2.length : Int) := of_decide_eq_true (by first | (with_reducible assumption) | assumption)
                          obtain ⟨ad721, A721_1, c721_1, e721, hx721_0, hx721_1, hx721_2, hl721_1, hi721_1⟩ := at_T29 HR0_2.out x49_3 p721 q721
                          cases e721
                          replace hx721_0 := (HB.out.cell (World.block_lt_of_cell? w _ hx721_0)).trans hx721_0
                          replace hx721_1 := (HB.out.cell (World.block_lt_of_cell? w _ hx721_1)).trans hx721_1
                          replace hx721_2 := (HB.out.cell (World.block_lt_of_cell? w _ hx721_2)).trans hx721_2
                          have HR721_1 := Aside0.mk hi721_1
                          have HC721_1 := Aside0.mk hl721_1
                          clear hi721_1 hl721_1
                          replace p721 := eq_true p721
                          replace q721 := eq_true q721
                          go_wp2_with (first | ((with_reducible refine gate_dst (N := 8) rfl ?_); refine box_event ?hg (N := 8) ?hd (cs := #[.int .i64 0, .slice none 0 0, .int .i64 0]) (t := 29) ?hr ?_; (case hd => rfl); (case hg => rfl); (case hr => first | (go_simp; done) | (go_simp; rfl)); intro gb722 hg w31 hbox hb; have n0_ := Aside0.mk (blk_below (g := gb715) (o := .cells #[.int .i64 a0_0, .slice A0_1 l0_1.length c0_1, .slice (some ad721) l0_2.length c0_2] 37 (0, 0)) (by (with_reducible repeat (first | refine blk_drewN ?_ _ | refine blk_drew ?_ | refine blk_alloc ?_ _)); exact BK715.out) hb); have n1_ := Aside0.mk (below_step (by repeat (first | (with_reducible first | exact HB.out | apply below_alloc | apply pw_below_drewN | apply below_drew1 | refine below_set ?_ GE715.out) | exact HB.out)) hb); have n2_ := Aside0.mk (hbox); have n3_ := Aside0.mk ((by rw [hg]; exact (below_size (by repeat (first | (with_reducible first | exact HB.out | apply below_alloc | apply pw_below_drewN | apply below_drew1 | refine below_set ?_ GE715.out) | exact HB.out))) : w.heap.size ≤ gb722)); have n4_ := Aside0.mk ((by rw [hg]; exact (below_size (by repeat (first | (with_reducible first | exact HB.out | apply below_alloc | apply pw_below_drewN | apply below_drew1 | refine below_set ?_ GE715.out) | exact HB.out))) : w.heap.size ≤ gb722)); have n5_ := Aside0.mk ((by rw [hg]; exact Nat.ne_of_lt (blk_lt (g := gb715) (o := .cells #[.int .i64 a0_0, .slice A0_1 l0_1.length c0_1, .slice (some ad721) l0_2.length c0_2] 37 (0, 0)) (by (with_reducible repeat (first | refine blk_drewN ?_ _ | refine blk_drew ?_ | refine blk_alloc ?_ _)); exact BK715.out)) : gb715 ≠ gb722)); have n6_ := Aside0.mk ((by rw [hg]; exact Nat.ne_of_gt (blk_lt (g := gb715) (o := .cells #[.int .i64 a0_0, .slice A0_1 l0_1.length c0_1, .slice (some ad721) l0_2.length c0_2] 37 (0, 0)) (by (with_reducible repeat (first | refine blk_drewN ?_ _ | refine blk_drew ?_ | refine blk_alloc ?_ _)); exact BK715.out)) : gb722 ≠ gb715)); clear BK715; clear HB; have BK715 := n0_; have HB := n1_; have BK722 := n2_; have GW722 := n3_; have GE722 := n4_; have NB715_722 := n5_; have NB722_715 := n6_; clear n0_ n1_ n2_ n3_ n4_ n5_ n6_; clear hb hbox hg; have hnb32 := NB722_715.out; have hnc32 := NB715_722.out; have hcz33_0 : w31.cell? ⟨gb722, 0, none⟩ = some (.int .i64 0) := (blk_cell BK722.out 0).trans rfl; have hcz33_1 : w31.cell? ⟨gb722, 1, none⟩ = some (.slice none 0 0) := (blk_cell BK722.out 1).trans rfl; have hcz33_2 : w31.cell? ⟨gb722, 2, none⟩ = some (.int .i64 0) := (blk_cell BK722.out 2).trans rfl; have hfz33_0 := blk_frozen BK722.out 0; have hfz33_1 := blk_frozen BK722.out 1; have hfz33_2 := blk_frozen BK722.out 2; have hcz34_0 : w31.cell? ⟨gb715, 0, none⟩ = some (.int .i64 a0_0) := (blk_cell BK715.out 0).trans rfl; have hcz34_1 : w31.cell? ⟨gb715, 1, none⟩ = some (.slice A0_1 l0_1.length c0_1) := (blk_cell BK715.out 1).trans rfl; have hcz34_2 : w31.cell? ⟨gb715, 2, none⟩ = some (.slice (some ad721) l0_2.length c0_2) := (blk_cell BK715.out 2).trans rfl; have hfz34_0 := blk_frozen BK715.out 0; have hfz34_1 := blk_frozen BK715.out 1; have hfz34_2 := blk_frozen BK715.out 2) | ((with_reducible refine gate_callee (f := 95) rfl ?_); refine goesL_ (some 57) rfl rfl Try.func95 (by kernel_rfl) rfl #[.agg #[.int .i64 ((rd_T29 l0_2 x49_3).f0), .slice A721_1 ((rd_T29 l0_2 x49_3).f1).length c721_1, .int .i64 ((rd_T29 l0_2 x49_3).f2)], .slice A1 l1.length c1, .int .i64 a0_0] rfl (by (try simp only [List.map_toArray, List.map_cons, List.map_nil]); first | done | rfl | (simp only [List.length_drop, List.length_take]; rfl)) ?_; (with_reducible refine (impl_canHold.calls k3 ((rd_T29 l0_2 x49_3).f0) _ _ ((rd_T29 l0_2 x49_3).f1) ((rd_T29 l0_2 x49_3).f2) _ _ l1 a0_0 true _ ?side1 ?side2 ?side3 ?side4 A29.out).mono ?_); (case side1 => exact Kd.C_below HR721_1.out (by repeat (first | (with_reducible first | exact HB.out | apply below_alloc | apply pw_below_drewN | apply below_drew1 | refine below_set ?_ GE715.out | refine below_set ?_ GE722.out) | exact HB.out))); (case side2 => exact HC721_1.out); (case side3 => exact Kd.C_below HR1.out (by repeat (first | (with_reducible first | exact HB.out | apply below_alloc | apply pw_below_drewN | apply below_drew1 | refine below_set ?_ GE715.out | refine below_set ?_ GE722.out) | exact HB.out))); (case side4 => exact HC1.out); rintro e w35 ⟨rfl, hb⟩; refine ⟨_, rfl, ?_⟩; have n0_ := Aside0.mk (blk_below (g := gb715) (o := .cells #[.int .i64 a0_0, .slice A0_1 l0_1.length c0_1, .slice (some ad721) l0_2.length c0_2] 37 (0, 0)) (by (with_reducible repeat (first | refine blk_drewN ?_ _ | refine blk_drew ?_ | refine blk_alloc ?_ _)); refine blk_far ?_ NB715_722.out _; (with_reducible repeat (first | refine blk_drewN ?_ _ | refine blk_drew ?_ | refine blk_alloc ?_ _)); refine blk_far ?_ NB715_722.out _; (with_reducible repeat (first | refine blk_drewN ?_ _ | refine blk_drew ?_ | refine blk_alloc ?_ _)); refine blk_far ?_ NB715_722.out _; (with_reducible repeat (first | refine blk_drewN ?_ _ | refine blk_drew ?_ | refine blk_alloc ?_ _)); exact BK715.out) hb); have n1_ := Aside0.mk (blk_below (g := gb722) (o := .cells #[.int .i64 ((rd_T29 l0_2 x49_3).f0), .slice A721_1 ((rd_T29 l0_2 x49_3).f1).length c721_1, .int .i64 ((rd_T29 l0_2 x49_3).f2)] 29 (0, 0)) (by (with_reducible repeat (first | refine blk_drewN ?_ _ | refine blk_drew ?_ | refine blk_alloc ?_ _)); refine blk_put (cs := #[.int .i64 ((rd_T29 l0_2 x49_3).f0), .slice A721_1 ((rd_T29 l0_2 x49_3).f1).length c721_1, .int .i64 0]) ?_ 2 _ rfl; (with_reducible repeat (first | refine blk_drewN ?_ _ | refine blk_drew ?_ | refine blk_alloc ?_ _)); refine blk_put (cs := #[.int .i64 ((rd_T29 l0_2 x49_3).f0), .slice none 0 0, .int .i64 0]) ?_ 1 _ rfl; (with_reducible repeat (first | refine blk_drewN ?_ _ | refine blk_drew ?_ | refine blk_alloc ?_ _)); refine blk_put (cs := #[.int .i64 0, .slice none 0 0, .int .i64 0]) ?_ 0 _ rfl; (with_reducible repeat (first | refine blk_drewN ?_ _ | refine blk_drew ?_ | refine blk_alloc ?_ _)); exact BK722.out) hb); have n2_ := Aside0.mk (below_step (by repeat (first | (with_reducible first | exact HB.out | apply below_alloc | apply pw_below_drewN | apply below_drew1 | refine below_set ?_ GE715.out | refine below_set ?_ GE722.out) | exact HB.out)) hb); clear BK715; clear BK722; clear HB; have BK715 := n0_; have BK722 := n1_; have HB := n2_; clear n0_ n1_ n2_; (try clear hb); (try clear hb2); (try clear hk); (try clear hi)))
                          go_roundg k3
                          case measure => have := HJ2.out; have := HK2.out; have := HK3.out; omega
                          case rel => exact ⟨(wrap64 (x49_3 + 1)), (by first | rfl | (simp; done) | (simp [*]; done)), H', ⟨by have := HJ2.out; have := HK2.out; have := HK3.out; omega⟩, ⟨by (with_reducible repeat (first | refine blk_drewN ?_ _ | refine blk_drew ?_ | refine blk_alloc ?_ _)); exact BK715.out⟩, ⟨by repeat (first | (with_reducible first | exact HB.out | apply below_alloc | apply pw_below_drewN | apply below_drew1 | refine below_set ?_ GE715.out | refine below_set ?_ GE722.out) | exact HB.out)⟩⟩
                        · replace c30 := Bool.eq_false_iff.mpr c30
                          subst c30
                          have H1 : (some false) = some r := by rw [if_neg (show ¬ (false = true) by decide)] at H; exact H
                          clear H
                          have H := H1
                          clear H1
                          obtain rfl := Option.some.inj H
                          have p721 : 0 ≤ (x49_3 : Int) := of_decide_eq_true (by first | (with_reducible assumption) | assumption)
                          have q721 : x49_3 < (l0_2.length : Int) := of_decide_eq_true (by first | (with_reducible assumption) | assumption)
                          obtain ⟨ad721, A721_1, c721_1, e721, hx721_0, hx721_1, hx721_2, hl721_1, hi721_1⟩ := at_T29 HR0_2.out x49_3 p721 q721
                          cases e721
                          replace hx721_0 := (HB.out.cell (World.block_lt_of_cell? w _ hx721_0)).trans hx721_0
                          replace hx721_1 := (HB.out.cell (World.block_lt_of_cell? w _ hx721_1)).trans hx721_1
                          replace hx721_2 := (HB.out.cell (World.block_lt_of_cell? w _ hx721_2)).trans hx721_2
                          have HR721_1 := Aside0.mk hi721_1
                          have HC721_1 := Aside0.mk hl721_1
                          clear hi721_1 hl721_1
                          replace p721 := eq_true p721
                          replace q721 := eq_true q721
                          go_wp2_with (first | ((with_reducible refine gate_dst (N := 8) rfl ?_); refine box_event ?hg (N := 8) ?hd (cs := #[.int .i64 0, .slice none 0 0, .int .i64 0]) (t := 29) ?hr ?_; (case hd => rfl); (case hg => rfl); (case hr => first | (go_simp; done) | (go_simp; rfl)); intro gb722 hg w36 hbox hb; have n0_ := Aside0.mk (blk_below (g := gb715) (o := .cells #[.int .i64 a0_0, .slice A0_1 l0_1.length c0_1, .slice (some ad721) l0_2.length c0_2] 37 (0, 0)) (by (with_reducible repeat (first | refine blk_drewN ?_ _ | refine blk_drew ?_ | refine blk_alloc ?_ _)); exact BK715.out) hb); have n1_ := Aside0.mk (below_step (by repeat (first | (with_reducible first | exact HB.out | apply below_alloc | apply pw_below_drewN | apply below_drew1 | refine below_set ?_ GE715.out) | exact HB.out)) hb); have n2_ := Aside0.mk (hbox); have n3_ := Aside0.mk ((by rw [hg]; exact (below_size (by repeat (first | (with_reducible first | exact HB.out | apply below_alloc | apply pw_below_drewN | apply below_drew1 | refine below_set ?_ GE715.out) | exact HB.out))) : w.heap.size ≤ gb722)); have n4_ := Aside0.mk ((by rw [hg]; exact (below_size (by repeat (first | (with_reducible first | exact HB.out | apply below_alloc | apply pw_below_drewN | apply below_drew1 | refine below_set ?_ GE715.out) | exact HB.out))) : w.heap.size ≤ gb722)); have n5_ := Aside0.mk ((by rw [hg]; exact Nat.ne_of_lt (blk_lt (g := gb715) (o := .cells #[.int .i64 a0_0, .slice A0_1 l0_1.length c0_1, .slice (some ad721) l0_2.length c0_2] 37 (0, 0)) (by (with_reducible repeat (first | refine blk_drewN ?_ _ | refine blk_drew ?_ | refine blk_alloc ?_ _)); exact BK715.out)) : gb715 ≠ gb722)); have n6_ := Aside0.mk ((by rw [hg]; exact Nat.ne_of_gt (blk_lt (g := gb715) (o := .cells #[.int .i64 a0_0, .slice A0_1 l0_1.length c0_1, .slice (some ad721) l0_2.length c0_2] 37 (0, 0)) (by (with_reducible repeat (first | refine blk_drewN ?_ _ | refine blk_drew ?_ | refine blk_alloc ?_ _)); exact BK715.out)) : gb722 ≠ gb715)); clear BK715; clear HB; have BK715 := n0_; have HB := n1_; have BK722 := n2_; have GW722 := n3_; have GE722 := n4_; have NB715_722 := n5_; have NB722_715 := n6_; clear n0_ n1_ n2_ n3_ n4_ n5_ n6_; clear hb hbox hg; have hnb37 := NB722_715.out; have hnc37 := NB715_722.out; have hcz38_0 : w36.cell? ⟨gb722, 0, none⟩ = some (.int .i64 0) := (blk_cell BK722.out 0).trans rfl; have hcz38_1 : w36.cell? ⟨gb722, 1, none⟩ = some (.slice none 0 0) := (blk_cell BK722.out 1).trans rfl; have hcz38_2 : w36.cell? ⟨gb722, 2, none⟩ = some (.int .i64 0) := (blk_cell BK722.out 2).trans rfl; have hfz38_0 := blk_frozen BK722.out 0; have hfz38_1 := blk_frozen BK722.out 1; have hfz38_2 := blk_frozen BK722.out 2; have hcz39_0 : w36.cell? ⟨gb715, 0, none⟩ = some (.int .i64 a0_0) := (blk_cell BK715.out 0).trans rfl; have hcz39_1 : w36.cell? ⟨gb715, 1, none⟩ = some (.slice A0_1 l0_1.length c0_1) := (blk_cell BK715.out 1).trans rfl; have hcz39_2 : w36.cell? ⟨gb715, 2, none⟩ = some (.slice (some ad721) l0_2.length c0_2) := (blk_cell BK715.out 2).trans rfl; have hfz39_0 := blk_frozen BK715.out 0; have hfz39_1 := blk_frozen BK715.out 1; have hfz39_2 := blk_frozen BK715.out 2) | ((with_reducible refine gate_callee (f := 95) rfl ?_); refine goesL_ (some 57) rfl rfl Try.func95 (by kernel_rfl) rfl #[.agg #[.int .i64 ((rd_T29 l0_2 x49_3).f0), .slice A721_1 ((rd_T29 l0_2 x49_3).f1).length c721_1, .int .i64 ((rd_T29 l0_2 x49_3).f2)], .slice A1 l1.length c1, .int .i64 a0_0] rfl (by (try simp only [List.map_toArray, List.map_cons, List.map_nil]); first | done | rfl | (simp only [List.length_drop, List.length_take]; rfl)) ?_; (with_reducible refine (impl_canHold.calls k3 ((rd_T29 l0_2 x49_3).f0) _ _ ((rd_T29 l0_2 x49_3).f1) ((rd_T29 l0_2 x49_3).f2) _ _ l1 a0_0 false _ ?side1 ?side2 ?side3 ?side4 A29.out).mono ?_); (case side1 => exact Kd.C_below HR721_1.out (by repeat (first | (with_reducible first | exact HB.out | apply below_alloc | apply pw_below_drewN | apply below_drew1 | refine below_set ?_ GE715.out | refine below_set ?_ GE722.out) | exact HB.out))); (case side2 => exact HC721_1.out); (case side3 => exact Kd.C_below HR1.out (by repeat (first | (with_reducible first | exact HB.out | apply below_alloc | apply pw_below_drewN | apply below_drew1 | refine below_set ?_ GE715.out | refine below_set ?_ GE722.out) | exact HB.out))); (case side4 => exact HC1.out); rintro e w40 ⟨rfl, hb⟩; refine ⟨_, rfl, ?_⟩; have n0_ := Aside0.mk (blk_below (g := gb715) (o := .cells #[.int .i64 a0_0, .slice A0_1 l0_1.length c0_1, .slice (some ad721) l0_2.length c0_2] 37 (0, 0)) (by (with_reducible repeat (first | refine blk_drewN ?_ _ | refine blk_drew ?_ | refine blk_alloc ?_ _)); refine blk_far ?_ NB715_722.out _; (with_reducible repeat (first | refine blk_drewN ?_ _ | refine blk_drew ?_ | refine blk_alloc ?_ _)); refine blk_far ?_ NB715_722.out _; (with_reducible repeat (first | refine blk_drewN ?_ _ | refine blk_drew ?_ | refine blk_alloc ?_ _)); refine blk_far ?_ NB715_722.out _; (with_reducible repeat (first | refine blk_drewN ?_ _ | refine blk_drew ?_ | refine blk_alloc ?_ _)); exact BK715.out) hb); have n1_ := Aside0.mk (blk_below (g := gb722) (o := .cells #[.int .i64 ((rd_T29 l0_2 x49_3).f0), .slice A721_1 ((rd_T29 l0_2 x49_3).f1).length c721_1, .int .i64 ((rd_T29 l0_2 x49_3).f2)] 29 (0, 0)) (by (with_reducible repeat (first | refine blk_drewN ?_ _ | refine blk_drew ?_ | refine blk_alloc ?_ _)); refine blk_put (cs := #[.int .i64 ((rd_T29 l0_2 x49_3).f0), .slice A721_1 ((rd_T29 l0_2 x49_3).f1).length c721_1, .int .i64 0]) ?_ 2 _ rfl; (with_reducible repeat (first | refine blk_drewN ?_ _ | refine blk_drew ?_ | refine blk_alloc ?_ _)); refine blk_put (cs := #[.int .i64 ((rd_T29 l0_2 x49_3).f0), .slice none 0 0, .int .i64 0]) ?_ 1 _ rfl; (with_reducible repeat (first | refine blk_drewN ?_ _ | refine blk_drew ?_ | refine blk_alloc ?_ _)); refine blk_put (cs := #[.int .i64 0, .slice none 0 0, .int .i64 0]) ?_ 0 _ rfl; (with_reducible repeat (first | refine blk_drewN ?_ _ | refine blk_drew ?_ | refine blk_alloc ?_ _)); exact BK722.out) hb); have n2_ := Aside0.mk (below_step (by repeat (first | (with_reducible first | exact HB.out | apply below_alloc | apply pw_below_drewN | apply below_drew1 | refine below_set ?_ GE715.out | refine below_set ?_ GE722.out) | exact HB.out)) hb); clear BK715; clear BK722; clear HB; have BK715 := n0_; have BK722 := n1_; have HB := n2_; clear n0_ n1_ n2_; (try clear hb); (try clear hb2); (try clear hk); (try clear hi)))
                          go_ret
                          exact ⟨by first | rfl | (simp [errW_none, errW_some] <;> rfl) | (simp [*, errW_none, errW_some] <;> rfl), by repeat (first | (with_reducible first | exact HB.out | apply below_alloc | apply pw_below_drewN | apply below_drew1 | refine below_set ?_ GE715.out | refine below_set ?_ GE722.out) | exact HB.out)⟩
                      · rw [if_neg c28] at H
                        exact absurd H (by simp)
                    · rw [if_neg c27] at H
                      exact absurd H (by simp)
                  · rw [if_neg c26] at H
                    have c26b0 : decide (x49_3 < (l0_2.length : Int)) = false := decide_eq_false c26
                    clear c26
                    obtain rfl := Option.some.inj H
                    go_wp2
                    go_ret
                    exact ⟨by first | rfl | (simp [errW_none, errW_some] <;> rfl) | (simp [*, errW_none, errW_some] <;> rfl), by repeat (first | (with_reducible first | exact HB.out | apply below_alloc | apply pw_below_drewN | apply below_drew1 | refine below_set ?_ GE715.out) | exact HB.out)⟩
def impl_PuzzleSolved.f (k : Nat) (a0_0 : Int) (l0_1 : List Int) (l0_2 : List (S29)) (l1 : List Int) : Option (Bool) := (impl_PuzzleFits.f k a0_0 l0_1 l0_2 l1).bind fun t725 => (if t725 = true then ((impl_GridFilled.f k l1 a0_0).bind fun t726 => (some (t726 == (l1.length : Int)))) else (some false))
set_option maxHeartbeats 8000000 in
set_option maxRecDepth 100000 in
theorem impl_PuzzleSolved.calls (k : Nat) (a0_0 : Int) (A0_1 : Option Addr) (c0_1 : Nat) (l0_1 : List Int) (A0_2 : Option Addr) (c0_2 : Nat) (l0_2 : List (S29)) (A1 : Option Addr) (c1 : Nat) (l1 : List Int) (r : Bool) (w : World) (hr0_1 : Kd.C (Kd.int .i64) w A0_1 l0_1.length l0_1) (hc0_1 : l0_1.length ≤ c0_1) (hr0_2 : Kd.C k29 w A0_2 l0_2.length l0_2) (hc0_2 : l0_2.length ≤ c0_2) (hr1 : Kd.C (Kd.int .i64) w A1 l1.length l1) (hc1 : l1.length ≤ c1) (h : impl_PuzzleSolved.f k a0_0 l0_1 l0_2 l1 = some r) :
    Calls Try.prog 20 #[.agg #[.int .i64 a0_0, .slice A0_1 l0_1.length c0_1, .slice A0_2 l0_2.length c0_2], .slice A1 l1.length c1] w fun e w' => e = .returned (.bool r) ∧ Below w.heap.size w w' := by
  have hu37 := Try.underlying37
  have HR0_1 := Aside0.mk hr0_1
  have HC0_1 := Aside0.mk hc0_1
  clear hr0_1 hc0_1
  have HR0_2 := Aside0.mk hr0_2
  have HC0_2 := Aside0.mk hc0_2
  clear hr0_2 hc0_2
  have HR1 := Aside0.mk hr1
  have HC1 := Aside0.mk hc1
  clear hr1 hc1
  have HB := Aside0.mk (Below.refl w.heap.size w)
  have H : ((impl_PuzzleFits.f k a0_0 l0_1 l0_2 l1).bind fun t725 => (if t725 = true then ((impl_GridFilled.f k l1 a0_0).bind fun t726 => (some (t726 == (l1.length : Int)))) else (some false))) = some r := h
  clear h
  replace H := Option.bind_eq_some_iff.mp H
  obtain ⟨t725, A30, H⟩ := H
  replace H : (if t725 = true then ((impl_GridFilled.f k l1 a0_0).bind fun t726 => (some (t726 == (l1.length : Int)))) else (some false)) = some r := H
  have A3 := Aside0.mk A30
  clear A30
  by_cases c4 : t725 = true
  · subst c4
    have H1 : ((impl_GridFilled.f k l1 a0_0).bind fun t726 => (some (t726 == (l1.length : Int)))) = some r := by rw [if_pos rfl] at H; exact H
    clear H
    have H := H1
    clear H1
    replace H := Option.bind_eq_some_iff.mp H
    obtain ⟨t726, A50, H⟩ := H
    replace H : (some (t726 == (l1.length : Int))) = some r := H
    have A5 := Aside0.mk A50
    clear A50
    obtain rfl := Option.some.inj H
    go_enter Try.func20, Try.ntmps20
    go_wp2_with (first | ((with_reducible refine gate_dst (N := 2) rfl ?_); (try (refine gate_guard (by rfl) ?_; dsimp only)); refine box_event ?hg (N := 2) ?hd (cs := #[.int .i64 a0_0, .slice A0_1 l0_1.length c0_1, .slice A0_2 l0_2.length c0_2]) (t := 37) ?hr ?_; (case hd => rfl); (case hg => rfl); (case hr => first | (go_simp; done) | (go_simp; rfl)); intro gb724 hg w6 hbox hb; have n0_ := Aside0.mk (below_step (by repeat (first | (with_reducible first | exact HB.out | apply below_alloc | apply pw_below_drewN | apply below_drew1) | exact HB.out)) hb); have n1_ := Aside0.mk (hbox); have n2_ := Aside0.mk ((by rw [hg]; exact (below_size (by repeat (first | (with_reducible first | exact HB.out | apply below_alloc | apply pw_below_drewN | apply below_drew1) | exact HB.out))) : w.heap.size ≤ gb724)); have n3_ := Aside0.mk ((by rw [hg]; exact (below_size (by repeat (first | (with_reducible first | exact HB.out | apply below_alloc | apply pw_below_drewN | apply below_drew1) | exact HB.out))) : w.heap.size ≤ gb724)); clear HB; have HB := n0_; have BK724 := n1_; have GW724 := n2_; have GE724 := n3_; clear n0_ n1_ n2_ n3_; clear hb hbox hg; have hcz7_0 : w6.cell? ⟨gb724, 0, none⟩ = some (.int .i64 a0_0) := (blk_cell BK724.out 0).trans rfl; have hcz7_1 : w6.cell? ⟨gb724, 1, none⟩ = some (.slice A0_1 l0_1.length c0_1) := (blk_cell BK724.out 1).trans rfl; have hcz7_2 : w6.cell? ⟨gb724, 2, none⟩ = some (.slice A0_2 l0_2.length c0_2) := (blk_cell BK724.out 2).trans rfl; have hfz7_0 := blk_frozen BK724.out 0; have hfz7_1 := blk_frozen BK724.out 1; have hfz7_2 := blk_frozen BK724.out 2) | ((with_reducible refine gate_callee (f := 60) rfl ?_); refine goesL_ (some 7) rfl rfl Try.func60 (by kernel_rfl) rfl #[.agg #[.int .i64 a0_0, .slice A0_1 l0_1.length c0_1, .slice A0_2 l0_2.length c0_2], .slice A1 l1.length c1] rfl (by (try simp only [List.map_toArray, List.map_cons, List.map_nil]); first | done | rfl | (simp only [List.length_drop, List.length_take]; rfl)) ?_; (with_reducible refine (impl_PuzzleFits.calls k a0_0 _ _ l0_1 _ _ l0_2 _ _ l1 true _ ?side1 ?side2 ?side3 ?side4 ?side5 ?side6 A3.out).mono ?_); (case side1 => repeat (first | exact (Kd.C_below HR0_1.out HB.out) | (with_reducible refine Kd.C_alloc ?_ _) | (with_reducible refine Kd.C_drewN ?_ _) | (with_reducible refine Kd.C_drew ?_))); (case side2 => exact HC0_1.out); (case side3 => repeat (first | exact (Kd.C_below HR0_2.out HB.out) | (with_reducible refine Kd.C_alloc ?_ _) | (with_reducible refine Kd.C_drewN ?_ _) | (with_reducible refine Kd.C_drew ?_))); (case side4 => exact HC0_2.out); (case side5 => repeat (first | exact (Kd.C_below HR1.out HB.out) | (with_reducible refine Kd.C_alloc ?_ _) | (with_reducible refine Kd.C_drewN ?_ _) | (with_reducible refine Kd.C_drew ?_))); (case side6 => exact HC1.out); rintro e w8 ⟨rfl, hb⟩; refine ⟨_, rfl, ?_⟩; have n0_ := Aside0.mk (blk_below (g := gb724) (o := .cells #[.int .i64 a0_0, .slice A0_1 l0_1.length c0_1, .slice A0_2 l0_2.length c0_2] 37 (0, 0)) (by (with_reducible repeat (first | refine blk_drewN ?_ _ | refine blk_drew ?_ | refine blk_alloc ?_ _)); exact BK724.out) hb); have n1_ := Aside0.mk (below_step (by repeat (first | (with_reducible first | exact HB.out | apply below_alloc | apply pw_below_drewN | apply below_drew1 | refine below_set ?_ GE724.out) | exact HB.out)) hb); clear BK724; clear HB; have BK724 := n0_; have HB := n1_; clear n0_ n1_; (try clear hb); (try clear hb2); (try clear hk); (try clear hi); have hcz9_0 : w8.cell? ⟨gb724, 0, none⟩ = some (.int .i64 a0_0) := (blk_cell BK724.out 0).trans rfl; have hcz9_1 : w8.cell? ⟨gb724, 1, none⟩ = some (.slice A0_1 l0_1.length c0_1) := (blk_cell BK724.out 1).trans rfl; have hcz9_2 : w8.cell? ⟨gb724, 2, none⟩ = some (.slice A0_2 l0_2.length c0_2) := (blk_cell BK724.out 2).trans rfl; have hfz9_0 := blk_frozen BK724.out 0; have hfz9_1 := blk_frozen BK724.out 1; have hfz9_2 := blk_frozen BK724.out 2) | (go_at_call 56; (with_reducible refine (impl_GridFilled.calls k _ _ l1 a0_0 t726 _ ?side1 ?side2 A5.out).mono ?_); (case side1 => repeat (first | exact (Kd.C_below HR1.out HB.out) | (with_reducible refine Kd.C_alloc ?_ _) | (with_reducible refine Kd.C_drewN ?_ _) | (with_reducible refine Kd.C_drew ?_))); (case side2 => exact HC1.out); rintro e w' ⟨rfl, ⟨nd, rfl⟩⟩))
    go_ret
    exact ⟨by first | rfl | (simp [errW_none, errW_some] <;> rfl) | (simp [*, errW_none, errW_some] <;> rfl), by repeat (first | (with_reducible first | exact HB.out | apply below_alloc | apply pw_below_drewN | apply below_drew1 | refine below_set ?_ GE724.out) | exact HB.out)⟩
  · replace c4 := Bool.eq_false_iff.mpr c4
    subst c4
    have H1 : (some false) = some r := by rw [if_neg (show ¬ (false = true) by decide)] at H; exact H
    clear H
    have H := H1
    clear H1
    obtain rfl := Option.some.inj H
    go_enter Try.func20, Try.ntmps20
    go_wp2_with (first | ((with_reducible refine gate_dst (N := 2) rfl ?_); (try (refine gate_guard (by rfl) ?_; dsimp only)); refine box_event ?hg (N := 2) ?hd (cs := #[.int .i64 a0_0, .slice A0_1 l0_1.length c0_1, .slice A0_2 l0_2.length c0_2]) (t := 37) ?hr ?_; (case hd => rfl); (case hg => rfl); (case hr => first | (go_simp; done) | (go_simp; rfl)); intro gb724 hg w10 hbox hb; have n0_ := Aside0.mk (below_step (by repeat (first | (with_reducible first | exact HB.out | apply below_alloc | apply pw_below_drewN | apply below_drew1) | exact HB.out)) hb); have n1_ := Aside0.mk (hbox); have n2_ := Aside0.mk ((by rw [hg]; exact (below_size (by repeat (first | (with_reducible first | exact HB.out | apply below_alloc | apply pw_below_drewN | apply below_drew1) | exact HB.out))) : w.heap.size ≤ gb724)); have n3_ := Aside0.mk ((by rw [hg]; exact (below_size (by repeat (first | (with_reducible first | exact HB.out | apply below_alloc | apply pw_below_drewN | apply below_drew1) | exact HB.out))) : w.heap.size ≤ gb724)); clear HB; have HB := n0_; have BK724 := n1_; have GW724 := n2_; have GE724 := n3_; clear n0_ n1_ n2_ n3_; clear hb hbox hg; have hcz11_0 : w10.cell? ⟨gb724, 0, none⟩ = some (.int .i64 a0_0) := (blk_cell BK724.out 0).trans rfl; have hcz11_1 : w10.cell? ⟨gb724, 1, none⟩ = some (.slice A0_1 l0_1.length c0_1) := (blk_cell BK724.out 1).trans rfl; have hcz11_2 : w10.cell? ⟨gb724, 2, none⟩ = some (.slice A0_2 l0_2.length c0_2) := (blk_cell BK724.out 2).trans rfl; have hfz11_0 := blk_frozen BK724.out 0; have hfz11_1 := blk_frozen BK724.out 1; have hfz11_2 := blk_frozen BK724.out 2) | ((with_reducible refine gate_callee (f := 60) rfl ?_); refine goesL_ (some 7) rfl rfl Try.func60 (by kernel_rfl) rfl #[.agg #[.int .i64 a0_0, .slice A0_1 l0_1.length c0_1, .slice A0_2 l0_2.length c0_2], .slice A1 l1.length c1] rfl (by (try simp only [List.map_toArray, List.map_cons, List.map_nil]); first | done | rfl | (simp only [List.length_drop, List.length_take]; rfl)) ?_; (with_reducible refine (impl_PuzzleFits.calls k a0_0 _ _ l0_1 _ _ l0_2 _ _ l1 false _ ?side1 ?side2 ?side3 ?side4 ?side5 ?side6 A3.out).mono ?_); (case side1 => repeat (first | exact (Kd.C_below HR0_1.out HB.out) | (with_reducible refine Kd.C_alloc ?_ _) | (with_reducible refine Kd.C_drewN ?_ _) | (with_reducible refine Kd.C_drew ?_))); (case side2 => exact HC0_1.out); (case side3 => repeat (first | exact (Kd.C_below HR0_2.out HB.out) | (with_reducible refine Kd.C_alloc ?_ _) | (with_reducible refine Kd.C_drewN ?_ _) | (with_reducible refine Kd.C_drew ?_))); (case side4 => exact HC0_2.out); (case side5 => repeat (first | exact (Kd.C_below HR1.out HB.out) | (with_reducible refine Kd.C_alloc ?_ _) | (with_reducible refine Kd.C_drewN ?_ _) | (with_reducible refine Kd.C_drew ?_))); (case side6 => exact HC1.out); rintro e w12 ⟨rfl, hb⟩; refine ⟨_, rfl, ?_⟩; have n0_ := Aside0.mk (blk_below (g := gb724) (o := .cells #[.int .i64 a0_0, .slice A0_1 l0_1.length c0_1, .slice A0_2 l0_2.length c0_2] 37 (0, 0)) (by (with_reducible repeat (first | refine blk_drewN ?_ _ | refine blk_drew ?_ | refine blk_alloc ?_ _)); exact BK724.out) hb); have n1_ := Aside0.mk (below_step (by repeat (first | (with_reducible first | exact HB.out | apply below_alloc | apply pw_below_drewN | apply below_drew1 | refine below_set ?_ GE724.out) | exact HB.out)) hb); clear BK724; clear HB; have BK724 := n0_; have HB := n1_; clear n0_ n1_; (try clear hb); (try clear hb2); (try clear hk); (try clear hi)))
    go_ret
    exact ⟨by first | rfl | (simp [errW_none, errW_some] <;> rfl) | (simp [*, errW_none, errW_some] <;> rfl), by repeat (first | (with_reducible first | exact HB.out | apply below_alloc | apply pw_below_drewN | apply below_drew1 | refine below_set ?_ GE724.out) | exact HB.out)⟩
end Go.Proofs.Ytbcikbekdhdpaaa.Q
end
section
namespace Go.Proofs.Ytbcikbekdhdpaaa.Q
open Go.RowKit Go.Proofs.YtbcikbekdhdpaaaW.PrintWords Go.Proofs.YtbcikbekdhdpaaaW.PrintLast Go.Proofs.YtbcikbekdhdpaaaW.PrintMore
attribute [local go_sem] max2_int min2_int max_two min_two max_three min_three max_four min_four   -- for this text's walks alone
set_option linter.unusedVariables false
set_option linter.unusedSimpArgs false
def laws_FnRulesGrid.f (k : Nat) (l0 : List Int) : Option (Bool) := if (l0.length : Int) > 1048576 then (some true) else ((spec_DrawApartRules.f k l0).bind fun bt727 => ((impl_ApartRules.f k bt727.1 bt727.2.1 bt727.2.2).bind fun t732 => ((spec_ApartRules.f k bt727.1 bt727.2.1 bt727.2.2).bind fun t735 => (if (t732.length : Int) = (t735.length : Int) then ((spec_SquareSolved.f k bt727.1 bt727.2.1).bind fun t738 => (if t738 = true then ((impl_LessRules.f k bt727.1 bt727.2.1 6).bind fun t740 => ((some (([] : List (S29)) : List (S29))).bind fun y743 => (if y743.length + t740.length < 3518437208883 then ((some (y743 ++ t740 : List (S29))).bind fun y746 => (if y746.length + t732.length < 3518437208883 then ((some (y746 ++ t732 : List (S29))).bind fun y749 => (if (y749.length : Int) > 20 then (some true) else (if 0 ≤ (bt727.1.length : Int) then (if ((bt727.1.length : Int) : Int).toNat ≤ 35184372088832 then ((impl_PuzzleSolved.f k bt727.2.1 (List.replicate ((bt727.1.length : Int) : Int).toNat 0) y749 bt727.1).bind fun t755 => (some t755)) else (none)) else (none)))) else (none))) else (none)))) else ((laws_alive.f k).bind fun t739 => (some t739)))) else (some false)))))
set_option maxHeartbeats 8000000 in
set_option maxRecDepth 100000 in
theorem laws_FnRulesGrid.calls (k : Nat) (A0 : Option Addr) (c0 : Nat) (l0 : List Int) (r : Bool) (w : World) (hr0 : Kd.C (Kd.int .u8) w A0 l0.length l0) (hc0 : l0.length ≤ c0) (h : laws_FnRulesGrid.f k l0 = some r) :
    Calls Try.prog 5 #[.slice A0 l0.length c0] w fun e w' => e = .returned (.bool r) ∧ Below w.heap.size w w' := by
  have hu37 := Try.underlying37
  have HR0 := Aside0.mk hr0
  have HC0 := Aside0.mk hc0
  clear hr0 hc0
  have HB := Aside0.mk (Below.refl w.heap.size w)
  have H : (if (l0.length : Int) > 1048576 then (some true) else ((spec_DrawApartRules.f k l0).bind fun bt727 => ((impl_ApartRules.f k bt727.1 bt727.2.1 bt727.2.2).bind fun t732 => ((spec_ApartRules.f k bt727.1 bt727.2.1 bt727.2.2).bind fun t735 => (if (t732.length : Int) = (t735.length : Int) then ((spec_SquareSolved.f k bt727.1 bt727.2.1).bind fun t738 => (if t738 = true then ((impl_LessRules.f k bt727.1 bt727.2.1 6).bind fun t740 => ((some (([] : List (S29)) : List (S29))).bind fun y743 => (if y743.length + t740.length < 3518437208883 then ((some (y743 ++ t740 : List (S29))).bind fun y746 => (if y746.length + t732.length < 3518437208883 then ((some (y746 ++ t732 : List (S29))).bind fun y749 => (if (y749.length : Int) > 20 then (some true) else (if 0 ≤ (bt727.1.length : Int) then (if ((bt727.1.length : Int) : Int).toNat ≤ 35184372088832 then ((impl_PuzzleSolved.f k bt727.2.1 (List.replicate ((bt727.1.length : Int) : Int).toNat 0) y749 bt727.1).bind fun t755 => (some t755)) else (none)) else (none)))) else (none))) else (none)))) else ((laws_alive.f k).bind fun t739 => (some t739)))) else (some false)))))) = some r := h
  clear h
  by_cases c2 : (l0.length : Int) > 1048576
  · rw [if_pos c2] at H
    have c2b0 : decide (1048576 < (l0.length : Int)) = true := decide_eq_true c2
    have c2b1 : decide (1048576 < l0.length) = true := decide_eq_true (by omega)
    clear c2
    obtain rfl := Option.some.inj H
    go_enter Try.func5, Try.ntmps5
    go_wp2
    go_ret
    exact ⟨by first | rfl | (simp [errW_none, errW_some] <;> rfl) | (simp [*, errW_none, errW_some] <;> rfl), by repeat (first | (with_reducible first | exact HB.out | apply below_alloc | apply pw_below_drewN | apply below_drew1) | exact HB.out)⟩
  · rw [if_neg c2] at H
    have c2b0 : decide (1048576 < (l0.length : Int)) = false := decide_eq_false c2
    have c2b1 : decide (1048576 < l0.length) = false := decide_eq_false (by omega)
    clear c2
    replace H := Option.bind_eq_some_iff.mp H
    obtain ⟨⟨t727, t728, t729⟩, A30, H⟩ := H
    replace H : ((impl_ApartRules.f k t727 t728 t729).bind fun t732 => ((spec_ApartRules.f k t727 t728 t729).bind fun t735 => (if (t732.length : Int) = (t735.length : Int) then ((spec_SquareSolved.f k t727 t728).bind fun t738 => (if t738 = true then ((impl_LessRules.f k t727 t728 6).bind fun t740 => ((some (([] : List (S29)) : List (S29))).bind fun y743 => (if y743.length + t740.length < 3518437208883 then ((some (y743 ++ t740 : List (S29))).bind fun y746 => (if y746.length + t732.length < 3518437208883 then ((some (y746 ++ t732 : List (S29))).bind fun y749 => (if (y749.length : Int) > 20 then (some true) else (if 0 ≤ (t727.length : Int) then (if ((t727.length : Int) : Int).toNat ≤ 35184372088832 then ((impl_PuzzleSolved.f k t728 (List.replicate ((t727.length : Int) : Int).toNat 0) y749 t727).bind fun t755 => (some t755)) else (none)) else (none)))) else (none))) else (none)))) else ((laws_alive.f k).bind fun t739 => (some t739)))) else (some false)))) = some r := H
    have A3 := Aside0.mk A30
    clear A30
    replace H := Option.bind_eq_some_iff.mp H
    obtain ⟨t732, A40, H⟩ := H
    replace H : ((spec_ApartRules.f k t727 t728 t729).bind fun t735 => (if (t732.length : Int) = (t735.length : Int) then ((spec_SquareSolved.f k t727 t728).bind fun t738 => (if t738 = true then ((impl_LessRules.f k t727 t728 6).bind fun t740 => ((some (([] : List (S29)) : List (S29))).bind fun y743 => (if y743.length + t740.length < 3518437208883 then ((some (y743 ++ t740 : List (S29))).bind fun y746 => (if y746.length + t732.length < 3518437208883 then ((some (y746 ++ t732 : List (S29))).bind fun y749 => (if (y749.length : Int) > 20 then (some true) else (if 0 ≤ (t727.length : Int) then (if ((t727.length : Int) : Int).toNat ≤ 35184372088832 then ((impl_PuzzleSolved.f k t728 (List.replicate ((t727.length : Int) : Int).toNat 0) y749 t727).bind fun t755 => (some t755)) else (none)) else (none)))) else (none))) else (none)))) else ((laws_alive.f k).bind fun t739 => (some t739)))) else (some false))) = some r := H
    have A4 := Aside0.mk A40
    clear A40
    replace H := Option.bind_eq_some_iff.mp H
    obtain ⟨t735, A50, H⟩ := H
    replace H : (if (t732.length : Int) = (t735.length : Int) then ((spec_SquareSolved.f k t727 t728).bind fun t738 => (if t738 = true then ((impl_LessRules.f k t727 t728 6).bind fun t740 => ((some (([] : List (S29)) : List (S29))).bind fun y743 => (if y743.length + t740.length < 3518437208883 then ((some (y743 ++ t740 : List (S29))).bind fun y746 => (if y746.length + t732.length < 3518437208883 then ((some (y746 ++ t732 : List (S29))).bind fun y749 => (if (y749.length : Int) > 20 then (some true) else (if 0 ≤ (t727.length : Int) then (if ((t727.length : Int) : Int).toNat ≤ 35184372088832 then ((impl_PuzzleSolved.f k t728 (List.replicate ((t727.length : Int) : Int).toNat 0) y749 t727).bind fun t755 => (some t755)) else (none)) else (none)))) else (none))) else (none)))) else ((laws_alive.f k).bind fun t739 => (some t739)))) else (some false)) = some r := H
    have A5 := Aside0.mk A50
    clear A50
    by_cases c6 : (t732.length : Int) = (t735.length : Int)
    · rw [if_pos c6] at H
      have c6b0 : ((t732.length : Int) == (t735.length : Int)) = true := beq_iff_eq.mpr c6
      have c6b1 : ((t732.length : Int) != (t735.length : Int)) = false := bne_eq_false_iff_eq.mpr c6
      have c6b2 : (t732.length == t735.length) = true := by first | simpa using c6 | (simp at c6 ⊢; omega)
      clear c6
      replace H := Option.bind_eq_some_iff.mp H
      obtain ⟨t738, A70, H⟩ := H
      replace H : (if t738 = true then ((impl_LessRules.f k t727 t728 6).bind fun t740 => ((some (([] : List (S29)) : List (S29))).bind fun y743 => (if y743.length + t740.length < 3518437208883 then ((some (y743 ++ t740 : List (S29))).bind fun y746 => (if y746.length + t732.length < 3518437208883 then ((some (y746 ++ t732 : List (S29))).bind fun y749 => (if (y749.length : Int) > 20 then (some true) else (if 0 ≤ (t727.length : Int) then (if ((t727.length : Int) : Int).toNat ≤ 35184372088832 then ((impl_PuzzleSolved.f k t728 (List.replicate ((t727.length : Int) : Int).toNat 0) y749 t727).bind fun t755 => (some t755)) else (none)) else (none)))) else (none))) else (none)))) else ((laws_alive.f k).bind fun t739 => (some t739))) = some r := H
      have A7 := Aside0.mk A70
      clear A70
      by_cases c8 : t738 = true
      · subst c8
        have H1 : ((impl_LessRules.f k t727 t728 6).bind fun t740 => ((some (([] : List (S29)) : List (S29))).bind fun y743 => (if y743.length + t740.length < 3518437208883 then ((some (y743 ++ t740 : List (S29))).bind fun y746 => (if y746.length + t732.length < 3518437208883 then ((some (y746 ++ t732 : List (S29))).bind fun y749 => (if (y749.length : Int) > 20 then (some true) else (if 0 ≤ (t727.length : Int) then (if ((t727.length : Int) : Int).toNat ≤ 35184372088832 then ((impl_PuzzleSolved.f k t728 (List.replicate ((t727.length : Int) : Int).toNat 0) y749 t727).bind fun t755 => (some t755)) else (none)) else (none)))) else (none))) else (none)))) = some r := by rw [if_pos rfl] at H; exact H
        clear H
        have H := H1
        clear H1
        replace H := Option.bind_eq_some_iff.mp H
        obtain ⟨t740, A90, H⟩ := H
        replace H : ((some (([] : List (S29)) : List (S29))).bind fun y743 => (if y743.length + t740.length < 3518437208883 then ((some (y743 ++ t740 : List (S29))).bind fun y746 => (if y746.length + t732.length < 3518437208883 then ((some (y746 ++ t732 : List (S29))).bind fun y749 => (if (y749.length : Int) > 20 then (some true) else (if 0 ≤ (t727.length : Int) then (if ((t727.length : Int) : Int).toNat ≤ 35184372088832 then ((impl_PuzzleSolved.f k t728 (List.replicate ((t727.length : Int) : Int).toNat 0) y749 t727).bind fun t755 => (some t755)) else (none)) else (none)))) else (none))) else (none))) = some r := H
        have A9 := Aside0.mk A90
        clear A90
        obtain ⟨y743, hy743⟩ : ∃ y_ : List (S29), y_ = (([] : List (S29))) := ⟨_, rfl⟩
        replace H : (if y743.length + t740.length < 3518437208883 then ((some (y743 ++ t740 : List (S29))).bind fun y746 => (if y746.length + t732.length < 3518437208883 then ((some (y746 ++ t732 : List (S29))).bind fun y749 => (if (y749.length : Int) > 20 then (some true) else (if 0 ≤ (t727.length : Int) then (if ((t727.length : Int) : Int).toNat ≤ 35184372088832 then ((impl_PuzzleSolved.f k t728 (List.replicate ((t727.length : Int) : Int).toNat 0) y749 t727).bind fun t755 => (some t755)) else (none)) else (none)))) else (none))) else (none)) = some r := by first | (rw [hy743]; with_reducible exact H) | (have H2_ := (Option.bind_some _ _).symm.trans H; rw [hy743]; with_reducible exact H2_) | (have H2_ := (Option.bind_some _ _).symm.trans H; with_reducible exact H2_) | with_reducible exact H | (rw [hy743]; exact H) | exact H
        have Ny743 := Aside0.mk hy743
        clear hy743
        by_cases c10 : y743.length + t740.length < 3518437208883
        · rw [if_pos c10] at H
          have LMc10 := Aside0.mk c10
          clear c10
          obtain ⟨y746, hy746⟩ : ∃ y_ : List (S29), y_ = (y743 ++ t740) := ⟨_, rfl⟩
          replace H : (if y746.length + t732.length < 3518437208883 then ((some (y746 ++ t732 : List (S29))).bind fun y749 => (if (y749.length : Int) > 20 then (some true) else (if 0 ≤ (t727.length : Int) then (if ((t727.length : Int) : Int).toNat ≤ 35184372088832 then ((impl_PuzzleSolved.f k t728 (List.replicate ((t727.length : Int) : Int).toNat 0) y749 t727).bind fun t755 => (some t755)) else (none)) else (none)))) else (none)) = some r := by first | (rw [hy746]; with_reducible exact H) | (have H2_ := (Option.bind_some _ _).symm.trans H; rw [hy746]; with_reducible exact H2_) | (have H2_ := (Option.bind_some _ _).symm.trans H; with_reducible exact H2_) | with_reducible exact H | (rw [hy746]; exact H) | exact H
          have Ny746 := Aside0.mk hy746
          clear hy746
          by_cases c11 : y746.length + t732.length < 3518437208883
          · rw [if_pos c11] at H
            have LMc11 := Aside0.mk c11
            clear c11
            obtain ⟨y749, hy749⟩ : ∃ y_ : List (S29), y_ = (y746 ++ t732) := ⟨_, rfl⟩
            replace H : (if (y749.length : Int) > 20 then (some true) else (if 0 ≤ (t727.length : Int) then (if ((t727.length : Int) : Int).toNat ≤ 35184372088832 then ((impl_PuzzleSolved.f k t728 (List.replicate ((t727.length : Int) : Int).toNat 0) y749 t727).bind fun t755 => (some t755)) else (none)) else (none))) = some r := by first | (rw [hy749]; with_reducible exact H) | (have H2_ := (Option.bind_some _ _).symm.trans H; rw [hy749]; with_reducible exact H2_) | (have H2_ := (Option.bind_some _ _).symm.trans H; with_reducible exact H2_) | with_reducible exact H | (rw [hy749]; exact H) | exact H
            have Ny749 := Aside0.mk hy749
            clear hy749
            by_cases c12 : (y749.length : Int) > 20
            · rw [if_pos c12] at H
              have c12b0 : decide (20 < (y749.length : Int)) = true := decide_eq_true c12
              have c12b1 : decide (20 < y749.length) = true := decide_eq_true (by omega)
              clear c12
              obtain rfl := Option.some.inj H
              go_enter Try.func5, Try.ntmps5
              go_wp2_with (first | ((with_reducible refine gate_callee (f := 10) rfl ?_); refine goesL_ (some 14) rfl rfl Try.func10 (by kernel_rfl) rfl #[.slice A0 l0.length c0] rfl (by (try simp only [List.map_toArray, List.map_cons, List.map_nil]); first | done | rfl | (simp only [List.length_drop, List.length_take]; rfl)) ?_; (with_reducible refine (spec_DrawApartRules.calls k _ _ l0 t727 t728 t729 _ ?side1 ?side2 A3.out).mono ?_); (case side1 => repeat (first | exact HR0.out | (with_reducible refine Kd.C_alloc ?_ _) | (with_reducible refine Kd.C_drewN ?_ _) | (with_reducible refine Kd.C_drew ?_))); (case side2 => exact HC0.out); rintro e w13 ⟨v730, rfl, ho0, hb⟩; refine ⟨_, rfl, ?_⟩; have n0_ := Aside0.mk (Kd.Q_lower ho0 (below_size (by repeat (first | (with_reducible first | exact HB.out | apply below_alloc | apply pw_below_drewN | apply below_drew1) | exact HB.out)))); have n1_ := Aside0.mk (below_step (by repeat (first | (with_reducible first | exact HB.out | apply below_alloc | apply pw_below_drewN | apply below_drew1) | exact HB.out)) hb); clear HB; have HO731 := n0_; have HB := n1_; clear n0_ n1_; (try clear hb); (try clear hb2); (try clear hk); (try clear hi); (try clear ho0); obtain ⟨Ao14, co14, eo14, _⟩ := Kd.Q_slice HO731.out; subst eo14) | ((with_reducible refine gate_callee (f := 11) rfl ?_); refine goesL_ (some 21) rfl rfl Try.func11 (by kernel_rfl) rfl #[.slice Ao14 t727.length co14, .int .i64 t728, .int .i64 t729] rfl (by (try simp only [List.map_toArray, List.map_cons, List.map_nil]); first | done | rfl | (simp only [List.length_drop, List.length_take]; rfl)) ?_; (with_reducible refine (impl_ApartRules.calls k _ _ t727 t728 t729 t732 _ ?side1 ?side2 A4.out).mono ?_); (case side1 => repeat (first | exact (Kd.Q_reads' HO731.out).2.2 | (with_reducible refine Kd.C_alloc ?_ _) | (with_reducible refine Kd.C_drewN ?_ _) | (with_reducible refine Kd.C_drew ?_))); (case side2 => exact (Kd.Q_reads' HO731.out).2.1); rintro e w15 ⟨v733, rfl, ho0, hb⟩; refine ⟨_, rfl, ?_⟩; have n0_ := Aside0.mk (Kd.Q_below (by (with_reducible repeat (first | apply Kd.Q_alloc | apply Kd.Q_drewN | apply Kd.Q_drew)); exact HO731.out) hb); have n1_ := Aside0.mk (Kd.N_lower (Kd.N_mono (ok' := fun k_ => some k_ ≠ (.slice Ao14 t727.length co14 : Value).ownBlock) (Kd.S_N (Kd.S_bound ho0)) (fun k_ hk_ => (Kd.fresh' (Kd.Q_lt (by (with_reducible repeat (first | apply Kd.Q_alloc | apply Kd.Q_drewN | apply Kd.Q_drew)); exact HO731.out)) k_ hk_.2.1))) (below_size (by repeat (first | (with_reducible first | exact HB.out | apply below_alloc | apply pw_below_drewN | apply below_drew1) | exact HB.out)))); have n2_ := Aside0.mk (below_step (by repeat (first | (with_reducible first | exact HB.out | apply below_alloc | apply pw_below_drewN | apply below_drew1) | exact HB.out)) hb); clear HO731; clear HB; have HO731 := n0_; have HO734 := n1_; have HB := n2_; clear n0_ n1_ n2_; (try clear hb); (try clear hb2); (try clear hk); (try clear hi); (try clear ho0); obtain ⟨Ao16, co16, eo16⟩ := Kd.N_slice HO734.out; subst eo16) | ((with_reducible refine gate_callee (f := 12) rfl ?_); refine goesL_ (some 27) rfl rfl Try.func12 (by kernel_rfl) rfl #[.slice Ao14 t727.length co14, .int .i64 t728, .int .i64 t729] rfl (by (try simp only [List.map_toArray, List.map_cons, List.map_nil]); first | done | rfl | (simp only [List.length_drop, List.length_take]; rfl)) ?_; (with_reducible refine (spec_ApartRules.calls k _ _ t727 t728 t729 t735 _ ?side1 ?side2 A5.out).mono ?_); (case side1 => repeat (first | exact (Kd.Q_reads' HO731.out).2.2 | (with_reducible refine Kd.C_alloc ?_ _) | (with_reducible refine Kd.C_drewN ?_ _) | (with_reducible refine Kd.C_drew ?_))); (case side2 => exact (Kd.Q_reads' HO731.out).2.1); rintro e w17 ⟨v736, rfl, ho0, hb⟩; refine ⟨_, rfl, ?_⟩; have n0_ := Aside0.mk (Kd.Q_below (by (with_reducible repeat (first | apply Kd.Q_alloc | apply Kd.Q_drewN | apply Kd.Q_drew)); exact HO731.out) hb); have n1_ := Aside0.mk (Kd.N_elder' (by (with_reducible repeat (first | apply Kd.N_alloc | apply Kd.N_drewN | apply Kd.N_drew)); exact HO734.out) (by first | exact Kd.N_base ho0 | exact Kd.N_base (Kd.S_N ho0) | exact Kd.N_base (Kd.R_N ho0)) hb); have n2_ := Aside0.mk (Kd.N_lower (Kd.N_mono (ok' := fun k_ => some k_ ≠ (.slice Ao14 t727.length co14 : Value).ownBlock ∧ some k_ ≠ (.slice Ao16 t732.length co16 : Value).ownBlock) ho0 (fun k_ hk_ => ⟨(Kd.fresh' (Kd.Q_lt (by (with_reducible repeat (first | apply Kd.Q_alloc | apply Kd.Q_drewN | apply Kd.Q_drew)); exact HO731.out)) k_ hk_), (Kd.fresh' (Kd.N_lt (by (with_reducible repeat (first | apply Kd.N_alloc | apply Kd.N_drewN | apply Kd.N_drew)); exact HO734.out)) k_ hk_)⟩)) (below_size (by repeat (first | (with_reducible first | exact HB.out | apply below_alloc | apply pw_below_drewN | apply below_drew1) | exact HB.out)))); have n3_ := Aside0.mk (below_step (by repeat (first | (with_reducible first | exact HB.out | apply below_alloc | apply pw_below_drewN | apply below_drew1) | exact HB.out)) hb); clear HO731; clear HO734; clear HB; have HO731 := n0_; have HO734 := n1_; have HO737 := n2_; have HB := n3_; clear n0_ n1_ n2_ n3_; (try clear hb); (try clear hb2); (try clear hk); (try clear hi); (try clear ho0); obtain ⟨Ao18, co18, eo18⟩ := Kd.N_slice HO737.out; subst eo18) | ((with_reducible refine gate_callee (f := 14) rfl ?_); refine goesL_ (some 32) rfl rfl Try.func14 (by kernel_rfl) rfl #[.slice Ao14 t727.length co14, .int .i64 t728] rfl (by (try simp only [List.map_toArray, List.map_cons, List.map_nil]); first | done | rfl | (simp only [List.length_drop, List.length_take]; rfl)) ?_; (with_reducible refine (spec_SquareSolved.calls k _ _ t727 t728 true _ ?side1 ?side2 A7.out).mono ?_); (case side1 => repeat (first | exact (Kd.Q_reads' HO731.out).2.2 | (with_reducible refine Kd.C_alloc ?_ _) | (with_reducible refine Kd.C_drewN ?_ _) | (with_reducible refine Kd.C_drew ?_))); (case side2 => exact (Kd.Q_reads' HO731.out).2.1); rintro e w19 ⟨rfl, hb⟩; refine ⟨_, rfl, ?_⟩; have n0_ := Aside0.mk (Kd.Q_below (by (with_reducible repeat (first | apply Kd.Q_alloc | apply Kd.Q_drewN | apply Kd.Q_drew)); exact HO731.out) hb); have n1_ := Aside0.mk (Kd.N_below (by (with_reducible repeat (first | apply Kd.N_alloc | apply Kd.N_drewN | apply Kd.N_drew)); exact HO734.out) hb); have n2_ := Aside0.mk (Kd.N_below (by (with_reducible repeat (first | apply Kd.N_alloc | apply Kd.N_drewN | apply Kd.N_drew)); exact HO737.out) hb); have n3_ := Aside0.mk (below_step (by repeat (first | (with_reducible first | exact HB.out | apply below_alloc | apply pw_below_drewN | apply below_drew1) | exact HB.out)) hb); clear HO731; clear HO734; clear HO737; clear HB; have HO731 := n0_; have HO734 := n1_; have HO737 := n2_; have HB := n3_; clear n0_ n1_ n2_ n3_; (try clear hb); (try clear hb2); (try clear hk); (try clear hi)) | ((with_reducible refine gate_callee (f := 18) rfl ?_); refine goesL_ (some 37) rfl rfl Try.func18 (by kernel_rfl) rfl #[.slice Ao14 t727.length co14, .int .i64 t728, .int .i64 6] rfl (by (try simp only [List.map_toArray, List.map_cons, List.map_nil]); first | done | rfl | (simp only [List.length_drop, List.length_take]; rfl)) ?_; (with_reducible refine (impl_LessRules.calls k _ _ t727 t728 6 t740 _ ?side1 ?side2 A9.out).mono ?_); (case side1 => repeat (first | exact (Kd.Q_reads' HO731.out).2.2 | (with_reducible refine Kd.C_alloc ?_ _) | (with_reducible refine Kd.C_drewN ?_ _) | (with_reducible refine Kd.C_drew ?_))); (case side2 => exact (Kd.Q_reads' HO731.out).2.1); rintro e w20 ⟨v741, rfl, ho0, hb⟩; refine ⟨_, rfl, ?_⟩; have n0_ := Aside0.mk (Kd.Q_below (by (with_reducible repeat (first | apply Kd.Q_alloc | apply Kd.Q_drewN | apply Kd.Q_drew)); exact HO731.out) hb); have n1_ := Aside0.mk (Kd.N_below (by (with_reducible repeat (first | apply Kd.N_alloc | apply Kd.N_drewN | apply Kd.N_drew)); exact HO734.out) hb); have n2_ := Aside0.mk (Kd.N_below (by (with_reducible repeat (first | apply Kd.N_alloc | apply Kd.N_drewN | apply Kd.N_drew)); exact HO737.out) hb); have n3_ := Aside0.mk (Kd.V_lower (Kd.V_mono (ok' := fun k_ => some k_ ≠ (.slice Ao14 t727.length co14 : Value).ownBlock ∧ some k_ ≠ (.slice Ao16 t732.length co16 : Value).ownBlock ∧ some k_ ≠ (.slice Ao18 t735.length co18 : Value).ownBlock) ho0 (fun k_ hk_ => ⟨(Kd.fresh' (Kd.Q_lt (by (with_reducible repeat (first | apply Kd.Q_alloc | apply Kd.Q_drewN | apply Kd.Q_drew)); exact HO731.out)) k_ hk_), (Kd.fresh' (Kd.N_lt (by (with_reducible repeat (first | apply Kd.N_alloc | apply Kd.N_drewN | apply Kd.N_drew)); exact HO734.out)) k_ hk_), (Kd.fresh' (Kd.N_lt (by (with_reducible repeat (first | apply Kd.N_alloc | apply Kd.N_drewN | apply Kd.N_drew)); exact HO737.out)) k_ hk_)⟩)) (below_size (by repeat (first | (with_reducible first | exact HB.out | apply below_alloc | apply pw_below_drewN | apply below_drew1) | exact HB.out)))); have n4_ := Aside0.mk (below_step (by repeat (first | (with_reducible first | exact HB.out | apply below_alloc | apply pw_below_drewN | apply below_drew1) | exact HB.out)) hb); clear HO731; clear HO734; clear HO737; clear HB; have HO731 := n0_; have HO734 := n1_; have HO737 := n2_; have HO742 := n3_; have HB := n4_; clear n0_ n1_ n2_ n3_ n4_; (try clear hb); (try clear hb2); (try clear hk); (try clear hi); (try clear ho0)) | ((with_reducible refine gate_dst (N := 38) rfl ?_); refine Kd.N_lit k29 _ 29 ?hg (N' := 38) ?hd (xs := ([] : List (S29))) (inner := []) (ok := (fun k_ => some k_ ≠ (.slice Ao14 t727.length co14 : Value).ownBlock ∧ some k_ ≠ (.slice Ao16 t732.length co16 : Value).ownBlock ∧ some k_ ≠ (.slice Ao18 t735.length co18 : Value).ownBlock)) (okp := (fun k_ => some k_ ≠ (.slice Ao14 t727.length co14 : Value).ownBlock ∧ some k_ ≠ (.slice Ao16 t732.length co16 : Value).ownBlock ∧ some k_ ≠ (.slice Ao18 t735.length co18 : Value).ownBlock)) ?hr ?hp (fun _ hk => hk) ((show ∀ k_, w20.heap.size ≤ k_ → (fun k_ => some k_ ≠ (.slice Ao14 t727.length co14 : Value).ownBlock ∧ some k_ ≠ (.slice Ao16 t732.length co16 : Value).ownBlock ∧ some k_ ≠ (.slice Ao18 t735.length co18 : Value).ownBlock) k_ from fun k_ hk => ⟨Kd.fresh' (Kd.Q_lt (by (with_reducible repeat (first | apply Kd.Q_alloc | apply Kd.Q_drewN | apply Kd.Q_drew)); exact HO731.out)) k_ hk, Kd.fresh' (Kd.N_lt (by (with_reducible repeat (first | apply Kd.N_alloc | apply Kd.N_drewN | apply Kd.N_drew)); exact HO734.out)) k_ hk, Kd.fresh' (Kd.N_lt (by (with_reducible repeat (first | apply Kd.N_alloc | apply Kd.N_drewN | apply Kd.N_drew)); exact HO737.out)) k_ hk⟩) _ (Nat.le_refl _)) (Below.refl _ _) (Nat.le_refl _) (by simp) ?_; (case hd => rfl); (case hg => rfl); (case hr => first | (go_simp; done) | (go_simp; rfl)); (case hp => exact (Reps.none _ _)); intro v744 w21 ho22 hb hg_ hnew_; clear hg_ hnew_; (first | rw [← Ny743.out] at ho22 | (simp only [Int.reduceToNat] at ho22; rw [← Ny743.out] at ho22)); have n0_ := Aside0.mk (Kd.Q_below (by (with_reducible repeat (first | apply Kd.Q_alloc | apply Kd.Q_drewN | apply Kd.Q_drew)); exact HO731.out) hb); have n1_ := Aside0.mk (Kd.N_elder' (by (with_reducible repeat (first | apply Kd.N_alloc | apply Kd.N_drewN | apply Kd.N_drew)); exact HO734.out) (by first | exact Kd.N_base ho22 | exact Kd.N_base (Kd.S_N ho22) | exact Kd.N_base (Kd.R_N ho22)) hb); have n2_ := Aside0.mk (Kd.N_elder' (by (with_reducible repeat (first | apply Kd.N_alloc | apply Kd.N_drewN | apply Kd.N_drew)); exact HO737.out) (by first | exact Kd.N_base ho22 | exact Kd.N_base (Kd.S_N ho22) | exact Kd.N_base (Kd.R_N ho22)) hb); have n3_ := Aside0.mk (Kd.V_elder' (by (with_reducible repeat (first | apply Kd.V_alloc | apply Kd.V_drewN | apply Kd.V_drew)); exact HO742.out) (by first | exact Kd.N_base ho22 | exact Kd.N_base (Kd.S_N ho22) | exact Kd.N_base (Kd.R_N ho22)) hb); have n4_ := Aside0.mk (Kd.N_lower ho22 (below_size (by repeat (first | (with_reducible first | exact HB.out | apply below_alloc | apply pw_below_drewN | apply below_drew1) | exact HB.out)))); have n5_ := Aside0.mk (below_step (by repeat (first | (with_reducible first | exact HB.out | apply below_alloc | apply pw_below_drewN | apply below_drew1) | exact HB.out)) hb); clear HO731; clear HO734; clear HO737; clear HO742; clear HB; have HO731 := n0_; have HO734 := n1_; have HO737 := n2_; have HO742 := n3_; have HO745 := n4_; have HB := n5_; clear n0_ n1_ n2_ n3_ n4_ n5_; clear hb ho22; obtain ⟨Ao24, co24, eo24⟩ := Kd.V_slice HO742.out; subst eo24) | ((with_reducible refine gate_builtin (b := .append) (xs := #[.tmp 38, .tmp 39]) rfl ?_); at_builtin; refine Kd.N_append_rows k29 (w0 := w) w.heap.size rfl (.tmp 38) (.tmp 39) 26 29 (.agg #[(.int .i64 0), (.slice none 0 0), (.int .i64 0)]) 40 rfl Try.underlying26 info29 rfl (by decide) (by omega) v744 y743 t740 _ _ _ (fun k_ => some k_ ≠ (.slice Ao14 t727.length co14 : Value).ownBlock ∧ some k_ ≠ (.slice Ao16 t732.length co16 : Value).ownBlock ∧ some k_ ≠ (.slice Ao18 t735.length co18 : Value).ownBlock) (fun k_ => ((fun k_ => some k_ ≠ (.slice Ao14 t727.length co14 : Value).ownBlock ∧ some k_ ≠ (.slice Ao16 t732.length co16 : Value).ownBlock ∧ some k_ ≠ (.slice Ao18 t735.length co18 : Value).ownBlock)) k_ ∧ some k_ ≠ (v744 : Value).ownBlock) rfl rfl ?aO ?aR (fun _ hk => hk) ?aF ?aB ?aS ?aL ?_; (case aR => exact (by skip; exact Kd.V_F (Kd.V_mono (ok' := (fun k_ => ((fun k_ => some k_ ≠ (.slice Ao14 t727.length co14 : Value).ownBlock ∧ some k_ ≠ (.slice Ao16 t732.length co16 : Value).ownBlock ∧ some k_ ≠ (.slice Ao18 t735.length co18 : Value).ownBlock)) k_ ∧ some k_ ≠ (v744 : Value).ownBlock)) (HO742.out) (fun k_ hk => ⟨⟨hk.1.1, ⟨hk.1.2.1, hk.1.2.2⟩⟩, hk.2⟩)))); (case aB => exact (by repeat (first | (with_reducible first | exact HB.out | apply below_alloc | apply pw_below_drewN | apply below_drew1) | exact HB.out))); (case aF => exact (fun k_ hk => ⟨Kd.fresh' (Kd.Q_lt (by (with_reducible repeat (first | apply Kd.Q_alloc | apply Kd.Q_drewN | apply Kd.Q_drew)); exact HO731.out)) k_ hk, Kd.fresh' (Kd.N_lt (by (with_reducible repeat (first | apply Kd.N_alloc | apply Kd.N_drewN | apply Kd.N_drew)); exact HO734.out)) k_ hk, Kd.fresh' (Kd.N_lt (by (with_reducible repeat (first | apply Kd.N_alloc | apply Kd.N_drewN | apply Kd.N_drew)); exact HO737.out)) k_ hk⟩)); (case aO => exact (by (with_reducible repeat (first | apply Kd.N_alloc | apply Kd.N_drewN | apply Kd.N_drew)); exact HO745.out)); (case aS => exact (below_size (by repeat (first | (with_reducible first | exact HB.out | apply below_alloc | apply pw_below_drewN | apply below_drew1) | exact HB.out)))); (case aL => have := LMc10.out; omega); intro v747 w23 ho hb hg hat; rw [← Ny746.out] at ho; have n0_ := Aside0.mk (Kd.Q_over' (by (with_reducible repeat (first | apply Kd.Q_alloc | apply Kd.Q_drewN | apply Kd.Q_drew)); exact HO731.out) (Kd.N_typed (by (with_reducible repeat (first | apply Kd.N_alloc | apply Kd.N_drewN | apply Kd.N_drew)); exact HO745.out)) (by decide) hg); have n1_ := Aside0.mk (Kd.N_afterv (ok := (fun k_ => some k_ ≠ (.slice Ao14 t727.length co14 : Value).ownBlock ∧ some k_ ≠ (.slice Ao18 t735.length co18 : Value).ownBlock)) (by (with_reducible repeat (first | apply Kd.N_alloc | apply Kd.N_drewN | apply Kd.N_drew)); exact HO734.out) hg hat); have n2_ := Aside0.mk (Kd.N_afterv (ok := (fun k_ => some k_ ≠ (.slice Ao14 t727.length co14 : Value).ownBlock ∧ some k_ ≠ (.slice Ao16 t732.length co16 : Value).ownBlock)) (by (with_reducible repeat (first | apply Kd.N_alloc | apply Kd.N_drewN | apply Kd.N_drew)); exact HO737.out) hg hat); have n3_ := Aside0.mk (Kd.V_afterv (ok := (fun k_ => some k_ ≠ (.slice Ao14 t727.length co14 : Value).ownBlock ∧ some k_ ≠ (.slice Ao16 t732.length co16 : Value).ownBlock ∧ some k_ ≠ (.slice Ao18 t735.length co18 : Value).ownBlock)) (by (with_reducible repeat (first | apply Kd.V_alloc | apply Kd.V_drewN | apply Kd.V_drew)); exact HO742.out) hg hat); have n4_ := Aside0.mk (hb); have n5_ := Aside0.mk (ho); clear HO731; clear HO734; clear HO737; clear HO742; clear HB; clear HO745; have HO731 := n0_; have HO734 := n1_; have HO737 := n2_; have HO742 := n3_; have HB := n4_; have HO748 := n5_; clear n0_ n1_ n2_ n3_ n4_ n5_; clear ho hb hg hat) | ((with_reducible refine gate_builtin (b := .append) (xs := #[.tmp 40, .tmp 41]) rfl ?_); at_builtin; refine Kd.N_append_rows k29 (w0 := w) w.heap.size rfl (.tmp 40) (.tmp 41) 26 29 (.agg #[(.int .i64 0), (.slice none 0 0), (.int .i64 0)]) 40 rfl Try.underlying26 info29 rfl (by decide) (by omega) v747 y746 t732 _ _ _ (fun k_ => some k_ ≠ (.slice Ao14 t727.length co14 : Value).ownBlock ∧ some k_ ≠ (.slice Ao18 t735.length co18 : Value).ownBlock) (fun k_ => ((fun k_ => some k_ ≠ (.slice Ao14 t727.length co14 : Value).ownBlock ∧ some k_ ≠ (.slice Ao18 t735.length co18 : Value).ownBlock)) k_ ∧ some k_ ≠ (v747 : Value).ownBlock) rfl rfl ?aO ?aR (fun _ hk => hk) ?aF ?aB ?aS ?aL ?_; (case aR => exact (by skip; exact Kd.N_F (Kd.N_mono (ok' := (fun k_ => ((fun k_ => some k_ ≠ (.slice Ao14 t727.length co14 : Value).ownBlock ∧ some k_ ≠ (.slice Ao18 t735.length co18 : Value).ownBlock)) k_ ∧ some k_ ≠ (v747 : Value).ownBlock)) (HO734.out) (fun k_ hk => ⟨⟨hk.1.1, hk.1.2⟩, hk.2⟩)))); (case aB => exact (by repeat (first | (with_reducible first | exact HB.out | apply below_alloc | apply pw_below_drewN | apply below_drew1) | exact HB.out))); (case aF => exact (fun k_ hk => ⟨Kd.fresh' (Kd.Q_lt (by (with_reducible repeat (first | apply Kd.Q_alloc | apply Kd.Q_drewN | apply Kd.Q_drew)); exact HO731.out)) k_ hk, Kd.fresh' (Kd.N_lt (by (with_reducible repeat (first | apply Kd.N_alloc | apply Kd.N_drewN | apply Kd.N_drew)); exact HO737.out)) k_ hk⟩)); (case aO => exact (by (with_reducible repeat (first | apply Kd.N_alloc | apply Kd.N_drewN | apply Kd.N_drew)); exact Kd.N_mono HO748.out (fun _ hk => ⟨hk.1, hk.2.2⟩))); (case aS => exact (below_size (by repeat (first | (with_reducible first | exact HB.out | apply below_alloc | apply pw_below_drewN | apply below_drew1) | exact HB.out)))); (case aL => have := LMc11.out; omega); intro v750 w25 ho hb hg hat; rw [← Ny749.out] at ho; have n0_ := Aside0.mk (Kd.Q_over' (by (with_reducible repeat (first | apply Kd.Q_alloc | apply Kd.Q_drewN | apply Kd.Q_drew)); exact HO731.out) (Kd.N_typed (by (with_reducible repeat (first | apply Kd.N_alloc | apply Kd.N_drewN | apply Kd.N_drew)); exact HO748.out)) (by decide) hg); have n1_ := Aside0.mk (Kd.N_afterv (ok := (fun k_ => some k_ ≠ (.slice Ao14 t727.length co14 : Value).ownBlock ∧ some k_ ≠ (.slice Ao18 t735.length co18 : Value).ownBlock)) (by (with_reducible repeat (first | apply Kd.N_alloc | apply Kd.N_drewN | apply Kd.N_drew)); exact HO734.out) hg hat); have n2_ := Aside0.mk (Kd.N_afterv (ok := (fun k_ => some k_ ≠ (.slice Ao14 t727.length co14 : Value).ownBlock ∧ some k_ ≠ (.slice Ao16 t732.length co16 : Value).ownBlock)) (by (with_reducible repeat (first | apply Kd.N_alloc | apply Kd.N_drewN | apply Kd.N_drew)); exact HO737.out) hg hat); have n3_ := Aside0.mk (Kd.V_afterv (ok := (fun k_ => some k_ ≠ (.slice Ao14 t727.length co14 : Value).ownBlock ∧ some k_ ≠ (.slice Ao16 t732.length co16 : Value).ownBlock ∧ some k_ ≠ (.slice Ao18 t735.length co18 : Value).ownBlock)) (by (with_reducible repeat (first | apply Kd.V_alloc | apply Kd.V_drewN | apply Kd.V_drew)); exact HO742.out) hg hat); have n4_ := Aside0.mk (hb); have n5_ := Aside0.mk (ho); clear HO731; clear HO734; clear HO737; clear HO742; clear HB; clear HO748; have HO731 := n0_; have HO734 := n1_; have HO737 := n2_; have HO742 := n3_; have HB := n4_; have HO751 := n5_; clear n0_ n1_ n2_ n3_ n4_ n5_; clear ho hb hg hat; obtain ⟨Ao26, co26, eo26⟩ := Kd.N_slice HO751.out; subst eo26))
              go_ret
              exact ⟨by first | rfl | (simp [errW_none, errW_some] <;> rfl) | (simp [*, errW_none, errW_some] <;> rfl), by repeat (first | (with_reducible first | exact HB.out | apply below_alloc | apply pw_below_drewN | apply below_drew1) | exact HB.out)⟩
            · rw [if_neg c12] at H
              have c12b0 : decide (20 < (y749.length : Int)) = false := decide_eq_false c12
              have c12b1 : decide (20 < y749.length) = false := decide_eq_false (by omega)
              clear c12
              by_cases c27 : 0 ≤ (t727.length : Int)
              · rw [if_pos c27] at H
                have c27b0 := eq_true c27
                have c27b1 : decide (0 ≤ (t727.length : Int)) = true := decide_eq_true c27
                clear c27
                by_cases c28 : ((t727.length : Int) : Int).toNat ≤ 35184372088832
                · rw [if_pos c28] at H
                  have c28b0 := eq_true c28
                  have c28b1 : decide (((t727.length : Int) : Int).toNat ≤ 35184372088832) = true := decide_eq_true c28
                  clear c28
                  obtain ⟨y752, hy752⟩ : ∃ y_ : List Int, y_ = (List.replicate ((t727.length : Int) : Int).toNat 0) := ⟨_, rfl⟩
                  replace H : ((impl_PuzzleSolved.f k t728 y752 y749 t727).bind fun t755 => (some t755)) = some r := by first | (rw [hy752]; with_reducible exact H) | (have H2_ := (Option.bind_some _ _).symm.trans H; rw [hy752]; with_reducible exact H2_) | (have H2_ := (Option.bind_some _ _).symm.trans H; with_reducible exact H2_) | with_reducible exact H | (rw [hy752]; exact H) | exact H
                  have Ny752 := Aside0.mk hy752
                  clear hy752
                  replace H := Option.bind_eq_some_iff.mp H
                  obtain ⟨t755, A290, H⟩ := H
                  replace H : (some t755) = some r := H
                  have A29 := Aside0.mk A290
                  clear A290
                  obtain rfl := Option.some.inj H
                  go_enter Try.func5, Try.ntmps5
                  go_wp2_with (first | ((with_reducible refine gate_callee (f := 10) rfl ?_); refine goesL_ (some 14) rfl rfl Try.func10 (by kernel_rfl) rfl #[.slice A0 l0.length c0] rfl (by (try simp only [List.map_toArray, List.map_cons, List.map_nil]); first | done | rfl | (simp only [List.length_drop, List.length_take]; rfl)) ?_; (with_reducible refine (spec_DrawApartRules.calls k _ _ l0 t727 t728 t729 _ ?side1 ?side2 A3.out).mono ?_); (case side1 => repeat (first | exact HR0.out | (with_reducible refine Kd.C_alloc ?_ _) | (with_reducible refine Kd.C_drewN ?_ _) | (with_reducible refine Kd.C_drew ?_))); (case side2 => exact HC0.out); rintro e w30 ⟨v730, rfl, ho0, hb⟩; refine ⟨_, rfl, ?_⟩; have n0_ := Aside0.mk (Kd.Q_lower ho0 (below_size (by repeat (first | (with_reducible first | exact HB.out | apply below_alloc | apply pw_below_drewN | apply below_drew1) | exact HB.out)))); have n1_ := Aside0.mk (below_step (by repeat (first | (with_reducible first | exact HB.out | apply below_alloc | apply pw_below_drewN | apply below_drew1) | exact HB.out)) hb); clear HB; have HO731 := n0_; have HB := n1_; clear n0_ n1_; (try clear hb); (try clear hb2); (try clear hk); (try clear hi); (try clear ho0); obtain ⟨Ao31, co31, eo31, _⟩ := Kd.Q_slice HO731.out; subst eo31) | ((with_reducible refine gate_callee (f := 11) rfl ?_); refine goesL_ (some 21) rfl rfl Try.func11 (by kernel_rfl) rfl #[.slice Ao31 t727.length co31, .int .i64 t728, .int .i64 t729] rfl (by (try simp only [List.map_toArray, List.map_cons, List.map_nil]); first | done | rfl | (simp only [List.length_drop, List.length_take]; rfl)) ?_; (with_reducible refine (impl_ApartRules.calls k _ _ t727 t728 t729 t732 _ ?side1 ?side2 A4.out).mono ?_); (case side1 => repeat (first | exact (Kd.Q_reads' HO731.out).2.2 | (with_reducible refine Kd.C_alloc ?_ _) | (with_reducible refine Kd.C_drewN ?_ _) | (with_reducible refine Kd.C_drew ?_))); (case side2 => exact (Kd.Q_reads' HO731.out).2.1); rintro e w32 ⟨v733, rfl, ho0, hb⟩; refine ⟨_, rfl, ?_⟩; have n0_ := Aside0.mk (Kd.Q_below (by (with_reducible repeat (first | apply Kd.Q_alloc | apply Kd.Q_drewN | apply Kd.Q_drew)); exact HO731.out) hb); have n1_ := Aside0.mk (Kd.N_lower (Kd.N_mono (ok' := fun k_ => some k_ ≠ (.slice Ao31 t727.length co31 : Value).ownBlock) (Kd.S_N (Kd.S_bound ho0)) (fun k_ hk_ => (Kd.fresh' (Kd.Q_lt (by (with_reducible repeat (first | apply Kd.Q_alloc | apply Kd.Q_drewN | apply Kd.Q_drew)); exact HO731.out)) k_ hk_.2.1))) (below_size (by repeat (first | (with_reducible first | exact HB.out | apply below_alloc | apply pw_below_drewN | apply below_drew1) | exact HB.out)))); have n2_ := Aside0.mk (below_step (by repeat (first | (with_reducible first | exact HB.out | apply below_alloc | apply pw_below_drewN | apply below_drew1) | exact HB.out)) hb); clear HO731; clear HB; have HO731 := n0_; have HO734 := n1_; have HB := n2_; clear n0_ n1_ n2_; (try clear hb); (try clear hb2); (try clear hk); (try clear hi); (try clear ho0); obtain ⟨Ao33, co33, eo33⟩ := Kd.N_slice HO734.out; subst eo33) | ((with_reducible refine gate_callee (f := 12) rfl ?_); refine goesL_ (some 27) rfl rfl Try.func12 (by kernel_rfl) rfl #[.slice Ao31 t727.length co31, .int .i64 t728, .int .i64 t729] rfl (by (try simp only [List.map_toArray, List.map_cons, List.map_nil]); first | done | rfl | (simp only [List.length_drop, List.length_take]; rfl)) ?_; (with_reducible refine (spec_ApartRules.calls k _ _ t727 t728 t729 t735 _ ?side1 ?side2 A5.out).mono ?_); (case side1 => repeat (first | exact (Kd.Q_reads' HO731.out).2.2 | (with_reducible refine Kd.C_alloc ?_ _) | (with_reducible refine Kd.C_drewN ?_ _) | (with_reducible refine Kd.C_drew ?_))); (case side2 => exact (Kd.Q_reads' HO731.out).2.1); rintro e w34 ⟨v736, rfl, ho0, hb⟩; refine ⟨_, rfl, ?_⟩; have n0_ := Aside0.mk (Kd.Q_below (by (with_reducible repeat (first | apply Kd.Q_alloc | apply Kd.Q_drewN | apply Kd.Q_drew)); exact HO731.out) hb); have n1_ := Aside0.mk (Kd.N_elder' (by (with_reducible repeat (first | apply Kd.N_alloc | apply Kd.N_drewN | apply Kd.N_drew)); exact HO734.out) (by first | exact Kd.N_base ho0 | exact Kd.N_base (Kd.S_N ho0) | exact Kd.N_base (Kd.R_N ho0)) hb); have n2_ := Aside0.mk (Kd.N_lower (Kd.N_mono (ok' := fun k_ => some k_ ≠ (.slice Ao31 t727.length co31 : Value).ownBlock ∧ some k_ ≠ (.slice Ao33 t732.length co33 : Value).ownBlock) ho0 (fun k_ hk_ => ⟨(Kd.fresh' (Kd.Q_lt (by (with_reducible repeat (first | apply Kd.Q_alloc | apply Kd.Q_drewN | apply Kd.Q_drew)); exact HO731.out)) k_ hk_), (Kd.fresh' (Kd.N_lt (by (with_reducible repeat (first | apply Kd.N_alloc | apply Kd.N_drewN | apply Kd.N_drew)); exact HO734.out)) k_ hk_)⟩)) (below_size (by repeat (first | (with_reducible first | exact HB.out | apply below_alloc | apply pw_below_drewN | apply below_drew1) | exact HB.out)))); have n3_ := Aside0.mk (below_step (by repeat (first | (with_reducible first | exact HB.out | apply below_alloc | apply pw_below_drewN | apply below_drew1) | exact HB.out)) hb); clear HO731; clear HO734; clear HB; have HO731 := n0_; have HO734 := n1_; have HO737 := n2_; have HB := n3_; clear n0_ n1_ n2_ n3_; (try clear hb); (try clear hb2); (try clear hk); (try clear hi); (try clear ho0); obtain ⟨Ao35, co35, eo35⟩ := Kd.N_slice HO737.out; subst eo35) | ((with_reducible refine gate_callee (f := 14) rfl ?_); refine goesL_ (some 32) rfl rfl Try.func14 (by kernel_rfl) rfl #[.slice Ao31 t727.length co31, .int .i64 t728] rfl (by (try simp only [List.map_toArray, List.map_cons, List.map_nil]); first | done | rfl | (simp only [List.length_drop, List.length_take]; rfl)) ?_; (with_reducible refine (spec_SquareSolved.calls k _ _ t727 t728 true _ ?side1 ?side2 A7.out).mono ?_); (case side1 => repeat (first | exact (Kd.Q_reads' HO731.out).2.2 | (with_reducible refine Kd.C_alloc ?_ _) | (with_reducible refine Kd.C_drewN ?_ _) | (with_reducible refine Kd.C_drew ?_))); (case side2 => exact (Kd.Q_reads' HO731.out).2.1); rintro e w36 ⟨rfl, hb⟩; refine ⟨_, rfl, ?_⟩; have n0_ := Aside0.mk (Kd.Q_below (by (with_reducible repeat (first | apply Kd.Q_alloc | apply Kd.Q_drewN | apply Kd.Q_drew)); exact HO731.out) hb); have n1_ := Aside0.mk (Kd.N_below (by (with_reducible repeat (first | apply Kd.N_alloc | apply Kd.N_drewN | apply Kd.N_drew)); exact HO734.out) hb); have n2_ := Aside0.mk (Kd.N_below (by (with_reducible repeat (first | apply Kd.N_alloc | apply Kd.N_drewN | apply Kd.N_drew)); exact HO737.out) hb); have n3_ := Aside0.mk (below_step (by repeat (first | (with_reducible first | exact HB.out | apply below_alloc | apply pw_below_drewN | apply below_drew1) | exact HB.out)) hb); clear HO731; clear HO734; clear HO737; clear HB; have HO731 := n0_; have HO734 := n1_; have HO737 := n2_; have HB := n3_; clear n0_ n1_ n2_ n3_; (try clear hb); (try clear hb2); (try clear hk); (try clear hi)) | ((with_reducible refine gate_callee (f := 18) rfl ?_); refine goesL_ (some 37) rfl rfl Try.func18 (by kernel_rfl) rfl #[.slice Ao31 t727.length co31, .int .i64 t728, .int .i64 6] rfl (by (try simp only [List.map_toArray, List.map_cons, List.map_nil]); first | done | rfl | (simp only [List.length_drop, List.length_take]; rfl)) ?_; (with_reducible refine (impl_LessRules.calls k _ _ t727 t728 6 t740 _ ?side1 ?side2 A9.out).mono ?_); (case side1 => repeat (first | exact (Kd.Q_reads' HO731.out).2.2 | (with_reducible refine Kd.C_alloc ?_ _) | (with_reducible refine Kd.C_drewN ?_ _) | (with_reducible refine Kd.C_drew ?_))); (case side2 => exact (Kd.Q_reads' HO731.out).2.1); rintro e w37 ⟨v741, rfl, ho0, hb⟩; refine ⟨_, rfl, ?_⟩; have n0_ := Aside0.mk (Kd.Q_below (by (with_reducible repeat (first | apply Kd.Q_alloc | apply Kd.Q_drewN | apply Kd.Q_drew)); exact HO731.out) hb); have n1_ := Aside0.mk (Kd.N_below (by (with_reducible repeat (first | apply Kd.N_alloc | apply Kd.N_drewN | apply Kd.N_drew)); exact HO734.out) hb); have n2_ := Aside0.mk (Kd.N_below (by (with_reducible repeat (first | apply Kd.N_alloc | apply Kd.N_drewN | apply Kd.N_drew)); exact HO737.out) hb); have n3_ := Aside0.mk (Kd.V_lower (Kd.V_mono (ok' := fun k_ => some k_ ≠ (.slice Ao31 t727.length co31 : Value).ownBlock ∧ some k_ ≠ (.slice Ao33 t732.length co33 : Value).ownBlock ∧ some k_ ≠ (.slice Ao35 t735.length co35 : Value).ownBlock) ho0 (fun k_ hk_ => ⟨(Kd.fresh' (Kd.Q_lt (by (with_reducible repeat (first | apply Kd.Q_alloc | apply Kd.Q_drewN | apply Kd.Q_drew)); exact HO731.out)) k_ hk_), (Kd.fresh' (Kd.N_lt (by (with_reducible repeat (first | apply Kd.N_alloc | apply Kd.N_drewN | apply Kd.N_drew)); exact HO734.out)) k_ hk_), (Kd.fresh' (Kd.N_lt (by (with_reducible repeat (first | apply Kd.N_alloc | apply Kd.N_drewN | apply Kd.N_drew)); exact HO737.out)) k_ hk_)⟩)) (below_size (by repeat (first | (with_reducible first | exact HB.out | apply below_alloc | apply pw_below_drewN | apply below_drew1) | exact HB.out)))); have n4_ := Aside0.mk (below_step (by repeat (first | (with_reducible first | exact HB.out | apply below_alloc | apply pw_below_drewN | apply below_drew1) | exact HB.out)) hb); clear HO731; clear HO734; clear HO737; clear HB; have HO731 := n0_; have HO734 := n1_; have HO737 := n2_; have HO742 := n3_; have HB := n4_; clear n0_ n1_ n2_ n3_ n4_; (try clear hb); (try clear hb2); (try clear hk); (try clear hi); (try clear ho0)) | ((with_reducible refine gate_dst (N := 38) rfl ?_); refine Kd.N_lit k29 _ 29 ?hg (N' := 38) ?hd (xs := ([] : List (S29))) (inner := []) (ok := (fun k_ => some k_ ≠ (.slice Ao31 t727.length co31 : Value).ownBlock ∧ some k_ ≠ (.slice Ao33 t732.length co33 : Value).ownBlock ∧ some k_ ≠ (.slice Ao35 t735.length co35 : Value).ownBlock)) (okp := (fun k_ => some k_ ≠ (.slice Ao31 t727.length co31 : Value).ownBlock ∧ some k_ ≠ (.slice Ao33 t732.length co33 : Value).ownBlock ∧ some k_ ≠ (.slice Ao35 t735.length co35 : Value).ownBlock)) ?hr ?hp (fun _ hk => hk) ((show ∀ k_, w37.heap.size ≤ k_ → (fun k_ => some k_ ≠ (.slice Ao31 t727.length co31 : Value).ownBlock ∧ some k_ ≠ (.slice Ao33 t732.length co33 : Value).ownBlock ∧ some k_ ≠ (.slice Ao35 t735.length co35 : Value).ownBlock) k_ from fun k_ hk => ⟨Kd.fresh' (Kd.Q_lt (by (with_reducible repeat (first | apply Kd.Q_alloc | apply Kd.Q_drewN | apply Kd.Q_drew)); exact HO731.out)) k_ hk, Kd.fresh' (Kd.N_lt (by (with_reducible repeat (first | apply Kd.N_alloc | apply Kd.N_drewN | apply Kd.N_drew)); exact HO734.out)) k_ hk, Kd.fresh' (Kd.N_lt (by (with_reducible repeat (first | apply Kd.N_alloc | apply Kd.N_drewN | apply Kd.N_drew)); exact HO737.out)) k_ hk⟩) _ (Nat.le_refl _)) (Below.refl _ _) (Nat.le_refl _) (by simp) ?_; (case hd => rfl); (case hg => rfl); (case hr => first | (go_simp; done) | (go_simp; rfl)); (case hp => exact (Reps.none _ _)); intro v744 w38 ho39 hb hg_ hnew_; clear hg_ hnew_; (first | rw [← Ny743.out] at ho39 | (simp only [Int.reduceToNat] at ho39; rw [← Ny743.out] at ho39)); have n0_ := Aside0.mk (Kd.Q_below (by (with_reducible repeat (first | apply Kd.Q_alloc | apply Kd.Q_drewN | apply Kd.Q_drew)); exact HO731.out) hb); have n1_ := Aside0.mk (Kd.N_elder' (by (with_reducible repeat (first | apply Kd.N_alloc | apply Kd.N_drewN | apply Kd.N_drew)); exact HO734.out) (by first | exact Kd.N_base ho39 | exact Kd.N_base (Kd.S_N ho39) | exact Kd.N_base (Kd.R_N ho39)) hb); have n2_ := Aside0.mk (Kd.N_elder' (by (with_reducible repeat (first | apply Kd.N_alloc | apply Kd.N_drewN | apply Kd.N_drew)); exact HO737.out) (by first | exact Kd.N_base ho39 | exact Kd.N_base (Kd.S_N ho39) | exact Kd.N_base (Kd.R_N ho39)) hb); have n3_ := Aside0.mk (Kd.V_elder' (by (with_reducible repeat (first | apply Kd.V_alloc | apply Kd.V_drewN | apply Kd.V_drew)); exact HO742.out) (by first | exact Kd.N_base ho39 | exact Kd.N_base (Kd.S_N ho39) | exact Kd.N_base (Kd.R_N ho39)) hb); have n4_ := Aside0.mk (Kd.N_lower ho39 (below_size (by repeat (first | (with_reducible first | exact HB.out | apply below_alloc | apply pw_below_drewN | apply below_drew1) | exact HB.out)))); have n5_ := Aside0.mk (below_step (by repeat (first | (with_reducible first | exact HB.out | apply below_alloc | apply pw_below_drewN | apply below_drew1) | exact HB.out)) hb); clear HO731; clear HO734; clear HO737; clear HO742; clear HB; have HO731 := n0_; have HO734 := n1_; have HO737 := n2_; have HO742 := n3_; have HO745 := n4_; have HB := n5_; clear n0_ n1_ n2_ n3_ n4_ n5_; clear hb ho39; obtain ⟨Ao41, co41, eo41⟩ := Kd.V_slice HO742.out; subst eo41) | ((with_reducible refine gate_builtin (b := .append) (xs := #[.tmp 38, .tmp 39]) rfl ?_); at_builtin; refine Kd.N_append_rows k29 (w0 := w) w.heap.size rfl (.tmp 38) (.tmp 39) 26 29 (.agg #[(.int .i64 0), (.slice none 0 0), (.int .i64 0)]) 40 rfl Try.underlying26 info29 rfl (by decide) (by omega) v744 y743 t740 _ _ _ (fun k_ => some k_ ≠ (.slice Ao31 t727.length co31 : Value).ownBlock ∧ some k_ ≠ (.slice Ao33 t732.length co33 : Value).ownBlock ∧ some k_ ≠ (.slice Ao35 t735.length co35 : Value).ownBlock) (fun k_ => ((fun k_ => some k_ ≠ (.slice Ao31 t727.length co31 : Value).ownBlock ∧ some k_ ≠ (.slice Ao33 t732.length co33 : Value).ownBlock ∧ some k_ ≠ (.slice Ao35 t735.length co35 : Value).ownBlock)) k_ ∧ some k_ ≠ (v744 : Value).ownBlock) rfl rfl ?aO ?aR (fun _ hk => hk) ?aF ?aB ?aS ?aL ?_; (case aR => exact (by skip; exact Kd.V_F (Kd.V_mono (ok' := (fun k_ => ((fun k_ => some k_ ≠ (.slice Ao31 t727.length co31 : Value).ownBlock ∧ some k_ ≠ (.slice Ao33 t732.length co33 : Value).ownBlock ∧ some k_ ≠ (.slice Ao35 t735.length co35 : Value).ownBlock)) k_ ∧ some k_ ≠ (v744 : Value).ownBlock)) (HO742.out) (fun k_ hk => ⟨⟨hk.1.1, ⟨hk.1.2.1, hk.1.2.2⟩⟩, hk.2⟩)))); (case aB => exact (by repeat (first | (with_reducible first | exact HB.out | apply below_alloc | apply pw_below_drewN | apply below_drew1) | exact HB.out))); (case aF => exact (fun k_ hk => ⟨Kd.fresh' (Kd.Q_lt (by (with_reducible repeat (first | apply Kd.Q_alloc | apply Kd.Q_drewN | apply Kd.Q_drew)); exact HO731.out)) k_ hk, Kd.fresh' (Kd.N_lt (by (with_reducible repeat (first | apply Kd.N_alloc | apply Kd.N_drewN | apply Kd.N_drew)); exact HO734.out)) k_ hk, Kd.fresh' (Kd.N_lt (by (with_reducible repeat (first | apply Kd.N_alloc | apply Kd.N_drewN | apply Kd.N_drew)); exact HO737.out)) k_ hk⟩)); (case aO => exact (by (with_reducible repeat (first | apply Kd.N_alloc | apply Kd.N_drewN | apply Kd.N_drew)); exact HO745.out)); (case aS => exact (below_size (by repeat (first | (with_reducible first | exact HB.out | apply below_alloc | apply pw_below_drewN | apply below_drew1) | exact HB.out)))); (case aL => have := LMc10.out; omega); intro v747 w40 ho hb hg hat; rw [← Ny746.out] at ho; have n0_ := Aside0.mk (Kd.Q_over' (by (with_reducible repeat (first | apply Kd.Q_alloc | apply Kd.Q_drewN | apply Kd.Q_drew)); exact HO731.out) (Kd.N_typed (by (with_reducible repeat (first | apply Kd.N_alloc | apply Kd.N_drewN | apply Kd.N_drew)); exact HO745.out)) (by decide) hg); have n1_ := Aside0.mk (Kd.N_afterv (ok := (fun k_ => some k_ ≠ (.slice Ao31 t727.length co31 : Value).ownBlock ∧ some k_ ≠ (.slice Ao35 t735.length co35 : Value).ownBlock)) (by (with_reducible repeat (first | apply Kd.N_alloc | apply Kd.N_drewN | apply Kd.N_drew)); exact HO734.out) hg hat); have n2_ := Aside0.mk (Kd.N_afterv (ok := (fun k_ => some k_ ≠ (.slice Ao31 t727.length co31 : Value).ownBlock ∧ some k_ ≠ (.slice Ao33 t732.length co33 : Value).ownBlock)) (by (with_reducible repeat (first | apply Kd.N_alloc | apply Kd.N_drewN | apply Kd.N_drew)); exact HO737.out) hg hat); have n3_ := Aside0.mk (Kd.V_afterv (ok := (fun k_ => some k_ ≠ (.slice Ao31 t727.length co31 : Value).ownBlock ∧ some k_ ≠ (.slice Ao33 t732.length co33 : Value).ownBlock ∧ some k_ ≠ (.slice Ao35 t735.length co35 : Value).ownBlock)) (by (with_reducible repeat (first | apply Kd.V_alloc | apply Kd.V_drewN | apply Kd.V_drew)); exact HO742.out) hg hat); have n4_ := Aside0.mk (hb); have n5_ := Aside0.mk (ho); clear HO731; clear HO734; clear HO737; clear HO742; clear HB; clear HO745; have HO731 := n0_; have HO734 := n1_; have HO737 := n2_; have HO742 := n3_; have HB := n4_; have HO748 := n5_; clear n0_ n1_ n2_ n3_ n4_ n5_; clear ho hb hg hat) | ((with_reducible refine gate_builtin (b := .append) (xs := #[.tmp 40, .tmp 41]) rfl ?_); at_builtin; refine Kd.N_append_rows k29 (w0 := w) w.heap.size rfl (.tmp 40) (.tmp 41) 26 29 (.agg #[(.int .i64 0), (.slice none 0 0), (.int .i64 0)]) 40 rfl Try.underlying26 info29 rfl (by decide) (by omega) v747 y746 t732 _ _ _ (fun k_ => some k_ ≠ (.slice Ao31 t727.length co31 : Value).ownBlock ∧ some k_ ≠ (.slice Ao35 t735.length co35 : Value).ownBlock) (fun k_ => ((fun k_ => some k_ ≠ (.slice Ao31 t727.length co31 : Value).ownBlock ∧ some k_ ≠ (.slice Ao35 t735.length co35 : Value).ownBlock)) k_ ∧ some k_ ≠ (v747 : Value).ownBlock) rfl rfl ?aO ?aR (fun _ hk => hk) ?aF ?aB ?aS ?aL ?_; (case aR => exact (by skip; exact Kd.N_F (Kd.N_mono (ok' := (fun k_ => ((fun k_ => some k_ ≠ (.slice Ao31 t727.length co31 : Value).ownBlock ∧ some k_ ≠ (.slice Ao35 t735.length co35 : Value).ownBlock)) k_ ∧ some k_ ≠ (v747 : Value).ownBlock)) (HO734.out) (fun k_ hk => ⟨⟨hk.1.1, hk.1.2⟩, hk.2⟩)))); (case aB => exact (by repeat (first | (with_reducible first | exact HB.out | apply below_alloc | apply pw_below_drewN | apply below_drew1) | exact HB.out))); (case aF => exact (fun k_ hk => ⟨Kd.fresh' (Kd.Q_lt (by (with_reducible repeat (first | apply Kd.Q_alloc | apply Kd.Q_drewN | apply Kd.Q_drew)); exact HO731.out)) k_ hk, Kd.fresh' (Kd.N_lt (by (with_reducible repeat (first | apply Kd.N_alloc | apply Kd.N_drewN | apply Kd.N_drew)); exact HO737.out)) k_ hk⟩)); (case aO => exact (by (with_reducible repeat (first | apply Kd.N_alloc | apply Kd.N_drewN | apply Kd.N_drew)); exact Kd.N_mono HO748.out (fun _ hk => ⟨hk.1, hk.2.2⟩))); (case aS => exact (below_size (by repeat (first | (with_reducible first | exact HB.out | apply below_alloc | apply pw_below_drewN | apply below_drew1) | exact HB.out)))); (case aL => have := LMc11.out; omega); intro v750 w42 ho hb hg hat; rw [← Ny749.out] at ho; have n0_ := Aside0.mk (Kd.Q_over' (by (with_reducible repeat (first | apply Kd.Q_alloc | apply Kd.Q_drewN | apply Kd.Q_drew)); exact HO731.out) (Kd.N_typed (by (with_reducible repeat (first | apply Kd.N_alloc | apply Kd.N_drewN | apply Kd.N_drew)); exact HO748.out)) (by decide) hg); have n1_ := Aside0.mk (Kd.N_afterv (ok := (fun k_ => some k_ ≠ (.slice Ao31 t727.length co31 : Value).ownBlock ∧ some k_ ≠ (.slice Ao35 t735.length co35 : Value).ownBlock)) (by (with_reducible repeat (first | apply Kd.N_alloc | apply Kd.N_drewN | apply Kd.N_drew)); exact HO734.out) hg hat); have n2_ := Aside0.mk (Kd.N_afterv (ok := (fun k_ => some k_ ≠ (.slice Ao31 t727.length co31 : Value).ownBlock ∧ some k_ ≠ (.slice Ao33 t732.length co33 : Value).ownBlock)) (by (with_reducible repeat (first | apply Kd.N_alloc | apply Kd.N_drewN | apply Kd.N_drew)); exact HO737.out) hg hat); have n3_ := Aside0.mk (Kd.V_afterv (ok := (fun k_ => some k_ ≠ (.slice Ao31 t727.length co31 : Value).ownBlock ∧ some k_ ≠ (.slice Ao33 t732.length co33 : Value).ownBlock ∧ some k_ ≠ (.slice Ao35 t735.length co35 : Value).ownBlock)) (by (with_reducible repeat (first | apply Kd.V_alloc | apply Kd.V_drewN | apply Kd.V_drew)); exact HO742.out) hg hat); have n4_ := Aside0.mk (hb); have n5_ := Aside0.mk (ho); clear HO731; clear HO734; clear HO737; clear HO742; clear HB; clear HO748; have HO731 := n0_; have HO734 := n1_; have HO737 := n2_; have HO742 := n3_; have HB := n4_; have HO751 := n5_; clear n0_ n1_ n2_ n3_ n4_ n5_; clear ho hb hg hat; obtain ⟨Ao43, co43, eo43⟩ := Kd.N_slice HO751.out; subst eo43) | ((with_reducible refine gate_dst (N := 49) rfl ?_); refine Kd.R_make (Kd.int .i64) _ 3 rfl (N := 49) rfl 23 _ _ rfl (t727.length : Int) rfl rfl Try.underlying23 (.int .i64 0) 8 info3 rfl (by decide) (by omega) 0 (ok := fun _ => True) (okp := fun _ => True) rfl (fun _ hk => hk) trivial (of_decide_eq_true (by first | (with_reducible assumption) | assumption)) (Nat.le_trans (Nat.mul_le_mul_right _ (of_decide_eq_true (by first | (with_reducible assumption) | assumption) : (t727.length : Int).toNat ≤ 35184372088832)) (by omega)) (Below.refl _ _) (Nat.le_refl _) ?_; intro v753 w44 ho45 hb hg_ hnew_; clear hg_ hnew_; (first | rw [← Ny752.out] at ho45 | (simp only [Int.reduceToNat] at ho45; rw [← Ny752.out] at ho45)); have n0_ := Aside0.mk (Kd.Q_elder' (by (with_reducible repeat (first | apply Kd.Q_alloc | apply Kd.Q_drewN | apply Kd.Q_drew)); exact HO731.out) (Kd.R_base ho45) hb); have n1_ := Aside0.mk (Kd.N_elder' (by (with_reducible repeat (first | apply Kd.N_alloc | apply Kd.N_drewN | apply Kd.N_drew)); exact HO734.out) (Kd.R_base ho45) hb); have n2_ := Aside0.mk (Kd.N_elder' (by (with_reducible repeat (first | apply Kd.N_alloc | apply Kd.N_drewN | apply Kd.N_drew)); exact HO737.out) (Kd.R_base ho45) hb); have n3_ := Aside0.mk (Kd.V_elder' (by (with_reducible repeat (first | apply Kd.V_alloc | apply Kd.V_drewN | apply Kd.V_drew)); exact HO742.out) (Kd.R_base ho45) hb); have n4_ := Aside0.mk (Kd.N_elder' (by (with_reducible repeat (first | apply Kd.N_alloc | apply Kd.N_drewN | apply Kd.N_drew)); exact HO751.out) (Kd.R_base ho45) hb); have n5_ := Aside0.mk (Kd.R_lower (Kd.R_new' ho45 (Kd.Q_lt (by (with_reducible repeat (first | apply Kd.Q_alloc | apply Kd.Q_drewN | apply Kd.Q_drew)); exact HO731.out))) (below_size (by repeat (first | (with_reducible first | exact HB.out | apply below_alloc | apply pw_below_drewN | apply below_drew1) | exact HB.out)))); have n6_ := Aside0.mk (below_step (by repeat (first | (with_reducible first | exact HB.out | apply below_alloc | apply pw_below_drewN | apply below_drew1) | exact HB.out)) hb); clear HO731; clear HO734; clear HO737; clear HO742; clear HO751; clear HB; have HO731 := n0_; have HO734 := n1_; have HO737 := n2_; have HO742 := n3_; have HO751 := n4_; have HO754 := n5_; have HB := n6_; clear n0_ n1_ n2_ n3_ n4_ n5_ n6_; clear hb ho45; obtain ⟨Ao46, co46, eo46⟩ := Kd.R_slice HO754.out; subst eo46) | ((with_reducible refine gate_callee (f := 20) rfl ?_); refine goesL_ (some 53) rfl rfl Try.func20 (by kernel_rfl) rfl #[.agg #[.int .i64 t728, .slice Ao46 y752.length co46, .slice Ao43 y749.length co43], .slice Ao31 t727.length co31] rfl (by (try simp only [List.map_toArray, List.map_cons, List.map_nil]); first | done | rfl | (simp only [List.length_drop, List.length_take]; rfl)) ?_; (with_reducible refine (impl_PuzzleSolved.calls k t728 _ _ y752 _ _ y749 _ _ t727 t755 _ ?side1 ?side2 ?side3 ?side4 ?side5 ?side6 A29.out).mono ?_); (case side1 => repeat (first | exact (Kd.R_reads' HO754.out).2.2 | (with_reducible refine Kd.C_alloc ?_ _) | (with_reducible refine Kd.C_drewN ?_ _) | (with_reducible refine Kd.C_drew ?_))); (case side2 => exact (Kd.R_reads' HO754.out).2.1); (case side3 => repeat (first | exact (Kd.N_reads' HO751.out).2.2 | (with_reducible refine Kd.C_alloc ?_ _) | (with_reducible refine Kd.C_drewN ?_ _) | (with_reducible refine Kd.C_drew ?_))); (case side4 => exact (Kd.N_reads' HO751.out).2.1); (case side5 => repeat (first | exact (Kd.Q_reads' HO731.out).2.2 | (with_reducible refine Kd.C_alloc ?_ _) | (with_reducible refine Kd.C_drewN ?_ _) | (with_reducible refine Kd.C_drew ?_))); (case side6 => exact (Kd.Q_reads' HO731.out).2.1); rintro e w47 ⟨rfl, hb⟩; refine ⟨_, rfl, ?_⟩; have n0_ := Aside0.mk (Kd.Q_below (by (with_reducible repeat (first | apply Kd.Q_alloc | apply Kd.Q_drewN | apply Kd.Q_drew)); exact HO731.out) hb); have n1_ := Aside0.mk (Kd.N_below (by (with_reducible repeat (first | apply Kd.N_alloc | apply Kd.N_drewN | apply Kd.N_drew)); exact HO734.out) hb); have n2_ := Aside0.mk (Kd.N_below (by (with_reducible repeat (first | apply Kd.N_alloc | apply Kd.N_drewN | apply Kd.N_drew)); exact HO737.out) hb); have n3_ := Aside0.mk (Kd.V_below (by (with_reducible repeat (first | apply Kd.V_alloc | apply Kd.V_drewN | apply Kd.V_drew)); exact HO742.out) hb); have n4_ := Aside0.mk (Kd.N_below (by (with_reducible repeat (first | apply Kd.N_alloc | apply Kd.N_drewN | apply Kd.N_drew)); exact HO751.out) hb); have n5_ := Aside0.mk (Kd.R_below (by (with_reducible repeat (first | apply Kd.R_alloc | apply Kd.R_drewN | apply Kd.R_drew)); exact HO754.out) hb); have n6_ := Aside0.mk (below_step (by repeat (first | (with_reducible first | exact HB.out | apply below_alloc | apply pw_below_drewN | apply below_drew1) | exact HB.out)) hb); clear HO731; clear HO734; clear HO737; clear HO742; clear HO751; clear HO754; clear HB; have HO731 := n0_; have HO734 := n1_; have HO737 := n2_; have HO742 := n3_; have HO751 := n4_; have HO754 := n5_; have HB := n6_; clear n0_ n1_ n2_ n3_ n4_ n5_ n6_; (try clear hb); (try clear hb2); (try clear hk); (try clear hi)))
                  go_ret
                  exact ⟨by first | rfl | (simp [errW_none, errW_some] <;> rfl) | (simp [*, errW_none, errW_some] <;> rfl), by repeat (first | (with_reducible first | exact HB.out | apply below_alloc | apply pw_below_drewN | apply below_drew1) | exact HB.out)⟩
                · rw [if_neg c28] at H
                  exact absurd H (by simp)
              · rw [if_neg c27] at H
                exact absurd H (by simp)
          · rw [if_neg c11] at H
            exact absurd H (by simp)
        · rw [if_neg c10] at H
          exact absurd H (by simp)
      · replace c8 := Bool.eq_false_iff.mpr c8
        subst c8
        have H1 : ((laws_alive.f k).bind fun t739 => (some t739)) = some r := by rw [if_neg (show ¬ (false = true) by decide)] at H; exact H
        clear H
        have H := H1
        clear H1
        replace H := Option.bind_eq_some_iff.mp H
        obtain ⟨t739, A480, H⟩ := H
        replace H : (some t739) = some r := H
        have A48 := Aside0.mk A480
        clear A480
        obtain rfl := Option.some.inj H
        go_enter Try.func5, Try.ntmps5
        go_wp2_with (first | ((with_reducible refine gate_callee (f := 10) rfl ?_); refine goesL_ (some 14) rfl rfl Try.func10 (by kernel_rfl) rfl #[.slice A0 l0.length c0] rfl (by (try simp only [List.map_toArray, List.map_cons, List.map_nil]); first | done | rfl | (simp only [List.length_drop, List.length_take]; rfl)) ?_; (with_reducible refine (spec_DrawApartRules.calls k _ _ l0 t727 t728 t729 _ ?side1 ?side2 A3.out).mono ?_); (case side1 => repeat (first | exact HR0.out | (with_reducible refine Kd.C_alloc ?_ _) | (with_reducible refine Kd.C_drewN ?_ _) | (with_reducible refine Kd.C_drew ?_))); (case side2 => exact HC0.out); rintro e w49 ⟨v730, rfl, ho0, hb⟩; refine ⟨_, rfl, ?_⟩; have n0_ := Aside0.mk (Kd.Q_lower ho0 (below_size (by repeat (first | (with_reducible first | exact HB.out | apply below_alloc | apply pw_below_drewN | apply below_drew1) | exact HB.out)))); have n1_ := Aside0.mk (below_step (by repeat (first | (with_reducible first | exact HB.out | apply below_alloc | apply pw_below_drewN | apply below_drew1) | exact HB.out)) hb); clear HB; have HO731 := n0_; have HB := n1_; clear n0_ n1_; (try clear hb); (try clear hb2); (try clear hk); (try clear hi); (try clear ho0); obtain ⟨Ao50, co50, eo50, _⟩ := Kd.Q_slice HO731.out; subst eo50) | ((with_reducible refine gate_callee (f := 11) rfl ?_); refine goesL_ (some 21) rfl rfl Try.func11 (by kernel_rfl) rfl #[.slice Ao50 t727.length co50, .int .i64 t728, .int .i64 t729] rfl (by (try simp only [List.map_toArray, List.map_cons, List.map_nil]); first | done | rfl | (simp only [List.length_drop, List.length_take]; rfl)) ?_; (with_reducible refine (impl_ApartRules.calls k _ _ t727 t728 t729 t732 _ ?side1 ?side2 A4.out).mono ?_); (case side1 => repeat (first | exact (Kd.Q_reads' HO731.out).2.2 | (with_reducible refine Kd.C_alloc ?_ _) | (with_reducible refine Kd.C_drewN ?_ _) | (with_reducible refine Kd.C_drew ?_))); (case side2 => exact (Kd.Q_reads' HO731.out).2.1); rintro e w51 ⟨v733, rfl, ho0, hb⟩; refine ⟨_, rfl, ?_⟩; have n0_ := Aside0.mk (Kd.Q_below (by (with_reducible repeat (first | apply Kd.Q_alloc | apply Kd.Q_drewN | apply Kd.Q_drew)); exact HO731.out) hb); have n1_ := Aside0.mk (Kd.N_lower (Kd.N_mono (ok' := fun k_ => some k_ ≠ (.slice Ao50 t727.length co50 : Value).ownBlock) (Kd.S_N (Kd.S_bound ho0)) (fun k_ hk_ => (Kd.fresh' (Kd.Q_lt (by (with_reducible repeat (first | apply Kd.Q_alloc | apply Kd.Q_drewN | apply Kd.Q_drew)); exact HO731.out)) k_ hk_.2.1))) (below_size (by repeat (first | (with_reducible first | exact HB.out | apply below_alloc | apply pw_below_drewN | apply below_drew1) | exact HB.out)))); have n2_ := Aside0.mk (below_step (by repeat (first | (with_reducible first | exact HB.out | apply below_alloc | apply pw_below_drewN | apply below_drew1) | exact HB.out)) hb); clear HO731; clear HB; have HO731 := n0_; have HO734 := n1_; have HB := n2_; clear n0_ n1_ n2_; (try clear hb); (try clear hb2); (try clear hk); (try clear hi); (try clear ho0); obtain ⟨Ao52, co52, eo52⟩ := Kd.N_slice HO734.out; subst eo52) | ((with_reducible refine gate_callee (f := 12) rfl ?_); refine goesL_ (some 27) rfl rfl Try.func12 (by kernel_rfl) rfl #[.slice Ao50 t727.length co50, .int .i64 t728, .int .i64 t729] rfl (by (try simp only [List.map_toArray, List.map_cons, List.map_nil]); first | done | rfl | (simp only [List.length_drop, List.length_take]; rfl)) ?_; (with_reducible refine (spec_ApartRules.calls k _ _ t727 t728 t729 t735 _ ?side1 ?side2 A5.out).mono ?_); (case side1 => repeat (first | exact (Kd.Q_reads' HO731.out).2.2 | (with_reducible refine Kd.C_alloc ?_ _) | (with_reducible refine Kd.C_drewN ?_ _) | (with_reducible refine Kd.C_drew ?_))); (case side2 => exact (Kd.Q_reads' HO731.out).2.1); rintro e w53 ⟨v736, rfl, ho0, hb⟩; refine ⟨_, rfl, ?_⟩; have n0_ := Aside0.mk (Kd.Q_below (by (with_reducible repeat (first | apply Kd.Q_alloc | apply Kd.Q_drewN | apply Kd.Q_drew)); exact HO731.out) hb); have n1_ := Aside0.mk (Kd.N_elder' (by (with_reducible repeat (first | apply Kd.N_alloc | apply Kd.N_drewN | apply Kd.N_drew)); exact HO734.out) (by first | exact Kd.N_base ho0 | exact Kd.N_base (Kd.S_N ho0) | exact Kd.N_base (Kd.R_N ho0)) hb); have n2_ := Aside0.mk (Kd.N_lower (Kd.N_mono (ok' := fun k_ => some k_ ≠ (.slice Ao50 t727.length co50 : Value).ownBlock ∧ some k_ ≠ (.slice Ao52 t732.length co52 : Value).ownBlock) ho0 (fun k_ hk_ => ⟨(Kd.fresh' (Kd.Q_lt (by (with_reducible repeat (first | apply Kd.Q_alloc | apply Kd.Q_drewN | apply Kd.Q_drew)); exact HO731.out)) k_ hk_), (Kd.fresh' (Kd.N_lt (by (with_reducible repeat (first | apply Kd.N_alloc | apply Kd.N_drewN | apply Kd.N_drew)); exact HO734.out)) k_ hk_)⟩)) (below_size (by repeat (first | (with_reducible first | exact HB.out | apply below_alloc | apply pw_below_drewN | apply below_drew1) | exact HB.out)))); have n3_ := Aside0.mk (below_step (by repeat (first | (with_reducible first | exact HB.out | apply below_alloc | apply pw_below_drewN | apply below_drew1) | exact HB.out)) hb); clear HO731; clear HO734; clear HB; have HO731 := n0_; have HO734 := n1_; have HO737 := n2_; have HB := n3_; clear n0_ n1_ n2_ n3_; (try clear hb); (try clear hb2); (try clear hk); (try clear hi); (try clear ho0); obtain ⟨Ao54, co54, eo54⟩ := Kd.N_slice HO737.out; subst eo54) | ((with_reducible refine gate_callee (f := 14) rfl ?_); refine goesL_ (some 32) rfl rfl Try.func14 (by kernel_rfl) rfl #[.slice Ao50 t727.length co50, .int .i64 t728] rfl (by (try simp only [List.map_toArray, List.map_cons, List.map_nil]); first | done | rfl | (simp only [List.length_drop, List.length_take]; rfl)) ?_; (with_reducible refine (spec_SquareSolved.calls k _ _ t727 t728 false _ ?side1 ?side2 A7.out).mono ?_); (case side1 => repeat (first | exact (Kd.Q_reads' HO731.out).2.2 | (with_reducible refine Kd.C_alloc ?_ _) | (with_reducible refine Kd.C_drewN ?_ _) | (with_reducible refine Kd.C_drew ?_))); (case side2 => exact (Kd.Q_reads' HO731.out).2.1); rintro e w55 ⟨rfl, hb⟩; refine ⟨_, rfl, ?_⟩; have n0_ := Aside0.mk (Kd.Q_below (by (with_reducible repeat (first | apply Kd.Q_alloc | apply Kd.Q_drewN | apply Kd.Q_drew)); exact HO731.out) hb); have n1_ := Aside0.mk (Kd.N_below (by (with_reducible repeat (first | apply Kd.N_alloc | apply Kd.N_drewN | apply Kd.N_drew)); exact HO734.out) hb); have n2_ := Aside0.mk (Kd.N_below (by (with_reducible repeat (first | apply Kd.N_alloc | apply Kd.N_drewN | apply Kd.N_drew)); exact HO737.out) hb); have n3_ := Aside0.mk (below_step (by repeat (first | (with_reducible first | exact HB.out | apply below_alloc | apply pw_below_drewN | apply below_drew1) | exact HB.out)) hb); clear HO731; clear HO734; clear HO737; clear HB; have HO731 := n0_; have HO734 := n1_; have HO737 := n2_; have HB := n3_; clear n0_ n1_ n2_ n3_; (try clear hb); (try clear hb2); (try clear hk); (try clear hi)) | ((with_reducible refine gate_callee (f := 15) rfl ?_); refine goesL_ (some 34) rfl rfl Try.func15 (by kernel_rfl) rfl #[] rfl (by (try simp only [List.map_toArray, List.map_cons, List.map_nil]); first | done | rfl | (simp only [List.length_drop, List.length_take]; rfl)) ?_; (with_reducible refine (laws_alive.calls k  t739 _ A48.out).mono ?_); rintro e w56 ⟨rfl, hb⟩; refine ⟨_, rfl, ?_⟩; have n0_ := Aside0.mk (Kd.Q_below (by (with_reducible repeat (first | apply Kd.Q_alloc | apply Kd.Q_drewN | apply Kd.Q_drew)); exact HO731.out) hb); have n1_ := Aside0.mk (Kd.N_below (by (with_reducible repeat (first | apply Kd.N_alloc | apply Kd.N_drewN | apply Kd.N_drew)); exact HO734.out) hb); have n2_ := Aside0.mk (Kd.N_below (by (with_reducible repeat (first | apply Kd.N_alloc | apply Kd.N_drewN | apply Kd.N_drew)); exact HO737.out) hb); have n3_ := Aside0.mk (below_step (by repeat (first | (with_reducible first | exact HB.out | apply below_alloc | apply pw_below_drewN | apply below_drew1) | exact HB.out)) hb); clear HO731; clear HO734; clear HO737; clear HB; have HO731 := n0_; have HO734 := n1_; have HO737 := n2_; have HB := n3_; clear n0_ n1_ n2_ n3_; (try clear hb); (try clear hb2); (try clear hk); (try clear hi)))
        go_ret
        exact ⟨by first | rfl | (simp [errW_none, errW_some] <;> rfl) | (simp [*, errW_none, errW_some] <;> rfl), by repeat (first | (with_reducible first | exact HB.out | apply below_alloc | apply pw_below_drewN | apply below_drew1) | exact HB.out)⟩
    · rw [if_neg c6] at H
      have c6b0 : ((t732.length : Int) == (t735.length : Int)) = false := beq_eq_false_iff_ne.mpr c6
      have c6b1 : ((t732.length : Int) != (t735.length : Int)) = true := bne_iff_ne.mpr c6
      have c6b2 : (t732.length == t735.length) = false := by first | simpa using c6 | (simp at c6 ⊢; omega)
      obtain rfl := Option.some.inj H
      go_enter Try.func5, Try.ntmps5
      go_wp2_with (first | ((with_reducible refine gate_callee (f := 10) rfl ?_); refine goesL_ (some 14) rfl rfl Try.func10 (by kernel_rfl) rfl #[.slice A0 l0.length c0] rfl (by (try simp only [List.map_toArray, List.map_cons, List.map_nil]); first | done | rfl | (simp only [List.length_drop, List.length_take]; rfl)) ?_; (with_reducible refine (spec_DrawApartRules.calls k _ _ l0 t727 t728 t729 _ ?side1 ?side2 A3.out).mono ?_); (case side1 => repeat (first | exact HR0.out | (with_reducible refine Kd.C_alloc ?_ _) | (with_reducible refine Kd.C_drewN ?_ _) | (with_reducible refine Kd.C_drew ?_))); (case side2 => exact HC0.out); rintro e w57 ⟨v730, rfl, ho0, hb⟩; refine ⟨_, rfl, ?_⟩; have n0_ := Aside0.mk (Kd.Q_lower ho0 (below_size (by repeat (first | (with_reducible first | exact HB.out | apply below_alloc | apply pw_below_drewN | apply below_drew1) | exact HB.out)))); have n1_ := Aside0.mk (below_step (by repeat (first | (with_reducible first | exact HB.out | apply below_alloc | apply pw_below_drewN | apply below_drew1) | exact HB.out)) hb); clear HB; have HO731 := n0_; have HB := n1_; clear n0_ n1_; (try clear hb); (try clear hb2); (try clear hk); (try clear hi); (try clear ho0); obtain ⟨Ao58, co58, eo58, _⟩ := Kd.Q_slice HO731.out; subst eo58) | ((with_reducible refine gate_callee (f := 11) rfl ?_); refine goesL_ (some 21) rfl rfl Try.func11 (by kernel_rfl) rfl #[.slice Ao58 t727.length co58, .int .i64 t728, .int .i64 t729] rfl (by (try simp only [List.map_toArray, List.map_cons, List.map_nil]); first | done | rfl | (simp only [List.length_drop, List.length_take]; rfl)) ?_; (with_reducible refine (impl_ApartRules.calls k _ _ t727 t728 t729 t732 _ ?side1 ?side2 A4.out).mono ?_); (case side1 => repeat (first | exact (Kd.Q_reads' HO731.out).2.2 | (with_reducible refine Kd.C_alloc ?_ _) | (with_reducible refine Kd.C_drewN ?_ _) | (with_reducible refine Kd.C_drew ?_))); (case side2 => exact (Kd.Q_reads' HO731.out).2.1); rintro e w59 ⟨v733, rfl, ho0, hb⟩; refine ⟨_, rfl, ?_⟩; have n0_ := Aside0.mk (Kd.Q_below (by (with_reducible repeat (first | apply Kd.Q_alloc | apply Kd.Q_drewN | apply Kd.Q_drew)); exact HO731.out) hb); have n1_ := Aside0.mk (Kd.N_lower (Kd.N_mono (ok' := fun k_ => some k_ ≠ (.slice Ao58 t727.length co58 : Value).ownBlock) (Kd.S_N (Kd.S_bound ho0)) (fun k_ hk_ => (Kd.fresh' (Kd.Q_lt (by (with_reducible repeat (first | apply Kd.Q_alloc | apply Kd.Q_drewN | apply Kd.Q_drew)); exact HO731.out)) k_ hk_.2.1))) (below_size (by repeat (first | (with_reducible first | exact HB.out | apply below_alloc | apply pw_below_drewN | apply below_drew1) | exact HB.out)))); have n2_ := Aside0.mk (below_step (by repeat (first | (with_reducible first | exact HB.out | apply below_alloc | apply pw_below_drewN | apply below_drew1) | exact HB.out)) hb); clear HO731; clear HB; have HO731 := n0_; have HO734 := n1_; have HB := n2_; clear n0_ n1_ n2_; (try clear hb); (try clear hb2); (try clear hk); (try clear hi); (try clear ho0); obtain ⟨Ao60, co60, eo60⟩ := Kd.N_slice HO734.out; subst eo60) | ((with_reducible refine gate_callee (f := 12) rfl ?_); refine goesL_ (some 27) rfl rfl Try.func12 (by kernel_rfl) rfl #[.slice Ao58 t727.length co58, .int .i64 t728, .int .i64 t729] rfl (by (try simp only [List.map_toArray, List.map_cons, List.map_nil]); first | done | rfl | (simp only [List.length_drop, List.length_take]; rfl)) ?_; (with_reducible refine (spec_ApartRules.calls k _ _ t727 t728 t729 t735 _ ?side1 ?side2 A5.out).mono ?_); (case side1 => repeat (first | exact (Kd.Q_reads' HO731.out).2.2 | (with_reducible refine Kd.C_alloc ?_ _) | (with_reducible refine Kd.C_drewN ?_ _) | (with_reducible refine Kd.C_drew ?_))); (case side2 => exact (Kd.Q_reads' HO731.out).2.1); rintro e w61 ⟨v736, rfl, ho0, hb⟩; refine ⟨_, rfl, ?_⟩; have n0_ := Aside0.mk (Kd.Q_below (by (with_reducible repeat (first | apply Kd.Q_alloc | apply Kd.Q_drewN | apply Kd.Q_drew)); exact HO731.out) hb); have n1_ := Aside0.mk (Kd.N_elder' (by (with_reducible repeat (first | apply Kd.N_alloc | apply Kd.N_drewN | apply Kd.N_drew)); exact HO734.out) (by first | exact Kd.N_base ho0 | exact Kd.N_base (Kd.S_N ho0) | exact Kd.N_base (Kd.R_N ho0)) hb); have n2_ := Aside0.mk (Kd.N_lower (Kd.N_mono (ok' := fun k_ => some k_ ≠ (.slice Ao58 t727.length co58 : Value).ownBlock ∧ some k_ ≠ (.slice Ao60 t732.length co60 : Value).ownBlock) ho0 (fun k_ hk_ => ⟨(Kd.fresh' (Kd.Q_lt (by (with_reducible repeat (first | apply Kd.Q_alloc | apply Kd.Q_drewN | apply Kd.Q_drew)); exact HO731.out)) k_ hk_), (Kd.fresh' (Kd.N_lt (by (with_reducible repeat (first | apply Kd.N_alloc | apply Kd.N_drewN | apply Kd.N_drew)); exact HO734.out)) k_ hk_)⟩)) (below_size (by repeat (first | (with_reducible first | exact HB.out | apply below_alloc | apply pw_below_drewN | apply below_drew1) | exact HB.out)))); have n3_ := Aside0.mk (below_step (by repeat (first | (with_reducible first | exact HB.out | apply below_alloc | apply pw_below_drewN | apply below_drew1) | exact HB.out)) hb); clear HO731; clear HO734; clear HB; have HO731 := n0_; have HO734 := n1_; have HO737 := n2_; have HB := n3_; clear n0_ n1_ n2_ n3_; (try clear hb); (try clear hb2); (try clear hk); (try clear hi); (try clear ho0); obtain ⟨Ao62, co62, eo62⟩ := Kd.N_slice HO737.out; subst eo62))
      go_ret
      exact ⟨by first | rfl | (simp [errW_none, errW_some] <;> rfl) | (simp [*, errW_none, errW_some] <;> rfl), by repeat (first | (with_reducible first | exact HB.out | apply below_alloc | apply pw_below_drewN | apply below_drew1) | exact HB.out)⟩
end Go.Proofs.Ytbcikbekdhdpaaa.Q
end
