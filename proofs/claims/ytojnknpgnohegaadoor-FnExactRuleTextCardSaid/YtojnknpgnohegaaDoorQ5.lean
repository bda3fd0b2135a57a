-- Written by wip/pr.py (this session's own program, over the kit's printer) for the seat YtojnknpgnohegaaDoor.
import Derived.Test.YtojnknpgnohegaaDoorQ0
import Derived.Test.YtojnknpgnohegaaDoorQ1
namespace Go.Proofs.YtojnknpgnohegaaDoor.Q
open Go.RowKit Go.Proofs.YtojnknpgnohegaaDoorW.PrintWords Go.Proofs.YtojnknpgnohegaaDoorW.PrintLast Go.Proofs.YtojnknpgnohegaaDoorW.PrintMore
attribute [local go_sem] max2_int min2_int max_two min_two max_three min_three max_four min_four   -- for this text's walks alone
set_option linter.unusedVariables false
set_option linter.unusedSimpArgs false

/-! ### spec_RuleValid: function 33 -/
mutual
def spec_RuleValid.l0 : Nat → Int → Int → Int → List Int → Int → Option (Bool)
  | 0, _, _, _, _, _ => none
  | k + 1, x1, x5, x172000, x172001, x172002 => if x5 < (x172001.length : Int) then (if 0 ≤ x5 then ((spec_l1In.f (rd x172001 x5) 0 (wrap64 ((wrap64 (x1 * x1)) - 1))).bind fun t173 => (if t173 = true then (spec_RuleValid.l1 k x1 x5 0 x172000 x172001 x172002) else (some false))) else (none)) else ((spec_l1In.f x1 2 4).bind fun t176 => (if t176 = true then (spec_RuleValid.j2 k x1 (x172001.length : Int) (decide ((x172001.length : Int) > 4)) x172000 x172001 x172002) else (spec_RuleValid.j2 k x1 (x172001.length : Int) true x172000 x172001 x172002)))
def spec_RuleValid.l1 : Nat → Int → Int → Int → Int → List Int → Int → Option (Bool)
  | 0, _, _, _, _, _, _ => none
  | k + 1, x1, x5, x6, x172000, x172001, x172002 => if x6 < x5 then (if 0 ≤ x6 then (if x6 < (x172001.length : Int) then (if 0 ≤ x5 then (if x5 < (x172001.length : Int) then (if (rd x172001 x6) = (rd x172001 x5) then (some false) else (spec_RuleValid.l1 k x1 x5 (wrap64 (x6 + 1)) x172000 x172001 x172002)) else (none)) else (none)) else (none)) else (none)) else (spec_RuleValid.l0 k x1 (wrap64 (x5 + 1)) x172000 x172001 x172002)
def spec_RuleValid.j2 : Nat → Int → Int → Bool → Int → List Int → Int → Option (Bool)
  | 0, _, _, _, _, _, _ => none
  | k + 1, x1, x7, x51, x172000, x172001, x172002 => if x51 = true then (some false) else (if x172000 = 1 then (if x7 ≥ 2 then (some (x172002 == 0)) else (some false)) else (if x172000 = 2 then (spec_RuleValid.j3 k x1 x7 x172000 (x172000 == 2) x172000 x172001 x172002) else (spec_RuleValid.j3 k x1 x7 x172000 (x172000 == 3) x172000 x172001 x172002)))
def spec_RuleValid.j3 : Nat → Int → Int → Int → Bool → Int → List Int → Int → Option (Bool)
  | 0, _, _, _, _, _, _, _ => none
  | k + 1, x1, x7, x53, x63, x172000, x172001, x172002 => if x63 = true then (if x7 ≥ 1 then ((spec_l1In.f x172002 1 (wrap64 ((wrap64 ((wrap64 (x1 * x1)) * x1)) * x1))).bind fun t177 => (some t177)) else (some false)) else (if x53 = 4 then (if x7 = 2 then (some (x172002 == 0)) else (some false)) else (if x53 = 5 then (if x7 = 2 then ((spec_l1In.f x172002 0 (wrap64 (x1 - 1))).bind fun t178 => (some t178)) else (some false)) else (some false)))
end
def spec_RuleValid.f (k : Nat) (a0_0 : Int) (l0_1 : List Int) (a0_2 : Int) (a1 : Int) : Option (Bool) := spec_RuleValid.l0 k a1 0 a0_0 l0_1 a0_2
theorem spec_RuleValid.mono_l : ∀ k, (∀ y0 y1 y2 y3 y4, LeO (spec_RuleValid.l0 k y0 y1 y2 y3 y4) (spec_RuleValid.l0 (k + 1) y0 y1 y2 y3 y4)) ∧ (∀ y0 y1 y2 y3 y4 y5, LeO (spec_RuleValid.l1 k y0 y1 y2 y3 y4 y5) (spec_RuleValid.l1 (k + 1) y0 y1 y2 y3 y4 y5)) ∧ (∀ y0 y1 y2 y3 y4 y5, LeO (spec_RuleValid.j2 k y0 y1 y2 y3 y4 y5) (spec_RuleValid.j2 (k + 1) y0 y1 y2 y3 y4 y5)) ∧ (∀ y0 y1 y2 y3 y4 y5 y6, LeO (spec_RuleValid.j3 k y0 y1 y2 y3 y4 y5 y6) (spec_RuleValid.j3 (k + 1) y0 y1 y2 y3 y4 y5 y6))
  | 0 => ⟨fun _ _ _ _ _ r h => by simp [spec_RuleValid.l0] at h, fun _ _ _ _ _ _ r h => by simp [spec_RuleValid.l1] at h, fun _ _ _ _ _ _ r h => by simp [spec_RuleValid.j2] at h, fun _ _ _ _ _ _ _ r h => by simp [spec_RuleValid.j3] at h⟩
  | k + 1 => by
    obtain ⟨ih0, ih1, ih2, ih3⟩ := spec_RuleValid.mono_l k
    refine ⟨?_, ?_, ?_, ?_⟩
    · intro y0 y1 y2 y3 y4
      unfold spec_RuleValid.l0
      repeat' first
      | (with_reducible exact ih0 _ _ _ _ _)
      | (with_reducible exact ih1 _ _ _ _ _ _)
      | (with_reducible exact ih2 _ _ _ _ _ _)
      | (with_reducible exact ih3 _ _ _ _ _ _ _)
      | (with_reducible exact LeO.refl _)
      | (with_reducible exact LeO.none _)
      | (with_reducible refine LeO.ite ?_ ?_)
      | (with_reducible refine LeO.bind ?_ (fun _ => ?_))
      | exact ih0 _ _ _ _ _
      | exact ih1 _ _ _ _ _ _
      | exact ih2 _ _ _ _ _ _
      | exact ih3 _ _ _ _ _ _ _
      | exact LeO.none _
      | refine LeO.ite ?_ ?_
      | refine LeO.bind ?_ (fun _ => ?_)
    · intro y0 y1 y2 y3 y4 y5
      unfold spec_RuleValid.l1
      repeat' first
      | (with_reducible exact ih0 _ _ _ _ _)
      | (with_reducible exact ih1 _ _ _ _ _ _)
      | (with_reducible exact ih2 _ _ _ _ _ _)
      | (with_reducible exact ih3 _ _ _ _ _ _ _)
      | (with_reducible exact LeO.refl _)
      | (with_reducible exact LeO.none _)
      | (with_reducible refine LeO.ite ?_ ?_)
      | (with_reducible refine LeO.bind ?_ (fun _ => ?_))
      | exact ih0 _ _ _ _ _
      | exact ih1 _ _ _ _ _ _
      | exact ih2 _ _ _ _ _ _
      | exact ih3 _ _ _ _ _ _ _
      | exact LeO.none _
      | refine LeO.ite ?_ ?_
      | refine LeO.bind ?_ (fun _ => ?_)
    · intro y0 y1 y2 y3 y4 y5
      unfold spec_RuleValid.j2
      repeat' first
      | (with_reducible exact ih0 _ _ _ _ _)
      | (with_reducible exact ih1 _ _ _ _ _ _)
      | (with_reducible exact ih2 _ _ _ _ _ _)
      | (with_reducible exact ih3 _ _ _ _ _ _ _)
      | (with_reducible exact LeO.refl _)
      | (with_reducible exact LeO.none _)
      | (with_reducible refine LeO.ite ?_ ?_)
      | (with_reducible refine LeO.bind ?_ (fun _ => ?_))
      | exact ih0 _ _ _ _ _
      | exact ih1 _ _ _ _ _ _
      | exact ih2 _ _ _ _ _ _
      | exact ih3 _ _ _ _ _ _ _
      | exact LeO.none _
      | refine LeO.ite ?_ ?_
      | refine LeO.bind ?_ (fun _ => ?_)
    · intro y0 y1 y2 y3 y4 y5 y6
      unfold spec_RuleValid.j3
      repeat' first
      | (with_reducible exact ih0 _ _ _ _ _)
      | (with_reducible exact ih1 _ _ _ _ _ _)
      | (with_reducible exact ih2 _ _ _ _ _ _)
      | (with_reducible exact ih3 _ _ _ _ _ _ _)
      | (with_reducible exact LeO.refl _)
      | (with_reducible exact LeO.none _)
      | (with_reducible refine LeO.ite ?_ ?_)
      | (with_reducible refine LeO.bind ?_ (fun _ => ?_))
      | exact ih0 _ _ _ _ _
      | exact ih1 _ _ _ _ _ _
      | exact ih2 _ _ _ _ _ _
      | exact ih3 _ _ _ _ _ _ _
      | exact LeO.none _
      | refine LeO.ite ?_ ?_
      | refine LeO.bind ?_ (fun _ => ?_)
theorem spec_RuleValid.mono : ∀ a0 a1 a2 a3 k, LeO (spec_RuleValid.f k a0 a1 a2 a3) (spec_RuleValid.f (k + 1) a0 a1 a2 a3) := by
  intro a0 a1 a2 a3 k
  obtain ⟨ih0, ih1, ih2, ih3⟩ := spec_RuleValid.mono_l k
  unfold spec_RuleValid.f
  repeat' first
      | (with_reducible exact ih0 _ _ _ _ _)
      | (with_reducible exact ih1 _ _ _ _ _ _)
      | (with_reducible exact ih2 _ _ _ _ _ _)
      | (with_reducible exact ih3 _ _ _ _ _ _ _)
      | (with_reducible exact LeO.refl _)
      | (with_reducible exact LeO.none _)
      | (with_reducible refine LeO.ite ?_ ?_)
      | (with_reducible refine LeO.bind ?_ (fun _ => ?_))
      | exact ih0 _ _ _ _ _
      | exact ih1 _ _ _ _ _ _
      | exact ih2 _ _ _ _ _ _
      | exact ih3 _ _ _ _ _ _ _
      | exact LeO.none _
      | refine LeO.ite ?_ ?_
      | refine LeO.bind ?_ (fun _ => ?_)
set_option maxHeartbeats 8000000 in
set_option maxRecDepth 100000 in
theorem spec_RuleValid.calls (k : Nat) (a0_0 : Int) (A0_1 : Option Addr) (c0_1 : Nat) (l0_1 : List Int) (a0_2 : Int) (a1 : Int) (r : Bool) (w : World) (hr0_1 : Kd.C (Kd.int .i64) w A0_1 l0_1.length l0_1) (hc0_1 : l0_1.length ≤ c0_1) (h : spec_RuleValid.f k a0_0 l0_1 a0_2 a1 = some r) :
    Calls Tryd.prog 33 #[.agg #[.int .i64 a0_0, .slice A0_1 l0_1.length c0_1, .int .i64 a0_2], .int .i64 a1] w fun e w' => e = .returned (.bool r) ∧ Below w.heap.size w w' := by
  have hu37 := Tryd.underlying37
  have HR0_1 := Aside0.mk hr0_1
  have HC0_1 := Aside0.mk hc0_1
  clear hr0_1 hc0_1
  have HB := Aside0.mk (Below.refl w.heap.size w)
  have H : (spec_RuleValid.l0 k a1 0 a0_0 l0_1 a0_2) = some r := h
  clear h
  have H' := Aside0.mk H
  clear H
  go_enter Tryd.func33, Tryd.ntmps33
  go_wp2_with (first | ((with_reducible refine gate_dst (N := 2) rfl ?_); refine box_event ?hg (N := 2) ?hd (cs := #[.int .i64 a0_0, .slice A0_1 l0_1.length c0_1, .int .i64 a0_2]) (t := 37) ?hr ?_; (case hd => rfl); (case hg => rfl); (case hr => first | (go_simp; done) | (go_simp; rfl)); intro gb171 hg w3 hbox hb; have n0_ := Aside0.mk (below_step (by repeat (first | (with_reducible first | exact HB.out | apply below_alloc | apply pw_below_drewN | apply below_drew1) | exact HB.out)) hb); have n1_ := Aside0.mk (hbox); have n2_ := Aside0.mk ((by rw [hg]; exact (below_size (by repeat (first | (with_reducible first | exact HB.out | apply below_alloc | apply pw_below_drewN | apply below_drew1) | exact HB.out))) : w.heap.size ≤ gb171)); have n3_ := Aside0.mk ((by rw [hg]; exact (below_size (by repeat (first | (with_reducible first | exact HB.out | apply below_alloc | apply pw_below_drewN | apply below_drew1) | exact HB.out))) : w.heap.size ≤ gb171)); clear HB; have HB := n0_; have BK171 := n1_; have GW171 := n2_; have GE171 := n3_; clear n0_ n1_ n2_ n3_; clear hb hbox hg))
  repeat (go_quiet (first | ((with_reducible refine gate_dst (N := 2) rfl ?_); refine box_event ?hg (N := 2) ?hd (cs := #[.int .i64 a0_0, .slice A0_1 l0_1.length c0_1, .int .i64 a0_2]) (t := 37) ?hr ?_; (case hd => rfl); (case hg => rfl); (case hr => first | (go_simp; done) | (go_simp; rfl)); intro gb171 hg w3 hbox hb; have n0_ := Aside0.mk (below_step (by repeat (first | (with_reducible first | exact HB.out | apply below_alloc | apply pw_below_drewN | apply below_drew1) | exact HB.out)) hb); have n1_ := Aside0.mk (hbox); have n2_ := Aside0.mk ((by rw [hg]; exact (below_size (by repeat (first | (with_reducible first | exact HB.out | apply below_alloc | apply pw_below_drewN | apply below_drew1) | exact HB.out))) : w.heap.size ≤ gb171)); have n3_ := Aside0.mk ((by rw [hg]; exact (below_size (by repeat (first | (with_reducible first | exact HB.out | apply below_alloc | apply pw_below_drewN | apply below_drew1) | exact HB.out))) : w.heap.size ≤ gb171)); clear HB; have HB := n0_; have BK171 := n1_; have GW171 := n2_; have GE171 := n3_; clear n0_ n1_ n2_ n3_; clear hb hbox hg)); try go_wp2_with (first | ((with_reducible refine gate_dst (N := 2) rfl ?_); refine box_event ?hg (N := 2) ?hd (cs := #[.int .i64 a0_0, .slice A0_1 l0_1.length c0_1, .int .i64 a0_2]) (t := 37) ?hr ?_; (case hd => rfl); (case hg => rfl); (case hr => first | (go_simp; done) | (go_simp; rfl)); intro gb171 hg w3 hbox hb; have n0_ := Aside0.mk (below_step (by repeat (first | (with_reducible first | exact HB.out | apply below_alloc | apply pw_below_drewN | apply below_drew1) | exact HB.out)) hb); have n1_ := Aside0.mk (hbox); have n2_ := Aside0.mk ((by rw [hg]; exact (below_size (by repeat (first | (with_reducible first | exact HB.out | apply below_alloc | apply pw_below_drewN | apply below_drew1) | exact HB.out))) : w.heap.size ≤ gb171)); have n3_ := Aside0.mk ((by rw [hg]; exact (below_size (by repeat (first | (with_reducible first | exact HB.out | apply below_alloc | apply pw_below_drewN | apply below_drew1) | exact HB.out))) : w.heap.size ≤ gb171)); clear HB; have HB := n0_; have BK171 := n1_; have GW171 := n2_; have GE171 := n3_; clear n0_ n1_ n2_ n3_; clear hb hbox hg)))
  go_loopg [5] k (fun kq v5 w' => ∃ (x5_1 : Int), v5 = .int .i64 x5_1 ∧ Aside0 (spec_RuleValid.l0 kq a1 x5_1 a0_0 l0_1 a0_2 = some r) ∧ Aside0 (kq ≤ k) ∧ Aside0 (w'.heap[gb171]? = some (.cells #[.int .i64 a0_0, (.slice A0_1 l0_1.length c0_1), .int .i64 a0_2] 37 (0, 0))) ∧ Aside0 (Below w.heap.size w w'))
  case atStart => exact ⟨(0), (by first | rfl | (simp; done) | (simp [*]; done)), H', ⟨Nat.le_refl _⟩, ⟨by (with_reducible repeat (first | refine blk_drewN ?_ _ | refine blk_drew ?_ | refine blk_alloc ?_ _)); exact BK171.out⟩, ⟨by repeat (first | (with_reducible first | exact HB.out | apply below_alloc | apply pw_below_drewN | apply below_drew1 | refine below_set ?_ GE171.out) | exact HB.out)⟩⟩
  case round =>
    clear H'
    try clear p2
    try clear c3
    obtain ⟨x5_1, rfl, HA, HK1, BK171, HB⟩ := hrel
    cases gk with
    | zero => exact absurd HA.out (by simp [spec_RuleValid.l0])
    | succ k1 =>
      have H := HA.out
      clear HA
      simp only [spec_RuleValid.l0] at H
      by_cases c4 : x5_1 < (l0_1.length : Int)
      · rw [if_pos c4] at H
        have c4b0 : decide (x5_1 < (l0_1.length : Int)) = true := decide_eq_true c4
        clear c4
        by_cases c5 : 0 ≤ x5_1
        · rw [if_pos c5] at H
          have c5b0 : decide (0 ≤ x5_1) = true := decide_eq_true c5
          clear c5
          replace H := Option.bind_eq_some_iff.mp H
          obtain ⟨t173, A60, H⟩ := H
          replace H : (if t173 = true then (spec_RuleValid.l1 k1 a1 x5_1 0 a0_0 l0_1 a0_2) else (some false)) = some r := H
          have A6 := Aside0.mk A60
          clear A60
          by_cases c7 : t173 = true
          · subst c7
            have H1 : (spec_RuleValid.l1 k1 a1 x5_1 0 a0_0 l0_1 a0_2) = some r := by rw [if_pos rfl] at H; exact H
            clear H
            have H := H1
            clear H1
            have H' := Aside0.mk H
            clear H
            have hcz8_0 : wr.cell? ⟨gb171, 0, none⟩ = some (.int .i64 a0_0) := (blk_cell BK171.out 0).trans rfl
            have hcz8_1 : wr.cell? ⟨gb171, 1, none⟩ = some (.slice A0_1 l0_1.length c0_1) := (blk_cell BK171.out 1).trans rfl
            have hcz8_2 : wr.cell? ⟨gb171, 2, none⟩ = some (.int .i64 a0_2) := (blk_cell BK171.out 2).trans rfl
            have hfz8_0 := blk_frozen BK171.out 0
            have hfz8_1 := blk_frozen BK171.out 1
            have hfz8_2 := blk_frozen BK171.out 2
            have p172 : 0 ≤ (x5_1 : Int) := of_decide_eq_true (by first | (with_reducible assumption) | assumption)
            have q172 : x5_1 < (l0_1.length : Int) := of_decide_eq_true (by first | (with_reducible assumption) | assumption)
            obtain ⟨ad172, e172, hx172_0⟩ := Kd.at_int HR0_1.out x5_1 p172 q172
            cases e172
            replace hx172_0 := (HB.out.cell (World.block_lt_of_cell? w _ hx172_0)).trans hx172_0
            replace p172 := eq_true p172
            replace q172 := eq_true q172
            go_wp2_with (first | (go_at_call 27; (with_reducible refine (spec_l1In.calls (rd l0_1 x5_1) 0 (wrap64 ((wrap64 (a1 * a1)) - 1)) true _ A6.out).mono ?_); rintro e w' ⟨rfl, ⟨nd, rfl⟩⟩; (try first | exact ⟨rfl, _, World.drewN_drewN _ _ _⟩ | exact ⟨rfl, _, Eq.trans (World.drewN_drewN _ _ _) (congrArg (World.drewN _) (Nat.add_assoc _ _ _))⟩)))
            repeat (go_quiet (first | (go_at_call 27; (with_reducible refine (spec_l1In.calls (rd l0_1 x5_1) 0 (wrap64 ((wrap64 (a1 * a1)) - 1)) true _ A6.out).mono ?_); rintro e w' ⟨rfl, ⟨nd, rfl⟩⟩; (try first | exact ⟨rfl, _, World.drewN_drewN _ _ _⟩ | exact ⟨rfl, _, Eq.trans (World.drewN_drewN _ _ _) (congrArg (World.drewN _) (Nat.add_assoc _ _ _))⟩))); try go_wp2_with (first | (go_at_call 27; (with_reducible refine (spec_l1In.calls (rd l0_1 x5_1) 0 (wrap64 ((wrap64 (a1 * a1)) - 1)) true _ A6.out).mono ?_); rintro e w' ⟨rfl, ⟨nd, rfl⟩⟩; (try first | exact ⟨rfl, _, World.drewN_drewN _ _ _⟩ | exact ⟨rfl, _, Eq.trans (World.drewN_drewN _ _ _) (congrArg (World.drewN _) (Nat.add_assoc _ _ _))⟩))))
            go_loopg [6] k1 (fun kq v6 w' => ∃ (x6_2 : Int), v6 = .int .i64 x6_2 ∧ Aside0 (spec_RuleValid.l1 kq a1 x5_1 x6_2 a0_0 l0_1 a0_2 = some r) ∧ Aside0 (kq ≤ k1) ∧ Aside0 (w'.heap[gb171]? = some (.cells #[.int .i64 a0_0, (.slice (some ad172) l0_1.length c0_1), .int .i64 a0_2] 37 (0, 0))) ∧ Aside0 (Below w.heap.size w w'))
            case atStart => exact ⟨(0), (by first | rfl | (simp; done) | (simp [*]; done)), H', ⟨Nat.le_refl _⟩, ⟨by (with_reducible repeat (first | refine blk_drewN ?_ _ | refine blk_drew ?_ | refine blk_alloc ?_ _)); exact BK171.out⟩, ⟨by repeat (first | (with_reducible first | exact HB.out | apply below_alloc | apply pw_below_drewN | apply below_drew1 | refine below_set ?_ GE171.out) | exact HB.out)⟩⟩
            case round =>
              clear H'
              try clear p1
              try clear q1
              try clear hx1
              try clear p2
              try clear c3
              try clear c4
              try clear c4b0
              try clear c5
              try clear c5b0
              try clear p6
              try clear c7
              try clear hcz8_0
              try clear hcz8_1
              try clear hcz8_2
              try clear hfz8_0
              try clear hfz8_1
              try clear hfz8_2
              try clear hx172_0
              try clear p172
              try clear p2
              try clear q172
              obtain ⟨x6_2, rfl, HA, HK2, BK171, HB⟩ := hrel
              cases gk with
              | zero => exact absurd HA.out (by simp [spec_RuleValid.l1])
              | succ k2 =>
                have H := HA.out
                clear HA
                simp only [spec_RuleValid.l1] at H
                by_cases c9 : x6_2 < x5_1
                · rw [if_pos c9] at H
                  have c9b0 : decide (x6_2 < x5_1) = true := decide_eq_true c9
                  clear c9
                  by_cases c10 : 0 ≤ x6_2
                  · rw [if_pos c10] at H
                    have c10b0 : decide (0 ≤ x6_2) = true := decide_eq_true c10
                    clear c10
                    by_cases c11 : x6_2 < (l0_1.length : Int)
                    · rw [if_pos c11] at H
                      have c11b0 : decide (x6_2 < (l0_1.length : Int)) = true := decide_eq_true c11
                      clear c11
                      by_cases c12 : 0 ≤ x5_1
                      · rw [if_pos c12] at H
                        have c12b0 : decide (0 ≤ x5_1) = true := decide_eq_true c12
                        clear c12
                        by_cases c13 : x5_1 < (l0_1.length : Int)
                        · rw [if_pos c13] at H
                          have c13b0 : decide (x5_1 < (l0_1.length : Int)) = true := decide_eq_true c13
                          clear c13
                          by_cases c14 : (rd l0_1 x6_2) = (rd l0_1 x5_1)
                          · rw [if_pos c14] at H
                            have c14b0 : ((rd l0_1 x6_2) == (rd l0_1 x5_1)) = true := beq_iff_eq.mpr c14
                            have c14b1 : ((rd l0_1 x6_2) != (rd l0_1 x5_1)) = false := bne_eq_false_iff_eq.mpr c14
                            clear c14
                            obtain rfl := Option.some.inj H
                            have hcz15_0 : wr.cell? ⟨gb171, 0, none⟩ = some (.int .i64 a0_0) := (blk_cell BK171.out 0).trans rfl
                            have hcz15_1 : wr.cell? ⟨gb171, 1, none⟩ = some (.slice (some ad172) l0_1.length c0_1) := (blk_cell BK171.out 1).trans rfl
                            have hcz15_2 : wr.cell? ⟨gb171, 2, none⟩ = some (.int .i64 a0_2) := (blk_cell BK171.out 2).trans rfl
                            have hfz15_0 := blk_frozen BK171.out 0
                            have hfz15_1 := blk_frozen BK171.out 1
                            have hfz15_2 := blk_frozen BK171.out 2
                            have p174 : 0 ≤ (x6_2 : Int) := of_decide_eq_true (by first | (with_reducible assumption) | assumption)
                            have q174 : x6_2 < (l0_1.length : Int) := of_decide_eq_true (by first | (with_reducible assumption) | assumption)
                            obtain ⟨ad174, e174, hx174_0⟩ := Kd.at_int HR0_1.out x6_2 p174 q174
                            obtain rfl : ad172 = ad174 := (by injection e174)
                            replace hx174_0 := (HB.out.cell (World.block_lt_of_cell? w _ hx174_0)).trans hx174_0
                            replace p174 := eq_true p174
                            replace q174 := eq_true q174
                            have p175 : 0 ≤ (x5_1 : Int) := of_decide_eq_true (by first | (with_reducible assumption) | assumption)
                            have q175 : x5_1 < (l0_1.length : Int) := of_decide_eq_true (by first | (with_reducible assumption) | assumption)
                            obtain ⟨ad175, e175, hx175_0⟩ := Kd.at_int HR0_1.out x5_1 p175 q175
                            obtain rfl : ad172 = ad175 := (by injection e175)
                            replace hx175_0 := (HB.out.cell (World.block_lt_of_cell? w _ hx175_0)).trans hx175_0
                            replace p175 := eq_true p175
                            replace q175 := eq_true q175
                            go_wp2
                            repeat (go_quiet (fail); try go_wp2)
                            go_ret
                            exact ⟨by first | rfl | (simp [errW_none, errW_some] <;> rfl) | (simp [*, errW_none, errW_some] <;> rfl), by repeat (first | (with_reducible first | exact HB.out | apply below_alloc | apply pw_below_drewN | apply below_drew1 | refine below_set ?_ GE171.out) | exact HB.out)⟩
                          · rw [if_neg c14] at H
                            have c14b0 : ((rd l0_1 x6_2) == (rd l0_1 x5_1)) = false := beq_eq_false_iff_ne.mpr c14
                            have c14b1 : ((rd l0_1 x6_2) != (rd l0_1 x5_1)) = true := bne_iff_ne.mpr c14
                            have H' := Aside0.mk H
                            clear H
                            have hcz16_0 : wr.cell? ⟨gb171, 0, none⟩ = some (.int .i64 a0_0) := (blk_cell BK171.out 0).trans rfl
                            have hcz16_1 : wr.cell? ⟨gb171, 1, none⟩ = some (.slice (some ad172) l0_1.length c0_1) := (blk_cell BK171.out 1).trans rfl
                            have hcz16_2 : wr.cell? ⟨gb171, 2, none⟩ = some (.int .i64 a0_2) := (blk_cell BK171.out 2).trans rfl
                            have hfz16_0 := blk_frozen BK171.out 0
                            have hfz16_1 := blk_frozen BK171.out 1
                            have hfz16_2 := blk_frozen BK171.out 2
                            have p174 : 0 ≤ (x6_2 : Int) := of_decide_eq_true (by first | (with_reducible assumption) | assumption)
                            have q174 : x6_2 < (l0_1.length : Int) := of_decide_eq_true (by first | (with_reducible assumption) | assumption)
                            obtain ⟨ad174, e174, hx174_0⟩ := Kd.at_int HR0_1.out x6_2 p174 q174
                            obtain rfl : ad172 = ad174 := (by injection e174)
                            replace hx174_0 := (HB.out.cell (World.block_lt_of_cell? w _ hx174_0)).trans hx174_0
                            replace p174 := eq_true p174
                            replace q174 := eq_true q174
                            have p175 : 0 ≤ (x5_1 : Int) := of_decide_eq_true (by first | (with_reducible assumption) | assumption)
                            have q175 : x5_1 < (l0_1.length : Int) := of_decide_eq_true (by first | (with_reducible assumption) | assumption)
                            obtain ⟨ad175, e175, hx175_0⟩ := Kd.at_int HR0_1.out x5_1 p175 q175
                            obtain rfl : ad172 = ad175 := (by injection e175)
                            replace hx175_0 := (HB.out.cell (World.block_lt_of_cell? w _ hx175_0)).trans hx175_0
                            replace p175 := eq_true p175
                            replace q175 := eq_true q175
                            go_wp2
                            repeat (go_quiet (fail); try go_wp2)
                            go_roundg k2
                            case measure => have := HK1.out; have := HK2.out; omega
                            case rel => exact ⟨(wrap64 (x6_2 + 1)), (by first | rfl | (simp; done) | (simp [*]; done)), H', ⟨by have := HK1.out; have := HK2.out; omega⟩, ⟨by (with_reducible repeat (first | refine blk_drewN ?_ _ | refine blk_drew ?_ | refine blk_alloc ?_ _)); exact BK171.out⟩, ⟨by repeat (first | (with_reducible first | exact HB.out | apply below_alloc | apply pw_below_drewN | apply below_drew1 | refine below_set ?_ GE171.out) | exact HB.out)⟩⟩
                        · rw [if_neg c13] at H
                          exact absurd H (by simp)
                      · rw [if_neg c12] at H
                        exact absurd H (by simp)
                    · rw [if_neg c11] at H
                      exact absurd H (by simp)
                  · rw [if_neg c10] at H
                    exact absurd H (by simp)
                · rw [if_neg c9] at H
                  have c9b0 : decide (x6_2 < x5_1) = false := decide_eq_false c9
                  clear c9
                  have H' := Aside0.mk H
                  clear H
                  go_wp2
                  repeat (go_quiet (fail); try go_wp2)
                  go_roundg k2
                  case measure => have := HK1.out; have := HK2.out; omega
                  case rel => exact ⟨(wrap64 (x5_1 + 1)), (by first | rfl | (simp; done) | (simp [*]; done)), H', ⟨by have := HK1.out; have := HK2.out; omega⟩, ⟨by (with_reducible repeat (first | refine blk_drewN ?_ _ | refine blk_drew ?_ | refine blk_alloc ?_ _)); exact BK171.out⟩, ⟨by repeat (first | (with_reducible first | exact HB.out | apply below_alloc | apply pw_below_drewN | apply below_drew1 | refine below_set ?_ GE171.out) | exact HB.out)⟩⟩
          · replace c7 := Bool.eq_false_iff.mpr c7
            subst c7
            have H1 : (some false) = some r := by rw [if_neg (show ¬ (false = true) by decide)] at H; exact H
            clear H
            have H := H1
            clear H1
            obtain rfl := Option.some.inj H
            have hcz17_0 : wr.cell? ⟨gb171, 0, none⟩ = some (.int .i64 a0_0) := (blk_cell BK171.out 0).trans rfl
            have hcz17_1 : wr.cell? ⟨gb171, 1, none⟩ = some (.slice A0_1 l0_1.length c0_1) := (blk_cell BK171.out 1).trans rfl
            have hcz17_2 : wr.cell? ⟨gb171, 2, none⟩ = some (.int .i64 a0_2) := (blk_cell BK171.out 2).trans rfl
            have hfz17_0 := blk_frozen BK171.out 0
            have hfz17_1 := blk_frozen BK171.out 1
            have hfz17_2 := blk_frozen BK171.out 2
            have p172 : 0 ≤ (x5_1 : Int) := of_decide_eq_true (by first | (with_reducible assumption) | assumption)
            have q172 : x5_1 < (l0_1.length : Int) := of_decide_eq_true (by first | (with_reducible assumption) | assumption)
            obtain ⟨ad172, e172, hx172_0⟩ := Kd.at_int HR0_1.out x5_1 p172 q172
            cases e172
            replace hx172_0 := (HB.out.cell (World.block_lt_of_cell? w _ hx172_0)).trans hx172_0
            replace p172 := eq_true p172
            replace q172 := eq_true q172
            go_wp2_with (first | (go_at_call 27; (with_reducible refine (spec_l1In.calls (rd l0_1 x5_1) 0 (wrap64 ((wrap64 (a1 * a1)) - 1)) false _ A6.out).mono ?_); rintro e w' ⟨rfl, ⟨nd, rfl⟩⟩; (try first | exact ⟨rfl, _, World.drewN_drewN _ _ _⟩ | exact ⟨rfl, _, Eq.trans (World.drewN_drewN _ _ _) (congrArg (World.drewN _) (Nat.add_assoc _ _ _))⟩)))
            repeat (go_quiet (first | (go_at_call 27; (with_reducible refine (spec_l1In.calls (rd l0_1 x5_1) 0 (wrap64 ((wrap64 (a1 * a1)) - 1)) false _ A6.out).mono ?_); rintro e w' ⟨rfl, ⟨nd, rfl⟩⟩; (try first | exact ⟨rfl, _, World.drewN_drewN _ _ _⟩ | exact ⟨rfl, _, Eq.trans (World.drewN_drewN _ _ _) (congrArg (World.drewN _) (Nat.add_assoc _ _ _))⟩))); try go_wp2_with (first | (go_at_call 27; (with_reducible refine (spec_l1In.calls (rd l0_1 x5_1) 0 (wrap64 ((wrap64 (a1 * a1)) - 1)) false _ A6.out).mono ?_); rintro e w' ⟨rfl, ⟨nd, rfl⟩⟩; (try first | exact ⟨rfl, _, World.drewN_drewN _ _ _⟩ | exact ⟨rfl, _, Eq.trans (World.drewN_drewN _ _ _) (congrArg (World.drewN _) (Nat.add_assoc _ _ _))⟩))))
            go_ret
            exact ⟨by first | rfl | (simp [errW_none, errW_some] <;> rfl) | (simp [*, errW_none, errW_some] <;> rfl), by repeat (first | (with_reducible first | exact HB.out | apply below_alloc | apply pw_below_drewN | apply below_drew1 | refine below_set ?_ GE171.out) | exact HB.out)⟩
        · rw [if_neg c5] at H
          exact absurd H (by simp)
      · rw [if_neg c4] at H
        have c4b0 : decide (x5_1 < (l0_1.length : Int)) = false := decide_eq_false c4
        clear c4
        have HC18 := Aside0.mk H
        clear H
        have hcz19_0 : wr.cell? ⟨gb171, 0, none⟩ = some (.int .i64 a0_0) := (blk_cell BK171.out 0).trans rfl
        have hcz19_1 : wr.cell? ⟨gb171, 1, none⟩ = some (.slice A0_1 l0_1.length c0_1) := (blk_cell BK171.out 1).trans rfl
        have hcz19_2 : wr.cell? ⟨gb171, 2, none⟩ = some (.int .i64 a0_2) := (blk_cell BK171.out 2).trans rfl
        have hfz19_0 := blk_frozen BK171.out 0
        have hfz19_1 := blk_frozen BK171.out 1
        have hfz19_2 := blk_frozen BK171.out 2
        go_upto_region 12 with (fail)
        repeat (go_quiet (fail); go_upto_region 12 with (fail))
        go_cut [51] (fun v51 wc => ∃ (kq : Nat) (x51_17 : Bool), v51 = .bool x51_17 ∧ Aside0 (spec_RuleValid.j2 kq a1 (l0_1.length : Int) x51_17 a0_0 l0_1 a0_2 = some r) ∧ Aside0 (kq ≤ k1) ∧ Aside0 (wc.heap[gb171]? = some (.cells #[.int .i64 a0_0, (.slice A0_1 l0_1.length c0_1), .int .i64 a0_2] 37 (0, 0))) ∧ Aside0 (Below w.heap.size w wc))
        case first =>
          have H := HC18.out
          clear HC18
          replace H := Option.bind_eq_some_iff.mp H
          obtain ⟨t176, A200, H⟩ := H
          replace H : (if t176 = true then (spec_RuleValid.j2 k1 a1 (l0_1.length : Int) (decide ((l0_1.length : Int) > 4)) a0_0 l0_1 a0_2) else (spec_RuleValid.j2 k1 a1 (l0_1.length : Int) true a0_0 l0_1 a0_2)) = some r := H
          have A20 := Aside0.mk A200
          clear A200
          by_cases c21 : t176 = true
          · subst c21
            have H1 : (spec_RuleValid.j2 k1 a1 (l0_1.length : Int) (decide ((l0_1.length : Int) > 4)) a0_0 l0_1 a0_2) = some r := by rw [if_pos rfl] at H; exact H
            clear H
            have H := H1
            clear H1
            have H' := Aside0.mk H
            clear H
            go_wp2_with (first | (go_at_call 27; (with_reducible refine (spec_l1In.calls a1 2 4 true _ A20.out).mono ?_); rintro e w' ⟨rfl, ⟨nd, rfl⟩⟩; (try first | exact ⟨rfl, _, World.drewN_drewN _ _ _⟩ | exact ⟨rfl, _, Eq.trans (World.drewN_drewN _ _ _) (congrArg (World.drewN _) (Nat.add_assoc _ _ _))⟩)))
            repeat (go_quiet (first | (go_at_call 27; (with_reducible refine (spec_l1In.calls a1 2 4 true _ A20.out).mono ?_); rintro e w' ⟨rfl, ⟨nd, rfl⟩⟩; (try first | exact ⟨rfl, _, World.drewN_drewN _ _ _⟩ | exact ⟨rfl, _, Eq.trans (World.drewN_drewN _ _ _) (congrArg (World.drewN _) (Nat.add_assoc _ _ _))⟩))); try go_wp2_with (first | (go_at_call 27; (with_reducible refine (spec_l1In.calls a1 2 4 true _ A20.out).mono ?_); rintro e w' ⟨rfl, ⟨nd, rfl⟩⟩; (try first | exact ⟨rfl, _, World.drewN_drewN _ _ _⟩ | exact ⟨rfl, _, Eq.trans (World.drewN_drewN _ _ _) (congrArg (World.drewN _) (Nat.add_assoc _ _ _))⟩))))
            go_meet
            case rel => exact ⟨_, (decide ((l0_1.length : Int) > 4)), (by first | rfl | (simp; done) | (simp [*]; done)), H', ⟨by have := HK1.out; first | omega | exact Nat.le_refl _⟩, ⟨by (with_reducible repeat (first | refine blk_drewN ?_ _ | refine blk_drew ?_ | refine blk_alloc ?_ _)); exact BK171.out⟩, ⟨by repeat (first | (with_reducible first | exact HB.out | apply below_alloc | apply pw_below_drewN | apply below_drew1 | refine below_set ?_ GE171.out) | exact HB.out)⟩⟩
          · replace c21 := Bool.eq_false_iff.mpr c21
            subst c21
            have H1 : (spec_RuleValid.j2 k1 a1 (l0_1.length : Int) true a0_0 l0_1 a0_2) = some r := by rw [if_neg (show ¬ (false = true) by decide)] at H; exact H
            clear H
            have H := H1
            clear H1
            have H' := Aside0.mk H
            clear H
            go_wp2_with (first | (go_at_call 27; (with_reducible refine (spec_l1In.calls a1 2 4 false _ A20.out).mono ?_); rintro e w' ⟨rfl, ⟨nd, rfl⟩⟩; (try first | exact ⟨rfl, _, World.drewN_drewN _ _ _⟩ | exact ⟨rfl, _, Eq.trans (World.drewN_drewN _ _ _) (congrArg (World.drewN _) (Nat.add_assoc _ _ _))⟩)))
            repeat (go_quiet (first | (go_at_call 27; (with_reducible refine (spec_l1In.calls a1 2 4 false _ A20.out).mono ?_); rintro e w' ⟨rfl, ⟨nd, rfl⟩⟩; (try first | exact ⟨rfl, _, World.drewN_drewN _ _ _⟩ | exact ⟨rfl, _, Eq.trans (World.drewN_drewN _ _ _) (congrArg (World.drewN _) (Nat.add_assoc _ _ _))⟩))); try go_wp2_with (first | (go_at_call 27; (with_reducible refine (spec_l1In.calls a1 2 4 false _ A20.out).mono ?_); rintro e w' ⟨rfl, ⟨nd, rfl⟩⟩; (try first | exact ⟨rfl, _, World.drewN_drewN _ _ _⟩ | exact ⟨rfl, _, Eq.trans (World.drewN_drewN _ _ _) (congrArg (World.drewN _) (Nat.add_assoc _ _ _))⟩))))
            go_meet
            case rel => exact ⟨_, (true), (by first | rfl | (simp; done) | (simp [*]; done)), H', ⟨by have := HK1.out; first | omega | exact Nat.le_refl _⟩, ⟨by (with_reducible repeat (first | refine blk_drewN ?_ _ | refine blk_drew ?_ | refine blk_alloc ?_ _)); exact BK171.out⟩, ⟨by repeat (first | (with_reducible first | exact HB.out | apply below_alloc | apply pw_below_drewN | apply below_drew1 | refine below_set ?_ GE171.out) | exact HB.out)⟩⟩
        case rest =>
          clear HC18
          try clear c1
          try clear p1
          try clear q1
          try clear hx1
          try clear c2
          try clear p2
          try clear c3
          try clear c4
          try clear c4b0
          try clear c5
          try clear c5b0
          try clear p6
          try clear c7
          try clear c9
          try clear c9b0
          try clear c10
          try clear c10b0
          try clear c11
          try clear c11b0
          try clear c12
          try clear c12b0
          try clear c13
          try clear c13b0
          try clear c14
          try clear c14b0
          try clear c14b1
          try clear p17
          try clear q17
          try clear hx17
          try clear c21
          try clear hcz15_0
          try clear hcz15_1
          try clear hcz15_2
          try clear hcz16_0
          try clear hcz16_1
          try clear hcz16_2
          try clear hcz17_0
          try clear hcz17_1
          try clear hcz17_2
          try clear hcz19_0
          try clear hcz19_1
          try clear hcz19_2
          try clear hcz8_0
          try clear hcz8_1
          try clear hcz8_2
          try clear hfz15_0
          try clear hfz15_1
          try clear hfz15_2
          try clear hfz16_0
          try clear hfz16_1
          try clear hfz16_2
          try clear hfz17_0
          try clear hfz17_1
          try clear hfz17_2
          try clear hfz19_0
          try clear hfz19_1
          try clear hfz19_2
          try clear hfz8_0
          try clear hfz8_1
          try clear hfz8_2
          try clear hx172_0
          try clear hx174_0
          try clear hx175_0
          try clear p1
          try clear p172
          try clear p174
          try clear p175
          try clear p2
          try clear p6
          try clear q1
          try clear q172
          try clear q174
          try clear q175
          obtain ⟨kq, x51_17, rfl, HA, HJ17, BK171, HB⟩ := hcut
          cases kq with
          | zero => exact absurd HA.out (by simp [spec_RuleValid.j2])
          | succ kj17 =>
            have H := HA.out
            clear HA
            simp only [spec_RuleValid.j2] at H
            by_cases c22 : x51_17 = true
            · subst c22
              have H1 : (some false) = some r := by rw [if_pos rfl] at H; exact H
              clear H
              have H := H1
              clear H1
              obtain rfl := Option.some.inj H
              go_wp2
              repeat (go_quiet (fail); try go_wp2)
              go_ret
              exact ⟨by first | rfl | (simp [errW_none, errW_some] <;> rfl) | (simp [*, errW_none, errW_some] <;> rfl), by repeat (first | (with_reducible first | exact HB.out | apply below_alloc | apply pw_below_drewN | apply below_drew1 | refine below_set ?_ GE171.out) | exact HB.out)⟩
            · replace c22 := Bool.eq_false_iff.mpr c22
              subst c22
              have H1 : (if a0_0 = 1 then (if (l0_1.length : Int) ≥ 2 then (some (a0_2 == 0)) else (some false)) else (if a0_0 = 2 then (spec_RuleValid.j3 kj17 a1 (l0_1.length : Int) a0_0 (a0_0 == 2) a0_0 l0_1 a0_2) else (spec_RuleValid.j3 kj17 a1 (l0_1.length : Int) a0_0 (a0_0 == 3) a0_0 l0_1 a0_2))) = some r := by rw [if_neg (show ¬ (false = true) by decide)] at H; exact H
              clear H
              have H := H1
              clear H1
              by_cases c23 : a0_0 = 1
              · rw [if_pos c23] at H
                have c23b0 : (a0_0 == 1) = true := beq_iff_eq.mpr c23
                have c23b1 : (a0_0 != 1) = false := bne_eq_false_iff_eq.mpr c23
                clear c23
                by_cases c24 : (l0_1.length : Int) ≥ 2
                · rw [if_pos c24] at H
                  have c24b0 : decide (2 ≤ (l0_1.length : Int)) = true := decide_eq_true c24
                  have c24b1 : decide (2 ≤ l0_1.length) = true := decide_eq_true (by omega)
                  clear c24
                  obtain rfl := Option.some.inj H
                  have hcz25_0 : wc.cell? ⟨gb171, 0, none⟩ = some (.int .i64 a0_0) := (blk_cell BK171.out 0).trans rfl
                  have hcz25_1 : wc.cell? ⟨gb171, 1, none⟩ = some (.slice A0_1 l0_1.length c0_1) := (blk_cell BK171.out 1).trans rfl
                  have hcz25_2 : wc.cell? ⟨gb171, 2, none⟩ = some (.int .i64 a0_2) := (blk_cell BK171.out 2).trans rfl
                  have hfz25_0 := blk_frozen BK171.out 0
                  have hfz25_1 := blk_frozen BK171.out 1
                  have hfz25_2 := blk_frozen BK171.out 2
                  go_wp2
                  repeat (go_quiet (fail); try go_wp2)
                  go_ret
                  exact ⟨by first | rfl | (simp [errW_none, errW_some] <;> rfl) | (simp [*, errW_none, errW_some] <;> rfl), by repeat (first | (with_reducible first | exact HB.out | apply below_alloc | apply pw_below_drewN | apply below_drew1 | refine below_set ?_ GE171.out) | exact HB.out)⟩
                · rw [if_neg c24] at H
                  have c24b0 : decide (2 ≤ (l0_1.length : Int)) = false := decide_eq_false c24
                  have c24b1 : decide (2 ≤ l0_1.length) = false := decide_eq_false (by omega)
                  clear c24
                  obtain rfl := Option.some.inj H
                  have hcz26_0 : wc.cell? ⟨gb171, 0, none⟩ = some (.int .i64 a0_0) := (blk_cell BK171.out 0).trans rfl
                  have hcz26_1 : wc.cell? ⟨gb171, 1, none⟩ = some (.slice A0_1 l0_1.length c0_1) := (blk_cell BK171.out 1).trans rfl
                  have hcz26_2 : wc.cell? ⟨gb171, 2, none⟩ = some (.int .i64 a0_2) := (blk_cell BK171.out 2).trans rfl
                  have hfz26_0 := blk_frozen BK171.out 0
                  have hfz26_1 := blk_frozen BK171.out 1
                  have hfz26_2 := blk_frozen BK171.out 2
                  go_wp2
                  repeat (go_quiet (fail); try go_wp2)
                  go_ret
                  exact ⟨by first | rfl | (simp [errW_none, errW_some] <;> rfl) | (simp [*, errW_none, errW_some] <;> rfl), by repeat (first | (with_reducible first | exact HB.out | apply below_alloc | apply pw_below_drewN | apply below_drew1 | refine below_set ?_ GE171.out) | exact HB.out)⟩
              · rw [if_neg c23] at H
                have c23b0 : (a0_0 == 1) = false := beq_eq_false_iff_ne.mpr c23
                have c23b1 : (a0_0 != 1) = true := bne_iff_ne.mpr c23
                have HC27 := Aside0.mk H
                clear H
                have hcz28_0 : wc.cell? ⟨gb171, 0, none⟩ = some (.int .i64 a0_0) := (blk_cell BK171.out 0).trans rfl
                have hcz28_1 : wc.cell? ⟨gb171, 1, none⟩ = some (.slice A0_1 l0_1.length c0_1) := (blk_cell BK171.out 1).trans rfl
                have hcz28_2 : wc.cell? ⟨gb171, 2, none⟩ = some (.int .i64 a0_2) := (blk_cell BK171.out 2).trans rfl
                have hfz28_0 := blk_frozen BK171.out 0
                have hfz28_1 := blk_frozen BK171.out 1
                have hfz28_2 := blk_frozen BK171.out 2
                go_upto_if 63 with (fail)
                repeat (go_quiet (fail); go_upto_if 63 with (fail))
                go_cut [63] (fun v63 wc => ∃ (kq : Nat) (x63_26 : Bool), v63 = .bool x63_26 ∧ Aside0 (spec_RuleValid.j3 kq a1 (l0_1.length : Int) a0_0 x63_26 a0_0 l0_1 a0_2 = some r) ∧ Aside0 (kq ≤ kj17) ∧ Aside0 (wc.heap[gb171]? = some (.cells #[.int .i64 a0_0, (.slice A0_1 l0_1.length c0_1), .int .i64 a0_2] 37 (0, 0))) ∧ Aside0 (Below w.heap.size w wc))
                case first =>
                  have H := HC27.out
                  clear HC27
                  by_cases c29 : a0_0 = 2
                  · rw [if_pos c29] at H
                    have c29b0 : (a0_0 == 2) = true := beq_iff_eq.mpr c29
                    have c29b1 : (a0_0 != 2) = false := bne_eq_false_iff_eq.mpr c29
                    clear c29
                    (first | rw [c29b0] | (simp only [i64_w, i32_w]; rw [c29b0]) | skip)
                    have H' := Aside0.mk H
                    clear H
                    go_wp2
                    repeat (go_quiet (fail); try go_wp2)
                    go_meet
                    case rel => exact ⟨_, ((a0_0 == 2)), (by first | rfl | (simp; done) | (simp [*]; done)), H', ⟨by have := HK1.out; have := HJ17.out; first | omega | exact Nat.le_refl _⟩, ⟨by (with_reducible repeat (first | refine blk_drewN ?_ _ | refine blk_drew ?_ | refine blk_alloc ?_ _)); exact BK171.out⟩, ⟨by repeat (first | (with_reducible first | exact HB.out | apply below_alloc | apply pw_below_drewN | apply below_drew1 | refine below_set ?_ GE171.out) | exact HB.out)⟩⟩
                  · rw [if_neg c29] at H
                    have c29b0 : (a0_0 == 2) = false := beq_eq_false_iff_ne.mpr c29
                    have c29b1 : (a0_0 != 2) = true := bne_iff_ne.mpr c29
                    (first | rw [c29b0] | (simp only [i64_w, i32_w]; rw [c29b0]) | skip)
                    have H' := Aside0.mk H
                    clear H
                    go_wp2
                    repeat (go_quiet (fail); try go_wp2)
                    go_meet
                    case rel => exact ⟨_, ((a0_0 == 3)), (by first | rfl | (simp; done) | (simp [*]; done)), H', ⟨by have := HK1.out; have := HJ17.out; first | omega | exact Nat.le_refl _⟩, ⟨by (with_reducible repeat (first | refine blk_drewN ?_ _ | refine blk_drew ?_ | refine blk_alloc ?_ _)); exact BK171.out⟩, ⟨by repeat (first | (with_reducible first | exact HB.out | apply below_alloc | apply pw_below_drewN | apply below_drew1 | refine below_set ?_ GE171.out) | exact HB.out)⟩⟩
                case rest =>
                  clear HC27
                  try clear c1
                  try clear p1
                  try clear q1
                  try clear hx1
                  try clear c2
                  try clear p2
                  try clear c3
                  try clear c4
                  try clear c4b0
                  try clear c5
                  try clear c5b0
                  try clear p6
                  try clear c7
                  try clear c9
                  try clear c9b0
                  try clear c10
                  try clear c10b0
                  try clear c11
                  try clear c11b0
                  try clear c12
                  try clear c12b0
                  try clear c13
                  try clear c13b0
                  try clear c14
                  try clear c14b0
                  try clear c14b1
                  try clear p17
                  try clear q17
                  try clear hx17
                  try clear c21
                  try clear c22
                  try clear c23
                  try clear c23b0
                  try clear c23b1
                  try clear c24
                  try clear c24b0
                  try clear c24b1
                  try clear c29
                  try clear c29b0
                  try clear c29b1
                  try clear hcz15_0
                  try clear hcz15_1
                  try clear hcz15_2
                  try clear hcz16_0
                  try clear hcz16_1
                  try clear hcz16_2
                  try clear hcz17_0
                  try clear hcz17_1
                  try clear hcz17_2
                  try clear hcz19_0
                  try clear hcz19_1
                  try clear hcz19_2
                  try clear hcz25_0
                  try clear hcz25_1
                  try clear hcz25_2
                  try clear hcz26_0
                  try clear hcz26_1
                  try clear hcz26_2
                  try clear hcz28_0
                  try clear hcz28_1
                  try clear hcz28_2
                  try clear hcz8_0
                  try clear hcz8_1
                  try clear hcz8_2
                  try clear hfz15_0
                  try clear hfz15_1
                  try clear hfz15_2
                  try clear hfz16_0
                  try clear hfz16_1
                  try clear hfz16_2
                  try clear hfz17_0
                  try clear hfz17_1
                  try clear hfz17_2
                  try clear hfz19_0
                  try clear hfz19_1
                  try clear hfz19_2
                  try clear hfz25_0
                  try clear hfz25_1
                  try clear hfz25_2
                  try clear hfz26_0
                  try clear hfz26_1
                  try clear hfz26_2
                  try clear hfz28_0
                  try clear hfz28_1
                  try clear hfz28_2
                  try clear hfz8_0
                  try clear hfz8_1
                  try clear hfz8_2
                  try clear hx172_0
                  try clear hx174_0
                  try clear hx175_0
                  try clear p1
                  try clear p17
                  try clear p172
                  try clear p174
                  try clear p175
                  try clear p2
                  try clear p6
                  try clear q1
                  try clear q17
                  try clear q172
                  try clear q174
                  try clear q175
                  obtain ⟨kq, x63_26, rfl, HA, HJ26, BK171, HB⟩ := hcut
                  cases kq with
                  | zero => exact absurd HA.out (by simp [spec_RuleValid.j3])
                  | succ kj26 =>
                    have H := HA.out
                    clear HA
                    simp only [spec_RuleValid.j3] at H
                    by_cases c30 : x63_26 = true
                    · subst c30
                      have H1 : (if (l0_1.length : Int) ≥ 1 then ((spec_l1In.f a0_2 1 (wrap64 ((wrap64 ((wrap64 (a1 * a1)) * a1)) * a1))).bind fun t177 => (some t177)) else (some false)) = some r := by rw [if_pos rfl] at H; exact H
                      clear H
                      have H := H1
                      clear H1
                      by_cases c31 : (l0_1.length : Int) ≥ 1
                      · rw [if_pos c31] at H
                        have c31b0 : decide (1 ≤ (l0_1.length : Int)) = true := decide_eq_true c31
                        have c31b1 : decide (1 ≤ l0_1.length) = true := decide_eq_true (by omega)
                        clear c31
                        replace H := Option.bind_eq_some_iff.mp H
                        obtain ⟨t177, A320, H⟩ := H
                        replace H : (some t177) = some r := H
                        have A32 := Aside0.mk A320
                        clear A320
                        obtain rfl := Option.some.inj H
                        have hcz33_0 : wc.cell? ⟨gb171, 0, none⟩ = some (.int .i64 a0_0) := (blk_cell BK171.out 0).trans rfl
                        have hcz33_1 : wc.cell? ⟨gb171, 1, none⟩ = some (.slice A0_1 l0_1.length c0_1) := (blk_cell BK171.out 1).trans rfl
                        have hcz33_2 : wc.cell? ⟨gb171, 2, none⟩ = some (.int .i64 a0_2) := (blk_cell BK171.out 2).trans rfl
                        have hfz33_0 := blk_frozen BK171.out 0
                        have hfz33_1 := blk_frozen BK171.out 1
                        have hfz33_2 := blk_frozen BK171.out 2
                        go_wp2_with (first | (go_at_call 27; (with_reducible refine (spec_l1In.calls a0_2 1 (wrap64 ((wrap64 ((wrap64 (a1 * a1)) * a1)) * a1)) t177 _ A32.out).mono ?_); rintro e w' ⟨rfl, ⟨nd, rfl⟩⟩; (try first | exact ⟨rfl, _, World.drewN_drewN _ _ _⟩ | exact ⟨rfl, _, Eq.trans (World.drewN_drewN _ _ _) (congrArg (World.drewN _) (Nat.add_assoc _ _ _))⟩)))
                        repeat (go_quiet (first | (go_at_call 27; (with_reducible refine (spec_l1In.calls a0_2 1 (wrap64 ((wrap64 ((wrap64 (a1 * a1)) * a1)) * a1)) t177 _ A32.out).mono ?_); rintro e w' ⟨rfl, ⟨nd, rfl⟩⟩; (try first | exact ⟨rfl, _, World.drewN_drewN _ _ _⟩ | exact ⟨rfl, _, Eq.trans (World.drewN_drewN _ _ _) (congrArg (World.drewN _) (Nat.add_assoc _ _ _))⟩))); try go_wp2_with (first | (go_at_call 27; (with_reducible refine (spec_l1In.calls a0_2 1 (wrap64 ((wrap64 ((wrap64 (a1 * a1)) * a1)) * a1)) t177 _ A32.out).mono ?_); rintro e w' ⟨rfl, ⟨nd, rfl⟩⟩; (try first | exact ⟨rfl, _, World.drewN_drewN _ _ _⟩ | exact ⟨rfl, _, Eq.trans (World.drewN_drewN _ _ _) (congrArg (World.drewN _) (Nat.add_assoc _ _ _))⟩))))
                        go_ret
                        exact ⟨by first | rfl | (simp [errW_none, errW_some] <;> rfl) | (simp [*, errW_none, errW_some] <;> rfl), by repeat (first | (with_reducible first | exact HB.out | apply below_alloc | apply pw_below_drewN | apply below_drew1 | refine below_set ?_ GE171.out) | exact HB.out)⟩
                      · rw [if_neg c31] at H
                        have c31b0 : decide (1 ≤ (l0_1.length : Int)) = false := decide_eq_false c31
                        have c31b1 : decide (1 ≤ l0_1.length) = false := decide_eq_false (by omega)
                        clear c31
                        obtain rfl := Option.some.inj H
                        go_wp2
                        repeat (go_quiet (fail); try go_wp2)
                        go_ret
                        exact ⟨by first | rfl | (simp [errW_none, errW_some] <;> rfl) | (simp [*, errW_none, errW_some] <;> rfl), by repeat (first | (with_reducible first | exact HB.out | apply below_alloc | apply pw_below_drewN | apply below_drew1 | refine below_set ?_ GE171.out) | exact HB.out)⟩
                    · replace c30 := Bool.eq_false_iff.mpr c30
                      subst c30
                      have H1 : (if a0_0 = 4 then (if (l0_1.length : Int) = 2 then (some (a0_2 == 0)) else (some false)) else (if a0_0 = 5 then (if (l0_1.length : Int) = 2 then ((spec_l1In.f a0_2 0 (wrap64 (a1 - 1))).bind fun t178 => (some t178)) else (some false)) else (some false))) = some r := by rw [if_neg (show ¬ (false = true) by decide)] at H; exact H
                      clear H
                      have H := H1
                      clear H1
                      by_cases c34 : a0_0 = 4
                      · rw [if_pos c34] at H
                        have c34b0 : (a0_0 == 4) = true := beq_iff_eq.mpr c34
                        have c34b1 : (a0_0 != 4) = false := bne_eq_false_iff_eq.mpr c34
                        clear c34
                        by_cases c35 : (l0_1.length : Int) = 2
                        · rw [if_pos c35] at H
                          have c35b0 : ((l0_1.length : Int) == 2) = true := beq_iff_eq.mpr c35
                          have c35b1 : ((l0_1.length : Int) != 2) = false := bne_eq_false_iff_eq.mpr c35
                          clear c35
                          obtain rfl := Option.some.inj H
                          have hcz36_0 : wc.cell? ⟨gb171, 0, none⟩ = some (.int .i64 a0_0) := (blk_cell BK171.out 0).trans rfl
                          have hcz36_1 : wc.cell? ⟨gb171, 1, none⟩ = some (.slice A0_1 l0_1.length c0_1) := (blk_cell BK171.out 1).trans rfl
                          have hcz36_2 : wc.cell? ⟨gb171, 2, none⟩ = some (.int .i64 a0_2) := (blk_cell BK171.out 2).trans rfl
                          have hfz36_0 := blk_frozen BK171.out 0
                          have hfz36_1 := blk_frozen BK171.out 1
                          have hfz36_2 := blk_frozen BK171.out 2
                          go_wp2
                          repeat (go_quiet (fail); try go_wp2)
                          go_ret
                          exact ⟨by first | rfl | (simp [errW_none, errW_some] <;> rfl) | (simp [*, errW_none, errW_some] <;> rfl), by repeat (first | (with_reducible first | exact HB.out | apply below_alloc | apply pw_below_drewN | apply below_drew1 | refine below_set ?_ GE171.out) | exact HB.out)⟩
                        · rw [if_neg c35] at H
                          have c35b0 : ((l0_1.length : Int) == 2) = false := beq_eq_false_iff_ne.mpr c35
                          have c35b1 : ((l0_1.length : Int) != 2) = true := bne_iff_ne.mpr c35
                          obtain rfl := Option.some.inj H
                          go_wp2
                          repeat (go_quiet (fail); try go_wp2)
                          go_ret
                          exact ⟨by first | rfl | (simp [errW_none, errW_some] <;> rfl) | (simp [*, errW_none, errW_some] <;> rfl), by repeat (first | (with_reducible first | exact HB.out | apply below_alloc | apply pw_below_drewN | apply below_drew1 | refine below_set ?_ GE171.out) | exact HB.out)⟩
                      · rw [if_neg c34] at H
                        have c34b0 : (a0_0 == 4) = false := beq_eq_false_iff_ne.mpr c34
                        have c34b1 : (a0_0 != 4) = true := bne_iff_ne.mpr c34
                        by_cases c37 : a0_0 = 5
                        · rw [if_pos c37] at H
                          have c37b0 : (a0_0 == 5) = true := beq_iff_eq.mpr c37
                          have c37b1 : (a0_0 != 5) = false := bne_eq_false_iff_eq.mpr c37
                          clear c37
                          by_cases c38 : (l0_1.length : Int) = 2
                          · rw [if_pos c38] at H
                            have c38b0 : ((l0_1.length : Int) == 2) = true := beq_iff_eq.mpr c38
                            have c38b1 : ((l0_1.length : Int) != 2) = false := bne_eq_false_iff_eq.mpr c38
                            clear c38
                            replace H := Option.bind_eq_some_iff.mp H
                            obtain ⟨t178, A390, H⟩ := H
                            replace H : (some t178) = some r := H
                            have A39 := Aside0.mk A390
                            clear A390
                            obtain rfl := Option.some.inj H
                            have hcz40_0 : wc.cell? ⟨gb171, 0, none⟩ = some (.int .i64 a0_0) := (blk_cell BK171.out 0).trans rfl
                            have hcz40_1 : wc.cell? ⟨gb171, 1, none⟩ = some (.slice A0_1 l0_1.length c0_1) := (blk_cell BK171.out 1).trans rfl
                            have hcz40_2 : wc.cell? ⟨gb171, 2, none⟩ = some (.int .i64 a0_2) := (blk_cell BK171.out 2).trans rfl
                            have hfz40_0 := blk_frozen BK171.out 0
                            have hfz40_1 := blk_frozen BK171.out 1
                            have hfz40_2 := blk_frozen BK171.out 2
                            go_wp2_with (first | (go_at_call 27; (with_reducible refine (spec_l1In.calls a0_2 0 (wrap64 (a1 - 1)) t178 _ A39.out).mono ?_); rintro e w' ⟨rfl, ⟨nd, rfl⟩⟩; (try first | exact ⟨rfl, _, World.drewN_drewN _ _ _⟩ | exact ⟨rfl, _, Eq.trans (World.drewN_drewN _ _ _) (congrArg (World.drewN _) (Nat.add_assoc _ _ _))⟩)))
                            repeat (go_quiet (first | (go_at_call 27; (with_reducible refine (spec_l1In.calls a0_2 0 (wrap64 (a1 - 1)) t178 _ A39.out).mono ?_); rintro e w' ⟨rfl, ⟨nd, rfl⟩⟩; (try first | exact ⟨rfl, _, World.drewN_drewN _ _ _⟩ | exact ⟨rfl, _, Eq.trans (World.drewN_drewN _ _ _) (congrArg (World.drewN _) (Nat.add_assoc _ _ _))⟩))); try go_wp2_with (first | (go_at_call 27; (with_reducible refine (spec_l1In.calls a0_2 0 (wrap64 (a1 - 1)) t178 _ A39.out).mono ?_); rintro e w' ⟨rfl, ⟨nd, rfl⟩⟩; (try first | exact ⟨rfl, _, World.drewN_drewN _ _ _⟩ | exact ⟨rfl, _, Eq.trans (World.drewN_drewN _ _ _) (congrArg (World.drewN _) (Nat.add_assoc _ _ _))⟩))))
                            go_ret
                            exact ⟨by first | rfl | (simp [errW_none, errW_some] <;> rfl) | (simp [*, errW_none, errW_some] <;> rfl), by repeat (first | (with_reducible first | exact HB.out | apply below_alloc | apply pw_below_drewN | apply below_drew1 | refine below_set ?_ GE171.out) | exact HB.out)⟩
                          · rw [if_neg c38] at H
                            have c38b0 : ((l0_1.length : Int) == 2) = false := beq_eq_false_iff_ne.mpr c38
                            have c38b1 : ((l0_1.length : Int) != 2) = true := bne_iff_ne.mpr c38
                            obtain rfl := Option.some.inj H
                            go_wp2
                            repeat (go_quiet (fail); try go_wp2)
                            go_ret
                            exact ⟨by first | rfl | (simp [errW_none, errW_some] <;> rfl) | (simp [*, errW_none, errW_some] <;> rfl), by repeat (first | (with_reducible first | exact HB.out | apply below_alloc | apply pw_below_drewN | apply below_drew1 | refine below_set ?_ GE171.out) | exact HB.out)⟩
                        · rw [if_neg c37] at H
                          have c37b0 : (a0_0 == 5) = false := beq_eq_false_iff_ne.mpr c37
                          have c37b1 : (a0_0 != 5) = true := bne_iff_ne.mpr c37
                          obtain rfl := Option.some.inj H
                          go_wp2
                          repeat (go_quiet (fail); try go_wp2)
                          go_ret
                          exact ⟨by first | rfl | (simp [errW_none, errW_some] <;> rfl) | (simp [*, errW_none, errW_some] <;> rfl), by repeat (first | (with_reducible first | exact HB.out | apply below_alloc | apply pw_below_drewN | apply below_drew1 | refine below_set ?_ GE171.out) | exact HB.out)⟩

/-! ### spec_l22Number: function 34 -/
def spec_l22Number.l0 : Nat → Int → ByteArray → Option (ByteArray)
  | 0, _, _ => none
  | k + 1, x0, x3 => if x0 > 9 then ((some (([(wrap64 (48 + (Int.tmod (wrap64 (Int.tdiv x0 10)) 10))) % 256] : List Int) : List Int)).bind fun y182 => (if (strOfNums y182).size + x3.size ≤ 9223372036854775807 then (spec_l22Number.l0 k (wrap64 (Int.tdiv x0 10)) ((strOfNums y182) ++ x3)) else (none))) else (some x3)
def spec_l22Number.f (k : Nat) (a0 : Int) : Option (ByteArray) := spec_l22Number.l0 k a0 (strOfNums (([(wrap64 (48 + (Int.tmod a0 10))) % 256] : List Int)))
theorem spec_l22Number.mono_l : ∀ k, (∀ y0 y1, LeO (spec_l22Number.l0 k y0 y1) (spec_l22Number.l0 (k + 1) y0 y1))
  | 0 => fun _ _ r h => by simp [spec_l22Number.l0] at h
  | k + 1 => by
    have ih0 := spec_l22Number.mono_l k
    · intro y0 y1
      unfold spec_l22Number.l0
      repeat' first
      | (with_reducible exact ih0 _ _)
      | (with_reducible exact LeO.refl _)
      | (with_reducible exact LeO.none _)
      | (with_reducible refine LeO.ite ?_ ?_)
      | (with_reducible refine LeO.bind ?_ (fun _ => ?_))
      | exact ih0 _ _
      | exact LeO.none _
      | refine LeO.ite ?_ ?_
      | refine LeO.bind ?_ (fun _ => ?_)
theorem spec_l22Number.mono : ∀ a0 k, LeO (spec_l22Number.f k a0) (spec_l22Number.f (k + 1) a0) := by
  intro a0 k
  have ih0 := spec_l22Number.mono_l k
  unfold spec_l22Number.f
  repeat' first
      | (with_reducible exact ih0 _ _)
      | (with_reducible exact LeO.refl _)
      | (with_reducible exact LeO.none _)
      | (with_reducible refine LeO.ite ?_ ?_)
      | (with_reducible refine LeO.bind ?_ (fun _ => ?_))
      | exact ih0 _ _
      | exact LeO.none _
      | refine LeO.ite ?_ ?_
      | refine LeO.bind ?_ (fun _ => ?_)
set_option maxHeartbeats 8000000 in
set_option maxRecDepth 100000 in
theorem spec_l22Number.calls (k : Nat) (a0 : Int) (r : ByteArray) (w : World) (h : spec_l22Number.f k a0 = some r) :
    Calls Tryd.prog 34 #[.int .i64 a0] w fun e w' => e = .returned (.string r) ∧ Below w.heap.size w w' := by
  have HB := Aside0.mk (Below.refl w.heap.size w)
  have H : (spec_l22Number.l0 k a0 (strOfNums (([(wrap64 (48 + (Int.tmod a0 10))) % 256] : List Int)))) = some r := h
  clear h
  obtain ⟨y179, hy179⟩ : ∃ y_ : List Int, y_ = (([(wrap64 (48 + (Int.tmod a0 10))) % 256] : List Int)) := ⟨_, rfl⟩
  replace H : (spec_l22Number.l0 k a0 (strOfNums y179)) = some r := by first | (rw [hy179]; with_reducible exact H) | (have H2_ := (Option.bind_some _ _).symm.trans H; rw [hy179]; with_reducible exact H2_) | (have H2_ := (Option.bind_some _ _).symm.trans H; with_reducible exact H2_) | with_reducible exact H | (rw [hy179]; exact H) | exact H
  have Ny179 := Aside0.mk hy179
  clear hy179
  have H' := Aside0.mk H
  clear H
  go_enter Tryd.func34, Tryd.ntmps34
  go_wp2_with (first | ((with_reducible refine gate_dst (N := 8) rfl ?_); refine Kd.R_lit (Kd.int .u8) _ 5 ?hg (N := 8) ?hd (xs := ([(wrap64 (48 + (Int.tmod a0 10))) % 256] : List Int)) (inner := [.int .u8 ((wrap64 (48 + (Int.tmod a0 10))) % 256)]) (ok := fun _ => True) (okp := fun _ => True) ?hr ?hp (fun _ hk => hk) trivial (Below.refl _ _) (Nat.le_refl _) (by simp) ?_; (case hd => rfl); (case hg => rfl); (case hr => first | (go_simp; done) | (go_simp; rfl)); (case hp => exact (Reps.one (show Kd.M (Kd.int .u8) _ _ _ ((wrap64 (48 + (Int.tmod a0 10))) % 256) [.int .u8 ((wrap64 (48 + (Int.tmod a0 10))) % 256)] from rfl) (Reps.none _ _))); intro v180 w2 ho3 hb hg_ hnew_; clear hg_ hnew_; (first | rw [← Ny179.out] at ho3 | (simp only [Int.reduceToNat] at ho3; rw [← Ny179.out] at ho3)); have n0_ := Aside0.mk (Kd.R_lower ho3 (below_size (by repeat (first | (with_reducible first | exact HB.out | apply below_alloc | apply pw_below_drewN | apply below_drew1) | exact HB.out)))); have n1_ := Aside0.mk (below_step (by repeat (first | (with_reducible first | exact HB.out | apply below_alloc | apply pw_below_drewN | apply below_drew1) | exact HB.out)) hb); clear HB; have HO181 := n0_; have HB := n1_; clear n0_ n1_; clear hb ho3; have hcv4 := own_string (P := Tryd.prog) Tryd.underlying28 Tryd.underlying5 Tryd.underlying9 (Kd.own_of_R HO181.out)))
  go_loopg [0, 3] k (fun kq v0 v3 w' => ∃ (x0_1 : Int) (x3_1 : ByteArray), v0 = .int .i64 x0_1 ∧ v3 = .string x3_1 ∧ Aside0 (spec_l22Number.l0 kq x0_1 x3_1 = some r) ∧ Aside0 (kq ≤ k) ∧ Aside0 (Below w.heap.size w w'))
  case atStart => exact ⟨(a0), (strOfNums y179), (by first | rfl | (simp; done) | (simp [*]; done)), (by first | rfl | (simp; done) | (simp [*]; done)), H', ⟨Nat.le_refl _⟩, ⟨by repeat (first | (with_reducible first | exact HB.out | apply below_alloc | apply pw_below_drewN | apply below_drew1) | exact HB.out)⟩⟩
  case round =>
    clear H'
    try clear p2
    try clear c3
    try clear hcv4
    obtain ⟨x0_1, x3_1, rfl, rfl, HA, HK1, HB⟩ := hrel
    cases gk with
    | zero => exact absurd HA.out (by simp [spec_l22Number.l0])
    | succ k1 =>
      have H := HA.out
      clear HA
      simp only [spec_l22Number.l0] at H
      by_cases c5 : x0_1 > 9
      · rw [if_pos c5] at H
        have c5b0 : decide (9 < x0_1) = true := decide_eq_true c5
        clear c5
        obtain ⟨y182, hy182⟩ : ∃ y_ : List Int, y_ = (([(wrap64 (48 + (Int.tmod (wrap64 (Int.tdiv x0_1 10)) 10))) % 256] : List Int)) := ⟨_, rfl⟩
        replace H : (if (strOfNums y182).size + x3_1.size ≤ 9223372036854775807 then (spec_l22Number.l0 k1 (wrap64 (Int.tdiv x0_1 10)) ((strOfNums y182) ++ x3_1)) else (none)) = some r := by first | (rw [hy182]; with_reducible exact H) | (have H2_ := (Option.bind_some _ _).symm.trans H; rw [hy182]; with_reducible exact H2_) | (have H2_ := (Option.bind_some _ _).symm.trans H; with_reducible exact H2_) | with_reducible exact H | (rw [hy182]; exact H) | exact H
        have Ny182 := Aside0.mk hy182
        clear hy182
        by_cases c6 : (strOfNums y182).size + x3_1.size ≤ 9223372036854775807
        · rw [if_pos c6] at H
          have c6b0 := eq_true c6
          have c6b1 : decide ((strOfNums y182).size + x3_1.size ≤ 9223372036854775807) = true := decide_eq_true c6
          try have c6b2 : (9223372036854775807 < (strOfNums y182).size + x3_1.size) = False := eq_false (Nat.not_lt.2 c6)
          have H' := Aside0.mk H
          clear H
          go_wp2_with (first | ((with_reducible refine gate_dst (N := 18) rfl ?_); refine Kd.R_lit (Kd.int .u8) _ 5 ?hg (N := 18) ?hd (xs := ([(wrap64 (48 + (Int.tmod (wrap64 (Int.tdiv x0_1 10)) 10))) % 256] : List Int)) (inner := [.int .u8 ((wrap64 (48 + (Int.tmod (wrap64 (Int.tdiv x0_1 10)) 10))) % 256)]) (ok := fun _ => True) (okp := fun _ => True) ?hr ?hp (fun _ hk => hk) trivial (Below.refl _ _) (Nat.le_refl _) (by simp) ?_; (case hd => rfl); (case hg => rfl); (case hr => first | (go_simp; done) | (go_simp; rfl)); (case hp => exact (Reps.one (show Kd.M (Kd.int .u8) _ _ _ ((wrap64 (48 + (Int.tmod (wrap64 (Int.tdiv x0_1 10)) 10))) % 256) [.int .u8 ((wrap64 (48 + (Int.tmod (wrap64 (Int.tdiv x0_1 10)) 10))) % 256)] from rfl) (Reps.none _ _))); intro v183 w7 ho8 hb hg_ hnew_; clear hg_ hnew_; (first | rw [← Ny182.out] at ho8 | (simp only [Int.reduceToNat] at ho8; rw [← Ny182.out] at ho8)); have n0_ := Aside0.mk (Kd.R_lower ho8 (below_size (by repeat (first | (with_reducible first | exact HB.out | apply below_alloc | apply pw_below_drewN | apply below_drew1) | exact HB.out)))); have n1_ := Aside0.mk (below_step (by repeat (first | (with_reducible first | exact HB.out | apply below_alloc | apply pw_below_drewN | apply below_drew1) | exact HB.out)) hb); clear HB; have HO184 := n0_; have HB := n1_; clear n0_ n1_; clear hb ho8; have hcv9 := own_string (P := Tryd.prog) Tryd.underlying28 Tryd.underlying5 Tryd.underlying9 (Kd.own_of_R HO184.out)))
          go_roundg k1
          case measure => have := HK1.out; omega
          case rel => exact ⟨(wrap64 (Int.tdiv x0_1 10)), ((strOfNums y182) ++ x3_1), (by first | rfl | (simp; done) | (simp [*]; done)), (by first | rfl | (simp; done) | (simp [*]; done)), H', ⟨by have := HK1.out; omega⟩, ⟨by repeat (first | (with_reducible first | exact HB.out | apply below_alloc | apply pw_below_drewN | apply below_drew1) | exact HB.out)⟩⟩
        · rw [if_neg c6] at H
          exact absurd H (by simp)
      · rw [if_neg c5] at H
        have c5b0 : decide (9 < x0_1) = false := decide_eq_false c5
        clear c5
        obtain rfl := Option.some.inj H
        go_wp2
        go_ret
        exact ⟨by first | rfl | (simp [errW_none, errW_some] <;> rfl) | (simp [*, errW_none, errW_some] <;> rfl), by repeat (first | (with_reducible first | exact HB.out | apply below_alloc | apply pw_below_drewN | apply below_drew1) | exact HB.out)⟩

end Go.Proofs.YtojnknpgnohegaaDoor.Q
