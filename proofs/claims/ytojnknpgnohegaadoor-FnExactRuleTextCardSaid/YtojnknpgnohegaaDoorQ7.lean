-- Written by wip/pr.py (this session's own program, over the kit's printer) for the seat YtojnknpgnohegaaDoor.
import Derived.Test.YtojnknpgnohegaaDoorQ0
import Derived.Test.YtojnknpgnohegaaDoorQ3
import Derived.Test.YtojnknpgnohegaaDoorQ6
namespace Go.Proofs.YtojnknpgnohegaaDoor.Q
open Go.RowKit Go.Proofs.YtojnknpgnohegaaDoorW.PrintWords Go.Proofs.YtojnknpgnohegaaDoorW.PrintLast Go.Proofs.YtojnknpgnohegaaDoorW.PrintMore
attribute [local go_sem] max2_int min2_int max_two min_two max_three min_three max_four min_four   -- for this text's walks alone
set_option linter.unusedVariables false
set_option linter.unusedSimpArgs false

/-! ### impl_RuleValid: function 36 -/
mutual
def impl_RuleValid.l0 : Nat → Int → List Int → Int → Int → Int → List Int → Int → Option (Bool)
  | 0, _, _, _, _, _, _, _ => none
  | k + 1, x1, x12, x13, x14, x208000, x208001, x208002 => if x14 < x13 then (if 0 ≤ x14 then (if x14 < (x12.length : Int) then (if (rd x12 x14) < 0 then (some false) else (if (rd x12 x14) ≥ (wrap64 (x1 * x1)) then (some false) else (if x14 ≤ (x208001.length : Int) then ((slices_Contains_int_int.f k (x208001.take (x14 : Int).toNat) (rd x12 x14)).bind fun t211 => (if t211 = true then (some false) else (impl_RuleValid.l0 k x1 x12 x13 (wrap64 (x14 + 1)) x208000 x208001 x208002))) else (none)))) else (none)) else (none)) else (if x208000 = 1 then (if (x208001.length : Int) ≥ 2 then (if (x208001.length : Int) ≤ 4 then (some (x208002 == 0)) else (some false)) else (some false)) else (if x208000 = 2 then (impl_RuleValid.j1 k x1 (x208001.length : Int) x208000 (x208000 == 2) x208000 x208001 x208002) else (impl_RuleValid.j1 k x1 (x208001.length : Int) x208000 (x208000 == 3) x208000 x208001 x208002)))
def impl_RuleValid.j1 : Nat → Int → Int → Int → Bool → Int → List Int → Int → Option (Bool)
  | 0, _, _, _, _, _, _, _ => none
  | k + 1, x1, x7, x41, x55, x208000, x208001, x208002 => if x55 = true then (if x7 ≥ 1 then (if x7 ≤ 4 then (if x208002 ≥ 1 then (some (decide (x208002 ≤ (wrap64 ((wrap64 ((wrap64 (x1 * x1)) * x1)) * x1))))) else (some false)) else (some false)) else (some false)) else (if x41 = 4 then (if x7 = 2 then (some (x208002 == 0)) else (some false)) else (if x41 = 5 then (if x7 = 2 then (if x208002 ≥ 0 then (some (decide (x208002 < x1))) else (some false)) else (some false)) else (some false)))
end
def impl_RuleValid.f (k : Nat) (a0_0 : Int) (l0_1 : List Int) (a0_2 : Int) (a1 : Int) : Option (Bool) := (impl_sizeOk.f a1).bind fun t208 => (if t208 = true then (impl_RuleValid.l0 k a1 l0_1 (l0_1.length : Int) 0 a0_0 l0_1 a0_2) else (some false))
theorem impl_RuleValid.mono_l : ∀ k, (∀ y0 y1 y2 y3 y4 y5 y6, LeO (impl_RuleValid.l0 k y0 y1 y2 y3 y4 y5 y6) (impl_RuleValid.l0 (k + 1) y0 y1 y2 y3 y4 y5 y6)) ∧ (∀ y0 y1 y2 y3 y4 y5 y6, LeO (impl_RuleValid.j1 k y0 y1 y2 y3 y4 y5 y6) (impl_RuleValid.j1 (k + 1) y0 y1 y2 y3 y4 y5 y6))
  | 0 => ⟨fun _ _ _ _ _ _ _ r h => by simp [impl_RuleValid.l0] at h, fun _ _ _ _ _ _ _ r h => by simp [impl_RuleValid.j1] at h⟩
  | k + 1 => by
    obtain ⟨ih0, ih1⟩ := impl_RuleValid.mono_l k
    refine ⟨?_, ?_⟩
    · intro y0 y1 y2 y3 y4 y5 y6
      unfold impl_RuleValid.l0
      repeat' first
      | (with_reducible exact ih0 _ _ _ _ _ _ _)
      | (with_reducible exact ih1 _ _ _ _ _ _ _)
      | (with_reducible exact slices_Contains_int_int.mono _ _ _)
      | (with_reducible exact LeO.refl _)
      | (with_reducible exact LeO.none _)
      | (with_reducible refine LeO.ite ?_ ?_)
      | (with_reducible refine LeO.bind ?_ (fun _ => ?_))
      | exact ih0 _ _ _ _ _ _ _
      | exact ih1 _ _ _ _ _ _ _
      | exact slices_Contains_int_int.mono _ _ _
      | exact LeO.none _
      | refine LeO.ite ?_ ?_
      | refine LeO.bind ?_ (fun _ => ?_)
    · intro y0 y1 y2 y3 y4 y5 y6
      unfold impl_RuleValid.j1
      repeat' first
      | (with_reducible exact ih0 _ _ _ _ _ _ _)
      | (with_reducible exact ih1 _ _ _ _ _ _ _)
      | (with_reducible exact slices_Contains_int_int.mono _ _ _)
      | (with_reducible exact LeO.refl _)
      | (with_reducible exact LeO.none _)
      | (with_reducible refine LeO.ite ?_ ?_)
      | (with_reducible refine LeO.bind ?_ (fun _ => ?_))
      | exact ih0 _ _ _ _ _ _ _
      | exact ih1 _ _ _ _ _ _ _
      | exact slices_Contains_int_int.mono _ _ _
      | exact LeO.none _
      | refine LeO.ite ?_ ?_
      | refine LeO.bind ?_ (fun _ => ?_)
theorem impl_RuleValid.mono : ∀ a0 a1 a2 a3 k, LeO (impl_RuleValid.f k a0 a1 a2 a3) (impl_RuleValid.f (k + 1) a0 a1 a2 a3) := by
  intro a0 a1 a2 a3 k
  obtain ⟨ih0, ih1⟩ := impl_RuleValid.mono_l k
  unfold impl_RuleValid.f
  repeat' first
      | (with_reducible exact ih0 _ _ _ _ _ _ _)
      | (with_reducible exact ih1 _ _ _ _ _ _ _)
      | (with_reducible exact slices_Contains_int_int.mono _ _ _)
      | (with_reducible exact LeO.refl _)
      | (with_reducible exact LeO.none _)
      | (with_reducible refine LeO.ite ?_ ?_)
      | (with_reducible refine LeO.bind ?_ (fun _ => ?_))
      | exact ih0 _ _ _ _ _ _ _
      | exact ih1 _ _ _ _ _ _ _
      | exact slices_Contains_int_int.mono _ _ _
      | exact LeO.none _
      | refine LeO.ite ?_ ?_
      | refine LeO.bind ?_ (fun _ => ?_)
set_option maxHeartbeats 8000000 in
set_option maxRecDepth 100000 in
theorem impl_RuleValid.calls (k : Nat) (a0_0 : Int) (A0_1 : Option Addr) (c0_1 : Nat) (l0_1 : List Int) (a0_2 : Int) (a1 : Int) (r : Bool) (w : World) (hr0_1 : Kd.C (Kd.int .i64) w A0_1 l0_1.length l0_1) (hc0_1 : l0_1.length ≤ c0_1) (h : impl_RuleValid.f k a0_0 l0_1 a0_2 a1 = some r) :
    Calls Tryd.prog 36 #[.agg #[.int .i64 a0_0, .slice A0_1 l0_1.length c0_1, .int .i64 a0_2], .int .i64 a1] w fun e w' => e = .returned (.bool r) ∧ Below w.heap.size w w' := by
  have hu37 := Tryd.underlying37
  have HR0_1 := Aside0.mk hr0_1
  have HC0_1 := Aside0.mk hc0_1
  clear hr0_1 hc0_1
  have HB := Aside0.mk (Below.refl w.heap.size w)
  have H : ((impl_sizeOk.f a1).bind fun t208 => (if t208 = true then (impl_RuleValid.l0 k a1 l0_1 (l0_1.length : Int) 0 a0_0 l0_1 a0_2) else (some false))) = some r := h
  clear h
  replace H := Option.bind_eq_some_iff.mp H
  obtain ⟨t208, A30, H⟩ := H
  replace H : (if t208 = true then (impl_RuleValid.l0 k a1 l0_1 (l0_1.length : Int) 0 a0_0 l0_1 a0_2) else (some false)) = some r := H
  have A3 := Aside0.mk A30
  clear A30
  by_cases c4 : t208 = true
  · subst c4
    have H1 : (impl_RuleValid.l0 k a1 l0_1 (l0_1.length : Int) 0 a0_0 l0_1 a0_2) = some r := by rw [if_pos rfl] at H; exact H
    clear H
    have H := H1
    clear H1
    have H' := Aside0.mk H
    clear H
    go_enter Tryd.func36, Tryd.ntmps36
    go_wp2_with (first | ((with_reducible refine gate_dst (N := 2) rfl ?_); refine box_event ?hg (N := 2) ?hd (cs := #[.int .i64 a0_0, .slice A0_1 l0_1.length c0_1, .int .i64 a0_2]) (t := 37) ?hr ?_; (case hd => rfl); (case hg => rfl); (case hr => first | (go_simp; done) | (go_simp; rfl)); intro gb207 hg w5 hbox hb; have n0_ := Aside0.mk (below_step (by repeat (first | (with_reducible first | exact HB.out | apply below_alloc | apply pw_below_drewN | apply below_drew1) | exact HB.out)) hb); have n1_ := Aside0.mk (hbox); have n2_ := Aside0.mk ((by rw [hg]; exact (below_size (by repeat (first | (with_reducible first | exact HB.out | apply below_alloc | apply pw_below_drewN | apply below_drew1) | exact HB.out))) : w.heap.size ≤ gb207)); have n3_ := Aside0.mk ((by rw [hg]; exact (below_size (by repeat (first | (with_reducible first | exact HB.out | apply below_alloc | apply pw_below_drewN | apply below_drew1) | exact HB.out))) : w.heap.size ≤ gb207)); clear HB; have HB := n0_; have BK207 := n1_; have GW207 := n2_; have GE207 := n3_; clear n0_ n1_ n2_ n3_; clear hb hbox hg) | ((with_reducible refine gate_callee (f := 52) rfl ?_); refine goesL_ (some 9) rfl rfl Tryd.func52 (by kernel_rfl) rfl #[.int .i64 a1] rfl (by (try simp only [List.map_toArray, List.map_cons, List.map_nil]); first | done | rfl | (simp only [List.length_drop, List.length_take]; rfl)) ?_; (with_reducible refine (impl_sizeOk.calls a1 true _ A3.out).mono ?_); rintro e w' ⟨rfl, ⟨nd, rfl⟩⟩; refine ⟨_, rfl, ?_⟩; have hcz6_0 : w5.cell? ⟨gb207, 0, none⟩ = some (.int .i64 a0_0) := (blk_cell BK207.out 0).trans rfl; have hcz6_1 : w5.cell? ⟨gb207, 1, none⟩ = some (.slice A0_1 l0_1.length c0_1) := (blk_cell BK207.out 1).trans rfl; have hcz6_2 : w5.cell? ⟨gb207, 2, none⟩ = some (.int .i64 a0_2) := (blk_cell BK207.out 2).trans rfl; have hfz6_0 := blk_frozen BK207.out 0; have hfz6_1 := blk_frozen BK207.out 1; have hfz6_2 := blk_frozen BK207.out 2))
    go_loopg [14] k (fun kq v14 w' => ∃ (x14_1 : Int), v14 = .int .i64 x14_1 ∧ Aside0 (impl_RuleValid.l0 kq a1 l0_1 (l0_1.length : Int) x14_1 a0_0 l0_1 a0_2 = some r) ∧ Aside0 (kq ≤ k) ∧ Aside0 (w'.heap[gb207]? = some (.cells #[.int .i64 a0_0, (.slice A0_1 l0_1.length c0_1), .int .i64 a0_2] 37 (0, 0))) ∧ Aside0 (Below w.heap.size w w'))
    case atStart => exact ⟨(0), (by first | rfl | (simp; done) | (simp [*]; done)), H', ⟨Nat.le_refl _⟩, ⟨by (with_reducible repeat (first | refine blk_drewN ?_ _ | refine blk_drew ?_ | refine blk_alloc ?_ _)); exact BK207.out⟩, ⟨by repeat (first | (with_reducible first | exact HB.out | apply below_alloc | apply pw_below_drewN | apply below_drew1 | refine below_set ?_ GE207.out) | exact HB.out)⟩⟩
    case round =>
      clear H'
      try clear p2
      try clear c3
      try clear c4
      try clear c5
      try clear hcz6_0
      try clear hcz6_1
      try clear hcz6_2
      try clear hfz6_0
      try clear hfz6_1
      try clear hfz6_2
      obtain ⟨x14_1, rfl, HA, HK1, BK207, HB⟩ := hrel
      cases gk with
      | zero => exact absurd HA.out (by simp [impl_RuleValid.l0])
      | succ k1 =>
        have H := HA.out
        clear HA
        simp only [impl_RuleValid.l0] at H
        by_cases c7 : x14_1 < (l0_1.length : Int)
        · rw [if_pos c7] at H
          have c7b0 : decide (x14_1 < (l0_1.length : Int)) = true := decide_eq_true c7
          clear c7
          by_cases c8 : 0 ≤ x14_1
          · rw [if_pos c8] at H
            have c8b0 : decide (0 ≤ x14_1) = true := decide_eq_true c8
            clear c8
            by_cases c9 : x14_1 < (l0_1.length : Int)
            · rw [if_pos c9] at H
              have c9b0 : decide (x14_1 < (l0_1.length : Int)) = true := decide_eq_true c9
              clear c9
              by_cases c10 : (rd l0_1 x14_1) < 0
              · rw [if_pos c10] at H
                have c10b0 : decide ((rd l0_1 x14_1) < 0) = true := decide_eq_true c10
                clear c10
                obtain rfl := Option.some.inj H
                have p209 : 0 ≤ (x14_1 : Int) := of_decide_eq_true (by first | (with_reducible assumption) | assumption)
                have q209 : x14_1 < (l0_1.length : Int) := of_decide_eq_true (by first | (with_reducible assumption) | assumption)
                obtain ⟨ad209, e209, hx209_0⟩ := Kd.at_int HR0_1.out x14_1 p209 q209
                cases e209
                replace hx209_0 := (HB.out.cell (World.block_lt_of_cell? w _ hx209_0)).trans hx209_0
                replace p209 := eq_true p209
                replace q209 := eq_true q209
                go_wp2
                go_ret
                exact ⟨by first | rfl | (simp [errW_none, errW_some] <;> rfl) | (simp [*, errW_none, errW_some] <;> rfl), by repeat (first | (with_reducible first | exact HB.out | apply below_alloc | apply pw_below_drewN | apply below_drew1 | refine below_set ?_ GE207.out) | exact HB.out)⟩
              · rw [if_neg c10] at H
                have c10b0 : decide ((rd l0_1 x14_1) < 0) = false := decide_eq_false c10
                clear c10
                by_cases c11 : (rd l0_1 x14_1) ≥ (wrap64 (a1 * a1))
                · rw [if_pos c11] at H
                  have c11b0 : decide ((wrap64 (a1 * a1)) ≤ (rd l0_1 x14_1)) = true := decide_eq_true c11
                  clear c11
                  obtain rfl := Option.some.inj H
                  have p209 : 0 ≤ (x14_1 : Int) := of_decide_eq_true (by first | (with_reducible assumption) | assumption)
                  have q209 : x14_1 < (l0_1.length : Int) := of_decide_eq_true (by first | (with_reducible assumption) | assumption)
                  obtain ⟨ad209, e209, hx209_0⟩ := Kd.at_int HR0_1.out x14_1 p209 q209
                  cases e209
                  replace hx209_0 := (HB.out.cell (World.block_lt_of_cell? w _ hx209_0)).trans hx209_0
                  replace p209 := eq_true p209
                  replace q209 := eq_true q209
                  go_wp2
                  go_ret
                  exact ⟨by first | rfl | (simp [errW_none, errW_some] <;> rfl) | (simp [*, errW_none, errW_some] <;> rfl), by repeat (first | (with_reducible first | exact HB.out | apply below_alloc | apply pw_below_drewN | apply below_drew1 | refine below_set ?_ GE207.out) | exact HB.out)⟩
                · rw [if_neg c11] at H
                  have c11b0 : decide ((wrap64 (a1 * a1)) ≤ (rd l0_1 x14_1)) = false := decide_eq_false c11
                  clear c11
                  have c12b0 := eq_true (of_decide_eq_true (by first | (with_reducible assumption) | assumption) : 0 ≤ x14_1)
                  by_cases c13 : x14_1 ≤ (l0_1.length : Int)
                  · rw [if_pos c13] at H
                    have c13b0 := eq_true c13
                    have c13b1 : decide (x14_1 ≤ (l0_1.length : Int)) = true := decide_eq_true c13
                    clear c13
                    replace H := Option.bind_eq_some_iff.mp H
                    obtain ⟨t211, A140, H⟩ := H
                    replace H : (if t211 = true then (some false) else (impl_RuleValid.l0 k1 a1 l0_1 (l0_1.length : Int) (wrap64 (x14_1 + 1)) a0_0 l0_1 a0_2)) = some r := H
                    have A14 := Aside0.mk A140
                    clear A140
                    by_cases c15 : t211 = true
                    · subst c15
                      have H1 : (some false) = some r := by rw [if_pos rfl] at H; exact H
                      clear H
                      have H := H1
                      clear H1
                      obtain rfl := Option.some.inj H
                      have p209 : 0 ≤ (x14_1 : Int) := of_decide_eq_true (by first | (with_reducible assumption) | assumption)
                      have q209 : x14_1 < (l0_1.length : Int) := of_decide_eq_true (by first | (with_reducible assumption) | assumption)
                      obtain ⟨ad209, e209, hx209_0⟩ := Kd.at_int HR0_1.out x14_1 p209 q209
                      cases e209
                      replace hx209_0 := (HB.out.cell (World.block_lt_of_cell? w _ hx209_0)).trans hx209_0
                      replace p209 := eq_true p209
                      replace q209 := eq_true q209
                      have hcz16_0 : wr.cell? ⟨gb207, 0, none⟩ = some (.int .i64 a0_0) := (blk_cell BK207.out 0).trans rfl
                      have hcz16_1 : wr.cell? ⟨gb207, 1, none⟩ = some (.slice (some ad209) l0_1.length c0_1) := (blk_cell BK207.out 1).trans rfl
                      have hcz16_2 : wr.cell? ⟨gb207, 2, none⟩ = some (.int .i64 a0_2) := (blk_cell BK207.out 2).trans rfl
                      have hfz16_0 := blk_frozen BK207.out 0
                      have hfz16_1 := blk_frozen BK207.out 1
                      have hfz16_2 := blk_frozen BK207.out 2
                      obtain ⟨i017, hi017, _, hsz17, _⟩ := info_parts info3
                      obtain ⟨hcut17, hA17, hC17⟩ := print_take_of (P := Tryd.prog) (Value.int .i64) 0 32 3 .i64 Tryd.underlying32 hi017 hsz17 (some ad209) c0_1 l0_1 x14_1 (of_decide_eq_true (by first | (with_reducible assumption) | assumption)) (of_decide_eq_true (by first | (with_reducible assumption) | assumption)) HC0_1.out
                      have HR210 := Aside0.mk (Kd.C_of_reads (h1 := fun _ => rfl) (hA17 _ (Kd.reads_of_C HR0_1.out)))
                      have HC210 := Aside0.mk hC17
                      clear hA17 hC17 hi017 hsz17
                      go_wp2_with (first | (go_at_call 53; refine calls_of_args (args' := #[.slice (some ad209) (l0_1.take (x14_1 : Int).toNat).length c0_1, .int .i64 (rd l0_1 x14_1)]) (by first | (rw [show (l0_1.take (x14_1 : Int).toNat).length = x14_1.toNat from (by rw [List.length_take]; have h_ : (x14_1 : Int) ≤ (l0_1.length : Int) := of_decide_eq_true (by first | (with_reducible assumption) | assumption); omega)] <;> rfl) |  rfl) ?_; (with_reducible refine (slices_Contains_int_int.calls k1 _ _ (l0_1.take (x14_1 : Int).toNat) (rd l0_1 x14_1) true _ ?side1 ?side2 A14.out).mono ?_); (case side1 => repeat (first | exact (Kd.C_below HR210.out HB.out) | (with_reducible refine Kd.C_alloc ?_ _) | (with_reducible refine Kd.C_drewN ?_ _) | (with_reducible refine Kd.C_drew ?_))); (case side2 => exact HC210.out); rintro e w' ⟨rfl, ⟨nd, rfl⟩⟩))
                      go_ret
                      exact ⟨by first | rfl | (simp [errW_none, errW_some] <;> rfl) | (simp [*, errW_none, errW_some] <;> rfl), by repeat (first | (with_reducible first | exact HB.out | apply below_alloc | apply pw_below_drewN | apply below_drew1 | refine below_set ?_ GE207.out) | exact HB.out)⟩
                    · replace c15 := Bool.eq_false_iff.mpr c15
                      subst c15
                      have H1 : (impl_RuleValid.l0 k1 a1 l0_1 (l0_1.length : Int) (wrap64 (x14_1 + 1)) a0_0 l0_1 a0_2) = some r := by rw [if_neg (show ¬ (false = true) by decide)] at H; exact H
                      clear H
                      have H := H1
                      clear H1
                      have H' := Aside0.mk H
                      clear H
                      have p209 : 0 ≤ (x14_1 : Int) := of_decide_eq_true (by first | (with_reducible assumption) | assumption)
                      have q209 : x14_1 < (l0_1.length : Int) := of_decide_eq_true (by first | (with_reducible assumption) | assumption)
                      obtain ⟨ad209, e209, hx209_0⟩ := Kd.at_int HR0_1.out x14_1 p209 q209
                      cases e209
                      replace hx209_0 := (HB.out.cell (World.block_lt_of_cell? w _ hx209_0)).trans hx209_0
                      replace p209 := eq_true p209
                      replace q209 := eq_true q209
                      have hcz18_0 : wr.cell? ⟨gb207, 0, none⟩ = some (.int .i64 a0_0) := (blk_cell BK207.out 0).trans rfl
                      have hcz18_1 : wr.cell? ⟨gb207, 1, none⟩ = some (.slice (some ad209) l0_1.length c0_1) := (blk_cell BK207.out 1).trans rfl
                      have hcz18_2 : wr.cell? ⟨gb207, 2, none⟩ = some (.int .i64 a0_2) := (blk_cell BK207.out 2).trans rfl
                      have hfz18_0 := blk_frozen BK207.out 0
                      have hfz18_1 := blk_frozen BK207.out 1
                      have hfz18_2 := blk_frozen BK207.out 2
                      obtain ⟨i019, hi019, _, hsz19, _⟩ := info_parts info3
                      obtain ⟨hcut19, hA19, hC19⟩ := print_take_of (P := Tryd.prog) (Value.int .i64) 0 32 3 .i64 Tryd.underlying32 hi019 hsz19 (some ad209) c0_1 l0_1 x14_1 (of_decide_eq_true (by first | (with_reducible assumption) | assumption)) (of_decide_eq_true (by first | (with_reducible assumption) | assumption)) HC0_1.out
                      have HR210 := Aside0.mk (Kd.C_of_reads (h1 := fun _ => rfl) (hA19 _ (Kd.reads_of_C HR0_1.out)))
                      have HC210 := Aside0.mk hC19
                      clear hA19 hC19 hi019 hsz19
                      go_wp2_with (first | (go_at_call 53; refine calls_of_args (args' := #[.slice (some ad209) (l0_1.take (x14_1 : Int).toNat).length c0_1, .int .i64 (rd l0_1 x14_1)]) (by first | (rw [show (l0_1.take (x14_1 : Int).toNat).length = x14_1.toNat from (by rw [List.length_take]; have h_ : (x14_1 : Int) ≤ (l0_1.length : Int) := of_decide_eq_true (by first | (with_reducible assumption) | assumption); omega)] <;> rfl) |  rfl) ?_; (with_reducible refine (slices_Contains_int_int.calls k1 _ _ (l0_1.take (x14_1 : Int).toNat) (rd l0_1 x14_1) false _ ?side1 ?side2 A14.out).mono ?_); (case side1 => repeat (first | exact (Kd.C_below HR210.out HB.out) | (with_reducible refine Kd.C_alloc ?_ _) | (with_reducible refine Kd.C_drewN ?_ _) | (with_reducible refine Kd.C_drew ?_))); (case side2 => exact HC210.out); rintro e w' ⟨rfl, ⟨nd, rfl⟩⟩))
                      go_roundg k1
                      case measure => have := HK1.out; omega
                      case rel => exact ⟨(wrap64 (x14_1 + 1)), (by first | rfl | (simp; done) | (simp [*]; done)), H', ⟨by have := HK1.out; omega⟩, ⟨by (with_reducible repeat (first | refine blk_drewN ?_ _ | refine blk_drew ?_ | refine blk_alloc ?_ _)); exact BK207.out⟩, ⟨by repeat (first | (with_reducible first | exact HB.out | apply below_alloc | apply pw_below_drewN | apply below_drew1 | refine below_set ?_ GE207.out) | exact HB.out)⟩⟩
                  · rw [if_neg c13] at H
                    exact absurd H (by simp)
            · rw [if_neg c9] at H
              exact absurd H (by simp)
          · rw [if_neg c8] at H
            exact absurd H (by simp)
        · rw [if_neg c7] at H
          have c7b0 : decide (x14_1 < (l0_1.length : Int)) = false := decide_eq_false c7
          clear c7
          by_cases c20 : a0_0 = 1
          · rw [if_pos c20] at H
            have c20b0 : (a0_0 == 1) = true := beq_iff_eq.mpr c20
            have c20b1 : (a0_0 != 1) = false := bne_eq_false_iff_eq.mpr c20
            clear c20
            by_cases c21 : (l0_1.length : Int) ≥ 2
            · rw [if_pos c21] at H
              have c21b0 : decide (2 ≤ (l0_1.length : Int)) = true := decide_eq_true c21
              have c21b1 : decide (2 ≤ l0_1.length) = true := decide_eq_true (by omega)
              clear c21
              by_cases c22 : (l0_1.length : Int) ≤ 4
              · rw [if_pos c22] at H
                have c22b0 : decide ((l0_1.length : Int) ≤ 4) = true := decide_eq_true c22
                have c22b1 : decide (l0_1.length ≤ 4) = true := decide_eq_true (by omega)
                clear c22
                obtain rfl := Option.some.inj H
                have hcz23_0 : wr.cell? ⟨gb207, 0, none⟩ = some (.int .i64 a0_0) := (blk_cell BK207.out 0).trans rfl
                have hcz23_1 : wr.cell? ⟨gb207, 1, none⟩ = some (.slice A0_1 l0_1.length c0_1) := (blk_cell BK207.out 1).trans rfl
                have hcz23_2 : wr.cell? ⟨gb207, 2, none⟩ = some (.int .i64 a0_2) := (blk_cell BK207.out 2).trans rfl
                have hfz23_0 := blk_frozen BK207.out 0
                have hfz23_1 := blk_frozen BK207.out 1
                have hfz23_2 := blk_frozen BK207.out 2
                go_wp2
                go_ret
                exact ⟨by first | rfl | (simp [errW_none, errW_some] <;> rfl) | (simp [*, errW_none, errW_some] <;> rfl), by repeat (first | (with_reducible first | exact HB.out | apply below_alloc | apply pw_below_drewN | apply below_drew1 | refine below_set ?_ GE207.out) | exact HB.out)⟩
              · rw [if_neg c22] at H
                have c22b0 : decide ((l0_1.length : Int) ≤ 4) = false := decide_eq_false c22
                have c22b1 : decide (l0_1.length ≤ 4) = false := decide_eq_false (by omega)
                clear c22
                obtain rfl := Option.some.inj H
                have hcz24_0 : wr.cell? ⟨gb207, 0, none⟩ = some (.int .i64 a0_0) := (blk_cell BK207.out 0).trans rfl
                have hcz24_1 : wr.cell? ⟨gb207, 1, none⟩ = some (.slice A0_1 l0_1.length c0_1) := (blk_cell BK207.out 1).trans rfl
                have hcz24_2 : wr.cell? ⟨gb207, 2, none⟩ = some (.int .i64 a0_2) := (blk_cell BK207.out 2).trans rfl
                have hfz24_0 := blk_frozen BK207.out 0
                have hfz24_1 := blk_frozen BK207.out 1
                have hfz24_2 := blk_frozen BK207.out 2
                go_wp2
                go_ret
                exact ⟨by first | rfl | (simp [errW_none, errW_some] <;> rfl) | (simp [*, errW_none, errW_some] <;> rfl), by repeat (first | (with_reducible first | exact HB.out | apply below_alloc | apply pw_below_drewN | apply below_drew1 | refine below_set ?_ GE207.out) | exact HB.out)⟩
            · rw [if_neg c21] at H
              have c21b0 : decide (2 ≤ (l0_1.length : Int)) = false := decide_eq_false c21
              have c21b1 : decide (2 ≤ l0_1.length) = false := decide_eq_false (by omega)
              clear c21
              obtain rfl := Option.some.inj H
              have hcz25_0 : wr.cell? ⟨gb207, 0, none⟩ = some (.int .i64 a0_0) := (blk_cell BK207.out 0).trans rfl
              have hcz25_1 : wr.cell? ⟨gb207, 1, none⟩ = some (.slice A0_1 l0_1.length c0_1) := (blk_cell BK207.out 1).trans rfl
              have hcz25_2 : wr.cell? ⟨gb207, 2, none⟩ = some (.int .i64 a0_2) := (blk_cell BK207.out 2).trans rfl
              have hfz25_0 := blk_frozen BK207.out 0
              have hfz25_1 := blk_frozen BK207.out 1
              have hfz25_2 := blk_frozen BK207.out 2
              go_wp2
              go_ret
              exact ⟨by first | rfl | (simp [errW_none, errW_some] <;> rfl) | (simp [*, errW_none, errW_some] <;> rfl), by repeat (first | (with_reducible first | exact HB.out | apply below_alloc | apply pw_below_drewN | apply below_drew1 | refine below_set ?_ GE207.out) | exact HB.out)⟩
          · rw [if_neg c20] at H
            have c20b0 : (a0_0 == 1) = false := beq_eq_false_iff_ne.mpr c20
            have c20b1 : (a0_0 != 1) = true := bne_iff_ne.mpr c20
            have HC26 := Aside0.mk H
            clear H
            have hcz27_0 : wr.cell? ⟨gb207, 0, none⟩ = some (.int .i64 a0_0) := (blk_cell BK207.out 0).trans rfl
            have hcz27_1 : wr.cell? ⟨gb207, 1, none⟩ = some (.slice A0_1 l0_1.length c0_1) := (blk_cell BK207.out 1).trans rfl
            have hcz27_2 : wr.cell? ⟨gb207, 2, none⟩ = some (.int .i64 a0_2) := (blk_cell BK207.out 2).trans rfl
            have hfz27_0 := blk_frozen BK207.out 0
            have hfz27_1 := blk_frozen BK207.out 1
            have hfz27_2 := blk_frozen BK207.out 2
            go_upto_if 55 with (fail)
            go_cut [55] (fun v55 wc => ∃ (kq : Nat) (x55_25 : Bool), v55 = .bool x55_25 ∧ Aside0 (impl_RuleValid.j1 kq a1 (l0_1.length : Int) a0_0 x55_25 a0_0 l0_1 a0_2 = some r) ∧ Aside0 (kq ≤ k1) ∧ Aside0 (wc.heap[gb207]? = some (.cells #[.int .i64 a0_0, (.slice A0_1 l0_1.length c0_1), .int .i64 a0_2] 37 (0, 0))) ∧ Aside0 (Below w.heap.size w wc))
            case first =>
              have H := HC26.out
              clear HC26
              by_cases c28 : a0_0 = 2
              · rw [if_pos c28] at H
                have c28b0 : (a0_0 == 2) = true := beq_iff_eq.mpr c28
                have c28b1 : (a0_0 != 2) = false := bne_eq_false_iff_eq.mpr c28
                clear c28
                (first | rw [c28b0] | (simp only [i64_w, i32_w]; rw [c28b0]) | skip)
                have H' := Aside0.mk H
                clear H
                go_wp2
                go_meet
                case rel => exact ⟨_, ((a0_0 == 2)), (by first | rfl | (simp; done) | (simp [*]; done)), H', ⟨by have := HK1.out; first | omega | exact Nat.le_refl _⟩, ⟨by (with_reducible repeat (first | refine blk_drewN ?_ _ | refine blk_drew ?_ | refine blk_alloc ?_ _)); exact BK207.out⟩, ⟨by repeat (first | (with_reducible first | exact HB.out | apply below_alloc | apply pw_below_drewN | apply below_drew1 | refine below_set ?_ GE207.out) | exact HB.out)⟩⟩
              · rw [if_neg c28] at H
                have c28b0 : (a0_0 == 2) = false := beq_eq_false_iff_ne.mpr c28
                have c28b1 : (a0_0 != 2) = true := bne_iff_ne.mpr c28
                (first | rw [c28b0] | (simp only [i64_w, i32_w]; rw [c28b0]) | skip)
                have H' := Aside0.mk H
                clear H
                go_wp2
                go_meet
                case rel => exact ⟨_, ((a0_0 == 3)), (by first | rfl | (simp; done) | (simp [*]; done)), H', ⟨by have := HK1.out; first | omega | exact Nat.le_refl _⟩, ⟨by (with_reducible repeat (first | refine blk_drewN ?_ _ | refine blk_drew ?_ | refine blk_alloc ?_ _)); exact BK207.out⟩, ⟨by repeat (first | (with_reducible first | exact HB.out | apply below_alloc | apply pw_below_drewN | apply below_drew1 | refine below_set ?_ GE207.out) | exact HB.out)⟩⟩
            case rest =>
              clear HC26
              try clear c1
              try clear c2
              try clear p2
              try clear q2
              try clear hx2
              try clear c3
              try clear c4
              try clear c5
              try clear p6
              try clear c7
              try clear c7b0
              try clear c8
              try clear c8b0
              try clear c9
              try clear c9b0
              try clear c10
              try clear c10b0
              try clear c11
              try clear c11b0
              try clear c12
              try clear c12b0
              try clear c13
              try clear c13b0
              try clear c13b1
              try clear c15
              try clear c20
              try clear c20b0
              try clear c20b1
              try clear p20
              try clear q20
              try clear hx20
              try clear c21
              try clear c21b0
              try clear c21b1
              try clear c22
              try clear c22b0
              try clear c22b1
              try clear c28
              try clear c28b0
              try clear c28b1
              try clear hcz16_0
              try clear hcz16_1
              try clear hcz16_2
              try clear hcz18_0
              try clear hcz18_1
              try clear hcz18_2
              try clear hcz23_0
              try clear hcz23_1
              try clear hcz23_2
              try clear hcz24_0
              try clear hcz24_1
              try clear hcz24_2
              try clear hcz25_0
              try clear hcz25_1
              try clear hcz25_2
              try clear hcz27_0
              try clear hcz27_1
              try clear hcz27_2
              try clear hcz6_0
              try clear hcz6_1
              try clear hcz6_2
              try clear hfz16_0
              try clear hfz16_1
              try clear hfz16_2
              try clear hfz18_0
              try clear hfz18_1
              try clear hfz18_2
              try clear hfz23_0
              try clear hfz23_1
              try clear hfz23_2
              try clear hfz24_0
              try clear hfz24_1
              try clear hfz24_2
              try clear hfz25_0
              try clear hfz25_1
              try clear hfz25_2
              try clear hfz27_0
              try clear hfz27_1
              try clear hfz27_2
              try clear hfz6_0
              try clear hfz6_1
              try clear hfz6_2
              try clear hx209_0
              try clear p2
              try clear p209
              try clear q209
              obtain ⟨kq, x55_25, rfl, HA, HJ25, BK207, HB⟩ := hcut
              cases kq with
              | zero => exact absurd HA.out (by simp [impl_RuleValid.j1])
              | succ kj25 =>
                have H := HA.out
                clear HA
                simp only [impl_RuleValid.j1] at H
                by_cases c29 : x55_25 = true
                · subst c29
                  have H1 : (if (l0_1.length : Int) ≥ 1 then (if (l0_1.length : Int) ≤ 4 then (if a0_2 ≥ 1 then (some (decide (a0_2 ≤ (wrap64 ((wrap64 ((wrap64 (a1 * a1)) * a1)) * a1))))) else (some false)) else (some false)) else (some false)) = some r := by rw [if_pos rfl] at H; exact H
                  clear H
                  have H := H1
                  clear H1
                  by_cases c30 : (l0_1.length : Int) ≥ 1
                  · rw [if_pos c30] at H
                    have c30b0 : decide (1 ≤ (l0_1.length : Int)) = true := decide_eq_true c30
                    have c30b1 : decide (1 ≤ l0_1.length) = true := decide_eq_true (by omega)
                    clear c30
                    by_cases c31 : (l0_1.length : Int) ≤ 4
                    · rw [if_pos c31] at H
                      have c31b0 : decide ((l0_1.length : Int) ≤ 4) = true := decide_eq_true c31
                      have c31b1 : decide (l0_1.length ≤ 4) = true := decide_eq_true (by omega)
                      clear c31
                      by_cases c32 : a0_2 ≥ 1
                      · rw [if_pos c32] at H
                        have c32b0 : decide (1 ≤ a0_2) = true := decide_eq_true c32
                        clear c32
                        obtain rfl := Option.some.inj H
                        have hcz33_0 : wc.cell? ⟨gb207, 0, none⟩ = some (.int .i64 a0_0) := (blk_cell BK207.out 0).trans rfl
                        have hcz33_1 : wc.cell? ⟨gb207, 1, none⟩ = some (.slice A0_1 l0_1.length c0_1) := (blk_cell BK207.out 1).trans rfl
                        have hcz33_2 : wc.cell? ⟨gb207, 2, none⟩ = some (.int .i64 a0_2) := (blk_cell BK207.out 2).trans rfl
                        have hfz33_0 := blk_frozen BK207.out 0
                        have hfz33_1 := blk_frozen BK207.out 1
                        have hfz33_2 := blk_frozen BK207.out 2
                        go_wp2
                        go_ret
                        exact ⟨by first | rfl | (simp [errW_none, errW_some] <;> rfl) | (simp [*, errW_none, errW_some] <;> rfl), by repeat (first | (with_reducible first | exact HB.out | apply below_alloc | apply pw_below_drewN | apply below_drew1 | refine below_set ?_ GE207.out) | exact HB.out)⟩
                      · rw [if_neg c32] at H
                        have c32b0 : decide (1 ≤ a0_2) = false := decide_eq_false c32
                        clear c32
                        obtain rfl := Option.some.inj H
                        have hcz34_0 : wc.cell? ⟨gb207, 0, none⟩ = some (.int .i64 a0_0) := (blk_cell BK207.out 0).trans rfl
                        have hcz34_1 : wc.cell? ⟨gb207, 1, none⟩ = some (.slice A0_1 l0_1.length c0_1) := (blk_cell BK207.out 1).trans rfl
                        have hcz34_2 : wc.cell? ⟨gb207, 2, none⟩ = some (.int .i64 a0_2) := (blk_cell BK207.out 2).trans rfl
                        have hfz34_0 := blk_frozen BK207.out 0
                        have hfz34_1 := blk_frozen BK207.out 1
                        have hfz34_2 := blk_frozen BK207.out 2
                        go_wp2
                        go_ret
                        exact ⟨by first | rfl | (simp [errW_none, errW_some] <;> rfl) | (simp [*, errW_none, errW_some] <;> rfl), by repeat (first | (with_reducible first | exact HB.out | apply below_alloc | apply pw_below_drewN | apply below_drew1 | refine below_set ?_ GE207.out) | exact HB.out)⟩
                    · rw [if_neg c31] at H
                      have c31b0 : decide ((l0_1.length : Int) ≤ 4) = false := decide_eq_false c31
                      have c31b1 : decide (l0_1.length ≤ 4) = false := decide_eq_false (by omega)
                      clear c31
                      obtain rfl := Option.some.inj H
                      go_wp2
                      go_ret
                      exact ⟨by first | rfl | (simp [errW_none, errW_some] <;> rfl) | (simp [*, errW_none, errW_some] <;> rfl), by repeat (first | (with_reducible first | exact HB.out | apply below_alloc | apply pw_below_drewN | apply below_drew1 | refine below_set ?_ GE207.out) | exact HB.out)⟩
                  · rw [if_neg c30] at H
                    have c30b0 : decide (1 ≤ (l0_1.length : Int)) = false := decide_eq_false c30
                    have c30b1 : decide (1 ≤ l0_1.length) = false := decide_eq_false (by omega)
                    clear c30
                    obtain rfl := Option.some.inj H
                    go_wp2
                    go_ret
                    exact ⟨by first | rfl | (simp [errW_none, errW_some] <;> rfl) | (simp [*, errW_none, errW_some] <;> rfl), by repeat (first | (with_reducible first | exact HB.out | apply below_alloc | apply pw_below_drewN | apply below_drew1 | refine below_set ?_ GE207.out) | exact HB.out)⟩
                · replace c29 := Bool.eq_false_iff.mpr c29
                  subst c29
                  have H1 : (if a0_0 = 4 then (if (l0_1.length : Int) = 2 then (some (a0_2 == 0)) else (some false)) else (if a0_0 = 5 then (if (l0_1.length : Int) = 2 then (if a0_2 ≥ 0 then (some (decide (a0_2 < a1))) else (some false)) else (some false)) else (some false))) = some r := by rw [if_neg (show ¬ (false = true) by decide)] at H; exact H
                  clear H
                  have H := H1
                  clear H1
                  by_cases c35 : a0_0 = 4
                  · rw [if_pos c35] at H
                    have c35b0 : (a0_0 == 4) = true := beq_iff_eq.mpr c35
                    have c35b1 : (a0_0 != 4) = false := bne_eq_false_iff_eq.mpr c35
                    clear c35
                    by_cases c36 : (l0_1.length : Int) = 2
                    · rw [if_pos c36] at H
                      have c36b0 : ((l0_1.length : Int) == 2) = true := beq_iff_eq.mpr c36
                      have c36b1 : ((l0_1.length : Int) != 2) = false := bne_eq_false_iff_eq.mpr c36
                      clear c36
                      obtain rfl := Option.some.inj H
                      have hcz37_0 : wc.cell? ⟨gb207, 0, none⟩ = some (.int .i64 a0_0) := (blk_cell BK207.out 0).trans rfl
                      have hcz37_1 : wc.cell? ⟨gb207, 1, none⟩ = some (.slice A0_1 l0_1.length c0_1) := (blk_cell BK207.out 1).trans rfl
                      have hcz37_2 : wc.cell? ⟨gb207, 2, none⟩ = some (.int .i64 a0_2) := (blk_cell BK207.out 2).trans rfl
                      have hfz37_0 := blk_frozen BK207.out 0
                      have hfz37_1 := blk_frozen BK207.out 1
                      have hfz37_2 := blk_frozen BK207.out 2
                      go_wp2
                      go_ret
                      exact ⟨by first | rfl | (simp [errW_none, errW_some] <;> rfl) | (simp [*, errW_none, errW_some] <;> rfl), by repeat (first | (with_reducible first | exact HB.out | apply below_alloc | apply pw_below_drewN | apply below_drew1 | refine below_set ?_ GE207.out) | exact HB.out)⟩
                    · rw [if_neg c36] at H
                      have c36b0 : ((l0_1.length : Int) == 2) = false := beq_eq_false_iff_ne.mpr c36
                      have c36b1 : ((l0_1.length : Int) != 2) = true := bne_iff_ne.mpr c36
                      obtain rfl := Option.some.inj H
                      go_wp2
                      go_ret
                      exact ⟨by first | rfl | (simp [errW_none, errW_some] <;> rfl) | (simp [*, errW_none, errW_some] <;> rfl), by repeat (first | (with_reducible first | exact HB.out | apply below_alloc | apply pw_below_drewN | apply below_drew1 | refine below_set ?_ GE207.out) | exact HB.out)⟩
                  · rw [if_neg c35] at H
                    have c35b0 : (a0_0 == 4) = false := beq_eq_false_iff_ne.mpr c35
                    have c35b1 : (a0_0 != 4) = true := bne_iff_ne.mpr c35
                    by_cases c38 : a0_0 = 5
                    · rw [if_pos c38] at H
                      have c38b0 : (a0_0 == 5) = true := beq_iff_eq.mpr c38
                      have c38b1 : (a0_0 != 5) = false := bne_eq_false_iff_eq.mpr c38
                      clear c38
                      by_cases c39 : (l0_1.length : Int) = 2
                      · rw [if_pos c39] at H
                        have c39b0 : ((l0_1.length : Int) == 2) = true := beq_iff_eq.mpr c39
                        have c39b1 : ((l0_1.length : Int) != 2) = false := bne_eq_false_iff_eq.mpr c39
                        clear c39
                        by_cases c40 : a0_2 ≥ 0
                        · rw [if_pos c40] at H
                          have c40b0 : decide (0 ≤ a0_2) = true := decide_eq_true c40
                          clear c40
                          obtain rfl := Option.some.inj H
                          have hcz41_0 : wc.cell? ⟨gb207, 0, none⟩ = some (.int .i64 a0_0) := (blk_cell BK207.out 0).trans rfl
                          have hcz41_1 : wc.cell? ⟨gb207, 1, none⟩ = some (.slice A0_1 l0_1.length c0_1) := (blk_cell BK207.out 1).trans rfl
                          have hcz41_2 : wc.cell? ⟨gb207, 2, none⟩ = some (.int .i64 a0_2) := (blk_cell BK207.out 2).trans rfl
                          have hfz41_0 := blk_frozen BK207.out 0
                          have hfz41_1 := blk_frozen BK207.out 1
                          have hfz41_2 := blk_frozen BK207.out 2
                          go_wp2
                          go_ret
                          exact ⟨by first | rfl | (simp [errW_none, errW_some] <;> rfl) | (simp [*, errW_none, errW_some] <;> rfl), by repeat (first | (with_reducible first | exact HB.out | apply below_alloc | apply pw_below_drewN | apply below_drew1 | refine below_set ?_ GE207.out) | exact HB.out)⟩
                        · rw [if_neg c40] at H
                          have c40b0 : decide (0 ≤ a0_2) = false := decide_eq_false c40
                          clear c40
                          obtain rfl := Option.some.inj H
                          have hcz42_0 : wc.cell? ⟨gb207, 0, none⟩ = some (.int .i64 a0_0) := (blk_cell BK207.out 0).trans rfl
                          have hcz42_1 : wc.cell? ⟨gb207, 1, none⟩ = some (.slice A0_1 l0_1.length c0_1) := (blk_cell BK207.out 1).trans rfl
                          have hcz42_2 : wc.cell? ⟨gb207, 2, none⟩ = some (.int .i64 a0_2) := (blk_cell BK207.out 2).trans rfl
                          have hfz42_0 := blk_frozen BK207.out 0
                          have hfz42_1 := blk_frozen BK207.out 1
                          have hfz42_2 := blk_frozen BK207.out 2
                          go_wp2
                          go_ret
                          exact ⟨by first | rfl | (simp [errW_none, errW_some] <;> rfl) | (simp [*, errW_none, errW_some] <;> rfl), by repeat (first | (with_reducible first | exact HB.out | apply below_alloc | apply pw_below_drewN | apply below_drew1 | refine below_set ?_ GE207.out) | exact HB.out)⟩
                      · rw [if_neg c39] at H
                        have c39b0 : ((l0_1.length : Int) == 2) = false := beq_eq_false_iff_ne.mpr c39
                        have c39b1 : ((l0_1.length : Int) != 2) = true := bne_iff_ne.mpr c39
                        obtain rfl := Option.some.inj H
                        go_wp2
                        go_ret
                        exact ⟨by first | rfl | (simp [errW_none, errW_some] <;> rfl) | (simp [*, errW_none, errW_some] <;> rfl), by repeat (first | (with_reducible first | exact HB.out | apply below_alloc | apply pw_below_drewN | apply below_drew1 | refine below_set ?_ GE207.out) | exact HB.out)⟩
                    · rw [if_neg c38] at H
                      have c38b0 : (a0_0 == 5) = false := beq_eq_false_iff_ne.mpr c38
                      have c38b1 : (a0_0 != 5) = true := bne_iff_ne.mpr c38
                      obtain rfl := Option.some.inj H
                      go_wp2
                      go_ret
                      exact ⟨by first | rfl | (simp [errW_none, errW_some] <;> rfl) | (simp [*, errW_none, errW_some] <;> rfl), by repeat (first | (with_reducible first | exact HB.out | apply below_alloc | apply pw_below_drewN | apply below_drew1 | refine below_set ?_ GE207.out) | exact HB.out)⟩
  · replace c4 := Bool.eq_false_iff.mpr c4
    subst c4
    have H1 : (some false) = some r := by rw [if_neg (show ¬ (false = true) by decide)] at H; exact H
    clear H
    have H := H1
    clear H1
    obtain rfl := Option.some.inj H
    go_enter Tryd.func36, Tryd.ntmps36
    go_wp2_with (first | ((with_reducible refine gate_dst (N := 2) rfl ?_); refine box_event ?hg (N := 2) ?hd (cs := #[.int .i64 a0_0, .slice A0_1 l0_1.length c0_1, .int .i64 a0_2]) (t := 37) ?hr ?_; (case hd => rfl); (case hg => rfl); (case hr => first | (go_simp; done) | (go_simp; rfl)); intro gb207 hg w43 hbox hb; have n0_ := Aside0.mk (below_step (by repeat (first | (with_reducible first | exact HB.out | apply below_alloc | apply pw_below_drewN | apply below_drew1) | exact HB.out)) hb); have n1_ := Aside0.mk (hbox); have n2_ := Aside0.mk ((by rw [hg]; exact (below_size (by repeat (first | (with_reducible first | exact HB.out | apply below_alloc | apply pw_below_drewN | apply below_drew1) | exact HB.out))) : w.heap.size ≤ gb207)); have n3_ := Aside0.mk ((by rw [hg]; exact (below_size (by repeat (first | (with_reducible first | exact HB.out | apply below_alloc | apply pw_below_drewN | apply below_drew1) | exact HB.out))) : w.heap.size ≤ gb207)); clear HB; have HB := n0_; have BK207 := n1_; have GW207 := n2_; have GE207 := n3_; clear n0_ n1_ n2_ n3_; clear hb hbox hg) | ((with_reducible refine gate_callee (f := 52) rfl ?_); refine goesL_ (some 9) rfl rfl Tryd.func52 (by kernel_rfl) rfl #[.int .i64 a1] rfl (by (try simp only [List.map_toArray, List.map_cons, List.map_nil]); first | done | rfl | (simp only [List.length_drop, List.length_take]; rfl)) ?_; (with_reducible refine (impl_sizeOk.calls a1 false _ A3.out).mono ?_); rintro e w' ⟨rfl, ⟨nd, rfl⟩⟩; refine ⟨_, rfl, ?_⟩))
    go_ret
    exact ⟨by first | rfl | (simp [errW_none, errW_some] <;> rfl) | (simp [*, errW_none, errW_some] <;> rfl), by repeat (first | (with_reducible first | exact HB.out | apply below_alloc | apply pw_below_drewN | apply below_drew1 | refine below_set ?_ GE207.out) | exact HB.out)⟩

end Go.Proofs.YtojnknpgnohegaaDoor.Q
