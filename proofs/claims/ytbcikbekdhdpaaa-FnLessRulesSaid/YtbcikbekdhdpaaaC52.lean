/- laws.FnLessRules: for every input it returns true and leaves its argument as it was. -/
import Derived.Test.YtbcikbekdhdpaaaC51
section
namespace Go.Proofs.Ytbcikbekdhdpaaa.Q
open Go.RowKit Go.Proofs.YtbcikbekdhdpaaaW.PrintWords Go.Proofs.YtbcikbekdhdpaaaW.PrintLast Go.Proofs.YtbcikbekdhdpaaaW.PrintMore
attribute [local go_sem] max2_int min2_int max_two min_two max_three min_three max_four min_four   -- for this text's walks alone
set_option linter.unusedVariables false
set_option linter.unusedSimpArgs false
mutual
def impl_SquareFits.l0 : Nat → List Int → Int → Int → Int → Option (Bool)
  | 0, _, _, _, _ => none
  | k + 1, x0, x1, x14, x15 => if x15 < x14 then ((impl_LineCells.f k x1 x15).bind fun t305 => (impl_SquareFits.l1 k x0 x1 x14 x15 t305 (t305.length : Int) 0 false false false false false)) else (some true)
def impl_SquareFits.l1 : Nat → List Int → Int → Int → Int → List Int → Int → Int → Bool → Bool → Bool → Bool → Bool → Option (Bool)
  | 0, _, _, _, _, _, _, _, _, _, _, _, _ => none
  | k + 1, x0, x1, x14, x15, x21, x22, x23, x305000, x305001, x305002, x305003, x305004 => if x23 < x22 then (if 0 ≤ x23 then (if x23 < (x21.length : Int) then (if 0 ≤ (rd x21 x23) then (if (rd x21 x23) < (x0.length : Int) then (if (rd x0 (rd x21 x23)) > 0 then (if (rd x0 (rd x21 x23)) = 0 then (if x305000 = true then (some false) else (impl_SquareFits.l1 k x0 x1 x14 x15 x21 x22 (wrap64 (x23 + 1)) true x305001 x305002 x305003 x305004)) else (if (rd x0 (rd x21 x23)) = 1 then (if x305001 = true then (some false) else (impl_SquareFits.l1 k x0 x1 x14 x15 x21 x22 (wrap64 (x23 + 1)) x305000 true x305002 x305003 x305004)) else (if (rd x0 (rd x21 x23)) = 2 then (if x305002 = true then (some false) else (impl_SquareFits.l1 k x0 x1 x14 x15 x21 x22 (wrap64 (x23 + 1)) x305000 x305001 true x305003 x305004)) else (if (rd x0 (rd x21 x23)) = 3 then (if x305003 = true then (some false) else (impl_SquareFits.l1 k x0 x1 x14 x15 x21 x22 (wrap64 (x23 + 1)) x305000 x305001 x305002 true x305004)) else (if (rd x0 (rd x21 x23)) = 4 then (if x305004 = true then (some false) else (impl_SquareFits.l1 k x0 x1 x14 x15 x21 x22 (wrap64 (x23 + 1)) x305000 x305001 x305002 x305003 true)) else (none)))))) else (if (rd x0 (rd x21 x23)) = 0 then (impl_SquareFits.l1 k x0 x1 x14 x15 x21 x22 (wrap64 (x23 + 1)) true x305001 x305002 x305003 x305004) else (if (rd x0 (rd x21 x23)) = 1 then (impl_SquareFits.l1 k x0 x1 x14 x15 x21 x22 (wrap64 (x23 + 1)) x305000 true x305002 x305003 x305004) else (if (rd x0 (rd x21 x23)) = 2 then (impl_SquareFits.l1 k x0 x1 x14 x15 x21 x22 (wrap64 (x23 + 1)) x305000 x305001 true x305003 x305004) else (if (rd x0 (rd x21 x23)) = 3 then (impl_SquareFits.l1 k x0 x1 x14 x15 x21 x22 (wrap64 (x23 + 1)) x305000 x305001 x305002 true x305004) else (if (rd x0 (rd x21 x23)) = 4 then (impl_SquareFits.l1 k x0 x1 x14 x15 x21 x22 (wrap64 (x23 + 1)) x305000 x305001 x305002 x305003 true) else (none))))))) else (none)) else (none)) else (none)) else (none)) else (impl_SquareFits.l0 k x0 x1 x14 (wrap64 (x15 + 1)))
end
def impl_SquareFits.f (k : Nat) (l0 : List Int) (a1 : Int) : Option (Bool) := (impl_GridValid.f k l0 a1).bind fun t303 => (if t303 = true then (impl_SquareFits.l0 k l0 a1 (wrap64 (2 * a1)) 0) else (some false))
set_option maxHeartbeats 8000000 in
set_option maxRecDepth 100000 in
theorem impl_SquareFits.calls (k : Nat) (A0 : Option Addr) (c0 : Nat) (l0 : List Int) (a1 : Int) (r : Bool) (w : World) (hr0 : Kd.C (Kd.int .i64) w A0 l0.length l0) (hc0 : l0.length ≤ c0) (h : impl_SquareFits.f k l0 a1 = some r) :
    Calls Try.prog 91 #[.slice A0 l0.length c0, .int .i64 a1] w fun e w' => e = .returned (.bool r) ∧ Below w.heap.size w w' := by
  have hu116 := Try.underlying116
  have HR0 := Aside0.mk hr0
  have HC0 := Aside0.mk hc0
  clear hr0 hc0
  have HB := Aside0.mk (Below.refl w.heap.size w)
  have H : ((impl_GridValid.f k l0 a1).bind fun t303 => (if t303 = true then (impl_SquareFits.l0 k l0 a1 (wrap64 (2 * a1)) 0) else (some false))) = some r := h
  clear h
  replace H := Option.bind_eq_some_iff.mp H
  obtain ⟨t303, A30, H⟩ := H
  replace H : (if t303 = true then (impl_SquareFits.l0 k l0 a1 (wrap64 (2 * a1)) 0) else (some false)) = some r := H
  have A3 := Aside0.mk A30
  clear A30
  by_cases c4 : t303 = true
  · subst c4
    have H1 : (impl_SquareFits.l0 k l0 a1 (wrap64 (2 * a1)) 0) = some r := by rw [if_pos rfl] at H; exact H
    clear H
    have H := H1
    clear H1
    have H' := Aside0.mk H
    clear H
    go_enter Try.func91, Try.ntmps91
    go_wp2_with (first | ((with_reducible refine gate_callee (f := 75) rfl ?_); refine goesL_ (some 11) rfl rfl Try.func75 (by kernel_rfl) rfl #[.slice A0 l0.length c0, .int .i64 a1] rfl (by (try simp only [List.map_toArray, List.map_cons, List.map_nil]); first | done | rfl | (simp only [List.length_drop, List.length_take]; rfl)) ?_; (with_reducible refine (impl_GridValid.calls k _ _ l0 a1 true _ ?side1 ?side2 A3.out).mono ?_); (case side1 => repeat (first | exact HR0.out | (with_reducible refine Kd.C_alloc ?_ _) | (with_reducible refine Kd.C_drewN ?_ _) | (with_reducible refine Kd.C_drew ?_))); (case side2 => exact HC0.out); rintro e w' ⟨rfl, ⟨nd, rfl⟩⟩; refine ⟨_, rfl, ?_⟩))
    go_loopg [15] k (fun kq v15 w' => ∃ (x15_1 : Int), v15 = .int .i64 x15_1 ∧ Aside0 (impl_SquareFits.l0 kq l0 a1 (wrap64 (2 * a1)) x15_1 = some r) ∧ Aside0 (kq ≤ k) ∧ Aside0 (Below w.heap.size w w'))
    case atStart => exact ⟨(0), (by first | rfl | (simp; done) | (simp [*]; done)), H', ⟨Nat.le_refl _⟩, ⟨by repeat (first | (with_reducible first | exact HB.out | apply below_alloc | apply pw_below_drewN | apply below_drew1) | exact HB.out)⟩⟩
    case round =>
      clear H'
      try clear p2
      try clear c4
      obtain ⟨x15_1, rfl, HA, HK1, HB⟩ := hrel
      cases gk with
      | zero => exact absurd HA.out (by simp [impl_SquareFits.l0])
      | succ k1 =>
        have H := HA.out
        clear HA
        simp only [impl_SquareFits.l0] at H
        by_cases c5 : x15_1 < (wrap64 (2 * a1))
        · rw [if_pos c5] at H
          have c5b0 : decide (x15_1 < (wrap64 (2 * a1))) = true := decide_eq_true c5
          clear c5
          replace H := Option.bind_eq_some_iff.mp H
          obtain ⟨t305, A60, H⟩ := H
          replace H : (impl_SquareFits.l1 k1 l0 a1 (wrap64 (2 * a1)) x15_1 t305 (t305.length : Int) 0 false false false false false) = some r := H
          have A6 := Aside0.mk A60
          clear A60
          have H' := Aside0.mk H
          clear H
          go_wp2_with (first | ((with_reducible refine gate_dst (N := 6) rfl ?_); refine box_event ?hg (N := 6) ?hd (cs := #[.bool false, .bool false, .bool false, .bool false, .bool false]) (t := 116) ?hr ?_; (case hd => rfl); (case hg => rfl); (case hr => first | (go_simp; done) | (go_simp; rfl)); intro gb304 hg w7 hbox hb; have n0_ := Aside0.mk (below_step (by repeat (first | (with_reducible first | exact HB.out | apply below_alloc | apply pw_below_drewN | apply below_drew1) | exact HB.out)) hb); have n1_ := Aside0.mk (hbox); have n2_ := Aside0.mk ((by rw [hg]; exact (below_size (by repeat (first | (with_reducible first | exact HB.out | apply below_alloc | apply pw_below_drewN | apply below_drew1) | exact HB.out))) : w.heap.size ≤ gb304)); have n3_ := Aside0.mk ((by rw [hg]; exact (below_size (by repeat (first | (with_reducible first | exact HB.out | apply below_alloc | apply pw_below_drewN | apply below_drew1) | exact HB.out))) : w.heap.size ≤ gb304)); clear HB; have HB := n0_; have BK304 := n1_; have GW304 := n2_; have GE304 := n3_; clear n0_ n1_ n2_ n3_; clear hb hbox hg; have hcz8_0 : w7.cell? ⟨gb304, 0, none⟩ = some (.bool false) := (blk_cell BK304.out 0).trans rfl; have hcz8_1 : w7.cell? ⟨gb304, 1, none⟩ = some (.bool false) := (blk_cell BK304.out 1).trans rfl; have hcz8_2 : w7.cell? ⟨gb304, 2, none⟩ = some (.bool false) := (blk_cell BK304.out 2).trans rfl; have hcz8_3 : w7.cell? ⟨gb304, 3, none⟩ = some (.bool false) := (blk_cell BK304.out 3).trans rfl; have hcz8_4 : w7.cell? ⟨gb304, 4, none⟩ = some (.bool false) := (blk_cell BK304.out 4).trans rfl; have hfz8_0 := blk_frozen BK304.out 0; have hfz8_1 := blk_frozen BK304.out 1; have hfz8_2 := blk_frozen BK304.out 2; have hfz8_3 := blk_frozen BK304.out 3; have hfz8_4 := blk_frozen BK304.out 4) | ((with_reducible refine gate_callee (f := 110) rfl ?_); refine goesL_ (some 21) rfl rfl Try.func110 (by kernel_rfl) rfl #[.int .i64 a1, .int .i64 x15_1] rfl (by (try simp only [List.map_toArray, List.map_cons, List.map_nil]); first | done | rfl | (simp only [List.length_drop, List.length_take]; rfl)) ?_; (with_reducible refine (impl_LineCells.calls k1 a1 x15_1 t305 _ A6.out).mono ?_); rintro e w9 ⟨v306, rfl, ho0, hb⟩; refine ⟨_, rfl, ?_⟩; have n0_ := Aside0.mk (Kd.R_lower ho0 (below_size (by repeat (first | (with_reducible first | exact HB.out | apply below_alloc | apply pw_below_drewN | apply below_drew1 | refine below_set ?_ GE304.out) | exact HB.out)))); have n1_ := Aside0.mk (blk_below (g := gb304) (o := .cells #[.bool false, .bool false, .bool false, .bool false, .bool false] 116 (0, 0)) (by (with_reducible repeat (first | refine blk_drewN ?_ _ | refine blk_drew ?_ | refine blk_alloc ?_ _)); refine blk_put (cs := #[.bool false, .bool false, .bool false, .bool false, .bool false]) ?_ 4 _ rfl; (with_reducible repeat (first | refine blk_drewN ?_ _ | refine blk_drew ?_ | refine blk_alloc ?_ _)); refine blk_put (cs := #[.bool false, .bool false, .bool false, .bool false, .bool false]) ?_ 3 _ rfl; (with_reducible repeat (first | refine blk_drewN ?_ _ | refine blk_drew ?_ | refine blk_alloc ?_ _)); refine blk_put (cs := #[.bool false, .bool false, .bool false, .bool false, .bool false]) ?_ 2 _ rfl; (with_reducible repeat (first | refine blk_drewN ?_ _ | refine blk_drew ?_ | refine blk_alloc ?_ _)); refine blk_put (cs := #[.bool false, .bool false, .bool false, .bool false, .bool false]) ?_ 1 _ rfl; (with_reducible repeat (first | refine blk_drewN ?_ _ | refine blk_drew ?_ | refine blk_alloc ?_ _)); refine blk_put (cs := #[.bool false, .bool false, .bool false, .bool false, .bool false]) ?_ 0 _ rfl; (with_reducible repeat (first | refine blk_drewN ?_ _ | refine blk_drew ?_ | refine blk_alloc ?_ _)); exact BK304.out) hb); have n2_ := Aside0.mk (below_step (by repeat (first | (with_reducible first | exact HB.out | apply below_alloc | apply pw_below_drewN | apply below_drew1 | refine below_set ?_ GE304.out) | exact HB.out)) hb); clear BK304; clear HB; have HO307 := n0_; have BK304 := n1_; have HB := n2_; clear n0_ n1_ n2_; (try clear hb); (try clear hb2); (try clear hk); (try clear hi); (try clear ho0); obtain ⟨Ao10, co10, eo10⟩ := Kd.R_slice HO307.out; subst eo10))
          go_loopg [23] k1 (fun kq v23 w' => ∃ (x23_2 : Int) (x305000_2 : Bool) (x305001_2 : Bool) (x305002_2 : Bool) (x305003_2 : Bool) (x305004_2 : Bool), v23 = .int .i64 x23_2 ∧ Aside0 (impl_SquareFits.l1 kq l0 a1 (wrap64 (2 * a1)) x15_1 t305 (t305.length : Int) x23_2 x305000_2 x305001_2 x305002_2 x305003_2 x305004_2 = some r) ∧ Aside0 (kq ≤ k1) ∧ Aside0 (Kd.R (Kd.int .i64) 3 w' w.heap.size (fun _ => True) (.slice Ao10 t305.length co10) t305) ∧ Aside0 (w'.heap[gb304]? = some (.cells #[.bool x305000_2, .bool x305001_2, .bool x305002_2, .bool x305003_2, .bool x305004_2] 116 (0, 0))) ∧ Aside0 (Below w.heap.size w w'))
          case atStart => exact ⟨(0), (false), (false), (false), (false), (false), (by first | rfl | (simp; done) | (simp [*]; done)), H', ⟨Nat.le_refl _⟩, ⟨by (with_reducible repeat (first | apply Kd.R_alloc | apply Kd.R_drewN | apply Kd.R_drew)); exact HO307.out⟩, ⟨by (with_reducible repeat (first | refine blk_drewN ?_ _ | refine blk_drew ?_ | refine blk_alloc ?_ _)); exact BK304.out⟩, ⟨by repeat (first | (with_reducible first | exact HB.out | apply below_alloc | apply pw_below_drewN | apply below_drew1 | refine below_set ?_ GE304.out) | exact HB.out)⟩⟩
          case round =>
            clear H'
            try clear c1
            try clear p2
            try clear c4
            try clear c5
            try clear c5b0
            try clear p6
            try clear c7
            try clear c9
            try clear hcz8_0
            try clear hcz8_1
            try clear hcz8_2
            try clear hcz8_3
            try clear hcz8_4
            try clear hfz8_0
            try clear hfz8_1
            try clear hfz8_2
            try clear hfz8_3
            try clear hfz8_4
            try clear p2
            obtain ⟨x23_2, x305000_2, x305001_2, x305002_2, x305003_2, x305004_2, rfl, HA, HK2, HO_21, BK304, HB⟩ := hrel
            cases gk with
            | zero => exact absurd HA.out (by simp [impl_SquareFits.l1])
            | succ k2 =>
              have H := HA.out
              clear HA
              simp only [impl_SquareFits.l1] at H
              by_cases c11 : x23_2 < (t305.length : Int)
              · rw [if_pos c11] at H
                have c11b0 : decide (x23_2 < (t305.length : Int)) = true := decide_eq_true c11
                clear c11
                by_cases c12 : 0 ≤ x23_2
                · rw [if_pos c12] at H
                  have c12b0 : decide (0 ≤ x23_2) = true := decide_eq_true c12
                  clear c12
                  by_cases c13 : x23_2 < (t305.length : Int)
                  · rw [if_pos c13] at H
                    have c13b0 : decide (x23_2 < (t305.length : Int)) = true := decide_eq_true c13
                    clear c13
                    by_cases c14 : 0 ≤ (rd t305 x23_2)
                    · rw [if_pos c14] at H
                      have c14b0 : decide (0 ≤ (rd t305 x23_2)) = true := decide_eq_true c14
                      clear c14
                      by_cases c15 : (rd t305 x23_2) < (l0.length : Int)
                      · rw [if_pos c15] at H
                        have c15b0 : decide ((rd t305 x23_2) < (l0.length : Int)) = true := decide_eq_true c15
                        clear c15
                        by_cases c16 : (rd l0 (rd t305 x23_2)) > 0
                        · rw [if_pos c16] at H
                          have c16b0 : decide (0 < (rd l0 (rd t305 x23_2))) = true := decide_eq_true c16
                          clear c16
                          by_cases c17 : (rd l0 (rd t305 x23_2)) = 0
                          · rw [if_pos c17] at H
                            have c17b0 : ((rd l0 (rd t305 x23_2)) == 0) = true := beq_iff_eq.mpr c17
                            have c17b1 : ((rd l0 (rd t305 x23_2)) != 0) = false := bne_eq_false_iff_eq.mpr c17
                            have c17b2 : (rd l0 (rd t305 x23_2)).toNat = 0 := by rw [c17]; rfl
                            have c17b3 : (0 ≤ (rd l0 (rd t305 x23_2))) = True := eq_true (by omega)
                            have c17b4 : ((rd l0 (rd t305 x23_2)) < 5) = True := eq_true (by omega)
                            clear c17
                            by_cases c18 : x305000_2 = true
                            · subst c18
                              have H1 : (some false) = some r := by rw [if_pos rfl] at H; exact H
                              clear H
                              have H := H1
                              clear H1
                              obtain rfl := Option.some.inj H
                              have p308 : 0 ≤ (x23_2 : Int) := of_decide_eq_true (by first | (with_reducible assumption) | assumption)
                              have q308 : x23_2 < (t305.length : Int) := of_decide_eq_true (by first | (with_reducible assumption) | assumption)
                              obtain ⟨ad308, e308, hx308_0⟩ := Kd.at_int (Kd.R_reads' HO_21.out).2.2 x23_2 p308 q308
                              cases e308
                              replace p308 := eq_true p308
                              replace q308 := eq_true q308
                              have p309 : 0 ≤ ((rd t305 x23_2) : Int) := of_decide_eq_true (by first | (with_reducible assumption) | assumption)
                              have q309 : (rd t305 x23_2) < (l0.length : Int) := of_decide_eq_true (by first | (with_reducible assumption) | assumption)
                              obtain ⟨ad309, e309, hx309_0⟩ := Kd.at_int HR0.out (rd t305 x23_2) p309 q309
                              cases e309
                              replace hx309_0 := (HB.out.cell (World.block_lt_of_cell? w _ hx309_0)).trans hx309_0
                              replace p309 := eq_true p309
                              replace q309 := eq_true q309
                              have p310 : 0 ≤ ((rd t305 x23_2) : Int) := of_decide_eq_true (by first | (with_reducible assumption) | assumption)
                              have q310 : (rd t305 x23_2) < (l0.length : Int) := of_decide_eq_true (by first | (with_reducible assumption) | assumption)
                              obtain ⟨ad310, e310, hx310_0⟩ := Kd.at_int HR0.out (rd t305 x23_2) p310 q310
                              obtain rfl : ad309 = ad310 := (by injection e310)
                              replace hx310_0 := (HB.out.cell (World.block_lt_of_cell? w _ hx310_0)).trans hx310_0
                              replace p310 := eq_true p310
                              replace q310 := eq_true q310
                              have hcz19_0 : wr.cell? ⟨gb304, 0, none⟩ = some (.bool true) := (blk_cell BK304.out 0).trans rfl
                              have hcz19_1 : wr.cell? ⟨gb304, 1, none⟩ = some (.bool x305001_2) := (blk_cell BK304.out 1).trans rfl
                              have hcz19_2 : wr.cell? ⟨gb304, 2, none⟩ = some (.bool x305002_2) := (blk_cell BK304.out 2).trans rfl
                              have hcz19_3 : wr.cell? ⟨gb304, 3, none⟩ = some (.bool x305003_2) := (blk_cell BK304.out 3).trans rfl
                              have hcz19_4 : wr.cell? ⟨gb304, 4, none⟩ = some (.bool x305004_2) := (blk_cell BK304.out 4).trans rfl
                              have hfz19_0 := blk_frozen BK304.out 0
                              have hfz19_1 := blk_frozen BK304.out 1
                              have hfz19_2 := blk_frozen BK304.out 2
                              have hfz19_3 := blk_frozen BK304.out 3
                              have hfz19_4 := blk_frozen BK304.out 4
                              go_wp2
                              go_ret
                              exact ⟨by first | rfl | (simp [errW_none, errW_some] <;> rfl) | (simp [*, errW_none, errW_some] <;> rfl), by repeat (first | (with_reducible first | exact HB.out | apply below_alloc | apply pw_below_drewN | apply below_drew1 | refine below_set ?_ GE304.out) | exact HB.out)⟩
                            · replace c18 := Bool.eq_false_iff.mpr c18
                              subst c18
                              have H1 : (impl_SquareFits.l1 k2 l0 a1 (wrap64 (2 * a1)) x15_1 t305 (t305.length : Int) (wrap64 (x23_2 + 1)) true x305001_2 x305002_2 x305003_2 x305004_2) = some r := by rw [if_neg (show ¬ (false = true) by decide)] at H; exact H
                              clear H
                              have H := H1
                              clear H1
                              have H' := Aside0.mk H
                              clear H
                              have p308 : 0 ≤ (x23_2 : Int) := of_decide_eq_true (by first | (with_reducible assumption) | assumption)
                              have q308 : x23_2 < (t305.length : Int) := of_decide_eq_true (by first | (with_reducible assumption) | assumption)
                              obtain ⟨ad308, e308, hx308_0⟩ := Kd.at_int (Kd.R_reads' HO_21.out).2.2 x23_2 p308 q308
                              cases e308
                              replace p308 := eq_true p308
                              replace q308 := eq_true q308
                              have p309 : 0 ≤ ((rd t305 x23_2) : Int) := of_decide_eq_true (by first | (with_reducible assumption) | assumption)
                              have q309 : (rd t305 x23_2) < (l0.length : Int) := of_decide_eq_true (by first | (with_reducible assumption) | assumption)
                              obtain ⟨ad309, e309, hx309_0⟩ := Kd.at_int HR0.out (rd t305 x23_2) p309 q309
                              cases e309
                              replace hx309_0 := (HB.out.cell (World.block_lt_of_cell? w _ hx309_0)).trans hx309_0
                              replace p309 := eq_true p309
                              replace q309 := eq_true q309
                              have p310 : 0 ≤ ((rd t305 x23_2) : Int) := of_decide_eq_true (by first | (with_reducible assumption) | assumption)
                              have q310 : (rd t305 x23_2) < (l0.length : Int) := of_decide_eq_true (by first | (with_reducible assumption) | assumption)
                              obtain ⟨ad310, e310, hx310_0⟩ := Kd.at_int HR0.out (rd t305 x23_2) p310 q310
                              obtain rfl : ad309 = ad310 := (by injection e310)
                              replace hx310_0 := (HB.out.cell (World.block_lt_of_cell? w _ hx310_0)).trans hx310_0
                              replace p310 := eq_true p310
                              replace q310 := eq_true q310
                              have hcz20_0 : wr.cell? ⟨gb304, 0, none⟩ = some (.bool false) := (blk_cell BK304.out 0).trans rfl
                              have hcz20_1 : wr.cell? ⟨gb304, 1, none⟩ = some (.bool x305001_2) := (blk_cell BK304.out 1).trans rfl
                              have hcz20_2 : wr.cell? ⟨gb304, 2, none⟩ = some (.bool x305002_2) := (blk_cell BK304.out 2).trans rfl
                              have hcz20_3 : wr.cell? ⟨gb304, 3, none⟩ = some (.bool x305003_2) := (blk_cell BK304.out 3).trans rfl
                              have hcz20_4 : wr.cell? ⟨gb304, 4, none⟩ = some (.bool x305004_2) := (blk_cell BK304.out 4).trans rfl
                              have hfz20_0 := blk_frozen BK304.out 0
                              have hfz20_1 := blk_frozen BK304.out 1
                              have hfz20_2 := blk_frozen BK304.out 2
                              have hfz20_3 := blk_frozen BK304.out 3
                              have hfz20_4 := blk_frozen BK304.out 4
                              have p311 : 0 ≤ ((rd t305 x23_2) : Int) := of_decide_eq_true (by first | (with_reducible assumption) | assumption)
                              have q311 : (rd t305 x23_2) < (l0.length : Int) := of_decide_eq_true (by first | (with_reducible assumption) | assumption)
                              obtain ⟨ad311, e311, hx311_0⟩ := Kd.at_int HR0.out (rd t305 x23_2) p311 q311
                              obtain rfl : ad309 = ad311 := (by injection e311)
                              replace hx311_0 := (HB.out.cell (World.block_lt_of_cell? w _ hx311_0)).trans hx311_0
                              replace p311 := eq_true p311
                              replace q311 := eq_true q311
                              go_wp2
                              go_roundg k2
                              case measure => have := HK1.out; have := HK2.out; omega
                              case rel => exact ⟨(wrap64 (x23_2 + 1)), (true), (x305001_2), (x305002_2), (x305003_2), (x305004_2), (by first | rfl | (simp; done) | (simp [*]; done)), H', ⟨by have := HK1.out; have := HK2.out; omega⟩, ⟨by (with_reducible repeat (first | apply Kd.R_alloc | apply Kd.R_drewN | apply Kd.R_drew)); exact Kd.R_mono (Kd.R_far (p := ⟨gb304, 0, none⟩) (Kd.R_types HO_21.out BK304.out (by decide)) (fun _ hk => hk.2) (.bool true)) (fun _ hk => trivial)⟩, ⟨by (with_reducible repeat (first | refine blk_drewN ?_ _ | refine blk_drew ?_ | refine blk_alloc ?_ _)); refine blk_put (cs := #[.bool false, .bool x305001_2, .bool x305002_2, .bool x305003_2, .bool x305004_2]) ?_ 0 _ rfl; (with_reducible repeat (first | refine blk_drewN ?_ _ | refine blk_drew ?_ | refine blk_alloc ?_ _)); exact BK304.out⟩, ⟨by repeat (first | (with_reducible first | exact HB.out | apply below_alloc | apply pw_below_drewN | apply below_drew1 | refine below_set ?_ GE304.out) | exact HB.out)⟩⟩
                          · rw [if_neg c17] at H
                            have c17b0 : ((rd l0 (rd t305 x23_2)) == 0) = false := beq_eq_false_iff_ne.mpr c17
                            have c17b1 : ((rd l0 (rd t305 x23_2)) != 0) = true := bne_iff_ne.mpr c17
                            by_cases c21 : (rd l0 (rd t305 x23_2)) = 1
                            · rw [if_pos c21] at H
                              have c21b0 : ((rd l0 (rd t305 x23_2)) == 1) = true := beq_iff_eq.mpr c21
                              have c21b1 : ((rd l0 (rd t305 x23_2)) != 1) = false := bne_eq_false_iff_eq.mpr c21
                              have c21b2 : (rd l0 (rd t305 x23_2)).toNat = 1 := by rw [c21]; rfl
                              have c21b3 : (0 ≤ (rd l0 (rd t305 x23_2))) = True := eq_true (by omega)
                              have c21b4 : ((rd l0 (rd t305 x23_2)) < 5) = True := eq_true (by omega)
                              clear c21
                              by_cases c22 : x305001_2 = true
                              · subst c22
                                have H1 : (some false) = some r := by rw [if_pos rfl] at H; exact H
                                clear H
                                have H := H1
                                clear H1
                                obtain rfl := Option.some.inj H
                                have p308 : 0 ≤ (x23_2 : Int) := of_decide_eq_true (by first | (with_reducible assumption) | assumption)
                                have q308 : x23_2 < (t305.length : Int) := of_decide_eq_true (by first | (with_reducible assumption) | assumption)
                                obtain ⟨ad308, e308, hx308_0⟩ := Kd.at_int (Kd.R_reads' HO_21.out).2.2 x23_2 p308 q308
                                cases e308
                                replace p308 := eq_true p308
                                replace q308 := eq_true q308
                                have p309 : 0 ≤ ((rd t305 x23_2) : Int) := of_decide_eq_true (by first | (with_reducible assumption) | assumption)
                                have q309 : (rd t305 x23_2) < (l0.length : Int) := of_decide_eq_true (by first | (with_reducible assumption) | assumption)
                                obtain ⟨ad309, e309, hx309_0⟩ := Kd.at_int HR0.out (rd t305 x23_2) p309 q309
                                cases e309
                                replace hx309_0 := (HB.out.cell (World.block_lt_of_cell? w _ hx309_0)).trans hx309_0
                                replace p309 := eq_true p309
                                replace q309 := eq_true q309
                                have p310 : 0 ≤ ((rd t305 x23_2) : Int) := of_decide_eq_true (by first | (with_reducible assumption) | assumption)
                                have q310 : (rd t305 x23_2) < (l0.length : Int) := of_decide_eq_true (by first | (with_reducible assumption) | assumption)
                                obtain ⟨ad310, e310, hx310_0⟩ := Kd.at_int HR0.out (rd t305 x23_2) p310 q310
                                obtain rfl : ad309 = ad310 := (by injection e310)
                                replace hx310_0 := (HB.out.cell (World.block_lt_of_cell? w _ hx310_0)).trans hx310_0
                                replace p310 := eq_true p310
                                replace q310 := eq_true q310
                                have hcz23_0 : wr.cell? ⟨gb304, 0, none⟩ = some (.bool x305000_2) := (blk_cell BK304.out 0).trans rfl
                                have hcz23_1 : wr.cell? ⟨gb304, 1, none⟩ = some (.bool true) := (blk_cell BK304.out 1).trans rfl
                                have hcz23_2 : wr.cell? ⟨gb304, 2, none⟩ = some (.bool x305002_2) := (blk_cell BK304.out 2).trans rfl
                                have hcz23_3 : wr.cell? ⟨gb304, 3, none⟩ = some (.bool x305003_2) := (blk_cell BK304.out 3).trans rfl
                                have hcz23_4 : wr.cell? ⟨gb304, 4, none⟩ = some (.bool x305004_2) := (blk_cell BK304.out 4).trans rfl
                                have hfz23_0 := blk_frozen BK304.out 0
                                have hfz23_1 := blk_frozen BK304.out 1
                                have hfz23_2 := blk_frozen BK304.out 2
                                have hfz23_3 := blk_frozen BK304.out 3
                                have hfz23_4 := blk_frozen BK304.out 4
                                go_wp2
                                go_ret
                                exact ⟨by first | rfl | (simp [errW_none, errW_some] <;> rfl) | (simp [*, errW_none, errW_some] <;> rfl), by repeat (first | (with_reducible first | exact HB.out | apply below_alloc | apply pw_below_drewN | apply below_drew1 | refine below_set ?_ GE304.out) | exact HB.out)⟩
                              · replace c22 := Bool.eq_false_iff.mpr c22
                                subst c22
                                have H1 : (impl_SquareFits.l1 k2 l0 a1 (wrap64 (2 * a1)) x15_1 t305 (t305.length : Int) (wrap64 (x23_2 + 1)) x305000_2 true x305002_2 x305003_2 x305004_2) = some r := by rw [if_neg (show ¬ (false = true) by decide)] at H; exact H
                                clear H
                                have H := H1
                                clear H1
                                have H' := Aside0.mk H
                                clear H
                                have p308 : 0 ≤ (x23_2 : Int) := of_decide_eq_true (by first | (with_reducible assumption) | assumption)
                                have q308 : x23_2 < (t305.length : Int) := of_decide_eq_true (by first | (with_reducible assumption) | assumption)
                                obtain ⟨ad308, e308, hx308_0⟩ := Kd.at_int (Kd.R_reads' HO_21.out).2.2 x23_2 p308 q308
                                cases e308
                                replace p308 := eq_true p308
                                replace q308 := eq_true q308
                                have p309 : 0 ≤ ((rd t305 x23_2) : Int) := of_decide_eq_true (by first | (with_reducible assumption) | assumption)
                                have q309 : (rd t305 x23_2) < (l0.length : Int) := of_decide_eq_true (by first | (with_reducible assumption) | assumption)
                                obtain ⟨ad309, e309, hx309_0⟩ := Kd.at_int HR0.out (rd t305 x23_2) p309 q309
                                cases e309
                                replace hx309_0 := (HB.out.cell (World.block_lt_of_cell? w _ hx309_0)).trans hx309_0
                                replace p309 := eq_true p309
                                replace q309 := eq_true q309
                                have p310 : 0 ≤ ((rd t305 x23_2) : Int) := of_decide_eq_true (by first | (with_reducible assumption) | assumption)
                                have q310 : (rd t305 x23_2) < (l0.length : Int) := of_decide_eq_true (by first | (with_reducible assumption) | assumption)
                                obtain ⟨ad310, e310, hx310_0⟩ := Kd.at_int HR0.out (rd t305 x23_2) p310 q310
                                obtain rfl : ad309 = ad310 := (by injection e310)
                                replace hx310_0 := (HB.out.cell (World.block_lt_of_cell? w _ hx310_0)).trans hx310_0
                                replace p310 := eq_true p310
                                replace q310 := eq_true q310
                                have hcz24_0 : wr.cell? ⟨gb304, 0, none⟩ = some (.bool x305000_2) := (blk_cell BK304.out 0).trans rfl
                                have hcz24_1 : wr.cell? ⟨gb304, 1, none⟩ = some (.bool false) := (blk_cell BK304.out 1).trans rfl
                                have hcz24_2 : wr.cell? ⟨gb304, 2, none⟩ = some (.bool x305002_2) := (blk_cell BK304.out 2).trans rfl
                                have hcz24_3 : wr.cell? ⟨gb304, 3, none⟩ = some (.bool x305003_2) := (blk_cell BK304.out 3).trans rfl
                                have hcz24_4 : wr.cell? ⟨gb304, 4, none⟩ = some (.bool x305004_2) := (blk_cell BK304.out 4).trans rfl
                                have hfz24_0 := blk_frozen BK304.out 0
                                have hfz24_1 := blk_frozen BK304.out 1
                                have hfz24_2 := blk_frozen BK304.out 2
                                have hfz24_3 := blk_frozen BK304.out 3
                                have hfz24_4 := blk_frozen BK304.out 4
                                have p312 : 0 ≤ ((rd t305 x23_2) : Int) := of_decide_eq_true (by first | (with_reducible assumption) | assumption)
                                have q312 : (rd t305 x23_2) < (l0.length : Int) := of_decide_eq_true (by first | (with_reducible assumption) | assumption)
                                obtain ⟨ad312, e312, hx312_0⟩ := Kd.at_int HR0.out (rd t305 x23_2) p312 q312
                                obtain rfl : ad309 = ad312 := (by injection e312)
                                replace hx312_0 := (HB.out.cell (World.block_lt_of_cell? w _ hx312_0)).trans hx312_0
                                replace p312 := eq_true p312
                                replace q312 := eq_true q312
                                go_wp2
                                go_roundg k2
                                case measure => have := HK1.out; have := HK2.out; omega
                                case rel => exact ⟨(wrap64 (x23_2 + 1)), (x305000_2), (true), (x305002_2), (x305003_2), (x305004_2), (by first | rfl | (simp; done) | (simp [*]; done)), H', ⟨by have := HK1.out; have := HK2.out; omega⟩, ⟨by (with_reducible repeat (first | apply Kd.R_alloc | apply Kd.R_drewN | apply Kd.R_drew)); exact Kd.R_mono (Kd.R_far (p := ⟨gb304, 1, none⟩) (Kd.R_types HO_21.out BK304.out (by decide)) (fun _ hk => hk.2) (.bool true)) (fun _ hk => trivial)⟩, ⟨by (with_reducible repeat (first | refine blk_drewN ?_ _ | refine blk_drew ?_ | refine blk_alloc ?_ _)); refine blk_put (cs := #[.bool x305000_2, .bool false, .bool x305002_2, .bool x305003_2, .bool x305004_2]) ?_ 1 _ rfl; (with_reducible repeat (first | refine blk_drewN ?_ _ | refine blk_drew ?_ | refine blk_alloc ?_ _)); exact BK304.out⟩, ⟨by repeat (first | (with_reducible first | exact HB.out | apply below_alloc | apply pw_below_drewN | apply below_drew1 | refine below_set ?_ GE304.out) | exact HB.out)⟩⟩
                            · rw [if_neg c21] at H
                              have c21b0 : ((rd l0 (rd t305 x23_2)) == 1) = false := beq_eq_false_iff_ne.mpr c21
                              have c21b1 : ((rd l0 (rd t305 x23_2)) != 1) = true := bne_iff_ne.mpr c21
                              by_cases c25 : (rd l0 (rd t305 x23_2)) = 2
                              · rw [if_pos c25] at H
                                have c25b0 : ((rd l0 (rd t305 x23_2)) == 2) = true := beq_iff_eq.mpr c25
                                have c25b1 : ((rd l0 (rd t305 x23_2)) != 2) = false := bne_eq_false_iff_eq.mpr c25
                                have c25b2 : (rd l0 (rd t305 x23_2)).toNat = 2 := by rw [c25]; rfl
                                have c25b3 : (0 ≤ (rd l0 (rd t305 x23_2))) = True := eq_true (by omega)
                                have c25b4 : ((rd l0 (rd t305 x23_2)) < 5) = True := eq_true (by omega)
                                clear c25
                                by_cases c26 : x305002_2 = true
                                · subst c26
                                  have H1 : (some false) = some r := by rw [if_pos rfl] at H; exact H
                                  clear H
                                  have H := H1
                                  clear H1
                                  obtain rfl := Option.some.inj H
                                  have p308 : 0 ≤ (x23_2 : Int) := of_decide_eq_true (by first | (with_reducible assumption) | assumption)
                                  have q308 : x23_2 < (t305.length : Int) := of_decide_eq_true (by first | (with_reducible assumption) | assumption)
                                  obtain ⟨ad308, e308, hx308_0⟩ := Kd.at_int (Kd.R_reads' HO_21.out).2.2 x23_2 p308 q308
                                  cases e308
                                  replace p308 := eq_true p308
                                  replace q308 := eq_true q308
                                  have p309 : 0 ≤ ((rd t305 x23_2) : Int) := of_decide_eq_true (by first | (with_reducible assumption) | assumption)
                                  have q309 : (rd t305 x23_2) < (l0.length : Int) := of_decide_eq_true (by first | (with_reducible assumption) | assumption)
                                  obtain ⟨ad309, e309, hx309_0⟩ := Kd.at_int HR0.out (rd t305 x23_2) p309 q309
                                  cases e309
                                  replace hx309_0 := (HB.out.cell (World.block_lt_of_cell? w _ hx309_0)).trans hx309_0
                                  replace p309 := eq_true p309
                                  replace q309 := eq_true q309
                                  have p310 : 0 ≤ ((rd t305 x23_2) : Int) := of_decide_eq_true (by first | (with_reducible assumption) | assumption)
                                  have q310 : (rd t305 x23_2) < (l0.length : Int) := of_decide_eq_true (by first | (with_reducible assumption) | assumption)
                                  obtain ⟨ad310, e310, hx310_0⟩ := Kd.at_int HR0.out (rd t305 x23_2) p310 q310
                                  obtain rfl : ad309 = ad310 := (by injection e310)
                                  replace hx310_0 := (HB.out.cell (World.block_lt_of_cell? w _ hx310_0)).trans hx310_0
                                  replace p310 := eq_true p310
                                  replace q310 := eq_true q310
                                  have hcz27_0 : wr.cell? ⟨gb304, 0, none⟩ = some (.bool x305000_2) := (blk_cell BK304.out 0).trans rfl
                                  have hcz27_1 : wr.cell? ⟨gb304, 1, none⟩ = some (.bool x305001_2) := (blk_cell BK304.out 1).trans rfl
                                  have hcz27_2 : wr.cell? ⟨gb304, 2, none⟩ = some (.bool true) := (blk_cell BK304.out 2).trans rfl
                                  have hcz27_3 : wr.cell? ⟨gb304, 3, none⟩ = some (.bool x305003_2) := (blk_cell BK304.out 3).trans rfl
                                  have hcz27_4 : wr.cell? ⟨gb304, 4, none⟩ = some (.bool x305004_2) := (blk_cell BK304.out 4).trans rfl
                                  have hfz27_0 := blk_frozen BK304.out 0
                                  have hfz27_1 := blk_frozen BK304.out 1
                                  have hfz27_2 := blk_frozen BK304.out 2
                                  have hfz27_3 := blk_frozen BK304.out 3
                                  have hfz27_4 := blk_frozen BK304.out 4
                                  go_wp2
                                  go_ret
                                  exact ⟨by first | rfl | (simp [errW_none, errW_some] <;> rfl) | (simp [*, errW_none, errW_some] <;> rfl), by repeat (first | (with_reducible first | exact HB.out | apply below_alloc | apply pw_below_drewN | apply below_drew1 | refine below_set ?_ GE304.out) | exact HB.out)⟩
                                · replace c26 := Bool.eq_false_iff.mpr c26
                                  subst c26
                                  have H1 : (impl_SquareFits.l1 k2 l0 a1 (wrap64 (2 * a1)) x15_1 t305 (t305.length : Int) (wrap64 (x23_2 + 1)) x305000_2 x305001_2 true x305003_2 x305004_2) = some r := by rw [if_neg (show ¬ (false = true) by decide)] at H; exact H
                                  clear H
                                  have H := H1
                                  clear H1
                                  have H' := Aside0.mk H
                                  clear H
                                  have p308 : 0 ≤ (x23_2 : Int) := of_decide_eq_true (by first | (with_reducible assumption) | assumption)
                                  have q308 : x23_2 < (t305.length : Int) := of_decide_eq_true (by first | (with_reducible assumption) | assumption)
                                  obtain ⟨ad308, e308, hx308_0⟩ := Kd.at_int (Kd.R_reads' HO_21.out).2.2 x23_2 p308 q308
                                  cases e308
                                  replace p308 := eq_true p308
                                  replace q308 := eq_true q308
                                  have p309 : 0 ≤ ((rd t305 x23_2) : Int) := of_decide_eq_true (by first | (with_reducible assumption) | assumption)
                                  have q309 : (rd t305 x23_2) < (l0.length : Int) := of_decide_eq_true (by first | (with_reducible assumption) | assumption)
                                  obtain ⟨ad309, e309, hx309_0⟩ := Kd.at_int HR0.out (rd t305 x23_2) p309 q309
                                  cases e309
                                  replace hx309_0 := (HB.out.cell (World.block_lt_of_cell? w _ hx309_0)).trans hx309_0
                                  replace p309 := eq_true p309
                                  replace q309 := eq_true q309
                                  have p310 : 0 ≤ ((rd t305 x23_2) : Int) := of_decide_eq_true (by first | (with_reducible assumption) | assumption)
                                  have q310 : (rd t305 x23_2) < (l0.length : Int) := of_decide_eq_true (by first | (with_reducible assumption) | assumption)
                                  obtain ⟨ad310, e310, hx310_0⟩ := Kd.at_int HR0.out (rd t305 x23_2) p310 q310
                                  obtain rfl : ad309 = ad310 := (by injection e310)
                                  replace hx310_0 := (HB.out.cell (World.block_lt_of_cell? w _ hx310_0)).trans hx310_0
                                  replace p310 := eq_true p310
                                  replace q310 := eq_true q310
                                  have hcz28_0 : wr.cell? ⟨gb304, 0, none⟩ = some (.bool x305000_2) := (blk_cell BK304.out 0).trans rfl
                                  have hcz28_1 : wr.cell? ⟨gb304, 1, none⟩ = some (.bool x305001_2) := (blk_cell BK304.out 1).trans rfl
                                  have hcz28_2 : wr.cell? ⟨gb304, 2, none⟩ = some (.bool false) := (blk_cell BK304.out 2).trans rfl
                                  have hcz28_3 : wr.cell? ⟨gb304, 3, none⟩ = some (.bool x305003_2) := (blk_cell BK304.out 3).trans rfl
                                  have hcz28_4 : wr.cell? ⟨gb304, 4, none⟩ = some (.bool x305004_2) := (blk_cell BK304.out 4).trans rfl
                                  have hfz28_0 := blk_frozen BK304.out 0
                                  have hfz28_1 := blk_frozen BK304.out 1
                                  have hfz28_2 := blk_frozen BK304.out 2
                                  have hfz28_3 := blk_frozen BK304.out 3
                                  have hfz28_4 := blk_frozen BK304.out 4
                                  have p313 : 0 ≤ ((rd t305 x23_2) : Int) := of_decide_eq_true (by first | (with_reducible assumption) | assumption)
                                  have q313 : (rd t305 x23_2) < (l0.length : Int) := of_decide_eq_true (by first | (with_reducible assumption) | assumption)
                                  obtain ⟨ad313, e313, hx313_0⟩ := Kd.at_int HR0.out (rd t305 x23_2) p313 q313
                                  obtain rfl : ad309 = ad313 := (by injection e313)
                                  replace hx313_0 := (HB.out.cell (World.block_lt_of_cell? w _ hx313_0)).trans hx313_0
                                  replace p313 := eq_true p313
                                  replace q313 := eq_true q313
                                  go_wp2
                                  go_roundg k2
                                  case measure => have := HK1.out; have := HK2.out; omega
                                  case rel => exact ⟨(wrap64 (x23_2 + 1)), (x305000_2), (x305001_2), (true), (x305003_2), (x305004_2), (by first | rfl | (simp; done) | (simp [*]; done)), H', ⟨by have := HK1.out; have := HK2.out; omega⟩, ⟨by (with_reducible repeat (first | apply Kd.R_alloc | apply Kd.R_drewN | apply Kd.R_drew)); exact Kd.R_mono (Kd.R_far (p := ⟨gb304, 2, none⟩) (Kd.R_types HO_21.out BK304.out (by decide)) (fun _ hk => hk.2) (.bool true)) (fun _ hk => trivial)⟩, ⟨by (with_reducible repeat (first | refine blk_drewN ?_ _ | refine blk_drew ?_ | refine blk_alloc ?_ _)); refine blk_put (cs := #[.bool x305000_2, .bool x305001_2, .bool false, .bool x305003_2, .bool x305004_2]) ?_ 2 _ rfl; (with_reducible repeat (first | refine blk_drewN ?_ _ | refine blk_drew ?_ | refine blk_alloc ?_ _)); exact BK304.out⟩, ⟨by repeat (first | (with_reducible first | exact HB.out | apply below_alloc | apply pw_below_drewN | apply below_drew1 | refine below_set ?_ GE304.out) | exact HB.out)⟩⟩
                              · rw [if_neg c25] at H
                                have c25b0 : ((rd l0 (rd t305 x23_2)) == 2) = false := beq_eq_false_iff_ne.mpr c25
                                have c25b1 : ((rd l0 (rd t305 x23_2)) != 2) = true := bne_iff_ne.mpr c25
                                by_cases c29 : (rd l0 (rd t305 x23_2)) = 3
                                · rw [if_pos c29] at H
                                  have c29b0 : ((rd l0 (rd t305 x23_2)) == 3) = true := beq_iff_eq.mpr c29
                                  have c29b1 : ((rd l0 (rd t305 x23_2)) != 3) = false := bne_eq_false_iff_eq.mpr c29
                                  have c29b2 : (rd l0 (rd t305 x23_2)).toNat = 3 := by rw [c29]; rfl
                                  have c29b3 : (0 ≤ (rd l0 (rd t305 x23_2))) = True := eq_true (by omega)
                                  have c29b4 : ((rd l0 (rd t305 x23_2)) < 5) = True := eq_true (by omega)
                                  clear c29
                                  by_cases c30 : x305003_2 = true
                                  · subst c30
                                    have H1 : (some false) = some r := by rw [if_pos rfl] at H; exact H
                                    clear H
                                    have H := H1
                                    clear H1
                                    obtain rfl := Option.some.inj H
                                    have p308 : 0 ≤ (x23_2 : Int) := of_decide_eq_true (by first | (with_reducible assumption) | assumption)
                                    have q308 : x23_2 < (t305.length : Int) := of_decide_eq_true (by first | (with_reducible assumption) | assumption)
                                    obtain ⟨ad308, e308, hx308_0⟩ := Kd.at_int (Kd.R_reads' HO_21.out).2.2 x23_2 p308 q308
                                    cases e308
                                    replace p308 := eq_true p308
                                    replace q308 := eq_true q308
                                    have p309 : 0 ≤ ((rd t305 x23_2) : Int) := of_decide_eq_true (by first | (with_reducible assumption) | assumption)
                                    have q309 : (rd t305 x23_2) < (l0.length : Int) := of_decide_eq_true (by first | (with_reducible assumption) | assumption)
                                    obtain ⟨ad309, e309, hx309_0⟩ := Kd.at_int HR0.out (rd t305 x23_2) p309 q309
                                    cases e309
                                    replace hx309_0 := (HB.out.cell (World.block_lt_of_cell? w _ hx309_0)).trans hx309_0
                                    replace p309 := eq_true p309
                                    replace q309 := eq_true q309
                                    have p310 : 0 ≤ ((rd t305 x23_2) : Int) := of_decide_eq_true (by first | (with_reducible assumption) | assumption)
                                    have q310 : (rd t305 x23_2) < (l0.length : Int) := of_decide_eq_true (by first | (with_reducible assumption) | assumption)
                                    obtain ⟨ad310, e310, hx310_0⟩ := Kd.at_int HR0.out (rd t305 x23_2) p310 q310
                                    obtain rfl : ad309 = ad310 := (by injection e310)
                                    replace hx310_0 := (HB.out.cell (World.block_lt_of_cell? w _ hx310_0)).trans hx310_0
                                    replace p310 := eq_true p310
                                    replace q310 := eq_true q310
                                    have hcz31_0 : wr.cell? ⟨gb304, 0, none⟩ = some (.bool x305000_2) := (blk_cell BK304.out 0).trans rfl
                                    have hcz31_1 : wr.cell? ⟨gb304, 1, none⟩ = some (.bool x305001_2) := (blk_cell BK304.out 1).trans rfl
                                    have hcz31_2 : wr.cell? ⟨gb304, 2, none⟩ = some (.bool x305002_2) := (blk_cell BK304.out 2).trans rfl
                                    have hcz31_3 : wr.cell? ⟨gb304, 3, none⟩ = some (.bool true) := (blk_cell BK304.out 3).trans rfl
                                    have hcz31_4 : wr.cell? ⟨gb304, 4, none⟩ = some (.bool x305004_2) := (blk_cell BK304.out 4).trans rfl
                                    have hfz31_0 := blk_frozen BK304.out 0
                                    have hfz31_1 := blk_frozen BK304.out 1
                                    have hfz31_2 := blk_frozen BK304.out 2
                                    have hfz31_3 := blk_frozen BK304.out 3
                                    have hfz31_4 := blk_frozen BK304.out 4
                                    go_wp2
                                    go_ret
                                    exact ⟨by first | rfl | (simp [errW_none, errW_some] <;> rfl) | (simp [*, errW_none, errW_some] <;> rfl), by repeat (first | (with_reducible first | exact HB.out | apply below_alloc | apply pw_below_drewN | apply below_drew1 | refine below_set ?_ GE304.out) | exact HB.out)⟩
                                  · replace c30 := Bool.eq_false_iff.mpr c30
                                    subst c30
                                    have H1 : (impl_SquareFits.l1 k2 l0 a1 (wrap64 (2 * a1)) x15_1 t305 (t305.length : Int) (wrap64 (x23_2 + 1)) x305000_2 x305001_2 x305002_2 true x305004_2) = some r := by rw [if_neg (show ¬ (false = true) by decide)] at H; exact H
                                    clear H
                                    have H := H1
                                    clear H1
                                    have H' := Aside0.mk H
                                    clear H
                                    have p308 : 0 ≤ (x23_2 : Int) := of_decide_eq_true (by first | (with_reducible assumption) | assumption)
                                    have q308 : x23_2 < (t305.length : Int) := of_decide_eq_true (by first | (with_reducible assumption) | assumption)
                                    obtain ⟨ad308, e308, hx308_0⟩ := Kd.at_int (Kd.R_reads' HO_21.out).2.2 x23_2 p308 q308
                                    cases e308
                                    replace p308 := eq_true p308
                                    replace q308 := eq_true q308
                                    have p309 : 0 ≤ ((rd t305 x23_2) : Int) := of_decide_eq_true (by first | (with_reducible assumption) | assumption)
                                    have q309 : (rd t305 x23_2) < (l0.length : Int) := of_decide_eq_true (by first | (with_reducible assumption) | assumption)
                                    obtain ⟨ad309, e309, hx309_0⟩ := Kd.at_int HR0.out (rd t305 x23_2) p309 q309
                                    cases e309
                                    replace hx309_0 := (HB.out.cell (World.block_lt_of_cell? w _ hx309_0)).trans hx309_0
                                    replace p309 := eq_true p309
                                    replace q309 := eq_true q309
                                    have p310 : 0 ≤ ((rd t305 x23_2) : Int) := of_decide_eq_true (by first | (with_reducible assumption) | assumption)
                                    have q310 : (rd t305 x23_2) < (l0.length : Int) := of_decide_eq_true (by first | (with_reducible assumption) | assumption)
                                    obtain ⟨ad310, e310, hx310_0⟩ := Kd.at_int HR0.out (rd t305 x23_2) p310 q310
                                    obtain rfl : ad309 = ad310 := (by injection e310)
                                    replace hx310_0 := (HB.out.cell (World.block_lt_of_cell? w _ hx310_0)).trans hx310_0
                                    replace p310 := eq_true p310
                                    replace q310 := eq_true q310
                                    have hcz32_0 : wr.cell? ⟨gb304, 0, none⟩ = some (.bool x305000_2) := (blk_cell BK304.out 0).trans rfl
                                    have hcz32_1 : wr.cell? ⟨gb304, 1, none⟩ = some (.bool x305001_2) := (blk_cell BK304.out 1).trans rfl
                                    have hcz32_2 : wr.cell? ⟨gb304, 2, none⟩ = some (.bool x305002_2) := (blk_cell BK304.out 2).trans rfl
                                    have hcz32_3 : wr.cell? ⟨gb304, 3, none⟩ = some (.bool false) := (blk_cell BK304.out 3).trans rfl
                                    have hcz32_4 : wr.cell? ⟨gb304, 4, none⟩ = some (.bool x305004_2) := (blk_cell BK304.out 4).trans rfl
                                    have hfz32_0 := blk_frozen BK304.out 0
                                    have hfz32_1 := blk_frozen BK304.out 1
                                    have hfz32_2 := blk_frozen BK304.out 2
                                    have hfz32_3 := blk_frozen BK304.out 3
                                    have hfz32_4 := blk_frozen BK304.out 4
                                    have p314 : 0 ≤ ((rd t305 x23_2) : Int) := of_decide_eq_true (by first | (with_reducible assumption) | assumption)
                                    have q314 : (rd t305 x23_2) < (l0.length : Int) := of_decide_eq_true (by first | (with_reducible assumption) | assumption)
                                    obtain ⟨ad314, e314, hx314_0⟩ := Kd.at_int HR0.out (rd t305 x23_2) p314 q314
                                    obtain rfl : ad309 = ad314 := (by injection e314)
                                    replace hx314_0 := (HB.out.cell (World.block_lt_of_cell? w _ hx314_0)).trans hx314_0
                                    replace p314 := eq_true p314
                                    replace q314 := eq_true q314
                                    go_wp2
                                    go_roundg k2
                                    case measure => have := HK1.out; have := HK2.out; omega
                                    case rel => exact ⟨(wrap64 (x23_2 + 1)), (x305000_2), (x305001_2), (x305002_2), (true), (x305004_2), (by first | rfl | (simp; done) | (simp [*]; done)), H', ⟨by have := HK1.out; have := HK2.out; omega⟩, ⟨by (with_reducible repeat (first | apply Kd.R_alloc | apply Kd.R_drewN | apply Kd.R_drew)); exact Kd.R_mono (Kd.R_far (p := ⟨gb304, 3, none⟩) (Kd.R_types HO_21.out BK304.out (by decide)) (fun _ hk => hk.2) (.bool true)) (fun _ hk => trivial)⟩, ⟨by (with_reducible repeat (first | refine blk_drewN ?_ _ | refine blk_drew ?_ | refine blk_alloc ?_ _)); refine blk_put (cs := #[.bool x305000_2, .bool x305001_2, .bool x305002_2, .bool false, .bool x305004_2]) ?_ 3 _ rfl; (with_reducible repeat (first | refine blk_drewN ?_ _ | refine blk_drew ?_ | refine blk_alloc ?_ _)); exact BK304.out⟩, ⟨by repeat (first | (with_reducible first | exact HB.out | apply below_alloc | apply pw_below_drewN | apply below_drew1 | refine below_set ?_ GE304.out) | exact HB.out)⟩⟩
                                · rw [if_neg c29] at H
                                  have c29b0 : ((rd l0 (rd t305 x23_2)) == 3) = false := beq_eq_false_iff_ne.mpr c29
                                  have c29b1 : ((rd l0 (rd t305 x23_2)) != 3) = true := bne_iff_ne.mpr c29
                                  by_cases c33 : (rd l0 (rd t305 x23_2)) = 4
                                  · rw [if_pos c33] at H
                                    have c33b0 : ((rd l0 (rd t305 x23_2)) == 4) = true := beq_iff_eq.mpr c33
                                    have c33b1 : ((rd l0 (rd t305 x23_2)) != 4) = false := bne_eq_false_iff_eq.mpr c33
                                    have c33b2 : (rd l0 (rd t305 x23_2)).toNat = 4 := by rw [c33]; rfl
                                    have c33b3 : (0 ≤ (rd l0 (rd t305 x23_2))) = True := eq_true (by omega)
                                    have c33b4 : ((rd l0 (rd t305 x23_2)) < 5) = True := eq_true (by omega)
                                    clear c33
                                    by_cases c34 : x305004_2 = true
                                    · subst c34
                                      have H1 : (some false) = some r := by rw [if_pos rfl] at H; exact H
                                      clear H
                                      have H := H1
                                      clear H1
                                      obtain rfl := Option.some.inj H
                                      have p308 : 0 ≤ (x23_2 : Int) := of_decide_eq_true (by first | (with_reducible assumption) | assumption)
                                      have q308 : x23_2 < (t305.length : Int) := of_decide_eq_true (by first | (with_reducible assumption) | assumption)
                                      obtain ⟨ad308, e308, hx308_0⟩ := Kd.at_int (Kd.R_reads' HO_21.out).2.2 x23_2 p308 q308
                                      cases e308
                                      replace p308 := eq_true p308
                                      replace q308 := eq_true q308
                                      have p309 : 0 ≤ ((rd t305 x23_2) : Int) := of_decide_eq_true (by first | (with_reducible assumption) | assumption)
                                      have q309 : (rd t305 x23_2) < (l0.length : Int) := of_decide_eq_true (by first | (with_reducible assumption) | assumption)
                                      obtain ⟨ad309, e309, hx309_0⟩ := Kd.at_int HR0.out (rd t305 x23_2) p309 q309
                                      cases e309
                                      replace hx309_0 := (HB.out.cell (World.block_lt_of_cell? w _ hx309_0)).trans hx309_0
                                      replace p309 := eq_true p309
                                      replace q309 := eq_true q309
                                      have p310 : 0 ≤ ((rd t305 x23_2) : Int) := of_decide_eq_true (by first | (with_reducible assumption) | assumption)
                                      have q310 : (rd t305 x23_2) < (l0.length : Int) := of_decide_eq_true (by first | (with_reducible assumption) | assumption)
                                      obtain ⟨ad310, e310, hx310_0⟩ := Kd.at_int HR0.out (rd t305 x23_2) p310 q310
                                      obtain rfl : ad309 = ad310 := (by injection e310)
                                      replace hx310_0 := (HB.out.cell (World.block_lt_of_cell? w _ hx310_0)).trans hx310_0
                                      replace p310 := eq_true p310
                                      replace q310 := eq_true q310
                                      have hcz35_0 : wr.cell? ⟨gb304, 0, none⟩ = some (.bool x305000_2) := (blk_cell BK304.out 0).trans rfl
                                      have hcz35_1 : wr.cell? ⟨gb304, 1, none⟩ = some (.bool x305001_2) := (blk_cell BK304.out 1).trans rfl
                                      have hcz35_2 : wr.cell? ⟨gb304, 2, none⟩ = some (.bool x305002_2) := (blk_cell BK304.out 2).trans rfl
                                      have hcz35_3 : wr.cell? ⟨gb304, 3, none⟩ = some (.bool x305003_2) := (blk_cell BK304.out 3).trans rfl
                                      have hcz35_4 : wr.cell? ⟨gb304, 4, none⟩ = some (.bool true) := (blk_cell BK304.out 4).trans rfl
                                      have hfz35_0 := blk_frozen BK304.out 0
                                      have hfz35_1 := blk_frozen BK304.out 1
                                      have hfz35_2 := blk_frozen BK304.out 2
                                      have hfz35_3 := blk_frozen BK304.out 3
                                      have hfz35_4 := blk_frozen BK304.out 4
                                      go_wp2
                                      go_ret
                                      exact ⟨by first | rfl | (simp [errW_none, errW_some] <;> rfl) | (simp [*, errW_none, errW_some] <;> rfl), by repeat (first | (with_reducible first | exact HB.out | apply below_alloc | apply pw_below_drewN | apply below_drew1 | refine below_set ?_ GE304.out) | exact HB.out)⟩
                                    · replace c34 := Bool.eq_false_iff.mpr c34
                                      subst c34
                                      have H1 : (impl_SquareFits.l1 k2 l0 a1 (wrap64 (2 * a1)) x15_1 t305 (t305.length : Int) (wrap64 (x23_2 + 1)) x305000_2 x305001_2 x305002_2 x305003_2 true) = some r := by rw [if_neg (show ¬ (false = true) by decide)] at H; exact H
                                      clear H
                                      have H := H1
                                      clear H1
                                      have H' := Aside0.mk H
                                      clear H
                                      have p308 : 0 ≤ (x23_2 : Int) := of_decide_eq_true (by first | (with_reducible assumption) | assumption)
                                      have q308 : x23_2 < (t305.length : Int) := of_decide_eq_true (by first | (with_reducible assumption) | assumption)
                                      obtain ⟨ad308, e308, hx308_0⟩ := Kd.at_int (Kd.R_reads' HO_21.out).2.2 x23_2 p308 q308
                                      cases e308
                                      replace p308 := eq_true p308
                                      replace q308 := eq_true q308
                                      have p309 : 0 ≤ ((rd t305 x23_2) : Int) := of_decide_eq_true (by first | (with_reducible assumption) | assumption)
                                      have q309 : (rd t305 x23_2) < (l0.length : Int) := of_decide_eq_true (by first | (with_reducible assumption) | assumption)
                                      obtain ⟨ad309, e309, hx309_0⟩ := Kd.at_int HR0.out (rd t305 x23_2) p309 q309
                                      cases e309
                                      replace hx309_0 := (HB.out.cell (World.block_lt_of_cell? w _ hx309_0)).trans hx309_0
                                      replace p309 := eq_true p309
                                      replace q309 := eq_true q309
                                      have p310 : 0 ≤ ((rd t305 x23_2) : Int) := of_decide_eq_true (by first | (with_reducible assumption) | assumption)
                                      have q310 : (rd t305 x23_2) < (l0.length : Int) := of_decide_eq_true (by first | (with_reducible assumption) | assumption)
                                      obtain ⟨ad310, e310, hx310_0⟩ := Kd.at_int HR0.out (rd t305 x23_2) p310 q310
                                      obtain rfl : ad309 = ad310 := (by injection e310)
                                      replace hx310_0 := (HB.out.cell (World.block_lt_of_cell? w _ hx310_0)).trans hx310_0
                                      replace p310 := eq_true p310
                                      replace q310 := eq_true q310
                                      have hcz36_0 : wr.cell? ⟨gb304, 0, none⟩ = some (.bool x305000_2) := (blk_cell BK304.out 0).trans rfl
                                      have hcz36_1 : wr.cell? ⟨gb304, 1, none⟩ = some (.bool x305001_2) := (blk_cell BK304.out 1).trans rfl
                                      have hcz36_2 : wr.cell? ⟨gb304, 2, none⟩ = some (.bool x305002_2) := (blk_cell BK304.out 2).trans rfl
                                      have hcz36_3 : wr.cell? ⟨gb304, 3, none⟩ = some (.bool x305003_2) := (blk_cell BK304.out 3).trans rfl
                                      have hcz36_4 : wr.cell? ⟨gb304, 4, none⟩ = some (.bool false) := (blk_cell BK304.out 4).trans rfl
                                      have hfz36_0 := blk_frozen BK304.out 0
                                      have hfz36_1 := blk_frozen BK304.out 1
                                      have hfz36_2 := blk_frozen BK304.out 2
                                      have hfz36_3 := blk_frozen BK304.out 3
                                      have hfz36_4 := blk_frozen BK304.out 4
                                      have p315 : 0 ≤ ((rd t305 x23_2) : Int) := of_decide_eq_true (by first | (with_reducible assumption) | assumption)
                                      have q315 : (rd t305 x23_2) < (l0.length : Int) := of_decide_eq_true (by first | (with_reducible assumption) | assumption)
                                      obtain ⟨ad315, e315, hx315_0⟩ := Kd.at_int HR0.out (rd t305 x23_2) p315 q315
                                      obtain rfl : ad309 = ad315 := (by injection e315)
                                      replace hx315_0 := (HB.out.cell (World.block_lt_of_cell? w _ hx315_0)).trans hx315_0
                                      replace p315 := eq_true p315
                                      replace q315 := eq_true q315
                                      go_wp2
                                      go_roundg k2
                                      case measure => have := HK1.out; have := HK2.out; omega
                                      case rel => exact ⟨(wrap64 (x23_2 + 1)), (x305000_2), (x305001_2), (x305002_2), (x305003_2), (true), (by first | rfl | (simp; done) | (simp [*]; done)), H', ⟨by have := HK1.out; have := HK2.out; omega⟩, ⟨by (with_reducible repeat (first | apply Kd.R_alloc | apply Kd.R_drewN | apply Kd.R_drew)); exact Kd.R_mono (Kd.R_far (p := ⟨gb304, 4, none⟩) (Kd.R_types HO_21.out BK304.out (by decide)) (fun _ hk => hk.2) (.bool true)) (fun _ hk => trivial)⟩, ⟨by (with_reducible repeat (first | refine blk_drewN ?_ _ | refine blk_drew ?_ | refine blk_alloc ?_ _)); refine blk_put (cs := #[.bool x305000_2, .bool x305001_2, .bool x305002_2, .bool x305003_2, .bool false]) ?_ 4 _ rfl; (with_reducible repeat (first | refine blk_drewN ?_ _ | refine blk_drew ?_ | refine blk_alloc ?_ _)); exact BK304.out⟩, ⟨by repeat (first | (with_reducible first | exact HB.out | apply below_alloc | apply pw_below_drewN | apply below_drew1 | refine below_set ?_ GE304.out) | exact HB.out)⟩⟩
                                  · rw [if_neg c33] at H
                                    exact absurd H (by simp)
                        · rw [if_neg c16] at H
                          have c16b0 : decide (0 < (rd l0 (rd t305 x23_2))) = false := decide_eq_false c16
                          clear c16
                          by_cases c37 : (rd l0 (rd t305 x23_2)) = 0
                          · rw [if_pos c37] at H
                            have c37b0 : ((rd l0 (rd t305 x23_2)) == 0) = true := beq_iff_eq.mpr c37
                            have c37b1 : ((rd l0 (rd t305 x23_2)) != 0) = false := bne_eq_false_iff_eq.mpr c37
                            have c37b2 : (rd l0 (rd t305 x23_2)).toNat = 0 := by rw [c37]; rfl
                            have c37b3 : (0 ≤ (rd l0 (rd t305 x23_2))) = True := eq_true (by omega)
                            have c37b4 : ((rd l0 (rd t305 x23_2)) < 5) = True := eq_true (by omega)
                            clear c37
                            have H' := Aside0.mk H
                            clear H
                            have p308 : 0 ≤ (x23_2 : Int) := of_decide_eq_true (by first | (with_reducible assumption) | assumption)
                            have q308 : x23_2 < (t305.length : Int) := of_decide_eq_true (by first | (with_reducible assumption) | assumption)
                            obtain ⟨ad308, e308, hx308_0⟩ := Kd.at_int (Kd.R_reads' HO_21.out).2.2 x23_2 p308 q308
                            cases e308
                            replace p308 := eq_true p308
                            replace q308 := eq_true q308
                            have p309 : 0 ≤ ((rd t305 x23_2) : Int) := of_decide_eq_true (by first | (with_reducible assumption) | assumption)
                            have q309 : (rd t305 x23_2) < (l0.length : Int) := of_decide_eq_true (by first | (with_reducible assumption) | assumption)
                            obtain ⟨ad309, e309, hx309_0⟩ := Kd.at_int HR0.out (rd t305 x23_2) p309 q309
                            cases e309
                            replace hx309_0 := (HB.out.cell (World.block_lt_of_cell? w _ hx309_0)).trans hx309_0
                            replace p309 := eq_true p309
                            replace q309 := eq_true q309
                            have p316 : 0 ≤ ((rd t305 x23_2) : Int) := of_decide_eq_true (by first | (with_reducible assumption) | assumption)
                            have q316 : (rd t305 x23_2) < (l0.length : Int) := of_decide_eq_true (by first | (with_reducible assumption) | assumption)
                            obtain ⟨ad316, e316, hx316_0⟩ := Kd.at_int HR0.out (rd t305 x23_2) p316 q316
                            obtain rfl : ad309 = ad316 := (by injection e316)
                            replace hx316_0 := (HB.out.cell (World.block_lt_of_cell? w _ hx316_0)).trans hx316_0
                            replace p316 := eq_true p316
                            replace q316 := eq_true q316
                            have hcz38_0 : wr.cell? ⟨gb304, 0, none⟩ = some (.bool x305000_2) := (blk_cell BK304.out 0).trans rfl
                            have hcz38_1 : wr.cell? ⟨gb304, 1, none⟩ = some (.bool x305001_2) := (blk_cell BK304.out 1).trans rfl
                            have hcz38_2 : wr.cell? ⟨gb304, 2, none⟩ = some (.bool x305002_2) := (blk_cell BK304.out 2).trans rfl
                            have hcz38_3 : wr.cell? ⟨gb304, 3, none⟩ = some (.bool x305003_2) := (blk_cell BK304.out 3).trans rfl
                            have hcz38_4 : wr.cell? ⟨gb304, 4, none⟩ = some (.bool x305004_2) := (blk_cell BK304.out 4).trans rfl
                            have hfz38_0 := blk_frozen BK304.out 0
                            have hfz38_1 := blk_frozen BK304.out 1
                            have hfz38_2 := blk_frozen BK304.out 2
                            have hfz38_3 := blk_frozen BK304.out 3
                            have hfz38_4 := blk_frozen BK304.out 4
                            go_wp2
                            go_roundg k2
                            case measure => have := HK1.out; have := HK2.out; omega
                            case rel => exact ⟨(wrap64 (x23_2 + 1)), (true), (x305001_2), (x305002_2), (x305003_2), (x305004_2), (by first | rfl | (simp; done) | (simp [*]; done)), H', ⟨by have := HK1.out; have := HK2.out; omega⟩, ⟨by (with_reducible repeat (first | apply Kd.R_alloc | apply Kd.R_drewN | apply Kd.R_drew)); exact Kd.R_mono (Kd.R_far (p := ⟨gb304, 0, none⟩) (Kd.R_types HO_21.out BK304.out (by decide)) (fun _ hk => hk.2) (.bool true)) (fun _ hk => trivial)⟩, ⟨by (with_reducible repeat (first | refine blk_drewN ?_ _ | refine blk_drew ?_ | refine blk_alloc ?_ _)); refine blk_put (cs := #[.bool x305000_2, .bool x305001_2, .bool x305002_2, .bool x305003_2, .bool x305004_2]) ?_ 0 _ rfl; (with_reducible repeat (first | refine blk_drewN ?_ _ | refine blk_drew ?_ | refine blk_alloc ?_ _)); exact BK304.out⟩, ⟨by repeat (first | (with_reducible first | exact HB.out | apply below_alloc | apply pw_below_drewN | apply below_drew1 | refine below_set ?_ GE304.out) | exact HB.out)⟩⟩
                          · rw [if_neg c37] at H
                            have c37b0 : ((rd l0 (rd t305 x23_2)) == 0) = false := beq_eq_false_iff_ne.mpr c37
                            have c37b1 : ((rd l0 (rd t305 x23_2)) != 0) = true := bne_iff_ne.mpr c37
                            by_cases c39 : (rd l0 (rd t305 x23_2)) = 1
                            · rw [if_pos c39] at H
                              have c39b0 : ((rd l0 (rd t305 x23_2)) == 1) = true := beq_iff_eq.mpr c39
                              have c39b1 : ((rd l0 (rd t305 x23_2)) != 1) = false := bne_eq_false_iff_eq.mpr c39
                              have c39b2 : (rd l0 (rd t305 x23_2)).toNat = 1 := by rw [c39]; rfl
                              have c39b3 : (0 ≤ (rd l0 (rd t305 x23_2))) = True := eq_true (by omega)
                              have c39b4 : ((rd l0 (rd t305 x23_2)) < 5) = True := eq_true (by omega)
                              clear c39
                              have H' := Aside0.mk H
                              clear H
                              have p308 : 0 ≤ (x23_2 : Int) := of_decide_eq_true (by first | (with_reducible assumption) | assumption)
                              have q308 : x23_2 < (t305.length : Int) := of_decide_eq_true (by first | (with_reducible assumption) | assumption)
                              obtain ⟨ad308, e308, hx308_0⟩ := Kd.at_int (Kd.R_reads' HO_21.out).2.2 x23_2 p308 q308
                              cases e308
                              replace p308 := eq_true p308
                              replace q308 := eq_true q308
                              have p309 : 0 ≤ ((rd t305 x23_2) : Int) := of_decide_eq_true (by first | (with_reducible assumption) | assumption)
                              have q309 : (rd t305 x23_2) < (l0.length : Int) := of_decide_eq_true (by first | (with_reducible assumption) | assumption)
                              obtain ⟨ad309, e309, hx309_0⟩ := Kd.at_int HR0.out (rd t305 x23_2) p309 q309
                              cases e309
                              replace hx309_0 := (HB.out.cell (World.block_lt_of_cell? w _ hx309_0)).trans hx309_0
                              replace p309 := eq_true p309
                              replace q309 := eq_true q309
                              have p316 : 0 ≤ ((rd t305 x23_2) : Int) := of_decide_eq_true (by first | (with_reducible assumption) | assumption)
                              have q316 : (rd t305 x23_2) < (l0.length : Int) := of_decide_eq_true (by first | (with_reducible assumption) | assumption)
                              obtain ⟨ad316, e316, hx316_0⟩ := Kd.at_int HR0.out (rd t305 x23_2) p316 q316
                              obtain rfl : ad309 = ad316 := (by injection e316)
                              replace hx316_0 := (HB.out.cell (World.block_lt_of_cell? w _ hx316_0)).trans hx316_0
                              replace p316 := eq_true p316
                              replace q316 := eq_true q316
                              have hcz40_0 : wr.cell? ⟨gb304, 0, none⟩ = some (.bool x305000_2) := (blk_cell BK304.out 0).trans rfl
                              have hcz40_1 : wr.cell? ⟨gb304, 1, none⟩ = some (.bool x305001_2) := (blk_cell BK304.out 1).trans rfl
                              have hcz40_2 : wr.cell? ⟨gb304, 2, none⟩ = some (.bool x305002_2) := (blk_cell BK304.out 2).trans rfl
                              have hcz40_3 : wr.cell? ⟨gb304, 3, none⟩ = some (.bool x305003_2) := (blk_cell BK304.out 3).trans rfl
                              have hcz40_4 : wr.cell? ⟨gb304, 4, none⟩ = some (.bool x305004_2) := (blk_cell BK304.out 4).trans rfl
                              have hfz40_0 := blk_frozen BK304.out 0
                              have hfz40_1 := blk_frozen BK304.out 1
                              have hfz40_2 := blk_frozen BK304.out 2
                              have hfz40_3 := blk_frozen BK304.out 3
                              have hfz40_4 := blk_frozen BK304.out 4
                              go_wp2
                              go_roundg k2
                              case measure => have := HK1.out; have := HK2.out; omega
                              case rel => exact ⟨(wrap64 (x23_2 + 1)), (x305000_2), (true), (x305002_2), (x305003_2), (x305004_2), (by first | rfl | (simp; done) | (simp [*]; done)), H', ⟨by have := HK1.out; have := HK2.out; omega⟩, ⟨by (with_reducible repeat (first | apply Kd.R_alloc | apply Kd.R_drewN | apply Kd.R_drew)); exact Kd.R_mono (Kd.R_far (p := ⟨gb304, 1, none⟩) (Kd.R_types HO_21.out BK304.out (by decide)) (fun _ hk => hk.2) (.bool true)) (fun _ hk => trivial)⟩, ⟨by (with_reducible repeat (first | refine blk_drewN ?_ _ | refine blk_drew ?_ | refine blk_alloc ?_ _)); refine blk_put (cs := #[.bool x305000_2, .bool x305001_2, .bool x305002_2, .bool x305003_2, .bool x305004_2]) ?_ 1 _ rfl; (with_reducible repeat (first | refine blk_drewN ?_ _ | refine blk_drew ?_ | refine blk_alloc ?_ _)); exact BK304.out⟩, ⟨by repeat (first | (with_reducible first | exact HB.out | apply below_alloc | apply pw_below_drewN | apply below_drew1 | refine below_set ?_ GE304.out) | exact HB.out)⟩⟩
                            · rw [if_neg c39] at H
                              have c39b0 : ((rd l0 (rd t305 x23_2)) == 1) = false := beq_eq_false_iff_ne.mpr c39
                              have c39b1 : ((rd l0 (rd t305 x23_2)) != 1) = true := bne_iff_ne.mpr c39
                              by_cases c41 : (rd l0 (rd t305 x23_2)) = 2
                              · rw [if_pos c41] at H
                                have c41b0 : ((rd l0 (rd t305 x23_2)) == 2) = true := beq_iff_eq.mpr c41
                                have c41b1 : ((rd l0 (rd t305 x23_2)) != 2) = false := bne_eq_false_iff_eq.mpr c41
                                have c41b2 : (rd l0 (rd t305 x23_2)).toNat = 2 := by rw [c41]; rfl
                                have c41b3 : (0 ≤ (rd l0 (rd t305 x23_2))) = True := eq_true (by omega)
                                have c41b4 : ((rd l0 (rd t305 x23_2)) < 5) = True := eq_true (by omega)
                                clear c41
                                have H' := Aside0.mk H
                                clear H
                                have p308 : 0 ≤ (x23_2 : Int) := of_decide_eq_true (by first | (with_reducible assumption) | assumption)
                                have q308 : x23_2 < (t305.length : Int) := of_decide_eq_true (by first | (with_reducible assumption) | assumption)
                                obtain ⟨ad308, e308, hx308_0⟩ := Kd.at_int (Kd.R_reads' HO_21.out).2.2 x23_2 p308 q308
                                cases e308
                                replace p308 := eq_true p308
                                replace q308 := eq_true q308
                                have p309 : 0 ≤ ((rd t305 x23_2) : Int) := of_decide_eq_true (by first | (with_reducible assumption) | assumption)
                                have q309 : (rd t305 x23_2) < (l0.length : Int) := of_decide_eq_true (by first | (with_reducible assumption) | assumption)
                                obtain ⟨ad309, e309, hx309_0⟩ := Kd.at_int HR0.out (rd t305 x23_2) p309 q309
                                cases e309
                                replace hx309_0 := (HB.out.cell (World.block_lt_of_cell? w _ hx309_0)).trans hx309_0
                                replace p309 := eq_true p309
                                replace q309 := eq_true q309
                                have p316 : 0 ≤ ((rd t305 x23_2) : Int) := of_decide_eq_true (by first | (with_reducible assumption) | assumption)
                                have q316 : (rd t305 x23_2) < (l0.length : Int) := of_decide_eq_true (by first | (with_reducible assumption) | assumption)
                                obtain ⟨ad316, e316, hx316_0⟩ := Kd.at_int HR0.out (rd t305 x23_2) p316 q316
                                obtain rfl : ad309 = ad316 := (by injection e316)
                                replace hx316_0 := (HB.out.cell (World.block_lt_of_cell? w _ hx316_0)).trans hx316_0
                                replace p316 := eq_true p316
                                replace q316 := eq_true q316
                                have hcz42_0 : wr.cell? ⟨gb304, 0, none⟩ = some (.bool x305000_2) := (blk_cell BK304.out 0).trans rfl
                                have hcz42_1 : wr.cell? ⟨gb304, 1, none⟩ = some (.bool x305001_2) := (blk_cell BK304.out 1).trans rfl
                                have hcz42_2 : wr.cell? ⟨gb304, 2, none⟩ = some (.bool x305002_2) := (blk_cell BK304.out 2).trans rfl
                                have hcz42_3 : wr.cell? ⟨gb304, 3, none⟩ = some (.bool x305003_2) := (blk_cell BK304.out 3).trans rfl
                                have hcz42_4 : wr.cell? ⟨gb304, 4, none⟩ = some (.bool x305004_2) := (blk_cell BK304.out 4).trans rfl
                                have hfz42_0 := blk_frozen BK304.out 0
                                have hfz42_1 := blk_frozen BK304.out 1
                                have hfz42_2 := blk_frozen BK304.out 2
                                have hfz42_3 := blk_frozen BK304.out 3
                                have hfz42_4 := blk_frozen BK304.out 4
                                go_wp2
                                go_roundg k2
                                case measure => have := HK1.out; have := HK2.out; omega
                                case rel => exact ⟨(wrap64 (x23_2 + 1)), (x305000_2), (x305001_2), (true), (x305003_2), (x305004_2), (by first | rfl | (simp; done) | (simp [*]; done)), H', ⟨by have := HK1.out; have := HK2.out; omega⟩, ⟨by (with_reducible repeat (first | apply Kd.R_alloc | apply Kd.R_drewN | apply Kd.R_drew)); exact Kd.R_mono (Kd.R_far (p := ⟨gb304, 2, none⟩) (Kd.R_types HO_21.out BK304.out (by decide)) (fun _ hk => hk.2) (.bool true)) (fun _ hk => trivial)⟩, ⟨by (with_reducible repeat (first | refine blk_drewN ?_ _ | refine blk_drew ?_ | refine blk_alloc ?_ _)); refine blk_put (cs := #[.bool x305000_2, .bool x305001_2, .bool x305002_2, .bool x305003_2, .bool x305004_2]) ?_ 2 _ rfl; (with_reducible repeat (first | refine blk_drewN ?_ _ | refine blk_drew ?_ | refine blk_alloc ?_ _)); exact BK304.out⟩, ⟨by repeat (first | (with_reducible first | exact HB.out | apply below_alloc | apply pw_below_drewN | apply below_drew1 | refine below_set ?_ GE304.out) | exact HB.out)⟩⟩
                              · rw [if_neg c41] at H
                                have c41b0 : ((rd l0 (rd t305 x23_2)) == 2) = false := beq_eq_false_iff_ne.mpr c41
                                have c41b1 : ((rd l0 (rd t305 x23_2)) != 2) = true := bne_iff_ne.mpr c41
                                by_cases c43 : (rd l0 (rd t305 x23_2)) = 3
                                · rw [if_pos c43] at H
                                  have c43b0 : ((rd l0 (rd t305 x23_2)) == 3) = true := beq_iff_eq.mpr c43
                                  have c43b1 : ((rd l0 (rd t305 x23_2)) != 3) = false := bne_eq_false_iff_eq.mpr c43
                                  have c43b2 : (rd l0 (rd t305 x23_2)).toNat = 3 := by rw [c43]; rfl
                                  have c43b3 : (0 ≤ (rd l0 (rd t305 x23_2))) = True := eq_true (by omega)
                                  have c43b4 : ((rd l0 (rd t305 x23_2)) < 5) = True := eq_true (by omega)
                                  clear c43
                                  have H' := Aside0.mk H
                                  clear H
                                  have p308 : 0 ≤ (x23_2 : Int) := of_decide_eq_true (by first | (with_reducible assumption) | assumption)
                                  have q308 : x23_2 < (t305.length : Int) := of_decide_eq_true (by first | (with_reducible assumption) | assumption)
                                  obtain ⟨ad308, e308, hx308_0⟩ := Kd.at_int (Kd.R_reads' HO_21.out).2.2 x23_2 p308 q308
                                  cases e308
                                  replace p308 := eq_true p308
                                  replace q308 := eq_true q308
                                  have p309 : 0 ≤ ((rd t305 x23_2) : Int) := of_decide_eq_true (by first | (with_reducible assumption) | assumption)
                                  have q309 : (rd t305 x23_2) < (l0.length : Int) := of_decide_eq_true (by first | (with_reducible assumption) | assumption)
                                  obtain ⟨ad309, e309, hx309_0⟩ := Kd.at_int HR0.out (rd t305 x23_2) p309 q309
                                  cases e309
                                  replace hx309_0 := (HB.out.cell (World.block_lt_of_cell? w _ hx309_0)).trans hx309_0
                                  replace p309 := eq_true p309
                                  replace q309 := eq_true q309
                                  have p316 : 0 ≤ ((rd t305 x23_2) : Int) := of_decide_eq_true (by first | (with_reducible assumption) | assumption)
                                  have q316 : (rd t305 x23_2) < (l0.length : Int) := of_decide_eq_true (by first | (with_reducible assumption) | assumption)
                                  obtain ⟨ad316, e316, hx316_0⟩ := Kd.at_int HR0.out (rd t305 x23_2) p316 q316
                                  obtain rfl : ad309 = ad316 := (by injection e316)
                                  replace hx316_0 := (HB.out.cell (World.block_lt_of_cell? w _ hx316_0)).trans hx316_0
                                  replace p316 := eq_true p316
                                  replace q316 := eq_true q316
                                  have hcz44_0 : wr.cell? ⟨gb304, 0, none⟩ = some (.bool x305000_2) := (blk_cell BK304.out 0).trans rfl
                                  have hcz44_1 : wr.cell? ⟨gb304, 1, none⟩ = some (.bool x305001_2) := (blk_cell BK304.out 1).trans rfl
                                  have hcz44_2 : wr.cell? ⟨gb304, 2, none⟩ = some (.bool x305002_2) := (blk_cell BK304.out 2).trans rfl
                                  have hcz44_3 : wr.cell? ⟨gb304, 3, none⟩ = some (.bool x305003_2) := (blk_cell BK304.out 3).trans rfl
                                  have hcz44_4 : wr.cell? ⟨gb304, 4, none⟩ = some (.bool x305004_2) := (blk_cell BK304.out 4).trans rfl
                                  have hfz44_0 := blk_frozen BK304.out 0
                                  have hfz44_1 := blk_frozen BK304.out 1
                                  have hfz44_2 := blk_frozen BK304.out 2
                                  have hfz44_3 := blk_frozen BK304.out 3
                                  have hfz44_4 := blk_frozen BK304.out 4
                                  go_wp2
                                  go_roundg k2
                                  case measure => have := HK1.out; have := HK2.out; omega
                                  case rel => exact ⟨(wrap64 (x23_2 + 1)), (x305000_2), (x305001_2), (x305002_2), (true), (x305004_2), (by first | rfl | (simp; done) | (simp [*]; done)), H', ⟨by have := HK1.out; have := HK2.out; omega⟩, ⟨by (with_reducible repeat (first | apply Kd.R_alloc | apply Kd.R_drewN | apply Kd.R_drew)); exact Kd.R_mono (Kd.R_far (p := ⟨gb304, 3, none⟩) (Kd.R_types HO_21.out BK304.out (by decide)) (fun _ hk => hk.2) (.bool true)) (fun _ hk => trivial)⟩, ⟨by (with_reducible repeat (first | refine blk_drewN ?_ _ | refine blk_drew ?_ | refine blk_alloc ?_ _)); refine blk_put (cs := #[.bool x305000_2, .bool x305001_2, .bool x305002_2, .bool x305003_2, .bool x305004_2]) ?_ 3 _ rfl; (with_reducible repeat (first | refine blk_drewN ?_ _ | refine blk_drew ?_ | refine blk_alloc ?_ _)); exact BK304.out⟩, ⟨by repeat (first | (with_reducible first | exact HB.out | apply below_alloc | apply pw_below_drewN | apply below_drew1 | refine below_set ?_ GE304.out) | exact HB.out)⟩⟩
                                · rw [if_neg c43] at H
                                  have c43b0 : ((rd l0 (rd t305 x23_2)) == 3) = false := beq_eq_false_iff_ne.mpr c43
                                  have c43b1 : ((rd l0 (rd t305 x23_2)) != 3) = true := bne_iff_ne.mpr c43
                                  by_cases c45 : (rd l0 (rd t305 x23_2)) = 4
                                  · rw [if_pos c45] at H
                                    have c45b0 : ((rd l0 (rd t305 x23_2)) == 4) = true := beq_iff_eq.mpr c45
                                    have c45b1 : ((rd l0 (rd t305 x23_2)) != 4) = false := bne_eq_false_iff_eq.mpr c45
                                    have c45b2 : (rd l0 (rd t305 x23_2)).toNat = 4 := by rw [c45]; rfl
                                    have c45b3 : (0 ≤ (rd l0 (rd t305 x23_2))) = True := eq_true (by omega)
                                    have c45b4 : ((rd l0 (rd t305 x23_2)) < 5) = True := eq_true (by omega)
                                    clear c45
                                    have H' := Aside0.mk H
                                    clear H
                                    have p308 : 0 ≤ (x23_2 : Int) := of_decide_eq_true (by first | (with_reducible assumption) | assumption)
                                    have q308 : x23_2 < (t305.length : Int) := of_decide_eq_true (by first | (with_reducible assumption) | assumption)
                                    obtain ⟨ad308, e308, hx308_0⟩ := Kd.at_int (Kd.R_reads' HO_21.out).2.2 x23_2 p308 q308
                                    cases e308
                                    replace p308 := eq_true p308
                                    replace q308 := eq_true q308
                                    have p309 : 0 ≤ ((rd t305 x23_2) : Int) := of_decide_eq_true (by first | (with_reducible assumption) | assumption)
                                    have q309 : (rd t305 x23_2) < (l0.length : Int) := of_decide_eq_true (by first | (with_reducible assumption) | assumption)
                                    obtain ⟨ad309, e309, hx309_0⟩ := Kd.at_int HR0.out (rd t305 x23_2) p309 q309
                                    cases e309
                                    replace hx309_0 := (HB.out.cell (World.block_lt_of_cell? w _ hx309_0)).trans hx309_0
                                    replace p309 := eq_true p309
                                    replace q309 := eq_true q309
                                    have p316 : 0 ≤ ((rd t305 x23_2) : Int) := of_decide_eq_true (by first | (with_reducible assumption) | assumption)
                                    have q316 : (rd t305 x23_2) < (l0.length : Int) := of_decide_eq_true (by first | (with_reducible assumption) | assumption)
                                    obtain ⟨ad316, e316, hx316_0⟩ := Kd.at_int HR0.out (rd t305 x23_2) p316 q316
                                    obtain rfl : ad309 = ad316 := (by injection e316)
                                    replace hx316_0 := (HB.out.cell (World.block_lt_of_cell? w _ hx316_0)).trans hx316_0
                                    replace p316 := eq_true p316
                                    replace q316 := eq_true q316
                                    have hcz46_0 : wr.cell? ⟨gb304, 0, none⟩ = some (.bool x305000_2) := (blk_cell BK304.out 0).trans rfl
                                    have hcz46_1 : wr.cell? ⟨gb304, 1, none⟩ = some (.bool x305001_2) := (blk_cell BK304.out 1).trans rfl
                                    have hcz46_2 : wr.cell? ⟨gb304, 2, none⟩ = some (.bool x305002_2) := (blk_cell BK304.out 2).trans rfl
                                    have hcz46_3 : wr.cell? ⟨gb304, 3, none⟩ = some (.bool x305003_2) := (blk_cell BK304.out 3).trans rfl
                                    have hcz46_4 : wr.cell? ⟨gb304, 4, none⟩ = some (.bool x305004_2) := (blk_cell BK304.out 4).trans rfl
                                    have hfz46_0 := blk_frozen BK304.out 0
                                    have hfz46_1 := blk_frozen BK304.out 1
                                    have hfz46_2 := blk_frozen BK304.out 2
                                    have hfz46_3 := blk_frozen BK304.out 3
                                    have hfz46_4 := blk_frozen BK304.out 4
                                    go_wp2
                                    go_roundg k2
                                    case measure => have := HK1.out; have := HK2.out; omega
                                    case rel => exact ⟨(wrap64 (x23_2 + 1)), (x305000_2), (x305001_2), (x305002_2), (x305003_2), (true), (by first | rfl | (simp; done) | (simp [*]; done)), H', ⟨by have := HK1.out; have := HK2.out; omega⟩, ⟨by (with_reducible repeat (first | apply Kd.R_alloc | apply Kd.R_drewN | apply Kd.R_drew)); exact Kd.R_mono (Kd.R_far (p := ⟨gb304, 4, none⟩) (Kd.R_types HO_21.out BK304.out (by decide)) (fun _ hk => hk.2) (.bool true)) (fun _ hk => trivial)⟩, ⟨by (with_reducible repeat (first | refine blk_drewN ?_ _ | refine blk_drew ?_ | refine blk_alloc ?_ _)); refine blk_put (cs := #[.bool x305000_2, .bool x305001_2, .bool x305002_2, .bool x305003_2, .bool x305004_2]) ?_ 4 _ rfl; (with_reducible repeat (first | refine blk_drewN ?_ _ | refine blk_drew ?_ | refine blk_alloc ?_ _)); exact BK304.out⟩, ⟨by repeat (first | (with_reducible first | exact HB.out | apply below_alloc | apply pw_below_drewN | apply below_drew1 | refine below_set ?_ GE304.out) | exact HB.out)⟩⟩
                                  · rw [if_neg c45] at H
                                    exact absurd H (by simp)
                      · rw [if_neg c15] at H
                        exact absurd H (by simp)
                    · rw [if_neg c14] at H
                      exact absurd H (by simp)
                  · rw [if_neg c13] at H
                    exact absurd H (by simp)
                · rw [if_neg c12] at H
                  exact absurd H (by simp)
              · rw [if_neg c11] at H
                have c11b0 : decide (x23_2 < (t305.length : Int)) = false := decide_eq_false c11
                clear c11
                have H' := Aside0.mk H
                clear H
                go_wp2
                go_roundg k2
                case measure => have := HK1.out; have := HK2.out; omega
                case rel => exact ⟨(wrap64 (x15_1 + 1)), (by first | rfl | (simp; done) | (simp [*]; done)), H', ⟨by have := HK1.out; have := HK2.out; omega⟩, ⟨by repeat (first | (with_reducible first | exact HB.out | apply below_alloc | apply pw_below_drewN | apply below_drew1 | refine below_set ?_ GE304.out) | exact HB.out)⟩⟩
        · rw [if_neg c5] at H
          have c5b0 : decide (x15_1 < (wrap64 (2 * a1))) = false := decide_eq_false c5
          clear c5
          obtain rfl := Option.some.inj H
          go_wp2
          go_ret
          exact ⟨by first | rfl | (simp [errW_none, errW_some] <;> rfl) | (simp [*, errW_none, errW_some] <;> rfl), by repeat (first | (with_reducible first | exact HB.out | apply below_alloc | apply pw_below_drewN | apply below_drew1) | exact HB.out)⟩
  · replace c4 := Bool.eq_false_iff.mpr c4
    subst c4
    have H1 : (some false) = some r := by rw [if_neg (show ¬ (false = true) by decide)] at H; exact H
    clear H
    have H := H1
    clear H1
    obtain rfl := Option.some.inj H
    go_enter Try.func91, Try.ntmps91
    go_wp2_with (first | ((with_reducible refine gate_callee (f := 75) rfl ?_); refine goesL_ (some 11) rfl rfl Try.func75 (by kernel_rfl) rfl #[.slice A0 l0.length c0, .int .i64 a1] rfl (by (try simp only [List.map_toArray, List.map_cons, List.map_nil]); first | done | rfl | (simp only [List.length_drop, List.length_take]; rfl)) ?_; (with_reducible refine (impl_GridValid.calls k _ _ l0 a1 false _ ?side1 ?side2 A3.out).mono ?_); (case side1 => repeat (first | exact HR0.out | (with_reducible refine Kd.C_alloc ?_ _) | (with_reducible refine Kd.C_drewN ?_ _) | (with_reducible refine Kd.C_drew ?_))); (case side2 => exact HC0.out); rintro e w' ⟨rfl, ⟨nd, rfl⟩⟩; refine ⟨_, rfl, ?_⟩))
    go_ret
    exact ⟨by first | rfl | (simp [errW_none, errW_some] <;> rfl) | (simp [*, errW_none, errW_some] <;> rfl), by repeat (first | (with_reducible first | exact HB.out | apply below_alloc | apply pw_below_drewN | apply below_drew1) | exact HB.out)⟩
end Go.Proofs.Ytbcikbekdhdpaaa.Q
end
section
namespace Go.Proofs.Ytbcikbekdhdpaaa.Q
open Go.RowKit Go.Proofs.YtbcikbekdhdpaaaW.PrintWords Go.Proofs.YtbcikbekdhdpaaaW.PrintLast Go.Proofs.YtbcikbekdhdpaaaW.PrintMore
attribute [local go_sem] max2_int min2_int max_two min_two max_three min_three max_four min_four   -- for this text's walks alone
set_option linter.unusedVariables false
set_option linter.unusedSimpArgs false
def impl_SquareSolved.f (k : Nat) (l0 : List Int) (a1 : Int) : Option (Bool) := (impl_SquareFits.f k l0 a1).bind fun t317 => (if t317 = true then ((impl_GridFilled.f k l0 a1).bind fun t318 => (some (t318 == (wrap64 (a1 * a1))))) else (some false))
set_option maxHeartbeats 8000000 in
set_option maxRecDepth 100000 in
theorem impl_SquareSolved.calls (k : Nat) (A0 : Option Addr) (c0 : Nat) (l0 : List Int) (a1 : Int) (r : Bool) (w : World) (hr0 : Kd.C (Kd.int .i64) w A0 l0.length l0) (hc0 : l0.length ≤ c0) (h : impl_SquareSolved.f k l0 a1 = some r) :
    Calls Try.prog 50 #[.slice A0 l0.length c0, .int .i64 a1] w fun e w' => e = .returned (.bool r) ∧ Below w.heap.size w w' := by
  have HR0 := Aside0.mk hr0
  have HC0 := Aside0.mk hc0
  clear hr0 hc0
  have HB := Aside0.mk (Below.refl w.heap.size w)
  have H : ((impl_SquareFits.f k l0 a1).bind fun t317 => (if t317 = true then ((impl_GridFilled.f k l0 a1).bind fun t318 => (some (t318 == (wrap64 (a1 * a1))))) else (some false))) = some r := h
  clear h
  replace H := Option.bind_eq_some_iff.mp H
  obtain ⟨t317, A30, H⟩ := H
  replace H : (if t317 = true then ((impl_GridFilled.f k l0 a1).bind fun t318 => (some (t318 == (wrap64 (a1 * a1))))) else (some false)) = some r := H
  have A3 := Aside0.mk A30
  clear A30
  by_cases c4 : t317 = true
  · subst c4
    have H1 : ((impl_GridFilled.f k l0 a1).bind fun t318 => (some (t318 == (wrap64 (a1 * a1))))) = some r := by rw [if_pos rfl] at H; exact H
    clear H
    have H := H1
    clear H1
    replace H := Option.bind_eq_some_iff.mp H
    obtain ⟨t318, A50, H⟩ := H
    replace H : (some (t318 == (wrap64 (a1 * a1)))) = some r := H
    have A5 := Aside0.mk A50
    clear A50
    obtain rfl := Option.some.inj H
    go_enter Try.func50, Try.ntmps50
    go_wp2_with (first | ((with_reducible refine gate_callee (f := 91) rfl ?_); refine goesL_ (some 7) rfl rfl Try.func91 (by kernel_rfl) rfl #[.slice A0 l0.length c0, .int .i64 a1] rfl (by (try simp only [List.map_toArray, List.map_cons, List.map_nil]); first | done | rfl | (simp only [List.length_drop, List.length_take]; rfl)) ?_; (with_reducible refine (impl_SquareFits.calls k _ _ l0 a1 true _ ?side1 ?side2 A3.out).mono ?_); (case side1 => repeat (first | exact HR0.out | (with_reducible refine Kd.C_alloc ?_ _) | (with_reducible refine Kd.C_drewN ?_ _) | (with_reducible refine Kd.C_drew ?_))); (case side2 => exact HC0.out); rintro e w6 ⟨rfl, hb⟩; refine ⟨_, rfl, ?_⟩; have n0_ := Aside0.mk (below_step (by repeat (first | (with_reducible first | exact HB.out | apply below_alloc | apply pw_below_drewN | apply below_drew1) | exact HB.out)) hb); clear HB; have HB := n0_; clear n0_; (try clear hb); (try clear hb2); (try clear hk); (try clear hi)) | (go_at_call 56; (with_reducible refine (impl_GridFilled.calls k _ _ l0 a1 t318 _ ?side1 ?side2 A5.out).mono ?_); (case side1 => repeat (first | exact (Kd.C_below HR0.out HB.out) | (with_reducible refine Kd.C_alloc ?_ _) | (with_reducible refine Kd.C_drewN ?_ _) | (with_reducible refine Kd.C_drew ?_))); (case side2 => exact HC0.out); rintro e w' ⟨rfl, ⟨nd, rfl⟩⟩))
    go_ret
    exact ⟨by first | rfl | (simp [errW_none, errW_some] <;> rfl) | (simp [*, errW_none, errW_some] <;> rfl), by repeat (first | (with_reducible first | exact HB.out | apply below_alloc | apply pw_below_drewN | apply below_drew1) | exact HB.out)⟩
  · replace c4 := Bool.eq_false_iff.mpr c4
    subst c4
    have H1 : (some false) = some r := by rw [if_neg (show ¬ (false = true) by decide)] at H; exact H
    clear H
    have H := H1
    clear H1
    obtain rfl := Option.some.inj H
    go_enter Try.func50, Try.ntmps50
    go_wp2_with (first | ((with_reducible refine gate_callee (f := 91) rfl ?_); refine goesL_ (some 7) rfl rfl Try.func91 (by kernel_rfl) rfl #[.slice A0 l0.length c0, .int .i64 a1] rfl (by (try simp only [List.map_toArray, List.map_cons, List.map_nil]); first | done | rfl | (simp only [List.length_drop, List.length_take]; rfl)) ?_; (with_reducible refine (impl_SquareFits.calls k _ _ l0 a1 false _ ?side1 ?side2 A3.out).mono ?_); (case side1 => repeat (first | exact HR0.out | (with_reducible refine Kd.C_alloc ?_ _) | (with_reducible refine Kd.C_drewN ?_ _) | (with_reducible refine Kd.C_drew ?_))); (case side2 => exact HC0.out); rintro e w7 ⟨rfl, hb⟩; refine ⟨_, rfl, ?_⟩; have n0_ := Aside0.mk (below_step (by repeat (first | (with_reducible first | exact HB.out | apply below_alloc | apply pw_below_drewN | apply below_drew1) | exact HB.out)) hb); clear HB; have HB := n0_; clear n0_; (try clear hb); (try clear hb2); (try clear hk); (try clear hi)))
    go_ret
    exact ⟨by first | rfl | (simp [errW_none, errW_some] <;> rfl) | (simp [*, errW_none, errW_some] <;> rfl), by repeat (first | (with_reducible first | exact HB.out | apply below_alloc | apply pw_below_drewN | apply below_drew1) | exact HB.out)⟩
end Go.Proofs.Ytbcikbekdhdpaaa.Q
end
section
namespace Go.Proofs.Ytbcikbekdhdpaaa.Q
open Go.RowKit Go.Proofs.YtbcikbekdhdpaaaW.PrintWords Go.Proofs.YtbcikbekdhdpaaaW.PrintLast Go.Proofs.YtbcikbekdhdpaaaW.PrintMore
attribute [local go_sem] max2_int min2_int max_two min_two max_three min_three max_four min_four   -- for this text's walks alone
set_option linter.unusedVariables false
set_option linter.unusedSimpArgs false
def spec_GridValid.l0 : Nat → List Int → Int → Int → Option (Bool)
  | 0, _, _, _ => none
  | k + 1, x0, x1, x5 => if x5 < (x0.length : Int) then (if 0 ≤ x5 then ((spec_l1In.f (rd x0 x5) 0 x1).bind fun t345 => (if t345 = true then (spec_GridValid.l0 k x0 x1 (wrap64 (x5 + 1))) else (some false))) else (none)) else ((spec_l1In.f x1 2 4).bind fun t346 => (if t346 = true then (some ((x0.length : Int) == (wrap64 (x1 * x1)))) else (some false)))
def spec_GridValid.f (k : Nat) (l0 : List Int) (a1 : Int) : Option (Bool) := spec_GridValid.l0 k l0 a1 0
set_option maxHeartbeats 8000000 in
set_option maxRecDepth 100000 in
theorem spec_GridValid.calls (k : Nat) (A0 : Option Addr) (c0 : Nat) (l0 : List Int) (a1 : Int) (r : Bool) (w : World) (hr0 : Kd.C (Kd.int .i64) w A0 l0.length l0) (hc0 : l0.length ≤ c0) (h : spec_GridValid.f k l0 a1 = some r) :
    Calls Try.prog 72 #[.slice A0 l0.length c0, .int .i64 a1] w fun e w' => e = .returned (.bool r) ∧ Drawn0 w w' := by
  have HR0 := Aside0.mk hr0
  have HC0 := Aside0.mk hc0
  clear hr0 hc0
  have H : (spec_GridValid.l0 k l0 a1 0) = some r := h
  clear h
  have H' := Aside0.mk H
  clear H
  go_enter Try.func72, Try.ntmps72
  go_wp2
  go_loopg [5] k (fun kq v5 w' => ∃ (x5_1 : Int), v5 = .int .i64 x5_1 ∧ Aside0 (spec_GridValid.l0 kq l0 a1 x5_1 = some r) ∧ Aside0 (kq ≤ k) ∧ Drawn0 w w')
  case atStart => exact ⟨(0), (by first | rfl | (simp; done) | (simp [*]; done)), H', ⟨Nat.le_refl _⟩, by repeat (first | exact Drawn0.refl _ | apply Drawn0.step)⟩
  case round =>
    clear H'
    try clear p2
    obtain ⟨x5_1, rfl, HA, HK1, ⟨m1, rfl⟩⟩ := hrel
    cases gk with
    | zero => exact absurd HA.out (by simp [spec_GridValid.l0])
    | succ k1 =>
      have H := HA.out
      clear HA
      simp only [spec_GridValid.l0] at H
      by_cases c3 : x5_1 < (l0.length : Int)
      · rw [if_pos c3] at H
        have c3b0 : decide (x5_1 < (l0.length : Int)) = true := decide_eq_true c3
        clear c3
        by_cases c4 : 0 ≤ x5_1
        · rw [if_pos c4] at H
          have c4b0 : decide (0 ≤ x5_1) = true := decide_eq_true c4
          clear c4
          replace H := Option.bind_eq_some_iff.mp H
          obtain ⟨t345, A50, H⟩ := H
          replace H : (if t345 = true then (spec_GridValid.l0 k1 l0 a1 (wrap64 (x5_1 + 1))) else (some false)) = some r := H
          have A5 := Aside0.mk A50
          clear A50
          by_cases c6 : t345 = true
          · subst c6
            have H1 : (spec_GridValid.l0 k1 l0 a1 (wrap64 (x5_1 + 1))) = some r := by rw [if_pos rfl] at H; exact H
            clear H
            have H := H1
            clear H1
            have H' := Aside0.mk H
            clear H
            have p344 : 0 ≤ (x5_1 : Int) := of_decide_eq_true (by first | (with_reducible assumption) | assumption)
            have q344 : x5_1 < (l0.length : Int) := of_decide_eq_true (by first | (with_reducible assumption) | assumption)
            obtain ⟨ad344, e344, hx344_0⟩ := Kd.at_int HR0.out x5_1 p344 q344
            cases e344
            replace p344 := eq_true p344
            replace q344 := eq_true q344
            go_wp2_with (first | ((with_reducible refine gate_callee (f := 52) rfl ?_); refine goesL_ (some 17) rfl rfl Try.func52 (by kernel_rfl) rfl #[.int .i64 (rd l0 x5_1), .int .i64 0, .int .i64 a1] rfl (by (try simp only [List.map_toArray, List.map_cons, List.map_nil]); first | done | rfl | (simp only [List.length_drop, List.length_take]; rfl)) ?_; (with_reducible refine (spec_l1In.calls (rd l0 x5_1) 0 a1 true _ A5.out).mono ?_); rintro e w' ⟨rfl, ⟨nd, rfl⟩⟩; refine ⟨_, rfl, ?_⟩))
            go_roundg k1
            case measure => have := HK1.out; omega
            case rel => exact ⟨(wrap64 (x5_1 + 1)), (by first | rfl | (simp; done) | (simp [*]; done)), H', ⟨by have := HK1.out; omega⟩, by repeat (first | exact Drawn0.refl _ | apply Drawn0.step)⟩
          · replace c6 := Bool.eq_false_iff.mpr c6
            subst c6
            have H1 : (some false) = some r := by rw [if_neg (show ¬ (false = true) by decide)] at H; exact H
            clear H
            have H := H1
            clear H1
            obtain rfl := Option.some.inj H
            have p344 : 0 ≤ (x5_1 : Int) := of_decide_eq_true (by first | (with_reducible assumption) | assumption)
            have q344 : x5_1 < (l0.length : Int) := of_decide_eq_true (by first | (with_reducible assumption) | assumption)
            obtain ⟨ad344, e344, hx344_0⟩ := Kd.at_int HR0.out x5_1 p344 q344
            cases e344
            replace p344 := eq_true p344
            replace q344 := eq_true q344
            go_wp2_with (first | ((with_reducible refine gate_callee (f := 52) rfl ?_); refine goesL_ (some 17) rfl rfl Try.func52 (by kernel_rfl) rfl #[.int .i64 (rd l0 x5_1), .int .i64 0, .int .i64 a1] rfl (by (try simp only [List.map_toArray, List.map_cons, List.map_nil]); first | done | rfl | (simp only [List.length_drop, List.length_take]; rfl)) ?_; (with_reducible refine (spec_l1In.calls (rd l0 x5_1) 0 a1 false _ A5.out).mono ?_); rintro e w' ⟨rfl, ⟨nd, rfl⟩⟩; refine ⟨_, rfl, ?_⟩))
            go_ret
            exact ⟨by first | rfl | (simp; done) | (simp [*]; done), by repeat (first | exact Drawn0.refl _ | apply Drawn0.step)⟩
        · rw [if_neg c4] at H
          exact absurd H (by simp)
      · rw [if_neg c3] at H
        have c3b0 : decide (x5_1 < (l0.length : Int)) = false := decide_eq_false c3
        clear c3
        replace H := Option.bind_eq_some_iff.mp H
        obtain ⟨t346, A70, H⟩ := H
        replace H : (if t346 = true then (some ((l0.length : Int) == (wrap64 (a1 * a1)))) else (some false)) = some r := H
        have A7 := Aside0.mk A70
        clear A70
        by_cases c8 : t346 = true
        · subst c8
          have H1 : (some ((l0.length : Int) == (wrap64 (a1 * a1)))) = some r := by rw [if_pos rfl] at H; exact H
          clear H
          have H := H1
          clear H1
          obtain rfl := Option.some.inj H
          go_wp2_with (first | ((with_reducible refine gate_callee (f := 52) rfl ?_); refine goesL_ (some 20) rfl rfl Try.func52 (by kernel_rfl) rfl #[.int .i64 a1, .int .i64 2, .int .i64 4] rfl (by (try simp only [List.map_toArray, List.map_cons, List.map_nil]); first | done | rfl | (simp only [List.length_drop, List.length_take]; rfl)) ?_; (with_reducible refine (spec_l1In.calls a1 2 4 true _ A7.out).mono ?_); rintro e w' ⟨rfl, ⟨nd, rfl⟩⟩; refine ⟨_, rfl, ?_⟩))
          go_ret
          exact ⟨by first | rfl | (simp; done) | (simp [*]; done), by repeat (first | exact Drawn0.refl _ | apply Drawn0.step)⟩
        · replace c8 := Bool.eq_false_iff.mpr c8
          subst c8
          have H1 : (some false) = some r := by rw [if_neg (show ¬ (false = true) by decide)] at H; exact H
          clear H
          have H := H1
          clear H1
          obtain rfl := Option.some.inj H
          go_wp2_with (first | ((with_reducible refine gate_callee (f := 52) rfl ?_); refine goesL_ (some 20) rfl rfl Try.func52 (by kernel_rfl) rfl #[.int .i64 a1, .int .i64 2, .int .i64 4] rfl (by (try simp only [List.map_toArray, List.map_cons, List.map_nil]); first | done | rfl | (simp only [List.length_drop, List.length_take]; rfl)) ?_; (with_reducible refine (spec_l1In.calls a1 2 4 false _ A7.out).mono ?_); rintro e w' ⟨rfl, ⟨nd, rfl⟩⟩; refine ⟨_, rfl, ?_⟩))
          go_ret
          exact ⟨by first | rfl | (simp; done) | (simp [*]; done), by repeat (first | exact Drawn0.refl _ | apply Drawn0.step)⟩
end Go.Proofs.Ytbcikbekdhdpaaa.Q
end
section
namespace Go.Proofs.Ytbcikbekdhdpaaa.Q
open Go.RowKit Go.Proofs.YtbcikbekdhdpaaaW.PrintWords Go.Proofs.YtbcikbekdhdpaaaW.PrintLast Go.Proofs.YtbcikbekdhdpaaaW.PrintMore
attribute [local go_sem] max2_int min2_int max_two min_two max_three min_three max_four min_four   -- for this text's walks alone
set_option linter.unusedVariables false
set_option linter.unusedSimpArgs false
def spec_SquareFits.f (k : Nat) (l0 : List Int) (a1 : Int) : Option (Bool) := (spec_GridValid.f k l0 a1).bind fun t347 => (if t347 = true then ((spec_l2Clash.f k l0 a1).bind fun t348 => (some (!t348))) else (some false))
set_option maxHeartbeats 8000000 in
set_option maxRecDepth 100000 in
theorem spec_SquareFits.calls (k : Nat) (A0 : Option Addr) (c0 : Nat) (l0 : List Int) (a1 : Int) (r : Bool) (w : World) (hr0 : Kd.C (Kd.int .i64) w A0 l0.length l0) (hc0 : l0.length ≤ c0) (h : spec_SquareFits.f k l0 a1 = some r) :
    Calls Try.prog 54 #[.slice A0 l0.length c0, .int .i64 a1] w fun e w' => e = .returned (.bool r) ∧ Below w.heap.size w w' := by
  have HR0 := Aside0.mk hr0
  have HC0 := Aside0.mk hc0
  clear hr0 hc0
  have HB := Aside0.mk (Below.refl w.heap.size w)
  have H : ((spec_GridValid.f k l0 a1).bind fun t347 => (if t347 = true then ((spec_l2Clash.f k l0 a1).bind fun t348 => (some (!t348))) else (some false))) = some r := h
  clear h
  replace H := Option.bind_eq_some_iff.mp H
  obtain ⟨t347, A30, H⟩ := H
  replace H : (if t347 = true then ((spec_l2Clash.f k l0 a1).bind fun t348 => (some (!t348))) else (some false)) = some r := H
  have A3 := Aside0.mk A30
  clear A30
  by_cases c4 : t347 = true
  · subst c4
    have H1 : ((spec_l2Clash.f k l0 a1).bind fun t348 => (some (!t348))) = some r := by rw [if_pos rfl] at H; exact H
    clear H
    have H := H1
    clear H1
    replace H := Option.bind_eq_some_iff.mp H
    obtain ⟨t348, A50, H⟩ := H
    replace H : (some (!t348)) = some r := H
    have A5 := Aside0.mk A50
    clear A50
    obtain rfl := Option.some.inj H
    go_enter Try.func54, Try.ntmps54
    go_wp2_with (first | ((with_reducible refine gate_callee (f := 72) rfl ?_); refine goesL_ (some 7) rfl rfl Try.func72 (by kernel_rfl) rfl #[.slice A0 l0.length c0, .int .i64 a1] rfl (by (try simp only [List.map_toArray, List.map_cons, List.map_nil]); first | done | rfl | (simp only [List.length_drop, List.length_take]; rfl)) ?_; (with_reducible refine (spec_GridValid.calls k _ _ l0 a1 true _ ?side1 ?side2 A3.out).mono ?_); (case side1 => repeat (first | exact HR0.out | (with_reducible refine Kd.C_alloc ?_ _) | (with_reducible refine Kd.C_drewN ?_ _) | (with_reducible refine Kd.C_drew ?_))); (case side2 => exact HC0.out); rintro e w' ⟨rfl, ⟨nd, rfl⟩⟩; refine ⟨_, rfl, ?_⟩) | (go_at_call 92; (with_reducible refine (spec_l2Clash.calls k _ _ l0 a1 t348 _ ?side1 ?side2 A5.out).mono ?_); (case side1 => repeat (first | exact HR0.out | (with_reducible refine Kd.C_alloc ?_ _) | (with_reducible refine Kd.C_drewN ?_ _) | (with_reducible refine Kd.C_drew ?_))); (case side2 => exact HC0.out); rintro e w6 ⟨rfl, hb⟩; have n0_ := Aside0.mk (below_step (by repeat (first | (with_reducible first | exact HB.out | apply below_alloc | apply pw_below_drewN | apply below_drew1) | exact HB.out)) hb); clear HB; have HB := n0_; clear n0_; (try clear hb); (try clear hb2); (try clear hk); (try clear hi)))
    go_ret
    exact ⟨by first | rfl | (simp [errW_none, errW_some] <;> rfl) | (simp [*, errW_none, errW_some] <;> rfl), by repeat (first | (with_reducible first | exact HB.out | apply below_alloc | apply pw_below_drewN | apply below_drew1) | exact HB.out)⟩
  · replace c4 := Bool.eq_false_iff.mpr c4
    subst c4
    have H1 : (some false) = some r := by rw [if_neg (show ¬ (false = true) by decide)] at H; exact H
    clear H
    have H := H1
    clear H1
    obtain rfl := Option.some.inj H
    go_enter Try.func54, Try.ntmps54
    go_wp2_with (first | ((with_reducible refine gate_callee (f := 72) rfl ?_); refine goesL_ (some 7) rfl rfl Try.func72 (by kernel_rfl) rfl #[.slice A0 l0.length c0, .int .i64 a1] rfl (by (try simp only [List.map_toArray, List.map_cons, List.map_nil]); first | done | rfl | (simp only [List.length_drop, List.length_take]; rfl)) ?_; (with_reducible refine (spec_GridValid.calls k _ _ l0 a1 false _ ?side1 ?side2 A3.out).mono ?_); (case side1 => repeat (first | exact HR0.out | (with_reducible refine Kd.C_alloc ?_ _) | (with_reducible refine Kd.C_drewN ?_ _) | (with_reducible refine Kd.C_drew ?_))); (case side2 => exact HC0.out); rintro e w' ⟨rfl, ⟨nd, rfl⟩⟩; refine ⟨_, rfl, ?_⟩))
    go_ret
    exact ⟨by first | rfl | (simp [errW_none, errW_some] <;> rfl) | (simp [*, errW_none, errW_some] <;> rfl), by repeat (first | (with_reducible first | exact HB.out | apply below_alloc | apply pw_below_drewN | apply below_drew1) | exact HB.out)⟩
def spec_GridFilled.l0 : Nat → List Int → Int → Int → Option (Int)
  | 0, _, _, _ => none
  | k + 1, x0, x5, x6 => if x6 < (x0.length : Int) then (if 0 ≤ x6 then (if (rd x0 x6) > 0 then (spec_GridFilled.l0 k x0 (wrap64 (x5 + 1)) (wrap64 (x6 + 1))) else (spec_GridFilled.l0 k x0 x5 (wrap64 (x6 + 1)))) else (none)) else (some x5)
def spec_GridFilled.f (k : Nat) (l0 : List Int) (a1 : Int) : Option (Int) := (spec_GridValid.f k l0 a1).bind fun t349 => (if t349 = true then (spec_GridFilled.l0 k l0 0 0) else (some (-1)))
set_option maxHeartbeats 8000000 in
set_option maxRecDepth 100000 in
theorem spec_GridFilled.calls (k : Nat) (A0 : Option Addr) (c0 : Nat) (l0 : List Int) (a1 : Int) (r : Int) (w : World) (hr0 : Kd.C (Kd.int .i64) w A0 l0.length l0) (hc0 : l0.length ≤ c0) (h : spec_GridFilled.f k l0 a1 = some r) :
    Calls Try.prog 55 #[.slice A0 l0.length c0, .int .i64 a1] w fun e w' => e = .returned (.int .i64 r) ∧ Drawn0 w w' := by
  have HR0 := Aside0.mk hr0
  have HC0 := Aside0.mk hc0
  clear hr0 hc0
  have H : ((spec_GridValid.f k l0 a1).bind fun t349 => (if t349 = true then (spec_GridFilled.l0 k l0 0 0) else (some (-1)))) = some r := h
  clear h
  replace H := Option.bind_eq_some_iff.mp H
  obtain ⟨t349, A30, H⟩ := H
  replace H : (if t349 = true then (spec_GridFilled.l0 k l0 0 0) else (some (-1))) = some r := H
  have A3 := Aside0.mk A30
  clear A30
  by_cases c4 : t349 = true
  · subst c4
    have H1 : (spec_GridFilled.l0 k l0 0 0) = some r := by rw [if_pos rfl] at H; exact H
    clear H
    have H := H1
    clear H1
    have H' := Aside0.mk H
    clear H
    go_enter Try.func55, Try.ntmps55
    go_wp2_with (first | ((with_reducible refine gate_callee (f := 72) rfl ?_); refine goesL_ (some 9) rfl rfl Try.func72 (by kernel_rfl) rfl #[.slice A0 l0.length c0, .int .i64 a1] rfl (by (try simp only [List.map_toArray, List.map_cons, List.map_nil]); first | done | rfl | (simp only [List.length_drop, List.length_take]; rfl)) ?_; (with_reducible refine (spec_GridValid.calls k _ _ l0 a1 true _ ?side1 ?side2 A3.out).mono ?_); (case side1 => repeat (first | exact HR0.out | (with_reducible refine Kd.C_alloc ?_ _) | (with_reducible refine Kd.C_drewN ?_ _) | (with_reducible refine Kd.C_drew ?_))); (case side2 => exact HC0.out); rintro e w' ⟨rfl, ⟨nd, rfl⟩⟩; refine ⟨_, rfl, ?_⟩))
    go_loopg [5, 6] k (fun kq v5 v6 w' => ∃ (x5_1 : Int) (x6_1 : Int), v5 = .int .i64 x5_1 ∧ v6 = .int .i64 x6_1 ∧ Aside0 (spec_GridFilled.l0 kq l0 x5_1 x6_1 = some r) ∧ Aside0 (kq ≤ k) ∧ Drawn0 w w')
    case atStart => exact ⟨(0), (0), (by first | rfl | (simp; done) | (simp [*]; done)), (by first | rfl | (simp; done) | (simp [*]; done)), H', ⟨Nat.le_refl _⟩, by repeat (first | exact Drawn0.refl _ | apply Drawn0.step)⟩
    case round =>
      clear H'
      try clear p2
      try clear c4
      obtain ⟨x5_1, x6_1, rfl, rfl, HA, HK1, ⟨m1, rfl⟩⟩ := hrel
      cases gk with
      | zero => exact absurd HA.out (by simp [spec_GridFilled.l0])
      | succ k1 =>
        have H := HA.out
        clear HA
        simp only [spec_GridFilled.l0] at H
        by_cases c5 : x6_1 < (l0.length : Int)
        · rw [if_pos c5] at H
          have c5b0 : decide (x6_1 < (l0.length : Int)) = true := decide_eq_true c5
          clear c5
          by_cases c6 : 0 ≤ x6_1
          · rw [if_pos c6] at H
            have c6b0 : decide (0 ≤ x6_1) = true := decide_eq_true c6
            clear c6
            by_cases c7 : (rd l0 x6_1) > 0
            · rw [if_pos c7] at H
              have c7b0 : decide (0 < (rd l0 x6_1)) = true := decide_eq_true c7
              clear c7
              have H' := Aside0.mk H
              clear H
              have p350 : 0 ≤ (x6_1 : Int) := of_decide_eq_true (by first | (with_reducible assumption) | assumption)
              have q350 : x6_1 < (l0.length : Int) := of_decide_eq_true (by first | (with_reducible assumption) | assumption)
              obtain ⟨ad350, e350, hx350_0⟩ := Kd.at_int HR0.out x6_1 p350 q350
              cases e350
              replace p350 := eq_true p350
              replace q350 := eq_true q350
              go_wp2
              go_roundg k1
              case measure => have := HK1.out; omega
              case rel => exact ⟨(wrap64 (x5_1 + 1)), (wrap64 (x6_1 + 1)), (by first | rfl | (simp; done) | (simp [*]; done)), (by first | rfl | (simp; done) | (simp [*]; done)), H', ⟨by have := HK1.out; omega⟩, by repeat (first | exact Drawn0.refl _ | apply Drawn0.step)⟩
            · rw [if_neg c7] at H
              have c7b0 : decide (0 < (rd l0 x6_1)) = false := decide_eq_false c7
              clear c7
              have H' := Aside0.mk H
              clear H
              have p350 : 0 ≤ (x6_1 : Int) := of_decide_eq_true (by first | (with_reducible assumption) | assumption)
              have q350 : x6_1 < (l0.length : Int) := of_decide_eq_true (by first | (with_reducible assumption) | assumption)
              obtain ⟨ad350, e350, hx350_0⟩ := Kd.at_int HR0.out x6_1 p350 q350
              cases e350
              replace p350 := eq_true p350
              replace q350 := eq_true q350
              go_wp2
              go_roundg k1
              case measure => have := HK1.out; omega
              case rel => exact ⟨(x5_1), (wrap64 (x6_1 + 1)), (by first | rfl | (simp; done) | (simp [*]; done)), (by first | rfl | (simp; done) | (simp [*]; done)), H', ⟨by have := HK1.out; omega⟩, by repeat (first | exact Drawn0.refl _ | apply Drawn0.step)⟩
          · rw [if_neg c6] at H
            exact absurd H (by simp)
        · rw [if_neg c5] at H
          have c5b0 : decide (x6_1 < (l0.length : Int)) = false := decide_eq_false c5
          clear c5
          obtain rfl := Option.some.inj H
          go_wp2
          go_ret
          exact ⟨by first | rfl | (simp; done) | (simp [*]; done), by repeat (first | exact Drawn0.refl _ | apply Drawn0.step)⟩
  · replace c4 := Bool.eq_false_iff.mpr c4
    subst c4
    have H1 : (some (-1)) = some r := by rw [if_neg (show ¬ (false = true) by decide)] at H; exact H
    clear H
    have H := H1
    clear H1
    obtain rfl := Option.some.inj H
    go_enter Try.func55, Try.ntmps55
    go_wp2_with (first | ((with_reducible refine gate_callee (f := 72) rfl ?_); refine goesL_ (some 9) rfl rfl Try.func72 (by kernel_rfl) rfl #[.slice A0 l0.length c0, .int .i64 a1] rfl (by (try simp only [List.map_toArray, List.map_cons, List.map_nil]); first | done | rfl | (simp only [List.length_drop, List.length_take]; rfl)) ?_; (with_reducible refine (spec_GridValid.calls k _ _ l0 a1 false _ ?side1 ?side2 A3.out).mono ?_); (case side1 => repeat (first | exact HR0.out | (with_reducible refine Kd.C_alloc ?_ _) | (with_reducible refine Kd.C_drewN ?_ _) | (with_reducible refine Kd.C_drew ?_))); (case side2 => exact HC0.out); rintro e w' ⟨rfl, ⟨nd, rfl⟩⟩; refine ⟨_, rfl, ?_⟩))
    go_ret
    exact ⟨by first | rfl | (simp; done) | (simp [*]; done), by repeat (first | exact Drawn0.refl _ | apply Drawn0.step)⟩
def spec_SquareSolved.f (k : Nat) (l0 : List Int) (a1 : Int) : Option (Bool) := (spec_SquareFits.f k l0 a1).bind fun t351 => (if t351 = true then ((spec_GridFilled.f k l0 a1).bind fun t352 => (some (t352 == (wrap64 (a1 * a1))))) else (some false))
set_option maxHeartbeats 8000000 in
set_option maxRecDepth 100000 in
theorem spec_SquareSolved.calls (k : Nat) (A0 : Option Addr) (c0 : Nat) (l0 : List Int) (a1 : Int) (r : Bool) (w : World) (hr0 : Kd.C (Kd.int .i64) w A0 l0.length l0) (hc0 : l0.length ≤ c0) (h : spec_SquareSolved.f k l0 a1 = some r) :
    Calls Try.prog 14 #[.slice A0 l0.length c0, .int .i64 a1] w fun e w' => e = .returned (.bool r) ∧ Below w.heap.size w w' := by
  have HR0 := Aside0.mk hr0
  have HC0 := Aside0.mk hc0
  clear hr0 hc0
  have HB := Aside0.mk (Below.refl w.heap.size w)
  have H : ((spec_SquareFits.f k l0 a1).bind fun t351 => (if t351 = true then ((spec_GridFilled.f k l0 a1).bind fun t352 => (some (t352 == (wrap64 (a1 * a1))))) else (some false))) = some r := h
  clear h
  replace H := Option.bind_eq_some_iff.mp H
  obtain ⟨t351, A30, H⟩ := H
  replace H : (if t351 = true then ((spec_GridFilled.f k l0 a1).bind fun t352 => (some (t352 == (wrap64 (a1 * a1))))) else (some false)) = some r := H
  have A3 := Aside0.mk A30
  clear A30
  by_cases c4 : t351 = true
  · subst c4
    have H1 : ((spec_GridFilled.f k l0 a1).bind fun t352 => (some (t352 == (wrap64 (a1 * a1))))) = some r := by rw [if_pos rfl] at H; exact H
    clear H
    have H := H1
    clear H1
    replace H := Option.bind_eq_some_iff.mp H
    obtain ⟨t352, A50, H⟩ := H
    replace H : (some (t352 == (wrap64 (a1 * a1)))) = some r := H
    have A5 := Aside0.mk A50
    clear A50
    obtain rfl := Option.some.inj H
    go_enter Try.func14, Try.ntmps14
    go_wp2_with (first | ((with_reducible refine gate_callee (f := 54) rfl ?_); refine goesL_ (some 7) rfl rfl Try.func54 (by kernel_rfl) rfl #[.slice A0 l0.length c0, .int .i64 a1] rfl (by (try simp only [List.map_toArray, List.map_cons, List.map_nil]); first | done | rfl | (simp only [List.length_drop, List.length_take]; rfl)) ?_; (with_reducible refine (spec_SquareFits.calls k _ _ l0 a1 true _ ?side1 ?side2 A3.out).mono ?_); (case side1 => repeat (first | exact HR0.out | (with_reducible refine Kd.C_alloc ?_ _) | (with_reducible refine Kd.C_drewN ?_ _) | (with_reducible refine Kd.C_drew ?_))); (case side2 => exact HC0.out); rintro e w6 ⟨rfl, hb⟩; refine ⟨_, rfl, ?_⟩; have n0_ := Aside0.mk (below_step (by repeat (first | (with_reducible first | exact HB.out | apply below_alloc | apply pw_below_drewN | apply below_drew1) | exact HB.out)) hb); clear HB; have HB := n0_; clear n0_; (try clear hb); (try clear hb2); (try clear hk); (try clear hi)) | (go_at_call 55; (with_reducible refine (spec_GridFilled.calls k _ _ l0 a1 t352 _ ?side1 ?side2 A5.out).mono ?_); (case side1 => repeat (first | exact (Kd.C_below HR0.out HB.out) | (with_reducible refine Kd.C_alloc ?_ _) | (with_reducible refine Kd.C_drewN ?_ _) | (with_reducible refine Kd.C_drew ?_))); (case side2 => exact HC0.out); rintro e w' ⟨rfl, ⟨nd, rfl⟩⟩))
    go_ret
    exact ⟨by first | rfl | (simp [errW_none, errW_some] <;> rfl) | (simp [*, errW_none, errW_some] <;> rfl), by repeat (first | (with_reducible first | exact HB.out | apply below_alloc | apply pw_below_drewN | apply below_drew1) | exact HB.out)⟩
  · replace c4 := Bool.eq_false_iff.mpr c4
    subst c4
    have H1 : (some false) = some r := by rw [if_neg (show ¬ (false = true) by decide)] at H; exact H
    clear H
    have H := H1
    clear H1
    obtain rfl := Option.some.inj H
    go_enter Try.func14, Try.ntmps14
    go_wp2_with (first | ((with_reducible refine gate_callee (f := 54) rfl ?_); refine goesL_ (some 7) rfl rfl Try.func54 (by kernel_rfl) rfl #[.slice A0 l0.length c0, .int .i64 a1] rfl (by (try simp only [List.map_toArray, List.map_cons, List.map_nil]); first | done | rfl | (simp only [List.length_drop, List.length_take]; rfl)) ?_; (with_reducible refine (spec_SquareFits.calls k _ _ l0 a1 false _ ?side1 ?side2 A3.out).mono ?_); (case side1 => repeat (first | exact HR0.out | (with_reducible refine Kd.C_alloc ?_ _) | (with_reducible refine Kd.C_drewN ?_ _) | (with_reducible refine Kd.C_drew ?_))); (case side2 => exact HC0.out); rintro e w7 ⟨rfl, hb⟩; refine ⟨_, rfl, ?_⟩; have n0_ := Aside0.mk (below_step (by repeat (first | (with_reducible first | exact HB.out | apply below_alloc | apply pw_below_drewN | apply below_drew1) | exact HB.out)) hb); clear HB; have HB := n0_; clear n0_; (try clear hb); (try clear hb2); (try clear hk); (try clear hi)))
    go_ret
    exact ⟨by first | rfl | (simp [errW_none, errW_some] <;> rfl) | (simp [*, errW_none, errW_some] <;> rfl), by repeat (first | (with_reducible first | exact HB.out | apply below_alloc | apply pw_below_drewN | apply below_drew1) | exact HB.out)⟩
end Go.Proofs.Ytbcikbekdhdpaaa.Q
end
section
namespace Go.Proofs.Ytbcikbekdhdpaaa.Q
open Go.RowKit Go.Proofs.YtbcikbekdhdpaaaW.PrintWords Go.Proofs.YtbcikbekdhdpaaaW.PrintLast Go.Proofs.YtbcikbekdhdpaaaW.PrintMore
attribute [local go_sem] max2_int min2_int max_two min_two max_three min_three max_four min_four   -- for this text's walks alone
set_option linter.unusedVariables false
set_option linter.unusedSimpArgs false
def IsS9003 (w0 W : World) (g : Nat) (f0 : Int) : Prop := W.heap[g]? = some (.cells #[.int .i64 f0] 3 (0, 0)) ∧ w0.heap.size ≤ g
theorem IsS9003.grown {w0 W : World} {g : Nat} {f0 : Int} {W1 : World} {row : Option Nat} (h : IsS9003 w0 W g f0) (hw : W.grownBy W1 row) (hne : some g ≠ row) : IsS9003 w0 W1 g f0 := by
  obtain ⟨hb, hg⟩ := h
  exact ⟨blk_grown hb hw hne, hg⟩
theorem IsS9003.fresh {w0 W : World} {g : Nat} {f0 : Int} (h : IsS9003 w0 W g f0) : ∀ k, W.heap.size ≤ k → k ≠ g := by
  obtain ⟨hb, hg⟩ := h
  exact Kd.freshB hb
theorem IsS9003.below {w0 W : World} {g : Nat} {f0 : Int} {W1 : World} (h : IsS9003 w0 W g f0) (hw : Below W.heap.size W W1) : IsS9003 w0 W1 g f0 := h.grown (grown_of_below hw none) (by simp)
theorem IsS9003.alloc {w0 W : World} {g : Nat} {f0 : Int} (h : IsS9003 w0 W g f0) (o : Obj) : IsS9003 w0 (W.alloc o) g f0 := h.below (below_alloc (Below.refl _ _) o)
theorem IsS9003.drewN {w0 W : World} {g : Nat} {f0 : Int} (h : IsS9003 w0 W g f0) (m : Nat) : IsS9003 w0 (W.drewN m) g f0 := h
theorem IsS9003.drew {w0 W : World} {g : Nat} {f0 : Int} (h : IsS9003 w0 W g f0) : IsS9003 w0 W.drew g f0 := h
theorem IsS9003.lt {w0 W : World} {g : Nat} {f0 : Int} (h : IsS9003 w0 W g f0) : g < W.heap.size := by
  obtain ⟨hb, hg⟩ := h
  exact blk_lt hb
theorem IsS9003.ge {w0 W : World} {g : Nat} {f0 : Int} (h : IsS9003 w0 W g f0) : w0.heap.size ≤ g := by
  obtain ⟨hb, hg⟩ := h
  exact hg
theorem cellS9003_0 {W : World} {g : Nat} {f0 : Int} (h : W.heap[g]? = some (.cells #[.int .i64 f0] 3 (0, 0))) : W.cell? ⟨g, 0, none⟩ = some (.int .i64 f0) := (blk_cell h 0).trans rfl
theorem IsS9003.set_0 {w0 W : World} {g : Nat} {f0 : Int} (h : IsS9003 w0 W g f0) (x : Int) : IsS9003 w0 (W.setCell ⟨g, 0, none⟩ (.int .i64 x)) g x := by
  obtain ⟨hb, hg⟩ := h
  exact ⟨by simpa using blk_set hb 0 (.int .i64 x), hg⟩
mutual
def spec_l2Search.l0 : Nat → List Int → Int → Int → Int → Int → Option (List Int × Int)
  | 0, _, _, _, _, _ => none
  | k + 1, x0, x1, x2, x9, x4000 => if x9 ≤ x1 then ((some (([] : List Int) : List Int)).bind fun y167 => (if y167.length + x0.length < 17592186044416 then ((some (y167 ++ x0 : List Int)).bind fun y170 => (if 0 ≤ x2 then (if x2 < (y170.length : Int) then ((some (y170.set (x2 : Int).toNat x9 : List Int)).bind fun y173 => ((spec_l2Clash.f k y173 x1).bind fun t174 => (if t174 = true then (spec_l2Search.l0 k x0 x1 x2 (wrap64 (x9 + 1)) x4000) else ((spec_l2Search.f k y173 x1 (wrap64 (x2 + 1)) x4000).bind fun bt175 => (if (bt175.1.length : Int) > 0 then (some (bt175.1, bt175.2)) else (spec_l2Search.l0 k x0 x1 x2 (wrap64 (x9 + 1)) bt175.2)))))) else (none)) else (none))) else (none))) else (some (([] : List Int), x4000))
def spec_l2Search.f : Nat → List Int → Int → Int → Int → Option (List Int × Int)
  | 0, _, _, _, _ => none
  | k + 1, l0, a1, a2, s3_0 => if a2 = (l0.length : Int) then (if s3_0 = 0 then (some (l0, s3_0)) else (some (([] : List Int), wrap64 (s3_0 - 1)))) else (spec_l2Search.l0 k l0 a1 a2 1 s3_0)
end
set_option maxHeartbeats 8000000 in
set_option maxRecDepth 100000 in
theorem spec_l2Search.calls (k : Nat) : ∀ (P0_ : Nat → Prop) (u9000_ : Value) (l0 : List Int) (a1 : Int) (a2 : Int) (g : Nat) (s3_0 : Int) (r1 : List Int) (r2 : Int) (w0 w : World) (hI : IsS9003 w0 w g s3_0) (hB : Below w0.heap.size w0 w) (ho0 : Kd.R (Kd.int .i64) 3 w w0.heap.size P0_ u9000_ l0) (hPg : ¬ P0_ g) (h : spec_l2Search.f k l0 a1 a2 s3_0 = some (r1, r2)),
    Calls Try.prog 109 #[u9000_, .int .i64 a1, .int .i64 a2, .pointer (some ⟨g, 0, none⟩)] w fun e w' => ∃ v0_ : Value, e = .returned (v0_) ∧ Kd.R (Kd.int .i64) 3 w' w0.heap.size (fun k_ => (P0_ k_ ∨ w.heap.size ≤ k_)) v0_ r1 ∧ IsS9003 w0 w' g r2 ∧ Below w0.heap.size w0 w' ∧ Kept w w' (fun k_ => (P0_ k_) ∨ k_ = g) := by
  induction k using Nat.strongRecOn with
  | _ k ih =>
  intro P0_ u9000_ l0 a1 a2 g s3_0 r1 r2 w0 w hI hB ho0 hPg h
  cases k with
  | zero => exact absurd h (by simp [spec_l2Search.f])
  | succ k =>
  simp only [spec_l2Search.f] at h
  have HO0 := Aside0.mk (show Kd.R (Kd.int .i64) 3 w w0.heap.size (fun k_ => (P0_ k_ ∨ w.heap.size ≤ k_)) u9000_ l0 from Kd.R_mono ho0 (fun k_ hk => (.inl hk)))
  have HI3 := Aside0.mk hI
  have HPG := Aside0.mk hPg
  have HGW := Aside0.mk (IsS9003.lt hI)
  have HL := Aside0.mk hB.size
  clear hI
  have HK := Aside0.mk (Kept.refl w (fun k_ => (P0_ k_) ∨ k_ = g))
  have HW0 := Aside0.mk hB.size
  have HB := Aside0.mk hB
  clear hB
  have H : (if a2 = (l0.length : Int) then (if s3_0 = 0 then (some (l0, s3_0)) else (some (([] : List Int), wrap64 (s3_0 - 1)))) else (spec_l2Search.l0 k l0 a1 a2 1 s3_0)) = some (r1, r2) := h
  clear h
  by_cases c5 : a2 = (l0.length : Int)
  · rw [if_pos c5] at H
    have c5b0 : (a2 == (l0.length : Int)) = true := beq_iff_eq.mpr c5
    have c5b1 : (a2 != (l0.length : Int)) = false := bne_eq_false_iff_eq.mpr c5
    clear c5
    by_cases c6 : s3_0 = 0
    · rw [if_pos c6] at H
      have c6b0 : (s3_0 == 0) = true := beq_iff_eq.mpr c6
      have c6b1 : (s3_0 != 0) = false := bne_eq_false_iff_eq.mpr c6
      clear c6
      simp only [Option.some.injEq, Prod.mk.injEq] at H
      obtain ⟨rfl, rfl⟩ := H
      obtain ⟨Ao7, co7, eo7⟩ := Kd.R_slice HO0.out
      subst eo7
      obtain ⟨HGz8, hgz8⟩ := HI3.out
      have hcz8_0 := cellS9003_0 HGz8
      have hfz8_0 := blk_frozen HGz8 0
      clear HGz8 hgz8
      go_enter Try.func109, Try.ntmps109
      go_wp2
      go_ret
      exact ⟨_, by first | rfl | (simp [errW_none, errW_some] <;> rfl) | (simp [*, errW_none, errW_some] <;> rfl), by (with_reducible repeat (first | apply Kd.R_alloc | apply Kd.R_drewN | apply Kd.R_drew)); exact HO0.out, by repeat (first | (with_reducible first | exact HI3.out | apply IsS9003.alloc | apply IsS9003.drewN | apply IsS9003.drew | apply IsS9003.set_0) | exact HI3.out), by repeat (first | (with_reducible first | exact HB.out | apply below_alloc | apply pw_below_drewN | apply below_drew1 | refine below_set ?_ (IsS9003.ge HI3.out)) | exact HB.out), by repeat (first | (with_reducible first | exact HK.out | apply Kept.alloc | apply Kept.drewN | apply Kept.drew | refine Kept.setCell ?_ (.inl (.inr rfl)) _) | exact HK.out)⟩
    · rw [if_neg c6] at H
      have c6b0 : (s3_0 == 0) = false := beq_eq_false_iff_ne.mpr c6
      have c6b1 : (s3_0 != 0) = true := bne_iff_ne.mpr c6
      simp only [Option.some.injEq, Prod.mk.injEq] at H
      obtain ⟨rfl, rfl⟩ := H
      obtain ⟨Ao9, co9, eo9⟩ := Kd.R_slice HO0.out
      subst eo9
      obtain ⟨HGz10, hgz10⟩ := HI3.out
      have hcz10_0 := cellS9003_0 HGz10
      have hfz10_0 := blk_frozen HGz10 0
      clear HGz10 hgz10
      go_enter Try.func109, Try.ntmps109
      go_wp2
      go_ret
      exact ⟨_, by first | rfl | (simp [errW_none, errW_some] <;> rfl) | (simp [*, errW_none, errW_some] <;> rfl), by first | exact Kd.R_nil _ _ _ _ _ | exact Kd.N_nil _ _ _ _ _ | exact Kd.V_nil _ _ _ _ _ | exact Kd.Q_nil _ _ _ _ _ | exact Kd.S_nil _ _ _ _ _, by repeat (first | (with_reducible first | exact HI3.out | apply IsS9003.alloc | apply IsS9003.drewN | apply IsS9003.drew | apply IsS9003.set_0) | exact HI3.out), by repeat (first | (with_reducible first | exact HB.out | apply below_alloc | apply pw_below_drewN | apply below_drew1 | refine below_set ?_ (IsS9003.ge HI3.out)) | exact HB.out), by repeat (first | (with_reducible first | exact HK.out | apply Kept.alloc | apply Kept.drewN | apply Kept.drew | refine Kept.setCell ?_ (.inl (.inr rfl)) _) | exact HK.out)⟩
  · rw [if_neg c5] at H
    have c5b0 : (a2 == (l0.length : Int)) = false := beq_eq_false_iff_ne.mpr c5
    have c5b1 : (a2 != (l0.length : Int)) = true := bne_iff_ne.mpr c5
    have H' := Aside0.mk H
    clear H
    obtain ⟨Ao11, co11, eo11⟩ := Kd.R_slice HO0.out
    subst eo11
    go_enter Try.func109, Try.ntmps109
    go_wp2
    go_loopg [9] k (fun kq v9 w' => ∃ (x0_1 : List Int) (x9_1 : Int) (x4000_1 : Int), v9 = .int .i64 x9_1 ∧ Aside0 (spec_l2Search.l0 kq x0_1 a1 a2 x9_1 x4000_1 = some (r1, r2)) ∧ Aside0 (kq ≤ k) ∧ Aside0 (Kd.R (Kd.int .i64) 3 w' w0.heap.size (fun k_ => (P0_ k_ ∨ w.heap.size ≤ k_)) (.slice Ao11 l0.length co11) x0_1) ∧ Aside0 (IsS9003 w0 w' g x4000_1) ∧ Aside0 (Kept w w' (fun k_ => (P0_ k_) ∨ k_ = g)) ∧ Aside0 (Below w0.heap.size w0 w'))
    case atStart => exact ⟨(l0), (1), (s3_0), (by first | rfl | (simp; done) | (simp [*]; done)), H', ⟨Nat.le_refl _⟩, ⟨by (with_reducible repeat (first | apply Kd.R_alloc | apply Kd.R_drewN | apply Kd.R_drew)); exact HO0.out⟩, ⟨by repeat (first | (with_reducible first | exact HI3.out | apply IsS9003.alloc | apply IsS9003.drewN | apply IsS9003.drew | apply IsS9003.set_0) | exact HI3.out)⟩, ⟨by repeat (first | (with_reducible first | exact HK.out | apply Kept.alloc | apply Kept.drewN | apply Kept.drew | refine Kept.setCell ?_ (.inl (.inr rfl)) _) | exact HK.out)⟩, ⟨by repeat (first | (with_reducible first | exact HB.out | apply below_alloc | apply pw_below_drewN | apply below_drew1 | refine below_set ?_ (IsS9003.ge HI3.out)) | exact HB.out)⟩⟩
    case round =>
      clear H'
      try clear c1
      try clear p2
      try clear c5
      try clear c5b0
      try clear c5b1
      try clear c6
      try clear c6b0
      try clear c6b1
      try clear p6
      try clear c10
      try clear hcz10_0
      try clear hcz8_0
      try clear hfz10_0
      try clear hfz8_0
      obtain ⟨x0_1, x9_1, x4000_1, rfl, HA, HK1, HO_0, HI3, HK, HB⟩ := hrel
      have hl0_1 := (Kd.R_reads' HO_0.out).1
      rw [hl0_1] at HO_0
      (try simp only [hl0_1])
      cases gk with
      | zero => exact absurd HA.out (by simp [spec_l2Search.l0])
      | succ k1 =>
        have H := HA.out
        clear HA
        simp only [spec_l2Search.l0] at H
        by_cases c12 : x9_1 ≤ a1
        · rw [if_pos c12] at H
          have c12b0 : decide (x9_1 ≤ a1) = true := decide_eq_true c12
          clear c12
          obtain ⟨y167, hy167⟩ : ∃ y_ : List Int, y_ = (([] : List Int)) := ⟨_, rfl⟩
          replace H : (if y167.length + x0_1.length < 17592186044416 then ((some (y167 ++ x0_1 : List Int)).bind fun y170 => (if 0 ≤ a2 then (if a2 < (y170.length : Int) then ((some (y170.set (a2 : Int).toNat x9_1 : List Int)).bind fun y173 => ((spec_l2Clash.f k1 y173 a1).bind fun t174 => (if t174 = true then (spec_l2Search.l0 k1 x0_1 a1 a2 (wrap64 (x9_1 + 1)) x4000_1) else ((spec_l2Search.f k1 y173 a1 (wrap64 (a2 + 1)) x4000_1).bind fun bt175 => (if (bt175.1.length : Int) > 0 then (some (bt175.1, bt175.2)) else (spec_l2Search.l0 k1 x0_1 a1 a2 (wrap64 (x9_1 + 1)) bt175.2)))))) else (none)) else (none))) else (none)) = some (r1, r2) := by first | (rw [hy167]; with_reducible exact H) | (have H2_ := (Option.bind_some _ _).symm.trans H; rw [hy167]; with_reducible exact H2_) | (have H2_ := (Option.bind_some _ _).symm.trans H; with_reducible exact H2_) | with_reducible exact H | (rw [hy167]; exact H) | exact H
          have Ny167 := Aside0.mk hy167
          clear hy167
          by_cases c13 : y167.length + x0_1.length < 17592186044416
          · rw [if_pos c13] at H
            have LMc13 := Aside0.mk c13
            clear c13
            obtain ⟨y170, hy170⟩ : ∃ y_ : List Int, y_ = (y167 ++ x0_1) := ⟨_, rfl⟩
            replace H : (if 0 ≤ a2 then (if a2 < (y170.length : Int) then ((some (y170.set (a2 : Int).toNat x9_1 : List Int)).bind fun y173 => ((spec_l2Clash.f k1 y173 a1).bind fun t174 => (if t174 = true then (spec_l2Search.l0 k1 x0_1 a1 a2 (wrap64 (x9_1 + 1)) x4000_1) else ((spec_l2Search.f k1 y173 a1 (wrap64 (a2 + 1)) x4000_1).bind fun bt175 => (if (bt175.1.length : Int) > 0 then (some (bt175.1, bt175.2)) else (spec_l2Search.l0 k1 x0_1 a1 a2 (wrap64 (x9_1 + 1)) bt175.2)))))) else (none)) else (none)) = some (r1, r2) := by first | (rw [hy170]; with_reducible exact H) | (have H2_ := (Option.bind_some _ _).symm.trans H; rw [hy170]; with_reducible exact H2_) | (have H2_ := (Option.bind_some _ _).symm.trans H; with_reducible exact H2_) | with_reducible exact H | (rw [hy170]; exact H) | exact H
            have Ny170 := Aside0.mk hy170
            clear hy170
            by_cases c14 : 0 ≤ a2
            · rw [if_pos c14] at H
              have c14b0 : decide (0 ≤ a2) = true := decide_eq_true c14
              clear c14
              by_cases c15 : a2 < (y170.length : Int)
              · rw [if_pos c15] at H
                have c15b0 : decide (a2 < (y170.length : Int)) = true := decide_eq_true c15
                clear c15
                obtain ⟨y173, hy173⟩ : ∃ y_ : List Int, y_ = (y170.set (a2 : Int).toNat x9_1) := ⟨_, rfl⟩
                replace H : ((spec_l2Clash.f k1 y173 a1).bind fun t174 => (if t174 = true then (spec_l2Search.l0 k1 x0_1 a1 a2 (wrap64 (x9_1 + 1)) x4000_1) else ((spec_l2Search.f k1 y173 a1 (wrap64 (a2 + 1)) x4000_1).bind fun bt175 => (if (bt175.1.length : Int) > 0 then (some (bt175.1, bt175.2)) else (spec_l2Search.l0 k1 x0_1 a1 a2 (wrap64 (x9_1 + 1)) bt175.2))))) = some (r1, r2) := by first | (rw [hy173]; with_reducible exact H) | (have H2_ := (Option.bind_some _ _).symm.trans H; rw [hy173]; with_reducible exact H2_) | (have H2_ := (Option.bind_some _ _).symm.trans H; with_reducible exact H2_) | with_reducible exact H | (rw [hy173]; exact H) | exact H
                have Ny173 := Aside0.mk hy173
                clear hy173
                replace H := Option.bind_eq_some_iff.mp H
                obtain ⟨t174, A170, H⟩ := H
                replace H : (if t174 = true then (spec_l2Search.l0 k1 x0_1 a1 a2 (wrap64 (x9_1 + 1)) x4000_1) else ((spec_l2Search.f k1 y173 a1 (wrap64 (a2 + 1)) x4000_1).bind fun bt175 => (if (bt175.1.length : Int) > 0 then (some (bt175.1, bt175.2)) else (spec_l2Search.l0 k1 x0_1 a1 a2 (wrap64 (x9_1 + 1)) bt175.2)))) = some (r1, r2) := H
                have A17 := Aside0.mk A170
                clear A170
                by_cases c18 : t174 = true
                · subst c18
                  have H1 : (spec_l2Search.l0 k1 x0_1 a1 a2 (wrap64 (x9_1 + 1)) x4000_1) = some (r1, r2) := by rw [if_pos rfl] at H; exact H
                  clear H
                  have H := H1
                  clear H1
                  have H' := Aside0.mk H
                  clear H
                  go_wp2_with (first | ((with_reducible refine gate_dst (N := 32) rfl ?_); refine Kd.R_lit (Kd.int .i64) _ 3 ?hg (N := 32) ?hd (xs := ([] : List Int)) (inner := []) (ok := fun _ => True) (okp := fun _ => True) ?hr ?hp (fun _ hk => hk) trivial (Below.refl _ _) (Nat.le_refl _) (by simp) ?_; (case hd => rfl); (case hg => rfl); (case hr => first | (go_simp; done) | (go_simp; rfl)); (case hp => exact (Reps.none _ _)); intro v168 w19 ho20 hb hg_ hnew_; clear hg_ hnew_; (first | rw [← Ny167.out] at ho20 | (simp only [Int.reduceToNat] at ho20; rw [← Ny167.out] at ho20)); have n0_ := Aside0.mk (Kd.R_elder' (by (with_reducible repeat (first | apply Kd.R_alloc | apply Kd.R_drewN | apply Kd.R_drew)); exact HO_0.out) (Kd.R_base ho20) hb); have n1_ := Aside0.mk (Kd.R_lower (Kd.R_new' (Kd.R_newM (M := fun k_ => (P0_ k_ ∨ w.heap.size ≤ k_)) ho20 (by first | exact HK.out.1 | exact (show Kept w _ (fun k_ => (P0_ k_) ∨ k_ = g) from by repeat (first | (with_reducible first | exact HK.out | apply Kept.alloc | apply Kept.drewN | apply Kept.drew | refine Kept.setCell ?_ (.inl (.inr rfl)) _) | exact HK.out)).1) (fun k_ h_ => .inr h_)) (Kd.R_lt (by (with_reducible repeat (first | apply Kd.R_alloc | apply Kd.R_drewN | apply Kd.R_drew)); exact HO_0.out))) (below_size (by repeat (first | (with_reducible first | exact HB.out | apply below_alloc | apply pw_below_drewN | apply below_drew1 | refine below_set ?_ (IsS9003.ge HI3.out)) | exact HB.out)))); have n2_ := Aside0.mk (IsS9003.below (by repeat (first | (with_reducible first | exact HI3.out | apply IsS9003.alloc | apply IsS9003.drewN | apply IsS9003.drew | apply IsS9003.set_0) | exact HI3.out)) hb); have n3_ := Aside0.mk (Kept.below (S := (fun k_ => (P0_ k_) ∨ k_ = g)) (by repeat (first | (with_reducible first | exact HK.out | apply Kept.alloc | apply Kept.drewN | apply Kept.drew | refine Kept.setCell ?_ (.inl (.inr rfl)) _) | exact HK.out)) hb); have n4_ := Aside0.mk (below_step (by repeat (first | (with_reducible first | exact HB.out | apply below_alloc | apply pw_below_drewN | apply below_drew1 | refine below_set ?_ (IsS9003.ge HI3.out)) | exact HB.out)) hb); clear HO_0; clear HI3; clear HK; clear HB; have HO_0 := n0_; have HO169 := n1_; have HI3 := n2_; have HK := n3_; have HB := n4_; clear n0_ n1_ n2_ n3_ n4_; clear hb ho20) | ((with_reducible refine gate_builtin (b := .append) (xs := #[.tmp 32, .tmp 33]) rfl ?_); at_builtin; refine Kd.R_append_rows (Kd.int .i64) (w0 := w0) w0.heap.size rfl (.tmp 32) (.tmp 33) 23 3 (.int .i64 0) 8 rfl Try.underlying23 info3 rfl (by decide) (by omega) v168 y167 x0_1 _ _ _ (fun k_ => (P0_ k_ ∨ w.heap.size ≤ k_) ∧ some k_ ≠ (.slice Ao11 x0_1.length co11 : Value).ownBlock) (fun _ => False) rfl rfl ?aO ?aR (fun _ _ h => h) (fun _ h => h.elim) ?aF ?aB ?aS ?aL ?_; (case aR => repeat (first | exact (Kd.R_reads' HO_0.out).2.2 | (with_reducible refine Kd.C_alloc ?_ _) | (with_reducible refine Kd.C_drewN ?_ _) | (with_reducible refine Kd.C_drew ?_))); (case aB => exact (by repeat (first | (with_reducible first | exact HB.out | apply below_alloc | apply pw_below_drewN | apply below_drew1 | refine below_set ?_ (IsS9003.ge HI3.out)) | exact HB.out))); (case aF => exact (fun k_ hk => ⟨(.inr (Nat.le_trans (by first | exact HK.out.1 | exact (show Kept w _ (fun k_ => (P0_ k_) ∨ k_ = g) from by repeat (first | (with_reducible first | exact HK.out | apply Kept.alloc | apply Kept.drewN | apply Kept.drew | refine Kept.setCell ?_ (.inl (.inr rfl)) _) | exact HK.out)).1) hk)), Kd.fresh' (Kd.R_lt (by (with_reducible repeat (first | apply Kd.R_alloc | apply Kd.R_drewN | apply Kd.R_drew)); exact HO_0.out)) k_ hk⟩)); (case aO => exact (by (with_reducible repeat (first | apply Kd.R_alloc | apply Kd.R_drewN | apply Kd.R_drew)); exact Kd.R_mono HO169.out (fun _ hk => ⟨hk.1.1, hk.2⟩))); (case aS => exact (below_size (by repeat (first | (with_reducible first | exact HB.out | apply below_alloc | apply pw_below_drewN | apply below_drew1 | refine below_set ?_ (IsS9003.ge HI3.out)) | exact HB.out)))); (case aL => have := LMc13.out; omega); intro v171 w21 ho hb hg hat; rw [← Ny170.out] at ho; have n0_ := Aside0.mk (Kd.R_after (ok := (fun k_ => (P0_ k_ ∨ w.heap.size ≤ k_))) (by (with_reducible repeat (first | apply Kd.R_alloc | apply Kd.R_drewN | apply Kd.R_drew)); exact HO_0.out) hg hat); have n1_ := Aside0.mk (IsS9003.grown (by repeat (first | (with_reducible first | exact HI3.out | apply IsS9003.alloc | apply IsS9003.drewN | apply IsS9003.drew | apply IsS9003.set_0) | exact HI3.out)) hg (R_neG HO169.out (by intro k_ hk_ e_; subst e_; first | exact gnG HPG.out HGW.out hk_ | exact gnG HPG.out HGW.out hk_.1 | exact gnG HPG.out HGW.out hk_.1.1 | exact gnG HPG.out HGW.out hk_.1.1.1 | exact gnG HPG.out HGW.out hk_.1.1.1.1))); have n2_ := Aside0.mk (hb); have n3_ := Aside0.mk (Kept.of_grown (S := (fun k_ => (P0_ k_) ∨ k_ = g)) hg (by repeat (first | (with_reducible first | exact HK.out | apply Kept.alloc | apply Kept.drewN | apply Kept.drew | refine Kept.setCell ?_ (.inl (.inr rfl)) _) | exact HK.out)) (fun k_ e_ => Or.imp_left Or.inl ((HO169.out.1 k_ e_).1.1))); have n4_ := Aside0.mk (ho); clear HO_0; clear HI3; clear HB; clear HK; clear HO169; have HO_0 := n0_; have HI3 := n1_; have HB := n2_; have HK := n3_; have HO172 := n4_; clear n0_ n1_ n2_ n3_ n4_; clear ho hb hg hat; have p16 : 0 ≤ (a2 : Int) := of_decide_eq_true (by first | (with_reducible assumption) | assumption); have q16 : (a2 : Int) < ((y170.length : Int) : Int) := of_decide_eq_true (by first | (with_reducible assumption) | assumption); obtain ⟨go16, co16, eo16, gb16, gl16, cl16, HG16⟩ := Kd.R_form HO172.out (by omega); (first | cases eo16 | (injection eo16 with ea_ en_ ec_; (first | subst ea_ | (injection ea_ with ea_; subst ea_)); subst ec_; clear en_)); have GB16 := Aside0.mk gb16; have GG16 := Aside0.mk HG16; clear gb16 gl16 HG16; have HMgo16 := Aside0.mk (show (P0_ go16 ∨ w.heap.size ≤ go16) from (HO172.out.1 _ rfl).1); obtain ⟨hx16_0, hf16_0⟩ := Kd.R_celln 0 HO172.out (a2 : Int) p16 q16; replace p16 := eq_true p16; replace q16 := eq_true q16; obtain ⟨hy22_, hz22_⟩ := Kd.R_celln 0 HO172.out (a2 : Int) (of_decide_eq_true (by first | (with_reducible assumption) | assumption)) (of_decide_eq_true (by first | (with_reducible assumption) | assumption)); have HP22 := Kd.R_putg HO172.out (a2 : Int) x9_1) | ((with_reducible refine gate_store (t := 3) (p := 38) rfl ?_); refine store_event (t := 3) (p := 38) (v := ?vo_w23) (w1 := (w21.setCell ⟨go16, (a2 : Int).toNat, none⟩ (.int .i64 x9_1))) ?hg ?ho ?hn ?hr ?_; (case ho => rfl); (case hg => rfl); (case hn => rfl); (case hr => first | (go_simp; done) | (go_simp; rfl)); intro w23 hw; have hg : w21.grownBy w23 (some go16) := (by rw [hw]; exact HP22.2); have hp_ : Kd.R (Kd.int .i64) 3 w23 w0.heap.size (fun k_ => (P0_ k_ ∨ w.heap.size ≤ k_) ∧ some k_ ≠ (.slice Ao11 x0_1.length co11 : Value).ownBlock) (.slice (some ⟨go16, 0, none⟩) y170.length co16) y173 := (by rw [hw, Ny173.out]; exact HP22.1); clear HP22; have n0_ := Aside0.mk (Kd.R_after (v := (.slice (some ⟨go16, 0, none⟩) y170.length co16)) (v1 := (.slice (some ⟨go16, 0, none⟩) y170.length co16)) (ok := (fun k_ => (P0_ k_ ∨ w.heap.size ≤ k_))) (by (with_reducible repeat (first | apply Kd.R_alloc | apply Kd.R_drewN | apply Kd.R_drew)); exact HO_0.out) hg (.inl rfl)); have n1_ := Aside0.mk (IsS9003.grown (by repeat (first | (with_reducible first | exact HI3.out | apply IsS9003.alloc | apply IsS9003.drewN | apply IsS9003.drew | apply IsS9003.set_0) | exact HI3.out)) hg (R_neG HO172.out (by intro k_ hk_ e_; subst e_; first | exact gnG HPG.out HGW.out hk_ | exact gnG HPG.out HGW.out hk_.1 | exact gnG HPG.out HGW.out hk_.1.1 | exact gnG HPG.out HGW.out hk_.1.1.1 | exact gnG HPG.out HGW.out hk_.1.1.1.1))); have n2_ := Aside0.mk (hp_); have n3_ := Aside0.mk ((by rw [hw]; exact below_set (HB.out) GB16.out : Below w0.heap.size w0 w23)); have n4_ := Aside0.mk (Kept.of_grown (S := (fun k_ => (P0_ k_) ∨ k_ = g)) hg (by repeat (first | (with_reducible first | exact HK.out | apply Kept.alloc | apply Kept.drewN | apply Kept.drew | refine Kept.setCell ?_ (.inl (.inr rfl)) _) | exact HK.out)) (fun k_ e_ => Or.imp_left Or.inl ((HO172.out.1 k_ e_).1))); clear HO_0; clear HI3; clear HO172; clear HB; clear HK; have HO_0 := n0_; have HI3 := n1_; have HO172 := n2_; have HB := n3_; have HK := n4_; clear n0_ n1_ n2_ n3_ n4_; clear hg hw hp_) | ((with_reducible refine gate_callee (f := 92) rfl ?_); refine goesL_ (some 41) rfl rfl Try.func92 (by kernel_rfl) rfl #[.slice (some ⟨go16, 0, none⟩) y173.length co16, .int .i64 a1] rfl (by (try simp only [List.map_toArray, List.map_cons, List.map_nil]); first | done | (rw [show y173.length = y170.length from (Kd.R_reads' HO172.out).1.symm] <;> rfl) | rfl | (simp only [List.length_drop, List.length_take]; rfl)) ?_; (with_reducible refine (spec_l2Clash.calls k1 _ _ y173 a1 true _ ?side1 ?side2 A17.out).mono ?_); (case side1 => repeat (first | exact (Kd.R_reads' HO172.out).2.2 | (with_reducible refine Kd.C_alloc ?_ _) | (with_reducible refine Kd.C_drewN ?_ _) | (with_reducible refine Kd.C_drew ?_))); (case side2 => rw [show y173.length = y170.length from (Kd.R_reads' HO172.out).1.symm]; exact (Kd.R_reads' HO172.out).2.1); rintro e w24 ⟨rfl, hb⟩; refine ⟨_, rfl, ?_⟩; have n0_ := Aside0.mk (Kd.R_below (by (with_reducible repeat (first | apply Kd.R_alloc | apply Kd.R_drewN | apply Kd.R_drew)); exact HO_0.out) hb); have n1_ := Aside0.mk (Kd.R_below (by (with_reducible repeat (first | apply Kd.R_alloc | apply Kd.R_drewN | apply Kd.R_drew)); exact HO172.out) hb); have n2_ := Aside0.mk (IsS9003.below (by repeat (first | (with_reducible first | exact HI3.out | apply IsS9003.alloc | apply IsS9003.drewN | apply IsS9003.drew | apply IsS9003.set_0) | exact HI3.out)) hb); have n3_ := Aside0.mk (Kept.below (S := (fun k_ => (P0_ k_) ∨ k_ = g)) (by repeat (first | (with_reducible first | exact HK.out | apply Kept.alloc | apply Kept.drewN | apply Kept.drew | refine Kept.setCell ?_ (.inl (.inr rfl)) _) | exact HK.out)) hb); have n4_ := Aside0.mk (below_step (by repeat (first | (with_reducible first | exact HB.out | apply below_alloc | apply pw_below_drewN | apply below_drew1 | refine below_set ?_ (IsS9003.ge HI3.out)) | exact HB.out)) hb); clear HO_0; clear HO172; clear HI3; clear HK; clear HB; have HO_0 := n0_; have HO172 := n1_; have HI3 := n2_; have HK := n3_; have HB := n4_; clear n0_ n1_ n2_ n3_ n4_; (try clear hb); (try clear hb2); (try clear hk); (try clear hi)))
                  (try simp only [← hl0_1])
                  go_roundg k1
                  case measure => have := HK1.out; omega
                  case rel => exact ⟨(x0_1), (wrap64 (x9_1 + 1)), (x4000_1), (by first | rfl | (simp; done) | (simp [*]; done)), H', ⟨by have := HK1.out; omega⟩, ⟨by (try simp only [hl0_1]); (with_reducible repeat (first | apply Kd.R_alloc | apply Kd.R_drewN | apply Kd.R_drew)); exact Kd.R_mono HO_0.out (fun _ hk => hk.1)⟩, ⟨by repeat (first | (with_reducible first | exact HI3.out | apply IsS9003.alloc | apply IsS9003.drewN | apply IsS9003.drew | apply IsS9003.set_0) | exact HI3.out)⟩, ⟨by repeat (first | (with_reducible first | exact HK.out | apply Kept.alloc | apply Kept.drewN | apply Kept.drew | refine Kept.setCell ?_ (.inl (.inr rfl)) _) | exact HK.out)⟩, ⟨by repeat (first | (with_reducible first | exact HB.out | apply below_alloc | apply pw_below_drewN | apply below_drew1 | refine below_set ?_ (IsS9003.ge HI3.out)) | exact HB.out)⟩⟩
                · replace c18 := Bool.eq_false_iff.mpr c18
                  subst c18
                  have H1 : ((spec_l2Search.f k1 y173 a1 (wrap64 (a2 + 1)) x4000_1).bind fun bt175 => (if (bt175.1.length : Int) > 0 then (some (bt175.1, bt175.2)) else (spec_l2Search.l0 k1 x0_1 a1 a2 (wrap64 (x9_1 + 1)) bt175.2))) = some (r1, r2) := by rw [if_neg (show ¬ (false = true) by decide)] at H; exact H
                  clear H
                  have H := H1
                  clear H1
                  replace H := Option.bind_eq_some_iff.mp H
                  obtain ⟨⟨t175, t178⟩, A250, H⟩ := H
                  replace H : (if (t175.length : Int) > 0 then (some (t175, t178)) else (spec_l2Search.l0 k1 x0_1 a1 a2 (wrap64 (x9_1 + 1)) t178)) = some (r1, r2) := H
                  have A25 := Aside0.mk A250
                  clear A250
                  by_cases c26 : (t175.length : Int) > 0
                  · rw [if_pos c26] at H
                    have c26b0 : decide (0 < (t175.length : Int)) = true := decide_eq_true c26
                    have c26b1 : decide (0 < t175.length) = true := decide_eq_true (by omega)
                    clear c26
                    simp only [Option.some.injEq, Prod.mk.injEq] at H
                    obtain ⟨rfl, rfl⟩ := H
                    go_wp2_with (first | ((with_reducible refine gate_dst (N := 32) rfl ?_); refine Kd.R_lit (Kd.int .i64) _ 3 ?hg (N := 32) ?hd (xs := ([] : List Int)) (inner := []) (ok := fun _ => True) (okp := fun _ => True) ?hr ?hp (fun _ hk => hk) trivial (Below.refl _ _) (Nat.le_refl _) (by simp) ?_; (case hd => rfl); (case hg => rfl); (case hr => first | (go_simp; done) | (go_simp; rfl)); (case hp => exact (Reps.none _ _)); intro v168 w27 ho28 hb hg_ hnew_; clear hg_ hnew_; (first | rw [← Ny167.out] at ho28 | (simp only [Int.reduceToNat] at ho28; rw [← Ny167.out] at ho28)); have n0_ := Aside0.mk (Kd.R_elder' (by (with_reducible repeat (first | apply Kd.R_alloc | apply Kd.R_drewN | apply Kd.R_drew)); exact HO_0.out) (Kd.R_base ho28) hb); have n1_ := Aside0.mk (Kd.R_lower (Kd.R_new' (Kd.R_newM (M := fun k_ => (P0_ k_ ∨ w.heap.size ≤ k_)) ho28 (by first | exact HK.out.1 | exact (show Kept w _ (fun k_ => (P0_ k_) ∨ k_ = g) from by repeat (first | (with_reducible first | exact HK.out | apply Kept.alloc | apply Kept.drewN | apply Kept.drew | refine Kept.setCell ?_ (.inl (.inr rfl)) _) | exact HK.out)).1) (fun k_ h_ => .inr h_)) (Kd.R_lt (by (with_reducible repeat (first | apply Kd.R_alloc | apply Kd.R_drewN | apply Kd.R_drew)); exact HO_0.out))) (below_size (by repeat (first | (with_reducible first | exact HB.out | apply below_alloc | apply pw_below_drewN | apply below_drew1 | refine below_set ?_ (IsS9003.ge HI3.out)) | exact HB.out)))); have n2_ := Aside0.mk (IsS9003.below (by repeat (first | (with_reducible first | exact HI3.out | apply IsS9003.alloc | apply IsS9003.drewN | apply IsS9003.drew | apply IsS9003.set_0) | exact HI3.out)) hb); have n3_ := Aside0.mk (Kept.below (S := (fun k_ => (P0_ k_) ∨ k_ = g)) (by repeat (first | (with_reducible first | exact HK.out | apply Kept.alloc | apply Kept.drewN | apply Kept.drew | refine Kept.setCell ?_ (.inl (.inr rfl)) _) | exact HK.out)) hb); have n4_ := Aside0.mk (below_step (by repeat (first | (with_reducible first | exact HB.out | apply below_alloc | apply pw_below_drewN | apply below_drew1 | refine below_set ?_ (IsS9003.ge HI3.out)) | exact HB.out)) hb); clear HO_0; clear HI3; clear HK; clear HB; have HO_0 := n0_; have HO169 := n1_; have HI3 := n2_; have HK := n3_; have HB := n4_; clear n0_ n1_ n2_ n3_ n4_; clear hb ho28) | ((with_reducible refine gate_builtin (b := .append) (xs := #[.tmp 32, .tmp 33]) rfl ?_); at_builtin; refine Kd.R_append_rows (Kd.int .i64) (w0 := w0) w0.heap.size rfl (.tmp 32) (.tmp 33) 23 3 (.int .i64 0) 8 rfl Try.underlying23 info3 rfl (by decide) (by omega) v168 y167 x0_1 _ _ _ (fun k_ => (P0_ k_ ∨ w.heap.size ≤ k_) ∧ some k_ ≠ (.slice Ao11 x0_1.length co11 : Value).ownBlock) (fun _ => False) rfl rfl ?aO ?aR (fun _ _ h => h) (fun _ h => h.elim) ?aF ?aB ?aS ?aL ?_; (case aR => repeat (first | exact (Kd.R_reads' HO_0.out).2.2 | (with_reducible refine Kd.C_alloc ?_ _) | (with_reducible refine Kd.C_drewN ?_ _) | (with_reducible refine Kd.C_drew ?_))); (case aB => exact (by repeat (first | (with_reducible first | exact HB.out | apply below_alloc | apply pw_below_drewN | apply below_drew1 | refine below_set ?_ (IsS9003.ge HI3.out)) | exact HB.out))); (case aF => exact (fun k_ hk => ⟨(.inr (Nat.le_trans (by first | exact HK.out.1 | exact (show Kept w _ (fun k_ => (P0_ k_) ∨ k_ = g) from by repeat (first | (with_reducible first | exact HK.out | apply Kept.alloc | apply Kept.drewN | apply Kept.drew | refine Kept.setCell ?_ (.inl (.inr rfl)) _) | exact HK.out)).1) hk)), Kd.fresh' (Kd.R_lt (by (with_reducible repeat (first | apply Kd.R_alloc | apply Kd.R_drewN | apply Kd.R_drew)); exact HO_0.out)) k_ hk⟩)); (case aO => exact (by (with_reducible repeat (first | apply Kd.R_alloc | apply Kd.R_drewN | apply Kd.R_drew)); exact Kd.R_mono HO169.out (fun _ hk => ⟨hk.1.1, hk.2⟩))); (case aS => exact (below_size (by repeat (first | (with_reducible first | exact HB.out | apply below_alloc | apply pw_below_drewN | apply below_drew1 | refine below_set ?_ (IsS9003.ge HI3.out)) | exact HB.out)))); (case aL => have := LMc13.out; omega); intro v171 w29 ho hb hg hat; rw [← Ny170.out] at ho; have n0_ := Aside0.mk (Kd.R_after (ok := (fun k_ => (P0_ k_ ∨ w.heap.size ≤ k_))) (by (with_reducible repeat (first | apply Kd.R_alloc | apply Kd.R_drewN | apply Kd.R_drew)); exact HO_0.out) hg hat); have n1_ := Aside0.mk (IsS9003.grown (by repeat (first | (with_reducible first | exact HI3.out | apply IsS9003.alloc | apply IsS9003.drewN | apply IsS9003.drew | apply IsS9003.set_0) | exact HI3.out)) hg (R_neG HO169.out (by intro k_ hk_ e_; subst e_; first | exact gnG HPG.out HGW.out hk_ | exact gnG HPG.out HGW.out hk_.1 | exact gnG HPG.out HGW.out hk_.1.1 | exact gnG HPG.out HGW.out hk_.1.1.1 | exact gnG HPG.out HGW.out hk_.1.1.1.1))); have n2_ := Aside0.mk (hb); have n3_ := Aside0.mk (Kept.of_grown (S := (fun k_ => (P0_ k_) ∨ k_ = g)) hg (by repeat (first | (with_reducible first | exact HK.out | apply Kept.alloc | apply Kept.drewN | apply Kept.drew | refine Kept.setCell ?_ (.inl (.inr rfl)) _) | exact HK.out)) (fun k_ e_ => Or.imp_left Or.inl ((HO169.out.1 k_ e_).1.1))); have n4_ := Aside0.mk (ho); clear HO_0; clear HI3; clear HB; clear HK; clear HO169; have HO_0 := n0_; have HI3 := n1_; have HB := n2_; have HK := n3_; have HO172 := n4_; clear n0_ n1_ n2_ n3_ n4_; clear ho hb hg hat; have p16 : 0 ≤ (a2 : Int) := of_decide_eq_true (by first | (with_reducible assumption) | assumption); have q16 : (a2 : Int) < ((y170.length : Int) : Int) := of_decide_eq_true (by first | (with_reducible assumption) | assumption); obtain ⟨go16, co16, eo16, gb16, gl16, cl16, HG16⟩ := Kd.R_form HO172.out (by omega); (first | cases eo16 | (injection eo16 with ea_ en_ ec_; (first | subst ea_ | (injection ea_ with ea_; subst ea_)); subst ec_; clear en_)); have GB16 := Aside0.mk gb16; have GG16 := Aside0.mk HG16; clear gb16 gl16 HG16; have HMgo16 := Aside0.mk (show (P0_ go16 ∨ w.heap.size ≤ go16) from (HO172.out.1 _ rfl).1); obtain ⟨hx16_0, hf16_0⟩ := Kd.R_celln 0 HO172.out (a2 : Int) p16 q16; replace p16 := eq_true p16; replace q16 := eq_true q16; obtain ⟨hy30_, hz30_⟩ := Kd.R_celln 0 HO172.out (a2 : Int) (of_decide_eq_true (by first | (with_reducible assumption) | assumption)) (of_decide_eq_true (by first | (with_reducible assumption) | assumption)); have HP30 := Kd.R_putg HO172.out (a2 : Int) x9_1) | ((with_reducible refine gate_store (t := 3) (p := 38) rfl ?_); refine store_event (t := 3) (p := 38) (v := ?vo_w31) (w1 := (w29.setCell ⟨go16, (a2 : Int).toNat, none⟩ (.int .i64 x9_1))) ?hg ?ho ?hn ?hr ?_; (case ho => rfl); (case hg => rfl); (case hn => rfl); (case hr => first | (go_simp; done) | (go_simp; rfl)); intro w31 hw; have hg : w29.grownBy w31 (some go16) := (by rw [hw]; exact HP30.2); have hp_ : Kd.R (Kd.int .i64) 3 w31 w0.heap.size (fun k_ => (P0_ k_ ∨ w.heap.size ≤ k_) ∧ some k_ ≠ (.slice Ao11 x0_1.length co11 : Value).ownBlock) (.slice (some ⟨go16, 0, none⟩) y170.length co16) y173 := (by rw [hw, Ny173.out]; exact HP30.1); clear HP30; have n0_ := Aside0.mk (Kd.R_after (v := (.slice (some ⟨go16, 0, none⟩) y170.length co16)) (v1 := (.slice (some ⟨go16, 0, none⟩) y170.length co16)) (ok := (fun k_ => (P0_ k_ ∨ w.heap.size ≤ k_))) (by (with_reducible repeat (first | apply Kd.R_alloc | apply Kd.R_drewN | apply Kd.R_drew)); exact HO_0.out) hg (.inl rfl)); have n1_ := Aside0.mk (IsS9003.grown (by repeat (first | (with_reducible first | exact HI3.out | apply IsS9003.alloc | apply IsS9003.drewN | apply IsS9003.drew | apply IsS9003.set_0) | exact HI3.out)) hg (R_neG HO172.out (by intro k_ hk_ e_; subst e_; first | exact gnG HPG.out HGW.out hk_ | exact gnG HPG.out HGW.out hk_.1 | exact gnG HPG.out HGW.out hk_.1.1 | exact gnG HPG.out HGW.out hk_.1.1.1 | exact gnG HPG.out HGW.out hk_.1.1.1.1))); have n2_ := Aside0.mk (hp_); have n3_ := Aside0.mk ((by rw [hw]; exact below_set (HB.out) GB16.out : Below w0.heap.size w0 w31)); have n4_ := Aside0.mk (Kept.of_grown (S := (fun k_ => (P0_ k_) ∨ k_ = g)) hg (by repeat (first | (with_reducible first | exact HK.out | apply Kept.alloc | apply Kept.drewN | apply Kept.drew | refine Kept.setCell ?_ (.inl (.inr rfl)) _) | exact HK.out)) (fun k_ e_ => Or.imp_left Or.inl ((HO172.out.1 k_ e_).1))); clear HO_0; clear HI3; clear HO172; clear HB; clear HK; have HO_0 := n0_; have HI3 := n1_; have HO172 := n2_; have HB := n3_; have HK := n4_; clear n0_ n1_ n2_ n3_ n4_; clear hg hw hp_) | ((with_reducible refine gate_callee (f := 92) rfl ?_); refine goesL_ (some 41) rfl rfl Try.func92 (by kernel_rfl) rfl #[.slice (some ⟨go16, 0, none⟩) y173.length co16, .int .i64 a1] rfl (by (try simp only [List.map_toArray, List.map_cons, List.map_nil]); first | done | (rw [show y173.length = y170.length from (Kd.R_reads' HO172.out).1.symm] <;> rfl) | rfl | (simp only [List.length_drop, List.length_take]; rfl)) ?_; (with_reducible refine (spec_l2Clash.calls k1 _ _ y173 a1 false _ ?side1 ?side2 A17.out).mono ?_); (case side1 => repeat (first | exact (Kd.R_reads' HO172.out).2.2 | (with_reducible refine Kd.C_alloc ?_ _) | (with_reducible refine Kd.C_drewN ?_ _) | (with_reducible refine Kd.C_drew ?_))); (case side2 => rw [show y173.length = y170.length from (Kd.R_reads' HO172.out).1.symm]; exact (Kd.R_reads' HO172.out).2.1); rintro e w32 ⟨rfl, hb⟩; refine ⟨_, rfl, ?_⟩; have n0_ := Aside0.mk (Kd.R_below (by (with_reducible repeat (first | apply Kd.R_alloc | apply Kd.R_drewN | apply Kd.R_drew)); exact HO_0.out) hb); have n1_ := Aside0.mk (Kd.R_below (by (with_reducible repeat (first | apply Kd.R_alloc | apply Kd.R_drewN | apply Kd.R_drew)); exact HO172.out) hb); have n2_ := Aside0.mk (IsS9003.below (by repeat (first | (with_reducible first | exact HI3.out | apply IsS9003.alloc | apply IsS9003.drewN | apply IsS9003.drew | apply IsS9003.set_0) | exact HI3.out)) hb); have n3_ := Aside0.mk (Kept.below (S := (fun k_ => (P0_ k_) ∨ k_ = g)) (by repeat (first | (with_reducible first | exact HK.out | apply Kept.alloc | apply Kept.drewN | apply Kept.drew | refine Kept.setCell ?_ (.inl (.inr rfl)) _) | exact HK.out)) hb); have n4_ := Aside0.mk (below_step (by repeat (first | (with_reducible first | exact HB.out | apply below_alloc | apply pw_below_drewN | apply below_drew1 | refine below_set ?_ (IsS9003.ge HI3.out)) | exact HB.out)) hb); clear HO_0; clear HO172; clear HI3; clear HK; clear HB; have HO_0 := n0_; have HO172 := n1_; have HI3 := n2_; have HK := n3_; have HB := n4_; clear n0_ n1_ n2_ n3_ n4_; (try clear hb); (try clear hb2); (try clear hk); (try clear hi)) | ((with_reducible refine gate_callee (f := 109) rfl ?_); refine goesL_ (some 47) rfl rfl Try.func109 (by kernel_rfl) rfl #[.slice (some ⟨go16, 0, none⟩) y170.length co16, .int .i64 a1, .int .i64 (wrap64 (a2 + 1)), .pointer (some ⟨g, 0, none⟩)] rfl (by (try simp only [List.map_toArray, List.map_cons, List.map_nil]); first | done | rfl | (simp only [List.length_drop, List.length_take]; rfl)) ?_; (with_reducible refine (ih k1 (by have := HK1.out; omega) (fun k_ => some k_ = (.slice (some ⟨go16, 0, none⟩) y170.length co16 : Value).ownBlock) (.slice (some ⟨go16, 0, none⟩) y170.length co16) y173 a1 (wrap64 (a2 + 1)) g x4000_1 t175 t178 w0 _ ?side1 ?side2 ?side3 ?side4 A25.out).mono ?_); (case side4 => exact R_neG HO172.out (by intro k_ hk_ e_; subst e_; first | exact gnG HPG.out HGW.out hk_ | exact gnG HPG.out HGW.out hk_.1 | exact gnG HPG.out HGW.out hk_.1.1 | exact gnG HPG.out HGW.out hk_.1.1.1 | exact gnG HPG.out HGW.out hk_.1.1.1.1)); (case side1 => repeat (first | (with_reducible first | exact HI3.out | apply IsS9003.alloc | apply IsS9003.drewN | apply IsS9003.drew | apply IsS9003.set_0) | exact HI3.out)); (case side2 => repeat (first | (with_reducible first | exact HB.out | apply below_alloc | apply pw_below_drewN | apply below_drew1 | refine below_set ?_ (IsS9003.ge HI3.out)) | exact HB.out)); (case side3 => exact Kd.R_tight rfl HO172.out); rintro e w33 ⟨v176, rfl, ho0, hi, hb, hkp⟩; refine ⟨_, rfl, ?_⟩; have n0_ := Aside0.mk (Kd.R_mono (ok' := fun k_ => (P0_ k_ ∨ w.heap.size ≤ k_) ∧ some k_ ≠ (v176 : Value).ownBlock) (Kd.R_keptB ((R_apG HO_0.out (by intro k_ hk_ e_; subst e_; first | exact gnG HPG.out HGW.out hk_ | exact gnG HPG.out HGW.out hk_.1 | exact gnG HPG.out HGW.out hk_.1.1 | exact gnG HPG.out HGW.out hk_.1.1.1 | exact gnG HPG.out HGW.out hk_.1.1.1.1))) hkp (fun k_ hk_ hs_ => Or.elim hs_ (fun hs_ => (hk_.1.2) hs_) (fun e_ => (hk_.2) e_))) (fun k_ hk_ => ⟨hk_.1.1.1, fun e_ => Or.elim (ho0.1 k_ e_.symm) (fun hs_ => hk_.2.1 (.inl hs_)) (fun hn_ => Nat.not_le.2 hk_.2.2 hn_)⟩)); have n1_ := Aside0.mk (hi); have n2_ := Aside0.mk (Kd.R_mono (ok' := fun k_ => (P0_ k_ ∨ w.heap.size ≤ k_) ∧ some k_ ≠ (.slice Ao11 x0_1.length co11 : Value).ownBlock) ho0 (fun k_ hk_ => ⟨Or.elim hk_ (fun hs_ => (HO172.out.1 k_ (hs_).symm).1) (fun hn_ => (.inr (Nat.le_trans (by first | exact HK.out.1 | exact (show Kept w _ (fun k_ => (P0_ k_) ∨ k_ = g) from by repeat (first | (with_reducible first | exact HK.out | apply Kept.alloc | apply Kept.drewN | apply Kept.drew | refine Kept.setCell ?_ (.inl (.inr rfl)) _) | exact HK.out)).1) hn_))), Or.elim hk_ (fun hs_ => fun e_ => ((((R_apG HO_0.out (by intro k_ hk_ e_; subst e_; first | exact gnG HPG.out HGW.out hk_ | exact gnG HPG.out HGW.out hk_.1 | exact gnG HPG.out HGW.out hk_.1.1 | exact gnG HPG.out HGW.out hk_.1.1.1 | exact gnG HPG.out HGW.out hk_.1.1.1.1))).1 k_ e_.symm).1.2) hs_) (fun hn_ => (Kd.fresh' (Kd.R_lt (by (with_reducible repeat (first | apply Kd.R_alloc | apply Kd.R_drewN | apply Kd.R_drew)); exact HO_0.out)) k_ hn_))⟩)); have n3_ := Aside0.mk (Kept.then_ (S := (fun k_ => (P0_ k_) ∨ k_ = g)) (by repeat (first | (with_reducible first | exact HK.out | apply Kept.alloc | apply Kept.drewN | apply Kept.drew | refine Kept.setCell ?_ (.inl (.inr rfl)) _) | exact HK.out)) hkp (fun k_ hs_ => Or.elim hs_ (fun hs_ => (fun e_ => Or.imp_left Or.inl ((HO172.out.1 k_ e_.symm).1)) hs_) (fun e_ => .inl (.inr e_)))); have n4_ := Aside0.mk (hb); clear HO_0; clear HI3; clear HK; clear HB; clear HO172; have HO_0 := n0_; have HI3 := n1_; have HO177 := n2_; have HK := n3_; have HB := n4_; clear n0_ n1_ n2_ n3_ n4_; (try clear hb); (try clear hkp); (try clear ho0); obtain ⟨Ao34, co34, eo34⟩ := Kd.R_slice HO177.out; subst eo34))
                    go_ret
                    exact ⟨_, by first | rfl | (simp [errW_none, errW_some] <;> rfl) | (simp [*, errW_none, errW_some] <;> rfl), by (with_reducible repeat (first | apply Kd.R_alloc | apply Kd.R_drewN | apply Kd.R_drew)); exact Kd.R_mono HO177.out (fun _ hk => hk.1), by repeat (first | (with_reducible first | exact HI3.out | apply IsS9003.alloc | apply IsS9003.drewN | apply IsS9003.drew | apply IsS9003.set_0) | exact HI3.out), by repeat (first | (with_reducible first | exact HB.out | apply below_alloc | apply pw_below_drewN | apply below_drew1 | refine below_set ?_ (IsS9003.ge HI3.out)) | exact HB.out), by repeat (first | (with_reducible first | exact HK.out | apply Kept.alloc | apply Kept.drewN | apply Kept.drew | refine Kept.setCell ?_ (.inl (.inr rfl)) _) | exact HK.out)⟩
                  · rw [if_neg c26] at H
                    have c26b0 : decide (0 < (t175.length : Int)) = false := decide_eq_false c26
                    have c26b1 : decide (0 < t175.length) = false := decide_eq_false (by omega)
                    clear c26
                    have H' := Aside0.mk H
                    clear H
                    go_wp2_with (first | ((with_reducible refine gate_dst (N := 32) rfl ?_); refine Kd.R_lit (Kd.int .i64) _ 3 ?hg (N := 32) ?hd (xs := ([] : List Int)) (inner := []) (ok := fun _ => True) (okp := fun _ => True) ?hr ?hp (fun _ hk => hk) trivial (Below.refl _ _) (Nat.le_refl _) (by simp) ?_; (case hd => rfl); (case hg => rfl); (case hr => first | (go_simp; done) | (go_simp; rfl)); (case hp => exact (Reps.none _ _)); intro v168 w35 ho36 hb hg_ hnew_; clear hg_ hnew_; (first | rw [← Ny167.out] at ho36 | (simp only [Int.reduceToNat] at ho36; rw [← Ny167.out] at ho36)); have n0_ := Aside0.mk (Kd.R_elder' (by (with_reducible repeat (first | apply Kd.R_alloc | apply Kd.R_drewN | apply Kd.R_drew)); exact HO_0.out) (Kd.R_base ho36) hb); have n1_ := Aside0.mk (Kd.R_lower (Kd.R_new' (Kd.R_newM (M := fun k_ => (P0_ k_ ∨ w.heap.size ≤ k_)) ho36 (by first | exact HK.out.1 | exact (show Kept w _ (fun k_ => (P0_ k_) ∨ k_ = g) from by repeat (first | (with_reducible first | exact HK.out | apply Kept.alloc | apply Kept.drewN | apply Kept.drew | refine Kept.setCell ?_ (.inl (.inr rfl)) _) | exact HK.out)).1) (fun k_ h_ => .inr h_)) (Kd.R_lt (by (with_reducible repeat (first | apply Kd.R_alloc | apply Kd.R_drewN | apply Kd.R_drew)); exact HO_0.out))) (below_size (by repeat (first | (with_reducible first | exact HB.out | apply below_alloc | apply pw_below_drewN | apply below_drew1 | refine below_set ?_ (IsS9003.ge HI3.out)) | exact HB.out)))); have n2_ := Aside0.mk (IsS9003.below (by repeat (first | (with_reducible first | exact HI3.out | apply IsS9003.alloc | apply IsS9003.drewN | apply IsS9003.drew | apply IsS9003.set_0) | exact HI3.out)) hb); have n3_ := Aside0.mk (Kept.below (S := (fun k_ => (P0_ k_) ∨ k_ = g)) (by repeat (first | (with_reducible first | exact HK.out | apply Kept.alloc | apply Kept.drewN | apply Kept.drew | refine Kept.setCell ?_ (.inl (.inr rfl)) _) | exact HK.out)) hb); have n4_ := Aside0.mk (below_step (by repeat (first | (with_reducible first | exact HB.out | apply below_alloc | apply pw_below_drewN | apply below_drew1 | refine below_set ?_ (IsS9003.ge HI3.out)) | exact HB.out)) hb); clear HO_0; clear HI3; clear HK; clear HB; have HO_0 := n0_; have HO169 := n1_; have HI3 := n2_; have HK := n3_; have HB := n4_; clear n0_ n1_ n2_ n3_ n4_; clear hb ho36) | ((with_reducible refine gate_builtin (b := .append) (xs := #[.tmp 32, .tmp 33]) rfl ?_); at_builtin; refine Kd.R_append_rows (Kd.int .i64) (w0 := w0) w0.heap.size rfl (.tmp 32) (.tmp 33) 23 3 (.int .i64 0) 8 rfl Try.underlying23 info3 rfl (by decide) (by omega) v168 y167 x0_1 _ _ _ (fun k_ => (P0_ k_ ∨ w.heap.size ≤ k_) ∧ some k_ ≠ (.slice Ao11 x0_1.length co11 : Value).ownBlock) (fun _ => False) rfl rfl ?aO ?aR (fun _ _ h => h) (fun _ h => h.elim) ?aF ?aB ?aS ?aL ?_; (case aR => repeat (first | exact (Kd.R_reads' HO_0.out).2.2 | (with_reducible refine Kd.C_alloc ?_ _) | (with_reducible refine Kd.C_drewN ?_ _) | (with_reducible refine Kd.C_drew ?_))); (case aB => exact (by repeat (first | (with_reducible first | exact HB.out | apply below_alloc | apply pw_below_drewN | apply below_drew1 | refine below_set ?_ (IsS9003.ge HI3.out)) | exact HB.out))); (case aF => exact (fun k_ hk => ⟨(.inr (Nat.le_trans (by first | exact HK.out.1 | exact (show Kept w _ (fun k_ => (P0_ k_) ∨ k_ = g) from by repeat (first | (with_reducible first | exact HK.out | apply Kept.alloc | apply Kept.drewN | apply Kept.drew | refine Kept.setCell ?_ (.inl (.inr rfl)) _) | exact HK.out)).1) hk)), Kd.fresh' (Kd.R_lt (by (with_reducible repeat (first | apply Kd.R_alloc | apply Kd.R_drewN | apply Kd.R_drew)); exact HO_0.out)) k_ hk⟩)); (case aO => exact (by (with_reducible repeat (first | apply Kd.R_alloc | apply Kd.R_drewN | apply Kd.R_drew)); exact Kd.R_mono HO169.out (fun _ hk => ⟨hk.1.1, hk.2⟩))); (case aS => exact (below_size (by repeat (first | (with_reducible first | exact HB.out | apply below_alloc | apply pw_below_drewN | apply below_drew1 | refine below_set ?_ (IsS9003.ge HI3.out)) | exact HB.out)))); (case aL => have := LMc13.out; omega); intro v171 w37 ho hb hg hat; rw [← Ny170.out] at ho; have n0_ := Aside0.mk (Kd.R_after (ok := (fun k_ => (P0_ k_ ∨ w.heap.size ≤ k_))) (by (with_reducible repeat (first | apply Kd.R_alloc | apply Kd.R_drewN | apply Kd.R_drew)); exact HO_0.out) hg hat); have n1_ := Aside0.mk (IsS9003.grown (by repeat (first | (with_reducible first | exact HI3.out | apply IsS9003.alloc | apply IsS9003.drewN | apply IsS9003.drew | apply IsS9003.set_0) | exact HI3.out)) hg (R_neG HO169.out (by intro k_ hk_ e_; subst e_; first | exact gnG HPG.out HGW.out hk_ | exact gnG HPG.out HGW.out hk_.1 | exact gnG HPG.out HGW.out hk_.1.1 | exact gnG HPG.out HGW.out hk_.1.1.1 | exact gnG HPG.out HGW.out hk_.1.1.1.1))); have n2_ := Aside0.mk (hb); have n3_ := Aside0.mk (Kept.of_grown (S := (fun k_ => (P0_ k_) ∨ k_ = g)) hg (by repeat (first | (with_reducible first | exact HK.out | apply Kept.alloc | apply Kept.drewN | apply Kept.drew | refine Kept.setCell ?_ (.inl (.inr rfl)) _) | exact HK.out)) (fun k_ e_ => Or.imp_left Or.inl ((HO169.out.1 k_ e_).1.1))); have n4_ := Aside0.mk (ho); clear HO_0; clear HI3; clear HB; clear HK; clear HO169; have HO_0 := n0_; have HI3 := n1_; have HB := n2_; have HK := n3_; have HO172 := n4_; clear n0_ n1_ n2_ n3_ n4_; clear ho hb hg hat; have p16 : 0 ≤ (a2 : Int) := of_decide_eq_true (by first | (with_reducible assumption) | assumption); have q16 : (a2 : Int) < ((y170.length : Int) : Int) := of_decide_eq_true (by first | (with_reducible assumption) | assumption); obtain ⟨go16, co16, eo16, gb16, gl16, cl16, HG16⟩ := Kd.R_form HO172.out (by omega); (first | cases eo16 | (injection eo16 with ea_ en_ ec_; (first | subst ea_ | (injection ea_ with ea_; subst ea_)); subst ec_; clear en_)); have GB16 := Aside0.mk gb16; have GG16 := Aside0.mk HG16; clear gb16 gl16 HG16; have HMgo16 := Aside0.mk (show (P0_ go16 ∨ w.heap.size ≤ go16) from (HO172.out.1 _ rfl).1); obtain ⟨hx16_0, hf16_0⟩ := Kd.R_celln 0 HO172.out (a2 : Int) p16 q16; replace p16 := eq_true p16; replace q16 := eq_true q16; obtain ⟨hy38_, hz38_⟩ := Kd.R_celln 0 HO172.out (a2 : Int) (of_decide_eq_true (by first | (with_reducible assumption) | assumption)) (of_decide_eq_true (by first | (with_reducible assumption) | assumption)); have HP38 := Kd.R_putg HO172.out (a2 : Int) x9_1) | ((with_reducible refine gate_store (t := 3) (p := 38) rfl ?_); refine store_event (t := 3) (p := 38) (v := ?vo_w39) (w1 := (w37.setCell ⟨go16, (a2 : Int).toNat, none⟩ (.int .i64 x9_1))) ?hg ?ho ?hn ?hr ?_; (case ho => rfl); (case hg => rfl); (case hn => rfl); (case hr => first | (go_simp; done) | (go_simp; rfl)); intro w39 hw; have hg : w37.grownBy w39 (some go16) := (by rw [hw]; exact HP38.2); have hp_ : Kd.R (Kd.int .i64) 3 w39 w0.heap.size (fun k_ => (P0_ k_ ∨ w.heap.size ≤ k_) ∧ some k_ ≠ (.slice Ao11 x0_1.length co11 : Value).ownBlock) (.slice (some ⟨go16, 0, none⟩) y170.length co16) y173 := (by rw [hw, Ny173.out]; exact HP38.1); clear HP38; have n0_ := Aside0.mk (Kd.R_after (v := (.slice (some ⟨go16, 0, none⟩) y170.length co16)) (v1 := (.slice (some ⟨go16, 0, none⟩) y170.length co16)) (ok := (fun k_ => (P0_ k_ ∨ w.heap.size ≤ k_))) (by (with_reducible repeat (first | apply Kd.R_alloc | apply Kd.R_drewN | apply Kd.R_drew)); exact HO_0.out) hg (.inl rfl)); have n1_ := Aside0.mk (IsS9003.grown (by repeat (first | (with_reducible first | exact HI3.out | apply IsS9003.alloc | apply IsS9003.drewN | apply IsS9003.drew | apply IsS9003.set_0) | exact HI3.out)) hg (R_neG HO172.out (by intro k_ hk_ e_; subst e_; first | exact gnG HPG.out HGW.out hk_ | exact gnG HPG.out HGW.out hk_.1 | exact gnG HPG.out HGW.out hk_.1.1 | exact gnG HPG.out HGW.out hk_.1.1.1 | exact gnG HPG.out HGW.out hk_.1.1.1.1))); have n2_ := Aside0.mk (hp_); have n3_ := Aside0.mk ((by rw [hw]; exact below_set (HB.out) GB16.out : Below w0.heap.size w0 w39)); have n4_ := Aside0.mk (Kept.of_grown (S := (fun k_ => (P0_ k_) ∨ k_ = g)) hg (by repeat (first | (with_reducible first | exact HK.out | apply Kept.alloc | apply Kept.drewN | apply Kept.drew | refine Kept.setCell ?_ (.inl (.inr rfl)) _) | exact HK.out)) (fun k_ e_ => Or.imp_left Or.inl ((HO172.out.1 k_ e_).1))); clear HO_0; clear HI3; clear HO172; clear HB; clear HK; have HO_0 := n0_; have HI3 := n1_; have HO172 := n2_; have HB := n3_; have HK := n4_; clear n0_ n1_ n2_ n3_ n4_; clear hg hw hp_) | ((with_reducible refine gate_callee (f := 92) rfl ?_); refine goesL_ (some 41) rfl rfl Try.func92 (by kernel_rfl) rfl #[.slice (some ⟨go16, 0, none⟩) y173.length co16, .int .i64 a1] rfl (by (try simp only [List.map_toArray, List.map_cons, List.map_nil]); first | done | (rw [show y173.length = y170.length from (Kd.R_reads' HO172.out).1.symm] <;> rfl) | rfl | (simp only [List.length_drop, List.length_take]; rfl)) ?_; (with_reducible refine (spec_l2Clash.calls k1 _ _ y173 a1 false _ ?side1 ?side2 A17.out).mono ?_); (case side1 => repeat (first | exact (Kd.R_reads' HO172.out).2.2 | (with_reducible refine Kd.C_alloc ?_ _) | (with_reducible refine Kd.C_drewN ?_ _) | (with_reducible refine Kd.C_drew ?_))); (case side2 => rw [show y173.length = y170.length from (Kd.R_reads' HO172.out).1.symm]; exact (Kd.R_reads' HO172.out).2.1); rintro e w40 ⟨rfl, hb⟩; refine ⟨_, rfl, ?_⟩; have n0_ := Aside0.mk (Kd.R_below (by (with_reducible repeat (first | apply Kd.R_alloc | apply Kd.R_drewN | apply Kd.R_drew)); exact HO_0.out) hb); have n1_ := Aside0.mk (Kd.R_below (by (with_reducible repeat (first | apply Kd.R_alloc | apply Kd.R_drewN | apply Kd.R_drew)); exact HO172.out) hb); have n2_ := Aside0.mk (IsS9003.below (by repeat (first | (with_reducible first | exact HI3.out | apply IsS9003.alloc | apply IsS9003.drewN | apply IsS9003.drew | apply IsS9003.set_0) | exact HI3.out)) hb); have n3_ := Aside0.mk (Kept.below (S := (fun k_ => (P0_ k_) ∨ k_ = g)) (by repeat (first | (with_reducible first | exact HK.out | apply Kept.alloc | apply Kept.drewN | apply Kept.drew | refine Kept.setCell ?_ (.inl (.inr rfl)) _) | exact HK.out)) hb); have n4_ := Aside0.mk (below_step (by repeat (first | (with_reducible first | exact HB.out | apply below_alloc | apply pw_below_drewN | apply below_drew1 | refine below_set ?_ (IsS9003.ge HI3.out)) | exact HB.out)) hb); clear HO_0; clear HO172; clear HI3; clear HK; clear HB; have HO_0 := n0_; have HO172 := n1_; have HI3 := n2_; have HK := n3_; have HB := n4_; clear n0_ n1_ n2_ n3_ n4_; (try clear hb); (try clear hb2); (try clear hk); (try clear hi)) | ((with_reducible refine gate_callee (f := 109) rfl ?_); refine goesL_ (some 47) rfl rfl Try.func109 (by kernel_rfl) rfl #[.slice (some ⟨go16, 0, none⟩) y170.length co16, .int .i64 a1, .int .i64 (wrap64 (a2 + 1)), .pointer (some ⟨g, 0, none⟩)] rfl (by (try simp only [List.map_toArray, List.map_cons, List.map_nil]); first | done | rfl | (simp only [List.length_drop, List.length_take]; rfl)) ?_; (with_reducible refine (ih k1 (by have := HK1.out; omega) (fun k_ => some k_ = (.slice (some ⟨go16, 0, none⟩) y170.length co16 : Value).ownBlock) (.slice (some ⟨go16, 0, none⟩) y170.length co16) y173 a1 (wrap64 (a2 + 1)) g x4000_1 t175 t178 w0 _ ?side1 ?side2 ?side3 ?side4 A25.out).mono ?_); (case side4 => exact R_neG HO172.out (by intro k_ hk_ e_; subst e_; first | exact gnG HPG.out HGW.out hk_ | exact gnG HPG.out HGW.out hk_.1 | exact gnG HPG.out HGW.out hk_.1.1 | exact gnG HPG.out HGW.out hk_.1.1.1 | exact gnG HPG.out HGW.out hk_.1.1.1.1)); (case side1 => repeat (first | (with_reducible first | exact HI3.out | apply IsS9003.alloc | apply IsS9003.drewN | apply IsS9003.drew | apply IsS9003.set_0) | exact HI3.out)); (case side2 => repeat (first | (with_reducible first | exact HB.out | apply below_alloc | apply pw_below_drewN | apply below_drew1 | refine below_set ?_ (IsS9003.ge HI3.out)) | exact HB.out)); (case side3 => exact Kd.R_tight rfl HO172.out); rintro e w41 ⟨v176, rfl, ho0, hi, hb, hkp⟩; refine ⟨_, rfl, ?_⟩; have n0_ := Aside0.mk (Kd.R_mono (ok' := fun k_ => (P0_ k_ ∨ w.heap.size ≤ k_) ∧ some k_ ≠ (v176 : Value).ownBlock) (Kd.R_keptB ((R_apG HO_0.out (by intro k_ hk_ e_; subst e_; first | exact gnG HPG.out HGW.out hk_ | exact gnG HPG.out HGW.out hk_.1 | exact gnG HPG.out HGW.out hk_.1.1 | exact gnG HPG.out HGW.out hk_.1.1.1 | exact gnG HPG.out HGW.out hk_.1.1.1.1))) hkp (fun k_ hk_ hs_ => Or.elim hs_ (fun hs_ => (hk_.1.2) hs_) (fun e_ => (hk_.2) e_))) (fun k_ hk_ => ⟨hk_.1.1.1, fun e_ => Or.elim (ho0.1 k_ e_.symm) (fun hs_ => hk_.2.1 (.inl hs_)) (fun hn_ => Nat.not_le.2 hk_.2.2 hn_)⟩)); have n1_ := Aside0.mk (hi); have n2_ := Aside0.mk (Kd.R_mono (ok' := fun k_ => (P0_ k_ ∨ w.heap.size ≤ k_) ∧ some k_ ≠ (.slice Ao11 x0_1.length co11 : Value).ownBlock) ho0 (fun k_ hk_ => ⟨Or.elim hk_ (fun hs_ => (HO172.out.1 k_ (hs_).symm).1) (fun hn_ => (.inr (Nat.le_trans (by first | exact HK.out.1 | exact (show Kept w _ (fun k_ => (P0_ k_) ∨ k_ = g) from by repeat (first | (with_reducible first | exact HK.out | apply Kept.alloc | apply Kept.drewN | apply Kept.drew | refine Kept.setCell ?_ (.inl (.inr rfl)) _) | exact HK.out)).1) hn_))), Or.elim hk_ (fun hs_ => fun e_ => ((((R_apG HO_0.out (by intro k_ hk_ e_; subst e_; first | exact gnG HPG.out HGW.out hk_ | exact gnG HPG.out HGW.out hk_.1 | exact gnG HPG.out HGW.out hk_.1.1 | exact gnG HPG.out HGW.out hk_.1.1.1 | exact gnG HPG.out HGW.out hk_.1.1.1.1))).1 k_ e_.symm).1.2) hs_) (fun hn_ => (Kd.fresh' (Kd.R_lt (by (with_reducible repeat (first | apply Kd.R_alloc | apply Kd.R_drewN | apply Kd.R_drew)); exact HO_0.out)) k_ hn_))⟩)); have n3_ := Aside0.mk (Kept.then_ (S := (fun k_ => (P0_ k_) ∨ k_ = g)) (by repeat (first | (with_reducible first | exact HK.out | apply Kept.alloc | apply Kept.drewN | apply Kept.drew | refine Kept.setCell ?_ (.inl (.inr rfl)) _) | exact HK.out)) hkp (fun k_ hs_ => Or.elim hs_ (fun hs_ => (fun e_ => Or.imp_left Or.inl ((HO172.out.1 k_ e_.symm).1)) hs_) (fun e_ => .inl (.inr e_)))); have n4_ := Aside0.mk (hb); clear HO_0; clear HI3; clear HK; clear HB; clear HO172; have HO_0 := n0_; have HI3 := n1_; have HO177 := n2_; have HK := n3_; have HB := n4_; clear n0_ n1_ n2_ n3_ n4_; (try clear hb); (try clear hkp); (try clear ho0); obtain ⟨Ao42, co42, eo42⟩ := Kd.R_slice HO177.out; subst eo42))
                    (try simp only [← hl0_1])
                    go_roundg k1
                    case measure => have := HK1.out; omega
                    case rel => exact ⟨(x0_1), (wrap64 (x9_1 + 1)), (t178), (by first | rfl | (simp; done) | (simp [*]; done)), H', ⟨by have := HK1.out; omega⟩, ⟨by (try simp only [hl0_1]); (with_reducible repeat (first | apply Kd.R_alloc | apply Kd.R_drewN | apply Kd.R_drew)); exact Kd.R_mono HO_0.out (fun _ hk => hk.1)⟩, ⟨by repeat (first | (with_reducible first | exact HI3.out | apply IsS9003.alloc | apply IsS9003.drewN | apply IsS9003.drew | apply IsS9003.set_0) | exact HI3.out)⟩, ⟨by repeat (first | (with_reducible first | exact HK.out | apply Kept.alloc | apply Kept.drewN | apply Kept.drew | refine Kept.setCell ?_ (.inl (.inr rfl)) _) | exact HK.out)⟩, ⟨by repeat (first | (with_reducible first | exact HB.out | apply below_alloc | apply pw_below_drewN | apply below_drew1 | refine below_set ?_ (IsS9003.ge HI3.out)) | exact HB.out)⟩⟩
              · rw [if_neg c15] at H
                exact absurd H (by simp)
            · rw [if_neg c14] at H
              exact absurd H (by simp)
          · rw [if_neg c13] at H
            exact absurd H (by simp)
        · rw [if_neg c12] at H
          have c12b0 : decide (x9_1 ≤ a1) = false := decide_eq_false c12
          clear c12
          simp only [Option.some.injEq, Prod.mk.injEq] at H
          obtain ⟨rfl, rfl⟩ := H
          go_wp2
          go_ret
          exact ⟨_, by first | rfl | (simp [errW_none, errW_some] <;> rfl) | (simp [*, errW_none, errW_some] <;> rfl), by first | exact Kd.R_nil _ _ _ _ _ | exact Kd.N_nil _ _ _ _ _ | exact Kd.V_nil _ _ _ _ _ | exact Kd.Q_nil _ _ _ _ _ | exact Kd.S_nil _ _ _ _ _, by repeat (first | (with_reducible first | exact HI3.out | apply IsS9003.alloc | apply IsS9003.drewN | apply IsS9003.drew | apply IsS9003.set_0) | exact HI3.out), by repeat (first | (with_reducible first | exact HB.out | apply below_alloc | apply pw_below_drewN | apply below_drew1 | refine below_set ?_ (IsS9003.ge HI3.out)) | exact HB.out), by repeat (first | (with_reducible first | exact HK.out | apply Kept.alloc | apply Kept.drewN | apply Kept.drew | refine Kept.setCell ?_ (.inl (.inr rfl)) _) | exact HK.out)⟩
def spec_SquareNumber.f (k : Nat) (a0 : Int) (a1 : Int) : Option (List Int) := (spec_l1In.f a0 2 4).bind fun t179 => (if t179 = true then (if a1 < 0 then (some (([] : List Int))) else (if 0 ≤ (wrap64 (a0 * a0)) then (if (wrap64 (a0 * a0) : Int).toNat ≤ 35184372088832 then ((spec_l2Search.f k (List.replicate (wrap64 (a0 * a0) : Int).toNat 0) a0 0 a1).bind fun bt187 => ((some (([] : List Int) : List Int)).bind fun y191 => (if y191.length + bt187.1.length < 17592186044416 then (some (y191 ++ bt187.1)) else (none)))) else (none)) else (none))) else (some (([] : List Int))))
set_option maxHeartbeats 8000000 in
set_option maxRecDepth 100000 in
theorem spec_SquareNumber.calls (k : Nat) (a0 : Int) (a1 : Int) (r : List Int) (w : World) (h : spec_SquareNumber.f k a0 a1 = some r) :
    Calls Try.prog 90 #[.int .i64 a0, .int .i64 a1] w fun e w' => ∃ v0_ : Value, e = .returned (v0_) ∧ Kd.R (Kd.int .i64) 3 w' w.heap.size (fun _ => True) v0_ r ∧ Below w.heap.size w w' := by
  have HB := Aside0.mk (Below.refl w.heap.size w)
  have H : ((spec_l1In.f a0 2 4).bind fun t179 => (if t179 = true then (if a1 < 0 then (some (([] : List Int))) else (if 0 ≤ (wrap64 (a0 * a0)) then (if (wrap64 (a0 * a0) : Int).toNat ≤ 35184372088832 then ((spec_l2Search.f k (List.replicate (wrap64 (a0 * a0) : Int).toNat 0) a0 0 a1).bind fun bt187 => ((some (([] : List Int) : List Int)).bind fun y191 => (if y191.length + bt187.1.length < 17592186044416 then (some (y191 ++ bt187.1)) else (none)))) else (none)) else (none))) else (some (([] : List Int))))) = some r := h
  clear h
  replace H := Option.bind_eq_some_iff.mp H
  obtain ⟨t179, A30, H⟩ := H
  replace H : (if t179 = true then (if a1 < 0 then (some (([] : List Int))) else (if 0 ≤ (wrap64 (a0 * a0)) then (if (wrap64 (a0 * a0) : Int).toNat ≤ 35184372088832 then ((spec_l2Search.f k (List.replicate (wrap64 (a0 * a0) : Int).toNat 0) a0 0 a1).bind fun bt187 => ((some (([] : List Int) : List Int)).bind fun y191 => (if y191.length + bt187.1.length < 17592186044416 then (some (y191 ++ bt187.1)) else (none)))) else (none)) else (none))) else (some (([] : List Int)))) = some r := H
  have A3 := Aside0.mk A30
  clear A30
  by_cases c4 : t179 = true
  · subst c4
    have H1 : (if a1 < 0 then (some (([] : List Int))) else (if 0 ≤ (wrap64 (a0 * a0)) then (if (wrap64 (a0 * a0) : Int).toNat ≤ 35184372088832 then ((spec_l2Search.f k (List.replicate (wrap64 (a0 * a0) : Int).toNat 0) a0 0 a1).bind fun bt187 => ((some (([] : List Int) : List Int)).bind fun y191 => (if y191.length + bt187.1.length < 17592186044416 then (some (y191 ++ bt187.1)) else (none)))) else (none)) else (none))) = some r := by rw [if_pos rfl] at H; exact H
    clear H
    have H := H1
    clear H1
    by_cases c5 : a1 < 0
    · rw [if_pos c5] at H
      have c5b0 : decide (a1 < 0) = true := decide_eq_true c5
      clear c5
      obtain ⟨y180, hy180⟩ : ∃ y_ : List Int, y_ = (([] : List Int)) := ⟨_, rfl⟩
      replace H : (some y180) = some r := by first | (rw [hy180]; with_reducible exact H) | (have H2_ := (Option.bind_some _ _).symm.trans H; rw [hy180]; with_reducible exact H2_) | (have H2_ := (Option.bind_some _ _).symm.trans H; with_reducible exact H2_) | with_reducible exact H | (rw [hy180]; exact H) | exact H
      have Ny180 := Aside0.mk hy180
      clear hy180
      obtain rfl := Option.some.inj H
      go_enter Try.func90, Try.ntmps90
      go_wp2_with (first | ((with_reducible refine gate_callee (f := 52) rfl ?_); refine goesL_ (some 9) rfl rfl Try.func52 (by kernel_rfl) rfl #[.int .i64 a0, .int .i64 2, .int .i64 4] rfl (by (try simp only [List.map_toArray, List.map_cons, List.map_nil]); first | done | rfl | (simp only [List.length_drop, List.length_take]; rfl)) ?_; (with_reducible refine (spec_l1In.calls a0 2 4 true _ A3.out).mono ?_); rintro e w' ⟨rfl, ⟨nd, rfl⟩⟩; refine ⟨_, rfl, ?_⟩) | ((with_reducible refine gate_dst (N := 15) rfl ?_); refine Kd.R_lit (Kd.int .i64) _ 3 ?hg (N := 15) ?hd (xs := ([] : List Int)) (inner := []) (ok := fun _ => True) (okp := fun _ => True) ?hr ?hp (fun _ hk => hk) trivial (Below.refl _ _) (Nat.le_refl _) (by simp) ?_; (case hd => rfl); (case hg => rfl); (case hr => first | (go_simp; done) | (go_simp; rfl)); (case hp => exact (Reps.none _ _)); intro v181 w6 ho7 hb hg_ hnew_; clear hg_ hnew_; (first | rw [← Ny180.out] at ho7 | (simp only [Int.reduceToNat] at ho7; rw [← Ny180.out] at ho7)); have n0_ := Aside0.mk (Kd.R_lower ho7 (below_size (by repeat (first | (with_reducible first | exact HB.out | apply below_alloc | apply pw_below_drewN | apply below_drew1) | exact HB.out)))); have n1_ := Aside0.mk (below_step (by repeat (first | (with_reducible first | exact HB.out | apply below_alloc | apply pw_below_drewN | apply below_drew1) | exact HB.out)) hb); clear HB; have HO182 := n0_; have HB := n1_; clear n0_ n1_; clear hb ho7))
      go_ret
      exact ⟨_, by first | rfl | (simp [errW_none, errW_some] <;> rfl) | (simp [*, errW_none, errW_some] <;> rfl), by (with_reducible repeat (first | apply Kd.R_alloc | apply Kd.R_drewN | apply Kd.R_drew)); exact HO182.out, by repeat (first | (with_reducible first | exact HB.out | apply below_alloc | apply pw_below_drewN | apply below_drew1) | exact HB.out)⟩
    · rw [if_neg c5] at H
      have c5b0 : decide (a1 < 0) = false := decide_eq_false c5
      clear c5
      obtain ⟨ji8, hji8⟩ : ∃ j_ : Int, (wrap64 (a0 * a0)) = j_ := ⟨_, rfl⟩
      replace H : (if 0 ≤ (ji8) then (if (ji8 : Int).toNat ≤ 35184372088832 then ((spec_l2Search.f k (List.replicate (ji8 : Int).toNat 0) a0 0 a1).bind fun bt187 => ((some (([] : List Int) : List Int)).bind fun y191 => (if y191.length + bt187.1.length < 17592186044416 then (some (y191 ++ bt187.1)) else (none)))) else (none)) else (none)) = some r := by first | (rw [hji8] at H; exact H) | (simp only [hji8] at H ⊢; exact H)
      (try rw [hji8] at A3)
      have hji8w : (IntKind.i64.wrap (a0 * a0)) = ji8 := (i64_w _).trans hji8
      by_cases c9 : 0 ≤ (ji8)
      · rw [if_pos c9] at H
        have c9b0 := eq_true c9
        have c9b1 : decide (0 ≤ (ji8)) = true := decide_eq_true c9
        clear c9
        by_cases c10 : (ji8 : Int).toNat ≤ 35184372088832
        · rw [if_pos c10] at H
          have c10b0 := eq_true c10
          have c10b1 : decide ((ji8 : Int).toNat ≤ 35184372088832) = true := decide_eq_true c10
          clear c10
          obtain ⟨y184, hy184⟩ : ∃ y_ : List Int, y_ = (List.replicate (ji8 : Int).toNat 0) := ⟨_, rfl⟩
          replace H : ((spec_l2Search.f k y184 a0 0 a1).bind fun bt187 => ((some (([] : List Int) : List Int)).bind fun y191 => (if y191.length + bt187.1.length < 17592186044416 then (some (y191 ++ bt187.1)) else (none)))) = some r := by first | (rw [hy184]; with_reducible exact H) | (have H2_ := (Option.bind_some _ _).symm.trans H; rw [hy184]; with_reducible exact H2_) | (have H2_ := (Option.bind_some _ _).symm.trans H; with_reducible exact H2_) | with_reducible exact H | (rw [hy184]; exact H) | exact H
          have Ny184 := Aside0.mk hy184
          clear hy184
          replace H := Option.bind_eq_some_iff.mp H
          obtain ⟨⟨t187, t190⟩, A110, H⟩ := H
          replace H : ((some (([] : List Int) : List Int)).bind fun y191 => (if y191.length + t187.length < 17592186044416 then (some (y191 ++ t187)) else (none))) = some r := H
          have A11 := Aside0.mk A110
          clear A110
          obtain ⟨y191, hy191⟩ : ∃ y_ : List Int, y_ = (([] : List Int)) := ⟨_, rfl⟩
          replace H : (if y191.length + t187.length < 17592186044416 then (some (y191 ++ t187)) else (none)) = some r := by first | (rw [hy191]; with_reducible exact H) | (have H2_ := (Option.bind_some _ _).symm.trans H; rw [hy191]; with_reducible exact H2_) | (have H2_ := (Option.bind_some _ _).symm.trans H; with_reducible exact H2_) | with_reducible exact H | (rw [hy191]; exact H) | exact H
          have Ny191 := Aside0.mk hy191
          clear hy191
          by_cases c12 : y191.length + t187.length < 17592186044416
          · rw [if_pos c12] at H
            have LMc12 := Aside0.mk c12
            clear c12
            obtain ⟨y194, hy194⟩ : ∃ y_ : List Int, y_ = (y191 ++ t187) := ⟨_, rfl⟩
            replace H : (some y194) = some r := by first | (rw [hy194]; with_reducible exact H) | (have H2_ := (Option.bind_some _ _).symm.trans H; rw [hy194]; with_reducible exact H2_) | (have H2_ := (Option.bind_some _ _).symm.trans H; with_reducible exact H2_) | with_reducible exact H | (rw [hy194]; exact H) | exact H
            have Ny194 := Aside0.mk hy194
            clear hy194
            obtain rfl := Option.some.inj H
            go_enter Try.func90, Try.ntmps90
            go_wp2_with (first | ((with_reducible refine gate_callee (f := 52) rfl ?_); refine goesL_ (some 9) rfl rfl Try.func52 (by kernel_rfl) rfl #[.int .i64 a0, .int .i64 2, .int .i64 4] rfl (by (try simp only [List.map_toArray, List.map_cons, List.map_nil]); first | done | rfl | (simp only [List.length_drop, List.length_take]; rfl)) ?_; (with_reducible refine (spec_l1In.calls a0 2 4 true _ A3.out).mono ?_); rintro e w' ⟨rfl, ⟨nd, rfl⟩⟩; refine ⟨_, rfl, ?_⟩) | ((with_reducible refine gate_dst (N := 5) rfl ?_); refine box_event ?hg (N := 5) ?hd (cs := #[.int .i64 0]) (t := 3) ?hr ?_; (case hd => rfl); (case hg => rfl); (case hr => first | (go_simp; done) | (go_simp; rfl)); intro gb183 hg w13 hbox hb; have n0_ := Aside0.mk (below_step (by repeat (first | (with_reducible first | exact HB.out | apply below_alloc | apply pw_below_drewN | apply below_drew1) | exact HB.out)) hb); have n1_ := Aside0.mk ((show IsS9003 w w13 gb183 0 from ⟨hbox, by rw [hg]; exact (below_size (by repeat (first | (with_reducible first | exact HB.out | apply below_alloc | apply pw_below_drewN | apply below_drew1) | exact HB.out)))⟩)); clear HB; have HB := n0_; have HI183 := n1_; clear n0_ n1_; clear hb hbox hg; obtain ⟨HGz14, hgz14⟩ := HI183.out; have hcz14_0 := cellS9003_0 HGz14; have hfz14_0 := blk_frozen HGz14 0; clear HGz14 hgz14) | ((with_reducible refine gate_dst (N := 20) rfl ?_); refine Kd.R_make (Kd.int .i64) _ 3 rfl (N := 20) rfl 23 _ _ rfl ji8 rfl rfl Try.underlying23 (.int .i64 0) 8 info3 rfl (by decide) (by omega) 0 (ok := fun k_ => k_ ≠ gb183) (okp := fun _ => False) rfl (fun _ hk => hk.elim) ?hfr (of_decide_eq_true (by first | (with_reducible assumption) | assumption)) (Nat.le_trans (Nat.mul_le_mul_right _ (of_decide_eq_true (by first | (with_reducible assumption) | assumption) : ji8.toNat ≤ 35184372088832)) (by omega)) (Below.refl _ _) (Nat.le_refl _) ?_; (case hfr => exact (IsS9003.fresh (show IsS9003 w (w13.setCell ⟨gb183, 0, none⟩ (.int .i64 a1)) gb183 a1 from by repeat (first | (with_reducible first | exact HI183.out | apply IsS9003.alloc | apply IsS9003.drewN | apply IsS9003.drew | apply IsS9003.set_0) | exact HI183.out)) _ (Nat.le_refl _))); intro v185 w15 ho16 hb hg_ hnew_; clear hg_ hnew_; (first | rw [← Ny184.out] at ho16 | (simp only [Int.reduceToNat] at ho16; rw [← Ny184.out] at ho16)); have n0_ := Aside0.mk (Kd.R_lower ho16 (below_size (by repeat (first | (with_reducible first | exact HB.out | apply below_alloc | apply pw_below_drewN | apply below_drew1 | refine below_set ?_ (IsS9003.ge HI183.out)) | exact HB.out)))); have n1_ := Aside0.mk (IsS9003.below (show IsS9003 w (w13.setCell ⟨gb183, 0, none⟩ (.int .i64 a1)) gb183 a1 from by repeat (first | (with_reducible first | exact HI183.out | apply IsS9003.alloc | apply IsS9003.drewN | apply IsS9003.drew | apply IsS9003.set_0) | exact HI183.out)) hb); have n2_ := Aside0.mk (below_step (by repeat (first | (with_reducible first | exact HB.out | apply below_alloc | apply pw_below_drewN | apply below_drew1 | refine below_set ?_ (IsS9003.ge HI183.out)) | exact HB.out)) hb); clear HI183; clear HB; have HO186 := n0_; have HI183 := n1_; have HB := n2_; clear n0_ n1_ n2_; clear hb ho16; obtain ⟨Ao17, co17, eo17⟩ := Kd.R_slice HO186.out; subst eo17) | ((with_reducible refine gate_callee (f := 109) rfl ?_); refine goesL_ (some 23) rfl rfl Try.func109 (by kernel_rfl) rfl #[.slice Ao17 y184.length co17, .int .i64 a0, .int .i64 0, .pointer (some ⟨gb183, 0, none⟩)] rfl (by (try simp only [List.map_toArray, List.map_cons, List.map_nil]); first | done | rfl | (simp only [List.length_drop, List.length_take]; rfl)) ?_; (with_reducible refine (spec_l2Search.calls k (fun k_ => some k_ = (.slice Ao17 y184.length co17 : Value).ownBlock) (.slice Ao17 y184.length co17) y184 a0 0 gb183 a1 t187 t190 w _ ?side1 ?side2 ?side3 ?side4 A11.out).mono ?_); (case side4 => exact R_neG HO186.out (fun _ h_ => h_)); (case side1 => repeat (first | (with_reducible first | exact HI183.out | apply IsS9003.alloc | apply IsS9003.drewN | apply IsS9003.drew | apply IsS9003.set_0) | exact HI183.out)); (case side2 => repeat (first | (with_reducible first | exact HB.out | apply below_alloc | apply pw_below_drewN | apply below_drew1 | refine below_set ?_ (IsS9003.ge HI183.out)) | exact HB.out)); (case side3 => exact Kd.R_tight rfl HO186.out); rintro e w18 ⟨v188, rfl, ho0, hi, hb, hkp⟩; refine ⟨_, rfl, ?_⟩; have n0_ := Aside0.mk (hi); have n1_ := Aside0.mk (Kd.R_mono (ok' := fun k_ => True) ho0 (fun k_ hk_ => trivial)); have n2_ := Aside0.mk (hb); clear HI183; clear HB; clear HO186; have HI183 := n0_; have HO189 := n1_; have HB := n2_; clear n0_ n1_ n2_; (try clear hb); (try clear hkp); (try clear ho0)) | ((with_reducible refine gate_dst (N := 24) rfl ?_); refine Kd.R_lit (Kd.int .i64) _ 3 ?hg (N := 24) ?hd (xs := ([] : List Int)) (inner := []) (ok := fun k_ => k_ ≠ gb183) (okp := fun _ => False) ?hr ?hp (fun _ hk => hk.elim) ?hfr (Below.refl _ _) (Nat.le_refl _) (by simp) ?_; (case hfr => exact (IsS9003.fresh (by repeat (first | (with_reducible first | exact HI183.out | apply IsS9003.alloc | apply IsS9003.drewN | apply IsS9003.drew | apply IsS9003.set_0) | exact HI183.out)) _ (Nat.le_refl _))); (case hd => rfl); (case hg => rfl); (case hr => first | (go_simp; done) | (go_simp; rfl)); (case hp => exact (Reps.none _ _)); intro v192 w19 ho20 hb hg_ hnew_; clear hg_ hnew_; (first | rw [← Ny191.out] at ho20 | (simp only [Int.reduceToNat] at ho20; rw [← Ny191.out] at ho20)); have n0_ := Aside0.mk (Kd.R_elder' (by (with_reducible repeat (first | apply Kd.R_alloc | apply Kd.R_drewN | apply Kd.R_drew)); exact HO189.out) (Kd.R_base ho20) hb); have n1_ := Aside0.mk (Kd.R_lower (Kd.R_new' ho20 (Kd.R_lt (by (with_reducible repeat (first | apply Kd.R_alloc | apply Kd.R_drewN | apply Kd.R_drew)); exact HO189.out))) (below_size (by repeat (first | (with_reducible first | exact HB.out | apply below_alloc | apply pw_below_drewN | apply below_drew1 | refine below_set ?_ (IsS9003.ge HI183.out)) | exact HB.out)))); have n2_ := Aside0.mk (IsS9003.below (by repeat (first | (with_reducible first | exact HI183.out | apply IsS9003.alloc | apply IsS9003.drewN | apply IsS9003.drew | apply IsS9003.set_0) | exact HI183.out)) hb); have n3_ := Aside0.mk (below_step (by repeat (first | (with_reducible first | exact HB.out | apply below_alloc | apply pw_below_drewN | apply below_drew1 | refine below_set ?_ (IsS9003.ge HI183.out)) | exact HB.out)) hb); clear HO189; clear HI183; clear HB; have HO189 := n0_; have HO193 := n1_; have HI183 := n2_; have HB := n3_; clear n0_ n1_ n2_ n3_; clear hb ho20; obtain ⟨Ao22, co22, eo22⟩ := Kd.R_slice HO189.out; subst eo22) | ((with_reducible refine gate_builtin (b := .append) (xs := #[.tmp 24, .tmp 25]) rfl ?_); at_builtin; refine Kd.R_append_rows (Kd.int .i64) (w0 := w) w.heap.size rfl (.tmp 24) (.tmp 25) 23 3 (.int .i64 0) 8 rfl Try.underlying23 info3 rfl (by decide) (by omega) v192 y191 t187 _ _ _ (fun k_ => some k_ ≠ (.slice Ao22 t187.length co22 : Value).ownBlock) (fun _ => False) rfl rfl ?aO ?aR (fun _ _ h => h) (fun _ h => h.elim) ?aF ?aB ?aS ?aL ?_; (case aR => repeat (first | exact (Kd.R_reads' HO189.out).2.2 | (with_reducible refine Kd.C_alloc ?_ _) | (with_reducible refine Kd.C_drewN ?_ _) | (with_reducible refine Kd.C_drew ?_))); (case aB => exact (by repeat (first | (with_reducible first | exact HB.out | apply below_alloc | apply pw_below_drewN | apply below_drew1 | refine below_set ?_ (IsS9003.ge HI183.out)) | exact HB.out))); (case aF => exact (fun k_ hk => Kd.fresh' (Kd.R_lt (by (with_reducible repeat (first | apply Kd.R_alloc | apply Kd.R_drewN | apply Kd.R_drew)); exact HO189.out)) k_ hk)); (case aO => exact (by (with_reducible repeat (first | apply Kd.R_alloc | apply Kd.R_drewN | apply Kd.R_drew)); exact Kd.R_mono HO193.out (fun _ hk => hk.2))); (case aS => exact (below_size (by repeat (first | (with_reducible first | exact HB.out | apply below_alloc | apply pw_below_drewN | apply below_drew1 | refine below_set ?_ (IsS9003.ge HI183.out)) | exact HB.out)))); (case aL => have := LMc12.out; omega); intro v195 w21 ho hb hg hat; rw [← Ny194.out] at ho; have n0_ := Aside0.mk (IsS9003.grown (by repeat (first | (with_reducible first | exact HI183.out | apply IsS9003.alloc | apply IsS9003.drewN | apply IsS9003.drew | apply IsS9003.set_0) | exact HI183.out)) hg (R_neG HO193.out (fun _ h_ => h_.1))); have n1_ := Aside0.mk (Kd.R_after (ok := (fun _ => True)) (by (with_reducible repeat (first | apply Kd.R_alloc | apply Kd.R_drewN | apply Kd.R_drew)); exact HO189.out) hg hat); have n2_ := Aside0.mk (hb); have n3_ := Aside0.mk (ho); clear HI183; clear HO189; clear HB; clear HO193; have HI183 := n0_; have HO189 := n1_; have HB := n2_; have HO196 := n3_; clear n0_ n1_ n2_ n3_; clear ho hb hg hat))
            go_ret
            exact ⟨_, by first | rfl | (simp [errW_none, errW_some] <;> rfl) | (simp only [← hji8]; first | rfl | (simp [errW_none, errW_some] <;> rfl)) | (simp [*, errW_none, errW_some] <;> rfl), by (with_reducible repeat (first | apply Kd.R_alloc | apply Kd.R_drewN | apply Kd.R_drew)); exact Kd.R_mono HO196.out (fun _ hk => trivial), by repeat (first | (with_reducible first | exact HB.out | apply below_alloc | apply pw_below_drewN | apply below_drew1 | refine below_set ?_ (IsS9003.ge HI183.out)) | exact HB.out)⟩
          · rw [if_neg c12] at H
            exact absurd H (by simp)
        · rw [if_neg c10] at H
          exact absurd H (by simp)
      · rw [if_neg c9] at H
        exact absurd H (by simp)
  · replace c4 := Bool.eq_false_iff.mpr c4
    subst c4
    have H1 : (some (([] : List Int))) = some r := by rw [if_neg (show ¬ (false = true) by decide)] at H; exact H
    clear H
    have H := H1
    clear H1
    obtain ⟨y197, hy197⟩ : ∃ y_ : List Int, y_ = (([] : List Int)) := ⟨_, rfl⟩
    replace H : (some y197) = some r := by first | (rw [hy197]; with_reducible exact H) | (have H2_ := (Option.bind_some _ _).symm.trans H; rw [hy197]; with_reducible exact H2_) | (have H2_ := (Option.bind_some _ _).symm.trans H; with_reducible exact H2_) | with_reducible exact H | (rw [hy197]; exact H) | exact H
    have Ny197 := Aside0.mk hy197
    clear hy197
    obtain rfl := Option.some.inj H
    go_enter Try.func90, Try.ntmps90
    go_wp2_with (first | ((with_reducible refine gate_callee (f := 52) rfl ?_); refine goesL_ (some 9) rfl rfl Try.func52 (by kernel_rfl) rfl #[.int .i64 a0, .int .i64 2, .int .i64 4] rfl (by (try simp only [List.map_toArray, List.map_cons, List.map_nil]); first | done | rfl | (simp only [List.length_drop, List.length_take]; rfl)) ?_; (with_reducible refine (spec_l1In.calls a0 2 4 false _ A3.out).mono ?_); rintro e w' ⟨rfl, ⟨nd, rfl⟩⟩; refine ⟨_, rfl, ?_⟩) | ((with_reducible refine gate_dst (N := 15) rfl ?_); refine Kd.R_lit (Kd.int .i64) _ 3 ?hg (N := 15) ?hd (xs := ([] : List Int)) (inner := []) (ok := fun _ => True) (okp := fun _ => True) ?hr ?hp (fun _ hk => hk) trivial (Below.refl _ _) (Nat.le_refl _) (by simp) ?_; (case hd => rfl); (case hg => rfl); (case hr => first | (go_simp; done) | (go_simp; rfl)); (case hp => exact (Reps.none _ _)); intro v198 w23 ho24 hb hg_ hnew_; clear hg_ hnew_; (first | rw [← Ny197.out] at ho24 | (simp only [Int.reduceToNat] at ho24; rw [← Ny197.out] at ho24)); have n0_ := Aside0.mk (Kd.R_lower ho24 (below_size (by repeat (first | (with_reducible first | exact HB.out | apply below_alloc | apply pw_below_drewN | apply below_drew1) | exact HB.out)))); have n1_ := Aside0.mk (below_step (by repeat (first | (with_reducible first | exact HB.out | apply below_alloc | apply pw_below_drewN | apply below_drew1) | exact HB.out)) hb); clear HB; have HO199 := n0_; have HB := n1_; clear n0_ n1_; clear hb ho24))
    go_ret
    exact ⟨_, by first | rfl | (simp [errW_none, errW_some] <;> rfl) | (simp [*, errW_none, errW_some] <;> rfl), by (with_reducible repeat (first | apply Kd.R_alloc | apply Kd.R_drewN | apply Kd.R_drew)); exact HO199.out, by repeat (first | (with_reducible first | exact HB.out | apply below_alloc | apply pw_below_drewN | apply below_drew1) | exact HB.out)⟩
def spec_l20Solved.f (k : Nat) (s0_0 : List Int) (s0_1 : Int) (a1 : Int) : Option (List Int × Int) := (some (([2, 12, 576] : List Int) : List Int)).bind fun y200 => (if 0 ≤ (wrap64 (a1 - 2)) then (if (wrap64 (a1 - 2)) < (y200.length : Int) then ((spec_l20Rd_pick.f k s0_0 s0_1 256).bind fun bt204 => ((spec_l20Rd_pick.f k s0_0 bt204.2 3).bind fun bt206 => (if (rd y200 (wrap64 (a1 - 2))) = 0 then (none) else ((spec_SquareNumber.f k a1 (Int.tmod (wrap64 ((wrap64 (bt204.1 * 3)) + bt206.1)) (rd y200 (wrap64 (a1 - 2))))).bind fun t208 => (some (t208, bt206.2)))))) else (none)) else (none))
set_option maxHeartbeats 8000000 in
set_option maxRecDepth 100000 in
theorem spec_l20Solved.calls (k : Nat) (g : Nat) (s0_0 : List Int) (s0_1 : Int) (a1 : Int) (r1 : List Int) (r2 : Int) (w0 w : World) (hI : IsS100 w0 w g s0_0 s0_1) (hB : Below w0.heap.size w0 w) (h : spec_l20Solved.f k s0_0 s0_1 a1 = some (r1, r2)) :
    Calls Try.prog 46 #[.pointer (some ⟨g, 0, none⟩), .int .i64 a1] w fun e w' => ∃ v0_ : Value, e = .returned (v0_) ∧ Kd.R (Kd.int .i64) 3 w' w.heap.size (fun _ => True) v0_ r1 ∧ IsS100 w0 w' g s0_0 r2 ∧ Below w0.heap.size w0 w' ∧ KeepBut w w' g none := by
  have HI0 := Aside0.mk hI
  have HK := Aside0.mk (KeepBut.refl w g none)
  have HL := Aside0.mk hB.size
  clear hI
  have HW0 := Aside0.mk hB.size
  have HB := Aside0.mk hB
  clear hB
  have H : ((some (([2, 12, 576] : List Int) : List Int)).bind fun y200 => (if 0 ≤ (wrap64 (a1 - 2)) then (if (wrap64 (a1 - 2)) < (y200.length : Int) then ((spec_l20Rd_pick.f k s0_0 s0_1 256).bind fun bt204 => ((spec_l20Rd_pick.f k s0_0 bt204.2 3).bind fun bt206 => (if (rd y200 (wrap64 (a1 - 2))) = 0 then (none) else ((spec_SquareNumber.f k a1 (Int.tmod (wrap64 ((wrap64 (bt204.1 * 3)) + bt206.1)) (rd y200 (wrap64 (a1 - 2))))).bind fun t208 => (some (t208, bt206.2)))))) else (none)) else (none))) = some (r1, r2) := h
  clear h
  obtain ⟨y200, hy200⟩ : ∃ y_ : List Int, y_ = (([2, 12, 576] : List Int)) := ⟨_, rfl⟩
  replace H : (if 0 ≤ (wrap64 (a1 - 2)) then (if (wrap64 (a1 - 2)) < (y200.length : Int) then ((spec_l20Rd_pick.f k s0_0 s0_1 256).bind fun bt204 => ((spec_l20Rd_pick.f k s0_0 bt204.2 3).bind fun bt206 => (if (rd y200 (wrap64 (a1 - 2))) = 0 then (none) else ((spec_SquareNumber.f k a1 (Int.tmod (wrap64 ((wrap64 (bt204.1 * 3)) + bt206.1)) (rd y200 (wrap64 (a1 - 2))))).bind fun t208 => (some (t208, bt206.2)))))) else (none)) else (none)) = some (r1, r2) := by first | (rw [hy200]; with_reducible exact H) | (have H2_ := (Option.bind_some _ _).symm.trans H; rw [hy200]; with_reducible exact H2_) | (have H2_ := (Option.bind_some _ _).symm.trans H; with_reducible exact H2_) | with_reducible exact H | (rw [hy200]; exact H) | exact H
  have Ny200 := Aside0.mk hy200
  clear hy200
  obtain ⟨ji3, hji3⟩ : ∃ j_ : Int, (wrap64 (a1 - 2)) = j_ := ⟨_, rfl⟩
  replace H : (if 0 ≤ (ji3) then (if (ji3) < (y200.length : Int) then ((spec_l20Rd_pick.f k s0_0 s0_1 256).bind fun bt204 => ((spec_l20Rd_pick.f k s0_0 bt204.2 3).bind fun bt206 => (if (rd y200 (ji3)) = 0 then (none) else ((spec_SquareNumber.f k a1 (Int.tmod (wrap64 ((wrap64 (bt204.1 * 3)) + bt206.1)) (rd y200 (ji3)))).bind fun t208 => (some (t208, bt206.2)))))) else (none)) else (none)) = some (r1, r2) := by first | (rw [hji3] at H; exact H) | (simp only [hji3] at H ⊢; exact H)
  have hji3w : (IntKind.i64.wrap (a1 - 2)) = ji3 := (i64_w _).trans hji3
  by_cases c4 : 0 ≤ (ji3)
  · rw [if_pos c4] at H
    have c4b0 : decide (0 ≤ (ji3)) = true := decide_eq_true c4
    clear c4
    by_cases c5 : (ji3) < (y200.length : Int)
    · rw [if_pos c5] at H
      have c5b0 : decide ((ji3) < (y200.length : Int)) = true := decide_eq_true c5
      clear c5
      replace H := Option.bind_eq_some_iff.mp H
      obtain ⟨⟨t204, t205⟩, A60, H⟩ := H
      replace H : ((spec_l20Rd_pick.f k s0_0 t205 3).bind fun bt206 => (if (rd y200 (ji3)) = 0 then (none) else ((spec_SquareNumber.f k a1 (Int.tmod (wrap64 ((wrap64 (t204 * 3)) + bt206.1)) (rd y200 (ji3)))).bind fun t208 => (some (t208, bt206.2))))) = some (r1, r2) := H
      have A6 := Aside0.mk A60
      clear A60
      replace H := Option.bind_eq_some_iff.mp H
      obtain ⟨⟨t206, t207⟩, A70, H⟩ := H
      replace H : (if (rd y200 (ji3)) = 0 then (none) else ((spec_SquareNumber.f k a1 (Int.tmod (wrap64 ((wrap64 (t204 * 3)) + t206)) (rd y200 (ji3)))).bind fun t208 => (some (t208, t207)))) = some (r1, r2) := H
      have A7 := Aside0.mk A70
      clear A70
      by_cases c8 : (rd y200 (ji3)) = 0
      · rw [if_pos c8] at H
        exact absurd H (by simp)
      · rw [if_neg c8] at H
        have c8b0 : ((rd y200 (ji3)) == 0) = false := beq_eq_false_iff_ne.mpr c8
        have c8b1 : ((rd y200 (ji3)) != 0) = true := bne_iff_ne.mpr c8
        replace H := Option.bind_eq_some_iff.mp H
        obtain ⟨t208, A90, H⟩ := H
        replace H : (some (t208, t207)) = some (r1, r2) := H
        have A9 := Aside0.mk A90
        clear A90
        simp only [Option.some.injEq, Prod.mk.injEq] at H
        obtain ⟨rfl, rfl⟩ := H
        go_enter Try.func46, Try.ntmps46
        go_wp2_with (first | ((with_reducible refine gate_dst (N := 6) rfl ?_); refine Kd.R_lit (Kd.int .i64) _ 3 ?hg (N := 6) ?hd (xs := ([2, 12, 576] : List Int)) (inner := [.int .i64 2, .int .i64 12, .int .i64 576]) (ok := fun _ => True) (okp := fun _ => True) ?hr ?hp (fun _ hk => hk) trivial (Below.refl _ _) (Nat.le_refl _) (by simp) ?_; (case hd => rfl); (case hg => rfl); (case hr => first | (go_simp; done) | (go_simp; rfl)); (case hp => exact (Reps.one (show Kd.M (Kd.int .i64) _ _ _ 2 [.int .i64 2] from rfl) (Reps.one (show Kd.M (Kd.int .i64) _ _ _ 12 [.int .i64 12] from rfl) (Reps.one (show Kd.M (Kd.int .i64) _ _ _ 576 [.int .i64 576] from rfl) (Reps.none _ _))))); intro v201 w10 ho11 hb hg_ hnew_; clear hg_ hnew_; (first | rw [← Ny200.out] at ho11 | (simp only [Int.reduceToNat] at ho11; rw [← Ny200.out] at ho11)); have n0_ := Aside0.mk (Kd.R_lower ho11 (keep_size (w := w) (g := g) (row := none) (by repeat (first | (with_reducible first | exact HK.out | apply KeepBut.set_ | apply keep_drewN | apply keep_drew | apply keep_alloc) | exact HK.out)))); have n1_ := Aside0.mk (IsS100.below (by repeat (first | (with_reducible first | exact HI0.out | apply IsS100.alloc | apply IsS100.drewN | apply IsS100.drew | apply IsS100.set_1) | exact HI0.out)) hb); have n2_ := Aside0.mk (KeepBut.trans (by repeat (first | (with_reducible first | exact HK.out | apply KeepBut.set_ | apply keep_drewN | apply keep_drew | apply keep_alloc) | exact HK.out)) (KeepBut.of_below hb g none) (.inl rfl)); have n3_ := Aside0.mk (below_step (by repeat (first | (with_reducible first | exact HB.out | apply below_alloc | apply pw_below_drewN | apply below_drew1 | refine below_set ?_ (IsS100.ge HI0.out)) | exact HB.out)) hb); clear HI0; clear HK; clear HB; have HO202 := n0_; have HI0 := n1_; have HK := n2_; have HB := n3_; clear n0_ n1_ n2_ n3_; clear hb ho11; obtain ⟨Ao12, co12, eo12⟩ := Kd.R_slice HO202.out; subst eo12; have p203 : 0 ≤ ((ji3) : Int) := of_decide_eq_true (by first | (with_reducible assumption) | assumption); have q203 : (ji3) < (y200.length : Int) := of_decide_eq_true (by first | (with_reducible assumption) | assumption); obtain ⟨ad203, e203, hx203_0⟩ := Kd.at_int (Kd.R_reads' HO202.out).2.2 (ji3) p203 q203; cases e203; replace p203 := eq_true p203; replace q203 := eq_true q203) | ((with_reducible refine gate_callee (f := 49) rfl ?_); refine goesL_ (some 13) rfl rfl Try.func49 (by kernel_rfl) rfl #[.pointer (some ⟨g, 0, none⟩), .int .i64 256] rfl (by (try simp only [List.map_toArray, List.map_cons, List.map_nil]); first | done | rfl | (simp only [List.length_drop, List.length_take]; rfl)) ?_; (with_reducible refine (spec_l20Rd_pick.calls k g s0_0 s0_1 256 t204 t205 w0 _ ?side1 ?side2 A6.out).mono ?_); (case side1 => repeat (first | (with_reducible first | exact HI0.out | apply IsS100.alloc | apply IsS100.drewN | apply IsS100.drew | apply IsS100.set_1) | exact HI0.out)); (case side2 => repeat (first | (with_reducible first | exact HB.out | apply below_alloc | apply pw_below_drewN | apply below_drew1 | refine below_set ?_ (IsS100.ge HI0.out)) | exact HB.out)); rintro e w13 ⟨rfl, hi, hb, hk⟩; refine ⟨_, rfl, ?_⟩; have n0_ := Aside0.mk (Kd.R_mono (Kd.R_keep (IsS100.apart (show IsS100 w0 _ g s0_0 s0_1 from by repeat (first | (with_reducible first | exact HI0.out | apply IsS100.alloc | apply IsS100.drewN | apply IsS100.drew | apply IsS100.set_1) | exact HI0.out)) (by (with_reducible repeat (first | apply Kd.R_alloc | apply Kd.R_drewN | apply Kd.R_drew)); exact HO202.out) (by decide)) hk (fun _ h => h.2)) (fun _ h => h.1)); have n1_ := Aside0.mk (KeepBut.trans (by repeat (first | (with_reducible first | exact HK.out | apply KeepBut.set_ | apply keep_drewN | apply keep_drew | apply keep_alloc) | exact HK.out)) hk (.inl rfl)); have n2_ := Aside0.mk (hb); have n3_ := Aside0.mk (hi); clear HO202; clear HK; clear HB; clear HI0; have HO202 := n0_; have HK := n1_; have HB := n2_; have HI0 := n3_; clear n0_ n1_ n2_ n3_; (try clear hb); (try clear hb2); (try clear hk); (try clear hi)) | ((with_reducible refine gate_callee (f := 49) rfl ?_); refine goesL_ (some 16) rfl rfl Try.func49 (by kernel_rfl) rfl #[.pointer (some ⟨g, 0, none⟩), .int .i64 3] rfl (by (try simp only [List.map_toArray, List.map_cons, List.map_nil]); first | done | rfl | (simp only [List.length_drop, List.length_take]; rfl)) ?_; (with_reducible refine (spec_l20Rd_pick.calls k g s0_0 t205 3 t206 t207 w0 _ ?side1 ?side2 A7.out).mono ?_); (case side1 => repeat (first | (with_reducible first | exact HI0.out | apply IsS100.alloc | apply IsS100.drewN | apply IsS100.drew | apply IsS100.set_1) | exact HI0.out)); (case side2 => repeat (first | (with_reducible first | exact HB.out | apply below_alloc | apply pw_below_drewN | apply below_drew1 | refine below_set ?_ (IsS100.ge HI0.out)) | exact HB.out)); rintro e w14 ⟨rfl, hi, hb, hk⟩; refine ⟨_, rfl, ?_⟩; have n0_ := Aside0.mk (Kd.R_mono (Kd.R_keep (IsS100.apart (show IsS100 w0 _ g s0_0 t205 from by repeat (first | (with_reducible first | exact HI0.out | apply IsS100.alloc | apply IsS100.drewN | apply IsS100.drew | apply IsS100.set_1) | exact HI0.out)) (by (with_reducible repeat (first | apply Kd.R_alloc | apply Kd.R_drewN | apply Kd.R_drew)); exact HO202.out) (by decide)) hk (fun _ h => h.2)) (fun _ h => h.1)); have n1_ := Aside0.mk (KeepBut.trans (by repeat (first | (with_reducible first | exact HK.out | apply KeepBut.set_ | apply keep_drewN | apply keep_drew | apply keep_alloc) | exact HK.out)) hk (.inl rfl)); have n2_ := Aside0.mk (hb); have n3_ := Aside0.mk (hi); clear HO202; clear HK; clear HB; clear HI0; have HO202 := n0_; have HK := n1_; have HB := n2_; have HI0 := n3_; clear n0_ n1_ n2_ n3_; (try clear hb); (try clear hb2); (try clear hk); (try clear hi)) | ((with_reducible refine gate_callee (f := 90) rfl ?_); refine goesL_ (some 20) rfl rfl Try.func90 (by kernel_rfl) rfl #[.int .i64 a1, .int .i64 (Int.tmod (wrap64 ((wrap64 (t204 * 3)) + t206)) (rd y200 (ji3)))] rfl (by (try simp only [List.map_toArray, List.map_cons, List.map_nil]); first | done | (simp only [hji3]; rfl) | rfl | (simp only [List.length_drop, List.length_take]; rfl)) ?_; (with_reducible refine (spec_SquareNumber.calls k a1 (Int.tmod (wrap64 ((wrap64 (t204 * 3)) + t206)) (rd y200 (ji3))) t208 _ A9.out).mono ?_); rintro e w15 ⟨v209, rfl, ho0, hb⟩; refine ⟨_, rfl, ?_⟩; have n0_ := Aside0.mk (Kd.R_elder' (by (with_reducible repeat (first | apply Kd.R_alloc | apply Kd.R_drewN | apply Kd.R_drew)); exact HO202.out) (Kd.R_base ho0) hb); have n1_ := Aside0.mk (Kd.R_lower (Kd.R_new' ho0 (Kd.R_lt (by (with_reducible repeat (first | apply Kd.R_alloc | apply Kd.R_drewN | apply Kd.R_drew)); exact HO202.out))) (keep_size (w := w) (g := g) (row := none) (by repeat (first | (with_reducible first | exact HK.out | apply KeepBut.set_ | apply keep_drewN | apply keep_drew | apply keep_alloc) | exact HK.out)))); have n2_ := Aside0.mk (IsS100.below (by repeat (first | (with_reducible first | exact HI0.out | apply IsS100.alloc | apply IsS100.drewN | apply IsS100.drew | apply IsS100.set_1) | exact HI0.out)) hb); have n3_ := Aside0.mk (KeepBut.trans (by repeat (first | (with_reducible first | exact HK.out | apply KeepBut.set_ | apply keep_drewN | apply keep_drew | apply keep_alloc) | exact HK.out)) (KeepBut.of_below hb g none) (.inl rfl)); have n4_ := Aside0.mk (below_step (by repeat (first | (with_reducible first | exact HB.out | apply below_alloc | apply pw_below_drewN | apply below_drew1 | refine below_set ?_ (IsS100.ge HI0.out)) | exact HB.out)) hb); clear HO202; clear HI0; clear HK; clear HB; have HO202 := n0_; have HO210 := n1_; have HI0 := n2_; have HK := n3_; have HB := n4_; clear n0_ n1_ n2_ n3_ n4_; (try clear hb); (try clear hb2); (try clear hk); (try clear hi); (try clear ho0)))
        go_ret
        exact ⟨_, by first | rfl | (simp [errW_none, errW_some] <;> rfl) | (simp only [← hji3]; first | rfl | (simp [errW_none, errW_some] <;> rfl)) | (simp [*, errW_none, errW_some] <;> rfl), by (with_reducible repeat (first | apply Kd.R_alloc | apply Kd.R_drewN | apply Kd.R_drew)); exact Kd.R_mono HO210.out (fun _ hk => trivial), by repeat (first | (with_reducible first | exact HI0.out | apply IsS100.alloc | apply IsS100.drewN | apply IsS100.drew | apply IsS100.set_1) | exact HI0.out), by repeat (first | (with_reducible first | exact HB.out | apply below_alloc | apply pw_below_drewN | apply below_drew1 | refine below_set ?_ (IsS100.ge HI0.out)) | exact HB.out), by repeat (first | (with_reducible first | exact HK.out | apply KeepBut.set_ | apply keep_drewN | apply keep_drew | apply keep_alloc) | exact HK.out)⟩
    · rw [if_neg c5] at H
      exact absurd H (by simp)
  · rw [if_neg c4] at H
    exact absurd H (by simp)
def spec_l20Rd_odd.f (k : Nat) (s0_0 : List Int) (s0_1 : Int) (a1 : Int) : Option (Bool × Int) := if a1 > 0 then ((spec_l20Rd_pick.f k s0_0 s0_1 a1).bind fun bt211 => (some ((bt211.1 == (wrap64 (a1 - 1))), bt211.2))) else (some (false, s0_1))
set_option maxHeartbeats 8000000 in
set_option maxRecDepth 100000 in
theorem spec_l20Rd_odd.calls (k : Nat) (g : Nat) (s0_0 : List Int) (s0_1 : Int) (a1 : Int) (r1 : Bool) (r2 : Int) (w0 w : World) (hI : IsS100 w0 w g s0_0 s0_1) (hB : Below w0.heap.size w0 w) (h : spec_l20Rd_odd.f k s0_0 s0_1 a1 = some (r1, r2)) :
    Calls Try.prog 47 #[.pointer (some ⟨g, 0, none⟩), .int .i64 a1] w fun e w' => e = .returned (.bool r1) ∧ IsS100 w0 w' g s0_0 r2 ∧ Below w0.heap.size w0 w' ∧ KeepBut w w' g none := by
  have HI0 := Aside0.mk hI
  have HK := Aside0.mk (KeepBut.refl w g none)
  have HL := Aside0.mk hB.size
  clear hI
  have HW0 := Aside0.mk hB.size
  have HB := Aside0.mk hB
  clear hB
  have H : (if a1 > 0 then ((spec_l20Rd_pick.f k s0_0 s0_1 a1).bind fun bt211 => (some ((bt211.1 == (wrap64 (a1 - 1))), bt211.2))) else (some (false, s0_1))) = some (r1, r2) := h
  clear h
  by_cases c3 : a1 > 0
  · rw [if_pos c3] at H
    have c3b0 : decide (0 < a1) = true := decide_eq_true c3
    clear c3
    replace H := Option.bind_eq_some_iff.mp H
    obtain ⟨⟨t211, t212⟩, A40, H⟩ := H
    replace H : (some ((t211 == (wrap64 (a1 - 1))), t212)) = some (r1, r2) := H
    have A4 := Aside0.mk A40
    clear A40
    simp only [Option.some.injEq, Prod.mk.injEq] at H
    obtain ⟨rfl, rfl⟩ := H
    go_enter Try.func47, Try.ntmps47
    go_wp2_with (first | (go_at_call 49; (with_reducible refine (spec_l20Rd_pick.calls k g s0_0 s0_1 a1 t211 t212 w0 _ ?side1 ?side2 A4.out).mono ?_); (case side1 => repeat (first | (with_reducible first | exact HI0.out | apply IsS100.alloc | apply IsS100.drewN | apply IsS100.drew | apply IsS100.set_1) | exact HI0.out)); (case side2 => repeat (first | (with_reducible first | exact HB.out | apply below_alloc | apply pw_below_drewN | apply below_drew1 | refine below_set ?_ (IsS100.ge HI0.out)) | exact HB.out)); rintro e w5 ⟨rfl, hi, hb, hk⟩; have n0_ := Aside0.mk (KeepBut.trans (by repeat (first | (with_reducible first | exact HK.out | apply KeepBut.set_ | apply keep_drewN | apply keep_drew | apply keep_alloc) | exact HK.out)) hk (.inl rfl)); have n1_ := Aside0.mk (hb); have n2_ := Aside0.mk (hi); clear HK; clear HB; clear HI0; have HK := n0_; have HB := n1_; have HI0 := n2_; clear n0_ n1_ n2_; (try clear hb); (try clear hb2); (try clear hk); (try clear hi)))
    go_ret
    exact ⟨by first | rfl | (simp [errW_none, errW_some] <;> rfl) | (simp [*, errW_none, errW_some] <;> rfl), by repeat (first | (with_reducible first | exact HI0.out | apply IsS100.alloc | apply IsS100.drewN | apply IsS100.drew | apply IsS100.set_1) | exact HI0.out), by repeat (first | (with_reducible first | exact HB.out | apply below_alloc | apply pw_below_drewN | apply below_drew1 | refine below_set ?_ (IsS100.ge HI0.out)) | exact HB.out), by repeat (first | (with_reducible first | exact HK.out | apply KeepBut.set_ | apply keep_drewN | apply keep_drew | apply keep_alloc) | exact HK.out)⟩
  · rw [if_neg c3] at H
    have c3b0 : decide (0 < a1) = false := decide_eq_false c3
    clear c3
    simp only [Option.some.injEq, Prod.mk.injEq] at H
    obtain ⟨rfl, rfl⟩ := H
    go_enter Try.func47, Try.ntmps47
    go_wp2
    go_ret
    exact ⟨by first | rfl | (simp [errW_none, errW_some] <;> rfl) | (simp [*, errW_none, errW_some] <;> rfl), by repeat (first | (with_reducible first | exact HI0.out | apply IsS100.alloc | apply IsS100.drewN | apply IsS100.drew | apply IsS100.set_1) | exact HI0.out), by repeat (first | (with_reducible first | exact HB.out | apply below_alloc | apply pw_below_drewN | apply below_drew1 | refine below_set ?_ (IsS100.ge HI0.out)) | exact HB.out), by repeat (first | (with_reducible first | exact HK.out | apply KeepBut.set_ | apply keep_drewN | apply keep_drew | apply keep_alloc) | exact HK.out)⟩
def spec_l20Size.f (k : Nat) (s0_0 : List Int) (s0_1 : Int) (a1 : Int) : Option (Int × Int) := (spec_l20Rd_odd.f k s0_0 s0_1 a1).bind fun bt213 => (if bt213.1 = true then ((some (([1, 5, (-1)] : List Int) : List Int)).bind fun y215 => ((spec_l20Rd_pick.f k s0_0 bt213.2 3).bind fun bt218 => (if 0 ≤ bt218.1 then (if bt218.1 < (y215.length : Int) then (some (rd y215 bt218.1, bt218.2)) else (none)) else (none)))) else ((some (([2, 3, 3, 4, 4] : List Int) : List Int)).bind fun y221 => ((spec_l20Rd_pick.f k s0_0 bt213.2 5).bind fun bt224 => (if 0 ≤ bt224.1 then (if bt224.1 < (y221.length : Int) then (some (rd y221 bt224.1, bt224.2)) else (none)) else (none)))))
set_option maxHeartbeats 8000000 in
set_option maxRecDepth 100000 in
theorem spec_l20Size.calls (k : Nat) (g : Nat) (s0_0 : List Int) (s0_1 : Int) (a1 : Int) (r1 : Int) (r2 : Int) (w0 w : World) (hI : IsS100 w0 w g s0_0 s0_1) (hB : Below w0.heap.size w0 w) (h : spec_l20Size.f k s0_0 s0_1 a1 = some (r1, r2)) :
    Calls Try.prog 45 #[.pointer (some ⟨g, 0, none⟩), .int .i64 a1] w fun e w' => e = .returned (.int .i64 r1) ∧ IsS100 w0 w' g s0_0 r2 ∧ Below w0.heap.size w0 w' ∧ KeepBut w w' g none := by
  have HI0 := Aside0.mk hI
  have HK := Aside0.mk (KeepBut.refl w g none)
  have HL := Aside0.mk hB.size
  clear hI
  have HW0 := Aside0.mk hB.size
  have HB := Aside0.mk hB
  clear hB
  have H : ((spec_l20Rd_odd.f k s0_0 s0_1 a1).bind fun bt213 => (if bt213.1 = true then ((some (([1, 5, (-1)] : List Int) : List Int)).bind fun y215 => ((spec_l20Rd_pick.f k s0_0 bt213.2 3).bind fun bt218 => (if 0 ≤ bt218.1 then (if bt218.1 < (y215.length : Int) then (some (rd y215 bt218.1, bt218.2)) else (none)) else (none)))) else ((some (([2, 3, 3, 4, 4] : List Int) : List Int)).bind fun y221 => ((spec_l20Rd_pick.f k s0_0 bt213.2 5).bind fun bt224 => (if 0 ≤ bt224.1 then (if bt224.1 < (y221.length : Int) then (some (rd y221 bt224.1, bt224.2)) else (none)) else (none)))))) = some (r1, r2) := h
  clear h
  replace H := Option.bind_eq_some_iff.mp H
  obtain ⟨⟨t213, t214⟩, A30, H⟩ := H
  replace H : (if t213 = true then ((some (([1, 5, (-1)] : List Int) : List Int)).bind fun y215 => ((spec_l20Rd_pick.f k s0_0 t214 3).bind fun bt218 => (if 0 ≤ bt218.1 then (if bt218.1 < (y215.length : Int) then (some (rd y215 bt218.1, bt218.2)) else (none)) else (none)))) else ((some (([2, 3, 3, 4, 4] : List Int) : List Int)).bind fun y221 => ((spec_l20Rd_pick.f k s0_0 t214 5).bind fun bt224 => (if 0 ≤ bt224.1 then (if bt224.1 < (y221.length : Int) then (some (rd y221 bt224.1, bt224.2)) else (none)) else (none))))) = some (r1, r2) := H
  have A3 := Aside0.mk A30
  clear A30
  by_cases c4 : t213 = true
  · subst c4
    have H1 : ((some (([1, 5, (-1)] : List Int) : List Int)).bind fun y215 => ((spec_l20Rd_pick.f k s0_0 t214 3).bind fun bt218 => (if 0 ≤ bt218.1 then (if bt218.1 < (y215.length : Int) then (some (rd y215 bt218.1, bt218.2)) else (none)) else (none)))) = some (r1, r2) := by rw [if_pos rfl] at H; exact H
    clear H
    have H := H1
    clear H1
    obtain ⟨y215, hy215⟩ : ∃ y_ : List Int, y_ = (([1, 5, (-1)] : List Int)) := ⟨_, rfl⟩
    replace H : ((spec_l20Rd_pick.f k s0_0 t214 3).bind fun bt218 => (if 0 ≤ bt218.1 then (if bt218.1 < (y215.length : Int) then (some (rd y215 bt218.1, bt218.2)) else (none)) else (none))) = some (r1, r2) := by first | (rw [hy215]; with_reducible exact H) | (have H2_ := (Option.bind_some _ _).symm.trans H; rw [hy215]; with_reducible exact H2_) | (have H2_ := (Option.bind_some _ _).symm.trans H; with_reducible exact H2_) | with_reducible exact H | (rw [hy215]; exact H) | exact H
    have Ny215 := Aside0.mk hy215
    clear hy215
    replace H := Option.bind_eq_some_iff.mp H
    obtain ⟨⟨t218, t219⟩, A50, H⟩ := H
    replace H : (if 0 ≤ t218 then (if t218 < (y215.length : Int) then (some (rd y215 t218, t219)) else (none)) else (none)) = some (r1, r2) := H
    have A5 := Aside0.mk A50
    clear A50
    by_cases c6 : 0 ≤ t218
    · rw [if_pos c6] at H
      have c6b0 : decide (0 ≤ t218) = true := decide_eq_true c6
      clear c6
      by_cases c7 : t218 < (y215.length : Int)
      · rw [if_pos c7] at H
        have c7b0 : decide (t218 < (y215.length : Int)) = true := decide_eq_true c7
        clear c7
        simp only [Option.some.injEq, Prod.mk.injEq] at H
        obtain ⟨rfl, rfl⟩ := H
        go_enter Try.func45, Try.ntmps45
        go_wp2_with (first | ((with_reducible refine gate_callee (f := 47) rfl ?_); refine goesL_ (some 7) rfl rfl Try.func47 (by kernel_rfl) rfl #[.pointer (some ⟨g, 0, none⟩), .int .i64 a1] rfl (by (try simp only [List.map_toArray, List.map_cons, List.map_nil]); first | done | rfl | (simp only [List.length_drop, List.length_take]; rfl)) ?_; (with_reducible refine (spec_l20Rd_odd.calls k g s0_0 s0_1 a1 true t214 w0 _ ?side1 ?side2 A3.out).mono ?_); (case side1 => repeat (first | (with_reducible first | exact HI0.out | apply IsS100.alloc | apply IsS100.drewN | apply IsS100.drew | apply IsS100.set_1) | exact HI0.out)); (case side2 => repeat (first | (with_reducible first | exact HB.out | apply below_alloc | apply pw_below_drewN | apply below_drew1 | refine below_set ?_ (IsS100.ge HI0.out)) | exact HB.out)); rintro e w8 ⟨rfl, hi, hb, hk⟩; refine ⟨_, rfl, ?_⟩; have n0_ := Aside0.mk (KeepBut.trans (by repeat (first | (with_reducible first | exact HK.out | apply KeepBut.set_ | apply keep_drewN | apply keep_drew | apply keep_alloc) | exact HK.out)) hk (.inl rfl)); have n1_ := Aside0.mk (hb); have n2_ := Aside0.mk (hi); clear HK; clear HB; clear HI0; have HK := n0_; have HB := n1_; have HI0 := n2_; clear n0_ n1_ n2_; (try clear hb); (try clear hb2); (try clear hk); (try clear hi)) | ((with_reducible refine gate_dst (N := 8) rfl ?_); refine Kd.R_lit (Kd.int .i64) _ 3 ?hg (N := 8) ?hd (xs := ([1, 5, (-1)] : List Int)) (inner := [.int .i64 1, .int .i64 5, .int .i64 (-1)]) (ok := fun _ => True) (okp := fun _ => True) ?hr ?hp (fun _ hk => hk) trivial (Below.refl _ _) (Nat.le_refl _) (by simp) ?_; (case hd => rfl); (case hg => rfl); (case hr => first | (go_simp; done) | (go_simp; rfl)); (case hp => exact (Reps.one (show Kd.M (Kd.int .i64) _ _ _ 1 [.int .i64 1] from rfl) (Reps.one (show Kd.M (Kd.int .i64) _ _ _ 5 [.int .i64 5] from rfl) (Reps.one (show Kd.M (Kd.int .i64) _ _ _ (-1) [.int .i64 (-1)] from rfl) (Reps.none _ _))))); intro v216 w9 ho10 hb hg_ hnew_; clear hg_ hnew_; (first | rw [← Ny215.out] at ho10 | (simp only [Int.reduceToNat] at ho10; rw [← Ny215.out] at ho10)); have n0_ := Aside0.mk (Kd.R_lower ho10 (keep_size (w := w) (g := g) (row := none) (by repeat (first | (with_reducible first | exact HK.out | apply KeepBut.set_ | apply keep_drewN | apply keep_drew | apply keep_alloc) | exact HK.out)))); have n1_ := Aside0.mk (IsS100.below (by repeat (first | (with_reducible first | exact HI0.out | apply IsS100.alloc | apply IsS100.drewN | apply IsS100.drew | apply IsS100.set_1) | exact HI0.out)) hb); have n2_ := Aside0.mk (KeepBut.trans (by repeat (first | (with_reducible first | exact HK.out | apply KeepBut.set_ | apply keep_drewN | apply keep_drew | apply keep_alloc) | exact HK.out)) (KeepBut.of_below hb g none) (.inl rfl)); have n3_ := Aside0.mk (below_step (by repeat (first | (with_reducible first | exact HB.out | apply below_alloc | apply pw_below_drewN | apply below_drew1 | refine below_set ?_ (IsS100.ge HI0.out)) | exact HB.out)) hb); clear HI0; clear HK; clear HB; have HO217 := n0_; have HI0 := n1_; have HK := n2_; have HB := n3_; clear n0_ n1_ n2_ n3_; clear hb ho10) | ((with_reducible refine gate_callee (f := 49) rfl ?_); refine goesL_ (some 10) rfl rfl Try.func49 (by kernel_rfl) rfl #[.pointer (some ⟨g, 0, none⟩), .int .i64 3] rfl (by (try simp only [List.map_toArray, List.map_cons, List.map_nil]); first | done | rfl | (simp only [List.length_drop, List.length_take]; rfl)) ?_; (with_reducible refine (spec_l20Rd_pick.calls k g s0_0 t214 3 t218 t219 w0 _ ?side1 ?side2 A5.out).mono ?_); (case side1 => repeat (first | (with_reducible first | exact HI0.out | apply IsS100.alloc | apply IsS100.drewN | apply IsS100.drew | apply IsS100.set_1) | exact HI0.out)); (case side2 => repeat (first | (with_reducible first | exact HB.out | apply below_alloc | apply pw_below_drewN | apply below_drew1 | refine below_set ?_ (IsS100.ge HI0.out)) | exact HB.out)); rintro e w11 ⟨rfl, hi, hb, hk⟩; refine ⟨_, rfl, ?_⟩; have n0_ := Aside0.mk (Kd.R_mono (Kd.R_keep (IsS100.apart (show IsS100 w0 _ g s0_0 t214 from by repeat (first | (with_reducible first | exact HI0.out | apply IsS100.alloc | apply IsS100.drewN | apply IsS100.drew | apply IsS100.set_1) | exact HI0.out)) (by (with_reducible repeat (first | apply Kd.R_alloc | apply Kd.R_drewN | apply Kd.R_drew)); exact HO217.out) (by decide)) hk (fun _ h => h.2)) (fun _ h => h.1)); have n1_ := Aside0.mk (KeepBut.trans (by repeat (first | (with_reducible first | exact HK.out | apply KeepBut.set_ | apply keep_drewN | apply keep_drew | apply keep_alloc) | exact HK.out)) hk (.inl rfl)); have n2_ := Aside0.mk (hb); have n3_ := Aside0.mk (hi); clear HO217; clear HK; clear HB; clear HI0; have HO217 := n0_; have HK := n1_; have HB := n2_; have HI0 := n3_; clear n0_ n1_ n2_ n3_; (try clear hb); (try clear hb2); (try clear hk); (try clear hi); obtain ⟨Ao12, co12, eo12⟩ := Kd.R_slice HO217.out; subst eo12; have p220 : 0 ≤ (t218 : Int) := of_decide_eq_true (by first | (with_reducible assumption) | assumption); have q220 : t218 < (y215.length : Int) := of_decide_eq_true (by first | (with_reducible assumption) | assumption); obtain ⟨ad220, e220, hx220_0⟩ := Kd.at_int (Kd.R_reads' HO217.out).2.2 t218 p220 q220; cases e220; replace p220 := eq_true p220; replace q220 := eq_true q220))
        go_ret
        exact ⟨by first | rfl | (simp [errW_none, errW_some] <;> rfl) | (simp [*, errW_none, errW_some] <;> rfl), by repeat (first | (with_reducible first | exact HI0.out | apply IsS100.alloc | apply IsS100.drewN | apply IsS100.drew | apply IsS100.set_1) | exact HI0.out), by repeat (first | (with_reducible first | exact HB.out | apply below_alloc | apply pw_below_drewN | apply below_drew1 | refine below_set ?_ (IsS100.ge HI0.out)) | exact HB.out), by repeat (first | (with_reducible first | exact HK.out | apply KeepBut.set_ | apply keep_drewN | apply keep_drew | apply keep_alloc) | exact HK.out)⟩
      · rw [if_neg c7] at H
        exact absurd H (by simp)
    · rw [if_neg c6] at H
      exact absurd H (by simp)
  · replace c4 := Bool.eq_false_iff.mpr c4
    subst c4
    have H1 : ((some (([2, 3, 3, 4, 4] : List Int) : List Int)).bind fun y221 => ((spec_l20Rd_pick.f k s0_0 t214 5).bind fun bt224 => (if 0 ≤ bt224.1 then (if bt224.1 < (y221.length : Int) then (some (rd y221 bt224.1, bt224.2)) else (none)) else (none)))) = some (r1, r2) := by rw [if_neg (show ¬ (false = true) by decide)] at H; exact H
    clear H
    have H := H1
    clear H1
    obtain ⟨y221, hy221⟩ : ∃ y_ : List Int, y_ = (([2, 3, 3, 4, 4] : List Int)) := ⟨_, rfl⟩
    replace H : ((spec_l20Rd_pick.f k s0_0 t214 5).bind fun bt224 => (if 0 ≤ bt224.1 then (if bt224.1 < (y221.length : Int) then (some (rd y221 bt224.1, bt224.2)) else (none)) else (none))) = some (r1, r2) := by first | (rw [hy221]; with_reducible exact H) | (have H2_ := (Option.bind_some _ _).symm.trans H; rw [hy221]; with_reducible exact H2_) | (have H2_ := (Option.bind_some _ _).symm.trans H; with_reducible exact H2_) | with_reducible exact H | (rw [hy221]; exact H) | exact H
    have Ny221 := Aside0.mk hy221
    clear hy221
    replace H := Option.bind_eq_some_iff.mp H
    obtain ⟨⟨t224, t225⟩, A130, H⟩ := H
    replace H : (if 0 ≤ t224 then (if t224 < (y221.length : Int) then (some (rd y221 t224, t225)) else (none)) else (none)) = some (r1, r2) := H
    have A13 := Aside0.mk A130
    clear A130
    by_cases c14 : 0 ≤ t224
    · rw [if_pos c14] at H
      have c14b0 : decide (0 ≤ t224) = true := decide_eq_true c14
      clear c14
      by_cases c15 : t224 < (y221.length : Int)
      · rw [if_pos c15] at H
        have c15b0 : decide (t224 < (y221.length : Int)) = true := decide_eq_true c15
        clear c15
        simp only [Option.some.injEq, Prod.mk.injEq] at H
        obtain ⟨rfl, rfl⟩ := H
        go_enter Try.func45, Try.ntmps45
        go_wp2_with (first | ((with_reducible refine gate_callee (f := 47) rfl ?_); refine goesL_ (some 7) rfl rfl Try.func47 (by kernel_rfl) rfl #[.pointer (some ⟨g, 0, none⟩), .int .i64 a1] rfl (by (try simp only [List.map_toArray, List.map_cons, List.map_nil]); first | done | rfl | (simp only [List.length_drop, List.length_take]; rfl)) ?_; (with_reducible refine (spec_l20Rd_odd.calls k g s0_0 s0_1 a1 false t214 w0 _ ?side1 ?side2 A3.out).mono ?_); (case side1 => repeat (first | (with_reducible first | exact HI0.out | apply IsS100.alloc | apply IsS100.drewN | apply IsS100.drew | apply IsS100.set_1) | exact HI0.out)); (case side2 => repeat (first | (with_reducible first | exact HB.out | apply below_alloc | apply pw_below_drewN | apply below_drew1 | refine below_set ?_ (IsS100.ge HI0.out)) | exact HB.out)); rintro e w16 ⟨rfl, hi, hb, hk⟩; refine ⟨_, rfl, ?_⟩; have n0_ := Aside0.mk (KeepBut.trans (by repeat (first | (with_reducible first | exact HK.out | apply KeepBut.set_ | apply keep_drewN | apply keep_drew | apply keep_alloc) | exact HK.out)) hk (.inl rfl)); have n1_ := Aside0.mk (hb); have n2_ := Aside0.mk (hi); clear HK; clear HB; clear HI0; have HK := n0_; have HB := n1_; have HI0 := n2_; clear n0_ n1_ n2_; (try clear hb); (try clear hb2); (try clear hk); (try clear hi)) | ((with_reducible refine gate_dst (N := 13) rfl ?_); refine Kd.R_lit (Kd.int .i64) _ 3 ?hg (N := 13) ?hd (xs := ([2, 3, 3, 4, 4] : List Int)) (inner := [.int .i64 2, .int .i64 3, .int .i64 3, .int .i64 4, .int .i64 4]) (ok := fun _ => True) (okp := fun _ => True) ?hr ?hp (fun _ hk => hk) trivial (Below.refl _ _) (Nat.le_refl _) (by simp) ?_; (case hd => rfl); (case hg => rfl); (case hr => first | (go_simp; done) | (go_simp; rfl)); (case hp => exact (Reps.one (show Kd.M (Kd.int .i64) _ _ _ 2 [.int .i64 2] from rfl) (Reps.one (show Kd.M (Kd.int .i64) _ _ _ 3 [.int .i64 3] from rfl) (Reps.one (show Kd.M (Kd.int .i64) _ _ _ 3 [.int .i64 3] from rfl) (Reps.one (show Kd.M (Kd.int .i64) _ _ _ 4 [.int .i64 4] from rfl) (Reps.one (show Kd.M (Kd.int .i64) _ _ _ 4 [.int .i64 4] from rfl) (Reps.none _ _))))))); intro v222 w17 ho18 hb hg_ hnew_; clear hg_ hnew_; (first | rw [← Ny221.out] at ho18 | (simp only [Int.reduceToNat] at ho18; rw [← Ny221.out] at ho18)); have n0_ := Aside0.mk (Kd.R_lower ho18 (keep_size (w := w) (g := g) (row := none) (by repeat (first | (with_reducible first | exact HK.out | apply KeepBut.set_ | apply keep_drewN | apply keep_drew | apply keep_alloc) | exact HK.out)))); have n1_ := Aside0.mk (IsS100.below (by repeat (first | (with_reducible first | exact HI0.out | apply IsS100.alloc | apply IsS100.drewN | apply IsS100.drew | apply IsS100.set_1) | exact HI0.out)) hb); have n2_ := Aside0.mk (KeepBut.trans (by repeat (first | (with_reducible first | exact HK.out | apply KeepBut.set_ | apply keep_drewN | apply keep_drew | apply keep_alloc) | exact HK.out)) (KeepBut.of_below hb g none) (.inl rfl)); have n3_ := Aside0.mk (below_step (by repeat (first | (with_reducible first | exact HB.out | apply below_alloc | apply pw_below_drewN | apply below_drew1 | refine below_set ?_ (IsS100.ge HI0.out)) | exact HB.out)) hb); clear HI0; clear HK; clear HB; have HO223 := n0_; have HI0 := n1_; have HK := n2_; have HB := n3_; clear n0_ n1_ n2_ n3_; clear hb ho18) | ((with_reducible refine gate_callee (f := 49) rfl ?_); refine goesL_ (some 15) rfl rfl Try.func49 (by kernel_rfl) rfl #[.pointer (some ⟨g, 0, none⟩), .int .i64 5] rfl (by (try simp only [List.map_toArray, List.map_cons, List.map_nil]); first | done | rfl | (simp only [List.length_drop, List.length_take]; rfl)) ?_; (with_reducible refine (spec_l20Rd_pick.calls k g s0_0 t214 5 t224 t225 w0 _ ?side1 ?side2 A13.out).mono ?_); (case side1 => repeat (first | (with_reducible first | exact HI0.out | apply IsS100.alloc | apply IsS100.drewN | apply IsS100.drew | apply IsS100.set_1) | exact HI0.out)); (case side2 => repeat (first | (with_reducible first | exact HB.out | apply below_alloc | apply pw_below_drewN | apply below_drew1 | refine below_set ?_ (IsS100.ge HI0.out)) | exact HB.out)); rintro e w19 ⟨rfl, hi, hb, hk⟩; refine ⟨_, rfl, ?_⟩; have n0_ := Aside0.mk (Kd.R_mono (Kd.R_keep (IsS100.apart (show IsS100 w0 _ g s0_0 t214 from by repeat (first | (with_reducible first | exact HI0.out | apply IsS100.alloc | apply IsS100.drewN | apply IsS100.drew | apply IsS100.set_1) | exact HI0.out)) (by (with_reducible repeat (first | apply Kd.R_alloc | apply Kd.R_drewN | apply Kd.R_drew)); exact HO223.out) (by decide)) hk (fun _ h => h.2)) (fun _ h => h.1)); have n1_ := Aside0.mk (KeepBut.trans (by repeat (first | (with_reducible first | exact HK.out | apply KeepBut.set_ | apply keep_drewN | apply keep_drew | apply keep_alloc) | exact HK.out)) hk (.inl rfl)); have n2_ := Aside0.mk (hb); have n3_ := Aside0.mk (hi); clear HO223; clear HK; clear HB; clear HI0; have HO223 := n0_; have HK := n1_; have HB := n2_; have HI0 := n3_; clear n0_ n1_ n2_ n3_; (try clear hb); (try clear hb2); (try clear hk); (try clear hi); obtain ⟨Ao20, co20, eo20⟩ := Kd.R_slice HO223.out; subst eo20; have p226 : 0 ≤ (t224 : Int) := of_decide_eq_true (by first | (with_reducible assumption) | assumption); have q226 : t224 < (y221.length : Int) := of_decide_eq_true (by first | (with_reducible assumption) | assumption); obtain ⟨ad226, e226, hx226_0⟩ := Kd.at_int (Kd.R_reads' HO223.out).2.2 t224 p226 q226; cases e226; replace p226 := eq_true p226; replace q226 := eq_true q226))
        go_ret
        exact ⟨by first | rfl | (simp [errW_none, errW_some] <;> rfl) | (simp [*, errW_none, errW_some] <;> rfl), by repeat (first | (with_reducible first | exact HI0.out | apply IsS100.alloc | apply IsS100.drewN | apply IsS100.drew | apply IsS100.set_1) | exact HI0.out), by repeat (first | (with_reducible first | exact HB.out | apply below_alloc | apply pw_below_drewN | apply below_drew1 | refine below_set ?_ (IsS100.ge HI0.out)) | exact HB.out), by repeat (first | (with_reducible first | exact HK.out | apply KeepBut.set_ | apply keep_drewN | apply keep_drew | apply keep_alloc) | exact HK.out)⟩
      · rw [if_neg c15] at H
        exact absurd H (by simp)
    · rw [if_neg c14] at H
      exact absurd H (by simp)
end Go.Proofs.Ytbcikbekdhdpaaa.Q
end
