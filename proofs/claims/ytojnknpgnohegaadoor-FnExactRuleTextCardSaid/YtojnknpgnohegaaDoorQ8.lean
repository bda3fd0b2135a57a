-- Written by wip/pr.py (this session's own program, over the kit's printer) for the seat YtojnknpgnohegaaDoor.
import Derived.Test.YtojnknpgnohegaaDoorQ0
import Derived.Test.YtojnknpgnohegaaDoorQ7
import Derived.Test.YtojnknpgnohegaaDoorE1
namespace Go.Proofs.YtojnknpgnohegaaDoor.Q
open Go.RowKit Go.Proofs.YtojnknpgnohegaaDoorW.PrintWords Go.Proofs.YtojnknpgnohegaaDoorW.PrintLast Go.Proofs.YtojnknpgnohegaaDoorW.PrintMore
attribute [local go_sem] max2_int min2_int max_two min_two max_three min_three max_four min_four   -- for this text's walks alone
set_option linter.unusedVariables false
set_option linter.unusedSimpArgs false

/-! ### impl_RuleText: function 16 -/
def impl_RuleText.l0 : Nat → List Int → List Int → Int → Int → Int → List Int → Int → Option (ByteArray)
  | 0, _, _, _, _, _, _, _ => none
  | k + 1, x3, x15, x16, x17, x213000, x213001, x213002 => if x17 < x16 then (if 0 ≤ x17 then (if x17 < (x15.length : Int) then (if x3.length < 140737488355328 then (impl_RuleText.l0 k (x3 ++ [(wrap64 (97 + (rd x15 x17))) % 256]) x15 x16 (wrap64 (x17 + 1)) x213000 x213001 x213002) else (none)) else (none)) else (none)) else (if x213000 = 2 then (if (strOfNums x3).size + 1 ≤ 9223372036854775807 then ((strconv_Itoa.f x213002).bind fun t221 => (if ((strOfNums x3) ++ (⟨#[61]⟩ : ByteArray)).size + t221.size ≤ 9223372036854775807 then (some (((strOfNums x3) ++ (⟨#[61]⟩ : ByteArray)) ++ t221)) else (none))) else (none)) else (if x213000 = 3 then (if (strOfNums x3).size + 1 ≤ 9223372036854775807 then ((strconv_Itoa.f x213002).bind fun t222 => (if ((strOfNums x3) ++ (⟨#[61]⟩ : ByteArray)).size + t222.size ≤ 9223372036854775807 then (some (((strOfNums x3) ++ (⟨#[61]⟩ : ByteArray)) ++ t222)) else (none))) else (none)) else (if x213000 = 5 then (if (strOfNums x3).size + 1 ≤ 9223372036854775807 then ((strconv_Itoa.f x213002).bind fun t223 => (if ((strOfNums x3) ++ (⟨#[61]⟩ : ByteArray)).size + t223.size ≤ 9223372036854775807 then (some (((strOfNums x3) ++ (⟨#[61]⟩ : ByteArray)) ++ t223)) else (none))) else (none)) else (some (strOfNums x3)))))
def impl_RuleText.f (k : Nat) (a0_0 : Int) (l0_1 : List Int) (a0_2 : Int) : Option (ByteArray) := (impl_RuleValid.f k a0_0 l0_1 a0_2 4).bind fun t213 => (if t213 = true then (if 0 ≤ (wrap64 (a0_0 - 1)) then (if (wrap64 (a0_0 - 1)) < 5 then (impl_RuleText.l0 k (([bt (⟨#[100, 115, 112, 108, 97]⟩ : ByteArray) (wrap64 (a0_0 - 1))] : List Int)) l0_1 (l0_1.length : Int) 0 a0_0 l0_1 a0_2) else (none)) else (none)) else (some (⟨#[]⟩ : ByteArray)))
theorem impl_RuleText.mono_l : ∀ k, (∀ y0 y1 y2 y3 y4 y5 y6, LeO (impl_RuleText.l0 k y0 y1 y2 y3 y4 y5 y6) (impl_RuleText.l0 (k + 1) y0 y1 y2 y3 y4 y5 y6))
  | 0 => fun _ _ _ _ _ _ _ r h => by simp [impl_RuleText.l0] at h
  | k + 1 => by
    have ih0 := impl_RuleText.mono_l k
    · intro y0 y1 y2 y3 y4 y5 y6
      unfold impl_RuleText.l0
      repeat' first
      | (with_reducible exact ih0 _ _ _ _ _ _ _)
      | (with_reducible exact impl_RuleValid.mono _ _ _ _ _)
      | (with_reducible exact LeO.refl _)
      | (with_reducible exact LeO.none _)
      | (with_reducible refine LeO.ite ?_ ?_)
      | (with_reducible refine LeO.bind ?_ (fun _ => ?_))
      | exact ih0 _ _ _ _ _ _ _
      | exact impl_RuleValid.mono _ _ _ _ _
      | exact LeO.none _
      | refine LeO.ite ?_ ?_
      | refine LeO.bind ?_ (fun _ => ?_)
theorem impl_RuleText.mono : ∀ a0 a1 a2 k, LeO (impl_RuleText.f k a0 a1 a2) (impl_RuleText.f (k + 1) a0 a1 a2) := by
  intro a0 a1 a2 k
  have ih0 := impl_RuleText.mono_l k
  unfold impl_RuleText.f
  repeat' first
      | (with_reducible exact ih0 _ _ _ _ _ _ _)
      | (with_reducible exact impl_RuleValid.mono _ _ _ _ _)
      | (with_reducible exact LeO.refl _)
      | (with_reducible exact LeO.none _)
      | (with_reducible refine LeO.ite ?_ ?_)
      | (with_reducible refine LeO.bind ?_ (fun _ => ?_))
      | exact ih0 _ _ _ _ _ _ _
      | exact impl_RuleValid.mono _ _ _ _ _
      | exact LeO.none _
      | refine LeO.ite ?_ ?_
      | refine LeO.bind ?_ (fun _ => ?_)
def impl_RuleText.T10 : Bool × List (List Nat × List Nat) := (true, [([], []), ([0], [0]), ([1], [1]), ([], []), ([3], [3]), ([4], [4]), ([2, 5], [2, 5]), ([6, 5, 0, 1, 2, 3, 4, 5, 6], [6])])
def impl_RuleText.B10 : List Nat := [0, 1, 3, 0, 8, 24, 63, 127]
theorem impl_RuleText.tab10 : rtab .any (opsOf Tryd.f16 10) = impl_RuleText.T10 := by kernel_rfl
theorem impl_RuleText.bits10 : waitsOk impl_RuleText.T10.2 impl_RuleText.B10 = true := by kernel_rfl
set_option maxHeartbeats 8000000 in
set_option maxRecDepth 100000 in
theorem impl_RuleText.calls (k : Nat) (a0_0 : Int) (A0_1 : Option Addr) (c0_1 : Nat) (l0_1 : List Int) (a0_2 : Int) (r : ByteArray) (w : World) (hr0_1 : Kd.C (Kd.int .i64) w A0_1 l0_1.length l0_1) (hc0_1 : l0_1.length ≤ c0_1) (hG : GW w) (h : impl_RuleText.f k a0_0 l0_1 a0_2 = some r) :
    Calls Tryd.prog 16 #[.agg #[.int .i64 a0_0, .slice A0_1 l0_1.length c0_1, .int .i64 a0_2]] w fun e w' => e = .returned (.string r) ∧ Below w.heap.size w w' := by
  have hu37 := Tryd.underlying37
  have HR0_1 := Aside0.mk hr0_1
  have HC0_1 := Aside0.mk hc0_1
  clear hr0_1 hc0_1
  have HG := Aside0.mk hG
  clear hG
  have HB := Aside0.mk (Below.refl w.heap.size w)
  have H : ((impl_RuleValid.f k a0_0 l0_1 a0_2 4).bind fun t213 => (if t213 = true then (if 0 ≤ (wrap64 (a0_0 - 1)) then (if (wrap64 (a0_0 - 1)) < 5 then (impl_RuleText.l0 k (([bt (⟨#[100, 115, 112, 108, 97]⟩ : ByteArray) (wrap64 (a0_0 - 1))] : List Int)) l0_1 (l0_1.length : Int) 0 a0_0 l0_1 a0_2) else (none)) else (none)) else (some (⟨#[]⟩ : ByteArray)))) = some r := h
  clear h
  replace H := Option.bind_eq_some_iff.mp H
  obtain ⟨t213, A20, H⟩ := H
  replace H : (if t213 = true then (if 0 ≤ (wrap64 (a0_0 - 1)) then (if (wrap64 (a0_0 - 1)) < 5 then (impl_RuleText.l0 k (([bt (⟨#[100, 115, 112, 108, 97]⟩ : ByteArray) (wrap64 (a0_0 - 1))] : List Int)) l0_1 (l0_1.length : Int) 0 a0_0 l0_1 a0_2) else (none)) else (none)) else (some (⟨#[]⟩ : ByteArray))) = some r := H
  have A2 := Aside0.mk A20
  clear A20
  by_cases c3 : t213 = true
  · subst c3
    have H1 : (if 0 ≤ (wrap64 (a0_0 - 1)) then (if (wrap64 (a0_0 - 1)) < 5 then (impl_RuleText.l0 k (([bt (⟨#[100, 115, 112, 108, 97]⟩ : ByteArray) (wrap64 (a0_0 - 1))] : List Int)) l0_1 (l0_1.length : Int) 0 a0_0 l0_1 a0_2) else (none)) else (none)) = some r := by rw [if_pos rfl] at H; exact H
    clear H
    have H := H1
    clear H1
    obtain ⟨ji4, hji4⟩ : ∃ j_ : Int, (wrap64 (a0_0 - 1)) = j_ := ⟨_, rfl⟩
    replace H : (if 0 ≤ (ji4) then (if (ji4) < 5 then (impl_RuleText.l0 k (([bt (⟨#[100, 115, 112, 108, 97]⟩ : ByteArray) (ji4)] : List Int)) l0_1 (l0_1.length : Int) 0 a0_0 l0_1 a0_2) else (none)) else (none)) = some r := by first | (rw [hji4] at H; exact H) | (simp only [hji4] at H ⊢; exact H)
    (try rw [hji4] at A2)
    have hji4w : (IntKind.i64.wrap (a0_0 - 1)) = ji4 := (i64_w _).trans hji4
    by_cases c5 : 0 ≤ (ji4)
    · rw [if_pos c5] at H
      have c5b0 : decide (0 ≤ (ji4)) = true := decide_eq_true c5
      clear c5
      by_cases c6 : (ji4) < 5
      · rw [if_pos c6] at H
        have c6b0 : decide ((ji4) < 5) = true := decide_eq_true c6
        clear c6
        obtain ⟨y214, hy214⟩ : ∃ y_ : List Int, y_ = (([bt (⟨#[100, 115, 112, 108, 97]⟩ : ByteArray) (ji4)] : List Int)) := ⟨_, rfl⟩
        replace H : (impl_RuleText.l0 k y214 l0_1 (l0_1.length : Int) 0 a0_0 l0_1 a0_2) = some r := by first | (rw [hy214]; with_reducible exact H) | (have H2_ := (Option.bind_some _ _).symm.trans H; rw [hy214]; with_reducible exact H2_) | (have H2_ := (Option.bind_some _ _).symm.trans H; with_reducible exact H2_) | with_reducible exact H | (rw [hy214]; exact H) | exact H
        have Ny214 := Aside0.mk hy214
        clear hy214
        have H' := Aside0.mk H
        clear H
        go_enter Tryd.func16, Tryd.ntmps16
        go_wp2_with (first | ((with_reducible refine gate_dst (N := 1) rfl ?_); refine box_event ?hg (N := 1) ?hd (cs := #[.int .i64 a0_0, .slice A0_1 l0_1.length c0_1, .int .i64 a0_2]) (t := 37) ?hr ?_; (case hd => rfl); (case hg => rfl); (case hr => first | (go_simp; done) | (go_simp; rfl)); intro gb212 hg w8 hbox hb; have n0_ := Aside0.mk (below_step (by repeat (first | (with_reducible first | exact HB.out | apply below_alloc | apply pw_below_drewN | apply below_drew1) | exact HB.out)) hb); have n1_ := Aside0.mk (hbox); have n2_ := Aside0.mk ((by rw [hg]; exact (below_size (by repeat (first | (with_reducible first | exact HB.out | apply below_alloc | apply pw_below_drewN | apply below_drew1) | exact HB.out))) : w.heap.size ≤ gb212)); have n3_ := Aside0.mk ((by rw [hg]; exact (below_size (by repeat (first | (with_reducible first | exact HB.out | apply below_alloc | apply pw_below_drewN | apply below_drew1) | exact HB.out))) : w.heap.size ≤ gb212)); clear HB; have HB := n0_; have BK212 := n1_; have GW212 := n2_; have GE212 := n3_; clear n0_ n1_ n2_ n3_; clear hb hbox hg; have hcz9_0 : w8.cell? ⟨gb212, 0, none⟩ = some (.int .i64 a0_0) := (blk_cell BK212.out 0).trans rfl; have hcz9_1 : w8.cell? ⟨gb212, 1, none⟩ = some (.slice A0_1 l0_1.length c0_1) := (blk_cell BK212.out 1).trans rfl; have hcz9_2 : w8.cell? ⟨gb212, 2, none⟩ = some (.int .i64 a0_2) := (blk_cell BK212.out 2).trans rfl; have hfz9_0 := blk_frozen BK212.out 0; have hfz9_1 := blk_frozen BK212.out 1; have hfz9_2 := blk_frozen BK212.out 2) | ((with_reducible refine gate_callee (f := 36) rfl ?_); refine goesL_ (some 7) rfl rfl Tryd.func36 (by kernel_rfl) rfl #[.agg #[.int .i64 a0_0, .slice A0_1 l0_1.length c0_1, .int .i64 a0_2], .int .i64 4] rfl (by (try simp only [List.map_toArray, List.map_cons, List.map_nil]); first | done | rfl | (simp only [List.length_drop, List.length_take]; rfl)) ?_; (with_reducible refine (impl_RuleValid.calls k a0_0 _ _ l0_1 a0_2 4 true _ ?side1 ?side2 A2.out).mono ?_); (case side1 => repeat (first | exact (Kd.C_below HR0_1.out HB.out) | (with_reducible refine Kd.C_alloc ?_ _) | (with_reducible refine Kd.C_drewN ?_ _) | (with_reducible refine Kd.C_drew ?_))); (case side2 => exact HC0_1.out); rintro e w10 ⟨rfl, hb⟩; refine ⟨_, rfl, ?_⟩; have n0_ := Aside0.mk (blk_below (g := gb212) (o := .cells #[.int .i64 a0_0, .slice A0_1 l0_1.length c0_1, .int .i64 a0_2] 37 (0, 0)) (by (with_reducible repeat (first | refine blk_drewN ?_ _ | refine blk_drew ?_ | refine blk_alloc ?_ _)); exact BK212.out) hb); have n1_ := Aside0.mk (below_step (by repeat (first | (with_reducible first | exact HB.out | apply below_alloc | apply pw_below_drewN | apply below_drew1 | refine below_set ?_ GE212.out) | exact HB.out)) hb); clear BK212; clear HB; have BK212 := n0_; have HB := n1_; clear n0_ n1_; (try clear hb); (try clear hb2); (try clear hk); (try clear hi); have hcz11_0 : w10.cell? ⟨gb212, 0, none⟩ = some (.int .i64 a0_0) := (blk_cell BK212.out 0).trans rfl; have hcz11_1 : w10.cell? ⟨gb212, 1, none⟩ = some (.slice A0_1 l0_1.length c0_1) := (blk_cell BK212.out 1).trans rfl; have hcz11_2 : w10.cell? ⟨gb212, 2, none⟩ = some (.int .i64 a0_2) := (blk_cell BK212.out 2).trans rfl; have hfz11_0 := blk_frozen BK212.out 0; have hfz11_1 := blk_frozen BK212.out 1; have hfz11_2 := blk_frozen BK212.out 2; have p7 : 0 ≤ ((ji4) : Int) := of_decide_eq_true (by first | (with_reducible assumption) | assumption); have q7 : (ji4) < (5 : Int) := of_decide_eq_true (by first | (with_reducible assumption) | assumption); have hx7 := bt_at (⟨#[100, 115, 112, 108, 97]⟩ : ByteArray) (ji4); replace p7 := eq_true p7; replace q7 := eq_true q7) | ((with_reducible refine gate_dst (N := 13) rfl ?_); refine Kd.R_lit (Kd.int .u8) _ 5 ?hg (N := 13) ?hd (xs := ([bt (⟨#[100, 115, 112, 108, 97]⟩ : ByteArray) (ji4)] : List Int)) (inner := [.int .u8 (bt (⟨#[100, 115, 112, 108, 97]⟩ : ByteArray) (ji4))]) (ok := fun _ => True) (okp := fun _ => True) ?hr ?hp (fun _ hk => hk) trivial (Below.refl _ _) (Nat.le_refl _) (by simp) ?_; (case hd => rfl); (case hg => rfl); (case hr => first | (go_simp; done) | (go_simp; rfl)); (case hp => exact (Reps.one (show Kd.M (Kd.int .u8) _ _ _ (bt (⟨#[100, 115, 112, 108, 97]⟩ : ByteArray) (ji4)) [.int .u8 (bt (⟨#[100, 115, 112, 108, 97]⟩ : ByteArray) (ji4))] from rfl) (Reps.none _ _))); intro v215 w12 ho13 hb hg_ hnew_; clear hg_ hnew_; (first | rw [← Ny214.out] at ho13 | (simp only [Int.reduceToNat] at ho13; rw [← Ny214.out] at ho13)); have n0_ := Aside0.mk (Kd.R_lower ho13 (below_size (by repeat (first | (with_reducible first | exact HB.out | apply below_alloc | apply pw_below_drewN | apply below_drew1 | refine below_set ?_ GE212.out) | exact HB.out)))); have n1_ := Aside0.mk (blk_below (g := gb212) (o := .cells #[.int .i64 a0_0, .slice A0_1 l0_1.length c0_1, .int .i64 a0_2] 37 (0, 0)) (by (with_reducible repeat (first | refine blk_drewN ?_ _ | refine blk_drew ?_ | refine blk_alloc ?_ _)); exact BK212.out) hb); have n2_ := Aside0.mk (below_step (by repeat (first | (with_reducible first | exact HB.out | apply below_alloc | apply pw_below_drewN | apply below_drew1 | refine below_set ?_ GE212.out) | exact HB.out)) hb); clear BK212; clear HB; have HO216 := n0_; have BK212 := n1_; have HB := n2_; clear n0_ n1_ n2_; clear hb ho13; have hcz14_0 : w12.cell? ⟨gb212, 0, none⟩ = some (.int .i64 a0_0) := (blk_cell BK212.out 0).trans rfl; have hcz14_1 : w12.cell? ⟨gb212, 1, none⟩ = some (.slice A0_1 l0_1.length c0_1) := (blk_cell BK212.out 1).trans rfl; have hcz14_2 : w12.cell? ⟨gb212, 2, none⟩ = some (.int .i64 a0_2) := (blk_cell BK212.out 2).trans rfl; have hfz14_0 := blk_frozen BK212.out 0; have hfz14_1 := blk_frozen BK212.out 1; have hfz14_2 := blk_frozen BK212.out 2))
        go_loopg [3, 17] k (fun kq v3 v17 w' => ∃ (x3_1 : List Int) (x17_1 : Int), v17 = .int .i64 x17_1 ∧ Aside0 (impl_RuleText.l0 kq x3_1 l0_1 (l0_1.length : Int) x17_1 a0_0 l0_1 a0_2 = some r) ∧ Aside0 (kq ≤ k) ∧ Aside0 (Kd.R (Kd.int .u8) 5 w' w.heap.size (fun _ => True) v3 x3_1) ∧ Aside0 (w'.heap[gb212]? = some (.cells #[.int .i64 a0_0, (.slice A0_1 l0_1.length c0_1), .int .i64 a0_2] 37 (0, 0))) ∧ Aside0 (Below w.heap.size w w'))
        case atStart => exact ⟨(y214), (0), (by first | rfl | (simp; done) | (simp [*]; done)), H', ⟨Nat.le_refl _⟩, ⟨by (with_reducible repeat (first | apply Kd.R_alloc | apply Kd.R_drewN | apply Kd.R_drew)); exact HO216.out⟩, ⟨by (with_reducible repeat (first | refine blk_drewN ?_ _ | refine blk_drew ?_ | refine blk_alloc ?_ _)); exact BK212.out⟩, ⟨by repeat (first | (with_reducible first | exact HB.out | apply below_alloc | apply pw_below_drewN | apply below_drew1 | refine below_set ?_ GE212.out) | exact HB.out)⟩⟩
        case round =>
          clear H'
          try clear c1
          try clear p2
          try clear c3
          try clear c5
          try clear c5b0
          try clear c6
          try clear c6b0
          try clear p6
          try clear p7
          try clear q7
          try clear hx7
          try clear hcz11_0
          try clear hcz11_1
          try clear hcz11_2
          try clear hcz14_0
          try clear hcz14_1
          try clear hcz14_2
          try clear hcz9_0
          try clear hcz9_1
          try clear hcz9_2
          try clear hfz11_0
          try clear hfz11_1
          try clear hfz11_2
          try clear hfz14_0
          try clear hfz14_1
          try clear hfz14_2
          try clear hfz9_0
          try clear hfz9_1
          try clear hfz9_2
          try clear p7
          try clear q7
          obtain ⟨x3_1, x17_1, rfl, HA, HK1, HO_3, BK212, HB⟩ := hrel
          cases gk with
          | zero => exact absurd HA.out (by simp [impl_RuleText.l0])
          | succ k1 =>
            have H := HA.out
            clear HA
            simp only [impl_RuleText.l0] at H
            by_cases c15 : x17_1 < (l0_1.length : Int)
            · rw [if_pos c15] at H
              have c15b0 : decide (x17_1 < (l0_1.length : Int)) = true := decide_eq_true c15
              clear c15
              by_cases c16 : 0 ≤ x17_1
              · rw [if_pos c16] at H
                have c16b0 : decide (0 ≤ x17_1) = true := decide_eq_true c16
                clear c16
                by_cases c17 : x17_1 < (l0_1.length : Int)
                · rw [if_pos c17] at H
                  have c17b0 : decide (x17_1 < (l0_1.length : Int)) = true := decide_eq_true c17
                  clear c17
                  by_cases c18 : x3_1.length < 140737488355328
                  · rw [if_pos c18] at H
                    have LMc18 := Aside0.mk c18
                    clear c18
                    obtain ⟨y218, hy218⟩ : ∃ y_ : List Int, y_ = (x3_1 ++ [(wrap64 (97 + (rd l0_1 x17_1))) % 256]) := ⟨_, rfl⟩
                    replace H : (impl_RuleText.l0 k1 y218 l0_1 (l0_1.length : Int) (wrap64 (x17_1 + 1)) a0_0 l0_1 a0_2) = some r := by first | (rw [hy218]; with_reducible exact H) | (have H2_ := (Option.bind_some _ _).symm.trans H; rw [hy218]; with_reducible exact H2_) | (have H2_ := (Option.bind_some _ _).symm.trans H; with_reducible exact H2_) | with_reducible exact H | (rw [hy218]; exact H) | exact H
                    have Ny218 := Aside0.mk hy218
                    clear hy218
                    have H' := Aside0.mk H
                    clear H
                    have p217 : 0 ≤ (x17_1 : Int) := of_decide_eq_true (by first | (with_reducible assumption) | assumption)
                    have q217 : x17_1 < (l0_1.length : Int) := of_decide_eq_true (by first | (with_reducible assumption) | assumption)
                    obtain ⟨ad217, e217, hx217_0⟩ := Kd.at_int HR0_1.out x17_1 p217 q217
                    cases e217
                    replace hx217_0 := (HB.out.cell (World.block_lt_of_cell? w _ hx217_0)).trans hx217_0
                    replace p217 := eq_true p217
                    replace q217 := eq_true q217
                    go_wp2_with (first | ((with_reducible refine gate_builtin (b := .append) (xs := #[.tmp 21, .tmp 25]) rfl ?_); at_builtin; refine Kd.R_append (Kd.int .u8) (w0 := w) w.heap.size rfl (.tmp 21) (.tmp 25) 28 5 (.int .u8 0) 1 rfl Tryd.underlying28 info5 rfl (by decide) (by omega) u3 x3_1 ((wrap64 (97 + (rd l0_1 x17_1))) % 256) [.int .u8 ((wrap64 (97 + (rd l0_1 x17_1))) % 256)] (fun _ => True) (fun _ => False) rfl rfl ?aP (fun _ hk => hk.elim) ?aF ?aO ?aB ?aS ?aL ?_; (case aP => exact rfl); (case aB => exact (by repeat (first | (with_reducible first | exact HB.out | apply below_alloc | apply pw_below_drewN | apply below_drew1 | refine below_set ?_ GE212.out) | exact HB.out))); (case aF => exact (fun _ _ => trivial)); (case aO => exact (by (with_reducible repeat (first | apply Kd.R_alloc | apply Kd.R_drewN | apply Kd.R_drew)); exact HO_3.out)); (case aS => exact (below_size (by repeat (first | (with_reducible first | exact HB.out | apply below_alloc | apply pw_below_drewN | apply below_drew1 | refine below_set ?_ GE212.out) | exact HB.out)))); (case aL => have := LMc18.out; omega); intro v219 w19 ho hb hg hat; rw [← Ny218.out] at ho; have n0_ := Aside0.mk (blk_grown (g := gb212) (o := .cells #[.int .i64 a0_0, .slice (some ad217) l0_1.length c0_1, .int .i64 a0_2] 37 (0, 0)) (by (with_reducible repeat (first | refine blk_drewN ?_ _ | refine blk_drew ?_ | refine blk_alloc ?_ _)); exact BK212.out) hg (Kd.R_ne HO_3.out BK212.out (by decide))); have n1_ := Aside0.mk (hb); have n2_ := Aside0.mk (ho); clear BK212; clear HB; clear HO_3; have BK212 := n0_; have HB := n1_; have HO220 := n2_; clear n0_ n1_ n2_; clear ho hb hg hat))
                    go_roundg k1
                    case measure => have := HK1.out; omega
                    case rel => exact ⟨(y218), (wrap64 (x17_1 + 1)), (by first | rfl | (simp; done) | (simp [*]; done)), H', ⟨by have := HK1.out; omega⟩, ⟨by (with_reducible repeat (first | apply Kd.R_alloc | apply Kd.R_drewN | apply Kd.R_drew)); exact HO220.out⟩, ⟨by (with_reducible repeat (first | refine blk_drewN ?_ _ | refine blk_drew ?_ | refine blk_alloc ?_ _)); exact BK212.out⟩, ⟨by repeat (first | (with_reducible first | exact HB.out | apply below_alloc | apply pw_below_drewN | apply below_drew1 | refine below_set ?_ GE212.out) | exact HB.out)⟩⟩
                  · rw [if_neg c18] at H
                    exact absurd H (by simp)
                · rw [if_neg c17] at H
                  exact absurd H (by simp)
              · rw [if_neg c16] at H
                exact absurd H (by simp)
            · rw [if_neg c15] at H
              have c15b0 : decide (x17_1 < (l0_1.length : Int)) = false := decide_eq_false c15
              clear c15
              by_cases c20 : a0_0 = 2
              · rw [if_pos c20] at H
                have c20b0 : (a0_0 == 2) = true := beq_iff_eq.mpr c20
                have c20b1 : (a0_0 != 2) = false := bne_eq_false_iff_eq.mpr c20
                clear c20
                by_cases c21 : (strOfNums x3_1).size + 1 ≤ 9223372036854775807
                · rw [if_pos c21] at H
                  have c21b0 := eq_true c21
                  have c21b1 : decide ((strOfNums x3_1).size + 1 ≤ 9223372036854775807) = true := decide_eq_true c21
                  try have c21b2 : (9223372036854775807 < (strOfNums x3_1).size + 1) = False := eq_false (Nat.not_lt.2 c21)
                  replace H := Option.bind_eq_some_iff.mp H
                  obtain ⟨t221, A220, H⟩ := H
                  replace H : (if ((strOfNums x3_1) ++ (⟨#[61]⟩ : ByteArray)).size + t221.size ≤ 9223372036854775807 then (some (((strOfNums x3_1) ++ (⟨#[61]⟩ : ByteArray)) ++ t221)) else (none)) = some r := H
                  have A22 := Aside0.mk A220
                  clear A220
                  by_cases c23 : ((strOfNums x3_1) ++ (⟨#[61]⟩ : ByteArray)).size + t221.size ≤ 9223372036854775807
                  · rw [if_pos c23] at H
                    have c23b0 := eq_true c23
                    have c23b1 : decide (((strOfNums x3_1) ++ (⟨#[61]⟩ : ByteArray)).size + t221.size ≤ 9223372036854775807) = true := decide_eq_true c23
                    try have c23b2 : (9223372036854775807 < ((strOfNums x3_1) ++ (⟨#[61]⟩ : ByteArray)).size + t221.size) = False := eq_false (Nat.not_lt.2 c23)
                    try have c23b3 : (9223372036854775807 < (strOfNums x3_1).size + 1 + t221.size) = False := eq_false (Nat.not_lt.2 (by have h_ := c23; simp only [ByteArray.size_append] at h_; exact h_))
                    obtain rfl := Option.some.inj H
                    have hcz24_0 : wr.cell? ⟨gb212, 0, none⟩ = some (.int .i64 a0_0) := (blk_cell BK212.out 0).trans rfl
                    have hcz24_1 : wr.cell? ⟨gb212, 1, none⟩ = some (.slice A0_1 l0_1.length c0_1) := (blk_cell BK212.out 1).trans rfl
                    have hcz24_2 : wr.cell? ⟨gb212, 2, none⟩ = some (.int .i64 a0_2) := (blk_cell BK212.out 2).trans rfl
                    have hfz24_0 := blk_frozen BK212.out 0
                    have hfz24_1 := blk_frozen BK212.out 1
                    have hfz24_2 := blk_frozen BK212.out 2
                    try go_wp2
                    have n0_ := Aside0.mk (Kd.R_drew HO_3.out)
                    have n1_ := Aside0.mk (blk_drew BK212.out)
                    have n2_ := Aside0.mk (below_drew1 HB.out)
                    clear HO_3
                    clear BK212
                    clear HB
                    have HO_3 := n0_
                    have BK212 := n1_
                    have HB := n2_
                    clear n0_ n1_ n2_
                    refine start_ (n := 8) (S := fun w' => w'.cell? ⟨gb212, 0, none⟩ = some (.int .i64 a0_0) ∧ w'.cell? ⟨gb212, 1, none⟩ = some (.slice A0_1 l0_1.length c0_1) ∧ w'.cell? ⟨gb212, 2, none⟩ = some (.int .i64 a0_2)) (ds := []) #[false, false, false, false, false, false, false, false] (by kernel_rfl) rfl rfl ⟨(blk_cell BK212.out 0).trans rfl, (blk_cell BK212.out 1).trans rfl, (blk_cell BK212.out 2).trans rfl⟩ (fun hHeld => ?_); refine with_tabW impl_RuleText.tab10 impl_RuleText.bits10 (fun HT_ HW_ => ?_)
                    generalize wr.drew = w25 at HO_3 BK212 HB hHeld ⊢
                    refine pure_ (i := 0) (N := some 41) (v := ?_) (a' := ?_) #[true, false, false, false, false, false, false, false] rfl rfl (any_of HT_.out (by kernel_rfl)) (fun _ _ _ h => h) (Or.inl ⟨by rfl, ?_⟩) ?_ ?_
                    rotate_left
                    · intro w'
                      go_simp
                      with_reducible rfl
                    rotate_left
                    · simp only [Act.put, List.setIfInBounds_toArray, List.set_cons_zero, List.set_cons_succ, i64_w, i32_w]
                      rfl
                    refine pure_ (i := 3) (N := some 44) (v := ?_) (a' := ?_) #[true, false, false, true, false, false, false, false] rfl rfl (any_of HT_.out (by kernel_rfl)) (fun _ _ _ h => h) (Or.inl ⟨by rfl, ?_⟩) ?_ ?_
                    rotate_left
                    · intro w'
                      go_simp
                      with_reducible rfl
                    rotate_left
                    · simp only [Act.put, List.setIfInBounds_toArray, List.set_cons_zero, List.set_cons_succ, i64_w, i32_w]
                      rfl
                    refine take_ (i := 4) (N := some 45) (v := ?_) (a' := ?_) #[true, false, false, true, true, false, false, false] rfl rfl (take_ofW HT_.out HW_.out (by kernel_rfl)) (fun _ _ _ h => h) (Or.inl ⟨by rfl, ?_⟩) hHeld ?_ ?_
                    rotate_left
                    · rintro w' ⟨s0, s1, s2⟩
                      go_simp
                      with_reducible rfl
                    rotate_left
                    · simp only [Act.put, List.setIfInBounds_toArray, List.set_cons_zero, List.set_cons_succ, i64_w, i32_w]
                      rfl
                    refine join_ (σ := Unit) 2 #[true, true, true, true, true, true, false, false] (fun s_ => [(42, .string (strOfNums x3_1)), (46, .string t221), (43, .string ((strOfNums x3_1) ++ (⟨#[61]⟩ : ByteArray)))]) (fun s_ w' => (w'.cell? ⟨gb212, 0, none⟩ = some (.int .i64 a0_0) ∧ w'.cell? ⟨gb212, 1, none⟩ = some (.slice A0_1 l0_1.length c0_1) ∧ w'.cell? ⟨gb212, 2, none⟩ = some (.int .i64 a0_2)) ∧ (Kd.R (Kd.int .u8) 5 w' w.heap.size (fun _ => True) u3 x3_1) ∧ (w'.heap[gb212]? = some (.cells #[.int .i64 a0_0, .slice A0_1 l0_1.length c0_1, .int .i64 a0_2] 37 (0, 0))) ∧ (Below w.heap.size w w')) ?_ ?_
                    rotate_left
                    · intro hCont
                      refine two_ (i := 1) (j := 5) (Ni := some 42) (Nj := some 46) #[true, true, false, true, true, false, false, false] #[true, false, false, true, true, true, false, false] rfl rfl rfl rfl (two_of HT_.out (by kernel_rfl)) (by decide) (by decide) (fun K hK => ?_) (fun K hK => ?_)
                      · skip
                        have hcv26 := own_string (P := Tryd.prog) Tryd.underlying28 Tryd.underlying5 Tryd.underlying9 (Kd.own_of_R HO_3.out)
                        refine value_ (w1 := ?_) (v := ?_) (by rfl) rfl ?_ ?_
                        rotate_left 2
                        · go_simp
                          constructor
                          · rfl
                          · rfl
                        clear hcv26
                        refine hK.out _ _ ⟨(blk_cell BK212.out 0).trans rfl, (blk_cell BK212.out 1).trans rfl, (blk_cell BK212.out 2).trans rfl⟩ (fun hHeld => ?_)
                        clear hK K
                        refine norm_ (a' := ?_) ?_ ?_
                        rotate_left
                        · show Act.put _ (some 42) _ = _
                          simp only [Act.put, List.setIfInBounds_toArray, List.set_cons_zero, List.set_cons_succ, i64_w, i32_w]
                          rfl
                        refine pure_ (i := 2) (N := some 43) (v := ?_) (a' := ?_) #[true, true, true, true, true, false, false, false] rfl rfl (any_of HT_.out (by kernel_rfl)) (fun _ _ _ h => h) (Or.inl ⟨by rfl, ?_⟩) ?_ ?_
                        rotate_left
                        · intro w'
                          go_simp
                          with_reducible rfl
                        rotate_left
                        · simp only [Act.put, List.setIfInBounds_toArray, List.set_cons_zero, List.set_cons_succ, i64_w, i32_w]
                          rfl
                        refine one_ (i := 5) (N := some 46) #[true, true, true, true, true, true, false, false] rfl rfl (one_of HT_.out (by kernel_rfl)) (by decide) (fun K hK => ?_)
                        refine goes_ Tryd.func28 (by kernel_rfl) rfl #[.int .i64 a0_2] (by rfl) rfl rfl (by (try simp only [List.map_toArray, List.map_cons, List.map_nil]); first | done | rfl | (simp only [List.length_drop, List.length_take]; rfl)) ?_
                        with_reducible refine (strconv_Itoa.calls a0_2 t221 _ ?side1 A22.out).mono ?_
                        (case side1 => refine GW.below HG.out ?_; repeat (first | (with_reducible first | exact HB.out | apply below_alloc | apply pw_below_drewN | apply below_drew1 | refine below_set ?_ GE212.out) | exact HB.out))
                        rintro e w27 ⟨rfl, hb⟩
                        refine ⟨_, rfl, ?_⟩
                        have n0_ := Aside0.mk (Kd.R_below (by (with_reducible repeat (first | apply Kd.R_alloc | apply Kd.R_drewN | apply Kd.R_drew)); exact HO_3.out) hb)
                        have n1_ := Aside0.mk (blk_below (g := gb212) (o := .cells #[.int .i64 a0_0, .slice A0_1 l0_1.length c0_1, .int .i64 a0_2] 37 (0, 0)) (by (with_reducible repeat (first | refine blk_drewN ?_ _ | refine blk_drew ?_ | refine blk_alloc ?_ _)); exact BK212.out) hb)
                        have n2_ := Aside0.mk (below_step (by repeat (first | (with_reducible first | exact HB.out | apply below_alloc | apply pw_below_drewN | apply below_drew1 | refine below_set ?_ GE212.out) | exact HB.out)) hb)
                        clear HO_3
                        clear BK212
                        clear HB
                        have HO_3 := n0_
                        have BK212 := n1_
                        have HB := n2_
                        clear n0_ n1_ n2_
                        (try clear hb)
                        (try clear hb2)
                        (try clear hk)
                        (try clear hi)
                        refine hK.out _ _ ⟨(blk_cell BK212.out 0).trans rfl, (blk_cell BK212.out 1).trans rfl, (blk_cell BK212.out 2).trans rfl⟩ (fun hHeld => ?_)
                        clear hK K
                        refine norm_ (a' := ?_) ?_ ?_
                        rotate_left
                        · show Act.put _ (some 46) _ = _
                          simp only [Act.put, List.setIfInBounds_toArray, List.set_cons_zero, List.set_cons_succ, i64_w, i32_w]
                          rfl
                        exact norm_ (by simp only [putAll, Act.put, List.setIfInBounds_toArray, List.set_cons_zero, List.set_cons_succ]) (hCont () _ ⟨hHeld, (by (with_reducible repeat (first | apply Kd.R_alloc | apply Kd.R_drewN | apply Kd.R_drew)); exact HO_3.out), (by (with_reducible repeat (first | refine blk_drewN ?_ _ | refine blk_drew ?_ | refine blk_alloc ?_ _)); exact BK212.out), (by repeat (first | (with_reducible first | exact HB.out | apply below_alloc | apply pw_below_drewN | apply below_drew1 | refine below_set ?_ GE212.out) | exact HB.out))⟩)
                      · skip
                        refine goes_ Tryd.func28 (by kernel_rfl) rfl #[.int .i64 a0_2] (by rfl) rfl rfl (by (try simp only [List.map_toArray, List.map_cons, List.map_nil]); first | done | rfl | (simp only [List.length_drop, List.length_take]; rfl)) ?_
                        with_reducible refine (strconv_Itoa.calls a0_2 t221 _ ?side1 A22.out).mono ?_
                        (case side1 => refine GW.below HG.out ?_; repeat (first | (with_reducible first | exact HB.out | apply below_alloc | apply pw_below_drewN | apply below_drew1 | refine below_set ?_ GE212.out) | exact HB.out))
                        rintro e w26 ⟨rfl, hb⟩
                        refine ⟨_, rfl, ?_⟩
                        have n0_ := Aside0.mk (Kd.R_below (by (with_reducible repeat (first | apply Kd.R_alloc | apply Kd.R_drewN | apply Kd.R_drew)); exact HO_3.out) hb)
                        have n1_ := Aside0.mk (blk_below (g := gb212) (o := .cells #[.int .i64 a0_0, .slice A0_1 l0_1.length c0_1, .int .i64 a0_2] 37 (0, 0)) (by (with_reducible repeat (first | refine blk_drewN ?_ _ | refine blk_drew ?_ | refine blk_alloc ?_ _)); exact BK212.out) hb)
                        have n2_ := Aside0.mk (below_step (by repeat (first | (with_reducible first | exact HB.out | apply below_alloc | apply pw_below_drewN | apply below_drew1 | refine below_set ?_ GE212.out) | exact HB.out)) hb)
                        clear HO_3
                        clear BK212
                        clear HB
                        have HO_3 := n0_
                        have BK212 := n1_
                        have HB := n2_
                        clear n0_ n1_ n2_
                        (try clear hb)
                        (try clear hb2)
                        (try clear hk)
                        (try clear hi)
                        refine hK.out _ _ ⟨(blk_cell BK212.out 0).trans rfl, (blk_cell BK212.out 1).trans rfl, (blk_cell BK212.out 2).trans rfl⟩ (fun hHeld => ?_)
                        clear hK K
                        refine norm_ (a' := ?_) ?_ ?_
                        rotate_left
                        · show Act.put _ (some 46) _ = _
                          simp only [Act.put, List.setIfInBounds_toArray, List.set_cons_zero, List.set_cons_succ, i64_w, i32_w]
                          rfl
                        refine one_ (i := 1) (N := some 42) #[true, true, false, true, true, true, false, false] rfl rfl (one_of HT_.out (by kernel_rfl)) (by decide) (fun K hK => ?_)
                        have hcv27 := own_string (P := Tryd.prog) Tryd.underlying28 Tryd.underlying5 Tryd.underlying9 (Kd.own_of_R HO_3.out)
                        refine value_ (w1 := ?_) (v := ?_) (by rfl) rfl ?_ ?_
                        rotate_left 2
                        · go_simp
                          constructor
                          · rfl
                          · rfl
                        clear hcv27
                        refine hK.out _ _ ⟨(blk_cell BK212.out 0).trans rfl, (blk_cell BK212.out 1).trans rfl, (blk_cell BK212.out 2).trans rfl⟩ (fun hHeld => ?_)
                        clear hK K
                        refine norm_ (a' := ?_) ?_ ?_
                        rotate_left
                        · show Act.put _ (some 42) _ = _
                          simp only [Act.put, List.setIfInBounds_toArray, List.set_cons_zero, List.set_cons_succ, i64_w, i32_w]
                          rfl
                        refine pure_ (i := 2) (N := some 43) (v := ?_) (a' := ?_) #[true, true, true, true, true, true, false, false] rfl rfl (any_of HT_.out (by kernel_rfl)) (fun _ _ _ h => h) (Or.inl ⟨by rfl, ?_⟩) ?_ ?_
                        rotate_left
                        · intro w'
                          go_simp
                          with_reducible rfl
                        rotate_left
                        · simp only [Act.put, List.setIfInBounds_toArray, List.set_cons_zero, List.set_cons_succ, i64_w, i32_w]
                          rfl
                        exact norm_ (by simp only [putAll, Act.put, List.setIfInBounds_toArray, List.set_cons_zero, List.set_cons_succ]) (hCont () _ ⟨hHeld, (by (with_reducible repeat (first | apply Kd.R_alloc | apply Kd.R_drewN | apply Kd.R_drew)); exact HO_3.out), (by (with_reducible repeat (first | refine blk_drewN ?_ _ | refine blk_drew ?_ | refine blk_alloc ?_ _)); exact BK212.out), (by repeat (first | (with_reducible first | exact HB.out | apply below_alloc | apply pw_below_drewN | apply below_drew1 | refine below_set ?_ GE212.out) | exact HB.out))⟩)
                    rintro _ w28 ⟨hS_, h0_, h1_, h2_⟩
                    have n0_ : Aside0 (Kd.R (Kd.int .u8) 5 w28 w.heap.size (fun _ => True) u3 x3_1) := ⟨h0_⟩
                    have n1_ : Aside0 (w28.heap[gb212]? = some (.cells #[.int .i64 a0_0, .slice A0_1 l0_1.length c0_1, .int .i64 a0_2] 37 (0, 0))) := ⟨h1_⟩
                    have n2_ : Aside0 (Below w.heap.size w w28) := ⟨h2_⟩
                    clear HO_3
                    clear BK212
                    clear HB
                    clear h0_ h1_ h2_
                    have HO_3 := n0_
                    have BK212 := n1_
                    have HB := n2_
                    clear n0_ n1_ n2_
                    have hHeld : w28.cell? ⟨gb212, 0, none⟩ = some (.int .i64 a0_0) ∧ w28.cell? ⟨gb212, 1, none⟩ = some (.slice A0_1 l0_1.length c0_1) ∧ w28.cell? ⟨gb212, 2, none⟩ = some (.int .i64 a0_2) := hS_
                    refine norm_ (a' := ?_) ?_ ?_
                    rotate_left
                    · simp only [putAll, Act.put, List.setIfInBounds_toArray, List.set_cons_zero, List.set_cons_succ]
                      rfl
                    refine pure_ (i := 6) (N := some 47) (v := ?_) (a' := ?_) #[true, true, true, true, true, true, true, false] rfl rfl (any_of HT_.out (by kernel_rfl)) (fun _ _ _ h => h) (Or.inl ⟨by rfl, ?_⟩) ?_ ?_
                    rotate_left
                    · intro w'
                      go_simp
                      with_reducible rfl
                    rotate_left
                    · simp only [Act.put, List.setIfInBounds_toArray, List.set_cons_zero, List.set_cons_succ, i64_w, i32_w]
                      rfl
                    refine pure_ (i := 7) (N := some 2) (v := ?_) (a' := ?_) #[true, true, true, true, true, true, true, true] rfl rfl (any_of HT_.out (by kernel_rfl)) (fun _ _ _ h => h) (Or.inl ⟨by rfl, ?_⟩) ?_ ?_
                    rotate_left
                    · intro w'
                      go_simp
                      with_reducible rfl
                    rotate_left
                    · simp only [Act.put, List.setIfInBounds_toArray, List.set_cons_zero, List.set_cons_succ, i64_w, i32_w]
                      rfl
                    refine done_ (done_of HT_.out (by kernel_rfl)) ?_
                    try go_wp2
                    go_ret
                    exact ⟨by first | rfl | (simp [errW_none, errW_some] <;> rfl) | (simp only [← hji4]; first | rfl | (simp [errW_none, errW_some] <;> rfl)) | (simp [*, errW_none, errW_some] <;> rfl), by repeat (first | (with_reducible first | exact HB.out | apply below_alloc | apply pw_below_drewN | apply below_drew1 | refine below_set ?_ GE212.out) | exact HB.out)⟩
                  · rw [if_neg c23] at H
                    exact absurd H (by simp)
                · rw [if_neg c21] at H
                  exact absurd H (by simp)
              · rw [if_neg c20] at H
                have c20b0 : (a0_0 == 2) = false := beq_eq_false_iff_ne.mpr c20
                have c20b1 : (a0_0 != 2) = true := bne_iff_ne.mpr c20
                by_cases c29 : a0_0 = 3
                · rw [if_pos c29] at H
                  have c29b0 : (a0_0 == 3) = true := beq_iff_eq.mpr c29
                  have c29b1 : (a0_0 != 3) = false := bne_eq_false_iff_eq.mpr c29
                  clear c29
                  by_cases c30 : (strOfNums x3_1).size + 1 ≤ 9223372036854775807
                  · rw [if_pos c30] at H
                    have c30b0 := eq_true c30
                    have c30b1 : decide ((strOfNums x3_1).size + 1 ≤ 9223372036854775807) = true := decide_eq_true c30
                    try have c30b2 : (9223372036854775807 < (strOfNums x3_1).size + 1) = False := eq_false (Nat.not_lt.2 c30)
                    replace H := Option.bind_eq_some_iff.mp H
                    obtain ⟨t222, A310, H⟩ := H
                    replace H : (if ((strOfNums x3_1) ++ (⟨#[61]⟩ : ByteArray)).size + t222.size ≤ 9223372036854775807 then (some (((strOfNums x3_1) ++ (⟨#[61]⟩ : ByteArray)) ++ t222)) else (none)) = some r := H
                    have A31 := Aside0.mk A310
                    clear A310
                    by_cases c32 : ((strOfNums x3_1) ++ (⟨#[61]⟩ : ByteArray)).size + t222.size ≤ 9223372036854775807
                    · rw [if_pos c32] at H
                      have c32b0 := eq_true c32
                      have c32b1 : decide (((strOfNums x3_1) ++ (⟨#[61]⟩ : ByteArray)).size + t222.size ≤ 9223372036854775807) = true := decide_eq_true c32
                      try have c32b2 : (9223372036854775807 < ((strOfNums x3_1) ++ (⟨#[61]⟩ : ByteArray)).size + t222.size) = False := eq_false (Nat.not_lt.2 c32)
                      try have c32b3 : (9223372036854775807 < (strOfNums x3_1).size + 1 + t222.size) = False := eq_false (Nat.not_lt.2 (by have h_ := c32; simp only [ByteArray.size_append] at h_; exact h_))
                      obtain rfl := Option.some.inj H
                      have hcz33_0 : wr.cell? ⟨gb212, 0, none⟩ = some (.int .i64 a0_0) := (blk_cell BK212.out 0).trans rfl
                      have hcz33_1 : wr.cell? ⟨gb212, 1, none⟩ = some (.slice A0_1 l0_1.length c0_1) := (blk_cell BK212.out 1).trans rfl
                      have hcz33_2 : wr.cell? ⟨gb212, 2, none⟩ = some (.int .i64 a0_2) := (blk_cell BK212.out 2).trans rfl
                      have hfz33_0 := blk_frozen BK212.out 0
                      have hfz33_1 := blk_frozen BK212.out 1
                      have hfz33_2 := blk_frozen BK212.out 2
                      try go_wp2
                      have n0_ := Aside0.mk (Kd.R_drew HO_3.out)
                      have n1_ := Aside0.mk (blk_drew BK212.out)
                      have n2_ := Aside0.mk (below_drew1 HB.out)
                      clear HO_3
                      clear BK212
                      clear HB
                      have HO_3 := n0_
                      have BK212 := n1_
                      have HB := n2_
                      clear n0_ n1_ n2_
                      refine start_ (n := 8) (S := fun w' => w'.cell? ⟨gb212, 0, none⟩ = some (.int .i64 a0_0) ∧ w'.cell? ⟨gb212, 1, none⟩ = some (.slice A0_1 l0_1.length c0_1) ∧ w'.cell? ⟨gb212, 2, none⟩ = some (.int .i64 a0_2)) (ds := []) #[false, false, false, false, false, false, false, false] (by kernel_rfl) rfl rfl ⟨(blk_cell BK212.out 0).trans rfl, (blk_cell BK212.out 1).trans rfl, (blk_cell BK212.out 2).trans rfl⟩ (fun hHeld => ?_); refine with_tabW impl_RuleText.tab10 impl_RuleText.bits10 (fun HT_ HW_ => ?_)
                      generalize wr.drew = w34 at HO_3 BK212 HB hHeld ⊢
                      refine pure_ (i := 0) (N := some 41) (v := ?_) (a' := ?_) #[true, false, false, false, false, false, false, false] rfl rfl (any_of HT_.out (by kernel_rfl)) (fun _ _ _ h => h) (Or.inl ⟨by rfl, ?_⟩) ?_ ?_
                      rotate_left
                      · intro w'
                        go_simp
                        with_reducible rfl
                      rotate_left
                      · simp only [Act.put, List.setIfInBounds_toArray, List.set_cons_zero, List.set_cons_succ, i64_w, i32_w]
                        rfl
                      refine pure_ (i := 3) (N := some 44) (v := ?_) (a' := ?_) #[true, false, false, true, false, false, false, false] rfl rfl (any_of HT_.out (by kernel_rfl)) (fun _ _ _ h => h) (Or.inl ⟨by rfl, ?_⟩) ?_ ?_
                      rotate_left
                      · intro w'
                        go_simp
                        with_reducible rfl
                      rotate_left
                      · simp only [Act.put, List.setIfInBounds_toArray, List.set_cons_zero, List.set_cons_succ, i64_w, i32_w]
                        rfl
                      refine take_ (i := 4) (N := some 45) (v := ?_) (a' := ?_) #[true, false, false, true, true, false, false, false] rfl rfl (take_ofW HT_.out HW_.out (by kernel_rfl)) (fun _ _ _ h => h) (Or.inl ⟨by rfl, ?_⟩) hHeld ?_ ?_
                      rotate_left
                      · rintro w' ⟨s0, s1, s2⟩
                        go_simp
                        with_reducible rfl
                      rotate_left
                      · simp only [Act.put, List.setIfInBounds_toArray, List.set_cons_zero, List.set_cons_succ, i64_w, i32_w]
                        rfl
                      refine join_ (σ := Unit) 2 #[true, true, true, true, true, true, false, false] (fun s_ => [(42, .string (strOfNums x3_1)), (46, .string t222), (43, .string ((strOfNums x3_1) ++ (⟨#[61]⟩ : ByteArray)))]) (fun s_ w' => (w'.cell? ⟨gb212, 0, none⟩ = some (.int .i64 a0_0) ∧ w'.cell? ⟨gb212, 1, none⟩ = some (.slice A0_1 l0_1.length c0_1) ∧ w'.cell? ⟨gb212, 2, none⟩ = some (.int .i64 a0_2)) ∧ (Kd.R (Kd.int .u8) 5 w' w.heap.size (fun _ => True) u3 x3_1) ∧ (w'.heap[gb212]? = some (.cells #[.int .i64 a0_0, .slice A0_1 l0_1.length c0_1, .int .i64 a0_2] 37 (0, 0))) ∧ (Below w.heap.size w w')) ?_ ?_
                      rotate_left
                      · intro hCont
                        refine two_ (i := 1) (j := 5) (Ni := some 42) (Nj := some 46) #[true, true, false, true, true, false, false, false] #[true, false, false, true, true, true, false, false] rfl rfl rfl rfl (two_of HT_.out (by kernel_rfl)) (by decide) (by decide) (fun K hK => ?_) (fun K hK => ?_)
                        · skip
                          have hcv35 := own_string (P := Tryd.prog) Tryd.underlying28 Tryd.underlying5 Tryd.underlying9 (Kd.own_of_R HO_3.out)
                          refine value_ (w1 := ?_) (v := ?_) (by rfl) rfl ?_ ?_
                          rotate_left 2
                          · go_simp
                            constructor
                            · rfl
                            · rfl
                          clear hcv35
                          refine hK.out _ _ ⟨(blk_cell BK212.out 0).trans rfl, (blk_cell BK212.out 1).trans rfl, (blk_cell BK212.out 2).trans rfl⟩ (fun hHeld => ?_)
                          clear hK K
                          refine norm_ (a' := ?_) ?_ ?_
                          rotate_left
                          · show Act.put _ (some 42) _ = _
                            simp only [Act.put, List.setIfInBounds_toArray, List.set_cons_zero, List.set_cons_succ, i64_w, i32_w]
                            rfl
                          refine pure_ (i := 2) (N := some 43) (v := ?_) (a' := ?_) #[true, true, true, true, true, false, false, false] rfl rfl (any_of HT_.out (by kernel_rfl)) (fun _ _ _ h => h) (Or.inl ⟨by rfl, ?_⟩) ?_ ?_
                          rotate_left
                          · intro w'
                            go_simp
                            with_reducible rfl
                          rotate_left
                          · simp only [Act.put, List.setIfInBounds_toArray, List.set_cons_zero, List.set_cons_succ, i64_w, i32_w]
                            rfl
                          refine one_ (i := 5) (N := some 46) #[true, true, true, true, true, true, false, false] rfl rfl (one_of HT_.out (by kernel_rfl)) (by decide) (fun K hK => ?_)
                          refine goes_ Tryd.func28 (by kernel_rfl) rfl #[.int .i64 a0_2] (by rfl) rfl rfl (by (try simp only [List.map_toArray, List.map_cons, List.map_nil]); first | done | rfl | (simp only [List.length_drop, List.length_take]; rfl)) ?_
                          with_reducible refine (strconv_Itoa.calls a0_2 t222 _ ?side1 A31.out).mono ?_
                          (case side1 => refine GW.below HG.out ?_; repeat (first | (with_reducible first | exact HB.out | apply below_alloc | apply pw_below_drewN | apply below_drew1 | refine below_set ?_ GE212.out) | exact HB.out))
                          rintro e w36 ⟨rfl, hb⟩
                          refine ⟨_, rfl, ?_⟩
                          have n0_ := Aside0.mk (Kd.R_below (by (with_reducible repeat (first | apply Kd.R_alloc | apply Kd.R_drewN | apply Kd.R_drew)); exact HO_3.out) hb)
                          have n1_ := Aside0.mk (blk_below (g := gb212) (o := .cells #[.int .i64 a0_0, .slice A0_1 l0_1.length c0_1, .int .i64 a0_2] 37 (0, 0)) (by (with_reducible repeat (first | refine blk_drewN ?_ _ | refine blk_drew ?_ | refine blk_alloc ?_ _)); exact BK212.out) hb)
                          have n2_ := Aside0.mk (below_step (by repeat (first | (with_reducible first | exact HB.out | apply below_alloc | apply pw_below_drewN | apply below_drew1 | refine below_set ?_ GE212.out) | exact HB.out)) hb)
                          clear HO_3
                          clear BK212
                          clear HB
                          have HO_3 := n0_
                          have BK212 := n1_
                          have HB := n2_
                          clear n0_ n1_ n2_
                          (try clear hb)
                          (try clear hb2)
                          (try clear hk)
                          (try clear hi)
                          refine hK.out _ _ ⟨(blk_cell BK212.out 0).trans rfl, (blk_cell BK212.out 1).trans rfl, (blk_cell BK212.out 2).trans rfl⟩ (fun hHeld => ?_)
                          clear hK K
                          refine norm_ (a' := ?_) ?_ ?_
                          rotate_left
                          · show Act.put _ (some 46) _ = _
                            simp only [Act.put, List.setIfInBounds_toArray, List.set_cons_zero, List.set_cons_succ, i64_w, i32_w]
                            rfl
                          exact norm_ (by simp only [putAll, Act.put, List.setIfInBounds_toArray, List.set_cons_zero, List.set_cons_succ]) (hCont () _ ⟨hHeld, (by (with_reducible repeat (first | apply Kd.R_alloc | apply Kd.R_drewN | apply Kd.R_drew)); exact HO_3.out), (by (with_reducible repeat (first | refine blk_drewN ?_ _ | refine blk_drew ?_ | refine blk_alloc ?_ _)); exact BK212.out), (by repeat (first | (with_reducible first | exact HB.out | apply below_alloc | apply pw_below_drewN | apply below_drew1 | refine below_set ?_ GE212.out) | exact HB.out))⟩)
                        · skip
                          refine goes_ Tryd.func28 (by kernel_rfl) rfl #[.int .i64 a0_2] (by rfl) rfl rfl (by (try simp only [List.map_toArray, List.map_cons, List.map_nil]); first | done | rfl | (simp only [List.length_drop, List.length_take]; rfl)) ?_
                          with_reducible refine (strconv_Itoa.calls a0_2 t222 _ ?side1 A31.out).mono ?_
                          (case side1 => refine GW.below HG.out ?_; repeat (first | (with_reducible first | exact HB.out | apply below_alloc | apply pw_below_drewN | apply below_drew1 | refine below_set ?_ GE212.out) | exact HB.out))
                          rintro e w35 ⟨rfl, hb⟩
                          refine ⟨_, rfl, ?_⟩
                          have n0_ := Aside0.mk (Kd.R_below (by (with_reducible repeat (first | apply Kd.R_alloc | apply Kd.R_drewN | apply Kd.R_drew)); exact HO_3.out) hb)
                          have n1_ := Aside0.mk (blk_below (g := gb212) (o := .cells #[.int .i64 a0_0, .slice A0_1 l0_1.length c0_1, .int .i64 a0_2] 37 (0, 0)) (by (with_reducible repeat (first | refine blk_drewN ?_ _ | refine blk_drew ?_ | refine blk_alloc ?_ _)); exact BK212.out) hb)
                          have n2_ := Aside0.mk (below_step (by repeat (first | (with_reducible first | exact HB.out | apply below_alloc | apply pw_below_drewN | apply below_drew1 | refine below_set ?_ GE212.out) | exact HB.out)) hb)
                          clear HO_3
                          clear BK212
                          clear HB
                          have HO_3 := n0_
                          have BK212 := n1_
                          have HB := n2_
                          clear n0_ n1_ n2_
                          (try clear hb)
                          (try clear hb2)
                          (try clear hk)
                          (try clear hi)
                          refine hK.out _ _ ⟨(blk_cell BK212.out 0).trans rfl, (blk_cell BK212.out 1).trans rfl, (blk_cell BK212.out 2).trans rfl⟩ (fun hHeld => ?_)
                          clear hK K
                          refine norm_ (a' := ?_) ?_ ?_
                          rotate_left
                          · show Act.put _ (some 46) _ = _
                            simp only [Act.put, List.setIfInBounds_toArray, List.set_cons_zero, List.set_cons_succ, i64_w, i32_w]
                            rfl
                          refine one_ (i := 1) (N := some 42) #[true, true, false, true, true, true, false, false] rfl rfl (one_of HT_.out (by kernel_rfl)) (by decide) (fun K hK => ?_)
                          have hcv36 := own_string (P := Tryd.prog) Tryd.underlying28 Tryd.underlying5 Tryd.underlying9 (Kd.own_of_R HO_3.out)
                          refine value_ (w1 := ?_) (v := ?_) (by rfl) rfl ?_ ?_
                          rotate_left 2
                          · go_simp
                            constructor
                            · rfl
                            · rfl
                          clear hcv36
                          refine hK.out _ _ ⟨(blk_cell BK212.out 0).trans rfl, (blk_cell BK212.out 1).trans rfl, (blk_cell BK212.out 2).trans rfl⟩ (fun hHeld => ?_)
                          clear hK K
                          refine norm_ (a' := ?_) ?_ ?_
                          rotate_left
                          · show Act.put _ (some 42) _ = _
                            simp only [Act.put, List.setIfInBounds_toArray, List.set_cons_zero, List.set_cons_succ, i64_w, i32_w]
                            rfl
                          refine pure_ (i := 2) (N := some 43) (v := ?_) (a' := ?_) #[true, true, true, true, true, true, false, false] rfl rfl (any_of HT_.out (by kernel_rfl)) (fun _ _ _ h => h) (Or.inl ⟨by rfl, ?_⟩) ?_ ?_
                          rotate_left
                          · intro w'
                            go_simp
                            with_reducible rfl
                          rotate_left
                          · simp only [Act.put, List.setIfInBounds_toArray, List.set_cons_zero, List.set_cons_succ, i64_w, i32_w]
                            rfl
                          exact norm_ (by simp only [putAll, Act.put, List.setIfInBounds_toArray, List.set_cons_zero, List.set_cons_succ]) (hCont () _ ⟨hHeld, (by (with_reducible repeat (first | apply Kd.R_alloc | apply Kd.R_drewN | apply Kd.R_drew)); exact HO_3.out), (by (with_reducible repeat (first | refine blk_drewN ?_ _ | refine blk_drew ?_ | refine blk_alloc ?_ _)); exact BK212.out), (by repeat (first | (with_reducible first | exact HB.out | apply below_alloc | apply pw_below_drewN | apply below_drew1 | refine below_set ?_ GE212.out) | exact HB.out))⟩)
                      rintro _ w37 ⟨hS_, h0_, h1_, h2_⟩
                      have n0_ : Aside0 (Kd.R (Kd.int .u8) 5 w37 w.heap.size (fun _ => True) u3 x3_1) := ⟨h0_⟩
                      have n1_ : Aside0 (w37.heap[gb212]? = some (.cells #[.int .i64 a0_0, .slice A0_1 l0_1.length c0_1, .int .i64 a0_2] 37 (0, 0))) := ⟨h1_⟩
                      have n2_ : Aside0 (Below w.heap.size w w37) := ⟨h2_⟩
                      clear HO_3
                      clear BK212
                      clear HB
                      clear h0_ h1_ h2_
                      have HO_3 := n0_
                      have BK212 := n1_
                      have HB := n2_
                      clear n0_ n1_ n2_
                      have hHeld : w37.cell? ⟨gb212, 0, none⟩ = some (.int .i64 a0_0) ∧ w37.cell? ⟨gb212, 1, none⟩ = some (.slice A0_1 l0_1.length c0_1) ∧ w37.cell? ⟨gb212, 2, none⟩ = some (.int .i64 a0_2) := hS_
                      refine norm_ (a' := ?_) ?_ ?_
                      rotate_left
                      · simp only [putAll, Act.put, List.setIfInBounds_toArray, List.set_cons_zero, List.set_cons_succ]
                        rfl
                      refine pure_ (i := 6) (N := some 47) (v := ?_) (a' := ?_) #[true, true, true, true, true, true, true, false] rfl rfl (any_of HT_.out (by kernel_rfl)) (fun _ _ _ h => h) (Or.inl ⟨by rfl, ?_⟩) ?_ ?_
                      rotate_left
                      · intro w'
                        go_simp
                        with_reducible rfl
                      rotate_left
                      · simp only [Act.put, List.setIfInBounds_toArray, List.set_cons_zero, List.set_cons_succ, i64_w, i32_w]
                        rfl
                      refine pure_ (i := 7) (N := some 2) (v := ?_) (a' := ?_) #[true, true, true, true, true, true, true, true] rfl rfl (any_of HT_.out (by kernel_rfl)) (fun _ _ _ h => h) (Or.inl ⟨by rfl, ?_⟩) ?_ ?_
                      rotate_left
                      · intro w'
                        go_simp
                        with_reducible rfl
                      rotate_left
                      · simp only [Act.put, List.setIfInBounds_toArray, List.set_cons_zero, List.set_cons_succ, i64_w, i32_w]
                        rfl
                      refine done_ (done_of HT_.out (by kernel_rfl)) ?_
                      try go_wp2
                      go_ret
                      exact ⟨by first | rfl | (simp [errW_none, errW_some] <;> rfl) | (simp only [← hji4]; first | rfl | (simp [errW_none, errW_some] <;> rfl)) | (simp [*, errW_none, errW_some] <;> rfl), by repeat (first | (with_reducible first | exact HB.out | apply below_alloc | apply pw_below_drewN | apply below_drew1 | refine below_set ?_ GE212.out) | exact HB.out)⟩
                    · rw [if_neg c32] at H
                      exact absurd H (by simp)
                  · rw [if_neg c30] at H
                    exact absurd H (by simp)
                · rw [if_neg c29] at H
                  have c29b0 : (a0_0 == 3) = false := beq_eq_false_iff_ne.mpr c29
                  have c29b1 : (a0_0 != 3) = true := bne_iff_ne.mpr c29
                  by_cases c38 : a0_0 = 5
                  · rw [if_pos c38] at H
                    have c38b0 : (a0_0 == 5) = true := beq_iff_eq.mpr c38
                    have c38b1 : (a0_0 != 5) = false := bne_eq_false_iff_eq.mpr c38
                    clear c38
                    by_cases c39 : (strOfNums x3_1).size + 1 ≤ 9223372036854775807
                    · rw [if_pos c39] at H
                      have c39b0 := eq_true c39
                      have c39b1 : decide ((strOfNums x3_1).size + 1 ≤ 9223372036854775807) = true := decide_eq_true c39
                      try have c39b2 : (9223372036854775807 < (strOfNums x3_1).size + 1) = False := eq_false (Nat.not_lt.2 c39)
                      replace H := Option.bind_eq_some_iff.mp H
                      obtain ⟨t223, A400, H⟩ := H
                      replace H : (if ((strOfNums x3_1) ++ (⟨#[61]⟩ : ByteArray)).size + t223.size ≤ 9223372036854775807 then (some (((strOfNums x3_1) ++ (⟨#[61]⟩ : ByteArray)) ++ t223)) else (none)) = some r := H
                      have A40 := Aside0.mk A400
                      clear A400
                      by_cases c41 : ((strOfNums x3_1) ++ (⟨#[61]⟩ : ByteArray)).size + t223.size ≤ 9223372036854775807
                      · rw [if_pos c41] at H
                        have c41b0 := eq_true c41
                        have c41b1 : decide (((strOfNums x3_1) ++ (⟨#[61]⟩ : ByteArray)).size + t223.size ≤ 9223372036854775807) = true := decide_eq_true c41
                        try have c41b2 : (9223372036854775807 < ((strOfNums x3_1) ++ (⟨#[61]⟩ : ByteArray)).size + t223.size) = False := eq_false (Nat.not_lt.2 c41)
                        try have c41b3 : (9223372036854775807 < (strOfNums x3_1).size + 1 + t223.size) = False := eq_false (Nat.not_lt.2 (by have h_ := c41; simp only [ByteArray.size_append] at h_; exact h_))
                        obtain rfl := Option.some.inj H
                        have hcz42_0 : wr.cell? ⟨gb212, 0, none⟩ = some (.int .i64 a0_0) := (blk_cell BK212.out 0).trans rfl
                        have hcz42_1 : wr.cell? ⟨gb212, 1, none⟩ = some (.slice A0_1 l0_1.length c0_1) := (blk_cell BK212.out 1).trans rfl
                        have hcz42_2 : wr.cell? ⟨gb212, 2, none⟩ = some (.int .i64 a0_2) := (blk_cell BK212.out 2).trans rfl
                        have hfz42_0 := blk_frozen BK212.out 0
                        have hfz42_1 := blk_frozen BK212.out 1
                        have hfz42_2 := blk_frozen BK212.out 2
                        try go_wp2
                        have n0_ := Aside0.mk (Kd.R_drew HO_3.out)
                        have n1_ := Aside0.mk (blk_drew BK212.out)
                        have n2_ := Aside0.mk (below_drew1 HB.out)
                        clear HO_3
                        clear BK212
                        clear HB
                        have HO_3 := n0_
                        have BK212 := n1_
                        have HB := n2_
                        clear n0_ n1_ n2_
                        refine start_ (n := 8) (S := fun w' => w'.cell? ⟨gb212, 0, none⟩ = some (.int .i64 a0_0) ∧ w'.cell? ⟨gb212, 1, none⟩ = some (.slice A0_1 l0_1.length c0_1) ∧ w'.cell? ⟨gb212, 2, none⟩ = some (.int .i64 a0_2)) (ds := []) #[false, false, false, false, false, false, false, false] (by kernel_rfl) rfl rfl ⟨(blk_cell BK212.out 0).trans rfl, (blk_cell BK212.out 1).trans rfl, (blk_cell BK212.out 2).trans rfl⟩ (fun hHeld => ?_); refine with_tabW impl_RuleText.tab10 impl_RuleText.bits10 (fun HT_ HW_ => ?_)
                        generalize wr.drew = w43 at HO_3 BK212 HB hHeld ⊢
                        refine pure_ (i := 0) (N := some 41) (v := ?_) (a' := ?_) #[true, false, false, false, false, false, false, false] rfl rfl (any_of HT_.out (by kernel_rfl)) (fun _ _ _ h => h) (Or.inl ⟨by rfl, ?_⟩) ?_ ?_
                        rotate_left
                        · intro w'
                          go_simp
                          with_reducible rfl
                        rotate_left
                        · simp only [Act.put, List.setIfInBounds_toArray, List.set_cons_zero, List.set_cons_succ, i64_w, i32_w]
                          rfl
                        refine pure_ (i := 3) (N := some 44) (v := ?_) (a' := ?_) #[true, false, false, true, false, false, false, false] rfl rfl (any_of HT_.out (by kernel_rfl)) (fun _ _ _ h => h) (Or.inl ⟨by rfl, ?_⟩) ?_ ?_
                        rotate_left
                        · intro w'
                          go_simp
                          with_reducible rfl
                        rotate_left
                        · simp only [Act.put, List.setIfInBounds_toArray, List.set_cons_zero, List.set_cons_succ, i64_w, i32_w]
                          rfl
                        refine take_ (i := 4) (N := some 45) (v := ?_) (a' := ?_) #[true, false, false, true, true, false, false, false] rfl rfl (take_ofW HT_.out HW_.out (by kernel_rfl)) (fun _ _ _ h => h) (Or.inl ⟨by rfl, ?_⟩) hHeld ?_ ?_
                        rotate_left
                        · rintro w' ⟨s0, s1, s2⟩
                          go_simp
                          with_reducible rfl
                        rotate_left
                        · simp only [Act.put, List.setIfInBounds_toArray, List.set_cons_zero, List.set_cons_succ, i64_w, i32_w]
                          rfl
                        refine join_ (σ := Unit) 2 #[true, true, true, true, true, true, false, false] (fun s_ => [(42, .string (strOfNums x3_1)), (46, .string t223), (43, .string ((strOfNums x3_1) ++ (⟨#[61]⟩ : ByteArray)))]) (fun s_ w' => (w'.cell? ⟨gb212, 0, none⟩ = some (.int .i64 a0_0) ∧ w'.cell? ⟨gb212, 1, none⟩ = some (.slice A0_1 l0_1.length c0_1) ∧ w'.cell? ⟨gb212, 2, none⟩ = some (.int .i64 a0_2)) ∧ (Kd.R (Kd.int .u8) 5 w' w.heap.size (fun _ => True) u3 x3_1) ∧ (w'.heap[gb212]? = some (.cells #[.int .i64 a0_0, .slice A0_1 l0_1.length c0_1, .int .i64 a0_2] 37 (0, 0))) ∧ (Below w.heap.size w w')) ?_ ?_
                        rotate_left
                        · intro hCont
                          refine two_ (i := 1) (j := 5) (Ni := some 42) (Nj := some 46) #[true, true, false, true, true, false, false, false] #[true, false, false, true, true, true, false, false] rfl rfl rfl rfl (two_of HT_.out (by kernel_rfl)) (by decide) (by decide) (fun K hK => ?_) (fun K hK => ?_)
                          · skip
                            have hcv44 := own_string (P := Tryd.prog) Tryd.underlying28 Tryd.underlying5 Tryd.underlying9 (Kd.own_of_R HO_3.out)
                            refine value_ (w1 := ?_) (v := ?_) (by rfl) rfl ?_ ?_
                            rotate_left 2
                            · go_simp
                              constructor
                              · rfl
                              · rfl
                            clear hcv44
                            refine hK.out _ _ ⟨(blk_cell BK212.out 0).trans rfl, (blk_cell BK212.out 1).trans rfl, (blk_cell BK212.out 2).trans rfl⟩ (fun hHeld => ?_)
                            clear hK K
                            refine norm_ (a' := ?_) ?_ ?_
                            rotate_left
                            · show Act.put _ (some 42) _ = _
                              simp only [Act.put, List.setIfInBounds_toArray, List.set_cons_zero, List.set_cons_succ, i64_w, i32_w]
                              rfl
                            refine pure_ (i := 2) (N := some 43) (v := ?_) (a' := ?_) #[true, true, true, true, true, false, false, false] rfl rfl (any_of HT_.out (by kernel_rfl)) (fun _ _ _ h => h) (Or.inl ⟨by rfl, ?_⟩) ?_ ?_
                            rotate_left
                            · intro w'
                              go_simp
                              with_reducible rfl
                            rotate_left
                            · simp only [Act.put, List.setIfInBounds_toArray, List.set_cons_zero, List.set_cons_succ, i64_w, i32_w]
                              rfl
                            refine one_ (i := 5) (N := some 46) #[true, true, true, true, true, true, false, false] rfl rfl (one_of HT_.out (by kernel_rfl)) (by decide) (fun K hK => ?_)
                            refine goes_ Tryd.func28 (by kernel_rfl) rfl #[.int .i64 a0_2] (by rfl) rfl rfl (by (try simp only [List.map_toArray, List.map_cons, List.map_nil]); first | done | rfl | (simp only [List.length_drop, List.length_take]; rfl)) ?_
                            with_reducible refine (strconv_Itoa.calls a0_2 t223 _ ?side1 A40.out).mono ?_
                            (case side1 => refine GW.below HG.out ?_; repeat (first | (with_reducible first | exact HB.out | apply below_alloc | apply pw_below_drewN | apply below_drew1 | refine below_set ?_ GE212.out) | exact HB.out))
                            rintro e w45 ⟨rfl, hb⟩
                            refine ⟨_, rfl, ?_⟩
                            have n0_ := Aside0.mk (Kd.R_below (by (with_reducible repeat (first | apply Kd.R_alloc | apply Kd.R_drewN | apply Kd.R_drew)); exact HO_3.out) hb)
                            have n1_ := Aside0.mk (blk_below (g := gb212) (o := .cells #[.int .i64 a0_0, .slice A0_1 l0_1.length c0_1, .int .i64 a0_2] 37 (0, 0)) (by (with_reducible repeat (first | refine blk_drewN ?_ _ | refine blk_drew ?_ | refine blk_alloc ?_ _)); exact BK212.out) hb)
                            have n2_ := Aside0.mk (below_step (by repeat (first | (with_reducible first | exact HB.out | apply below_alloc | apply pw_below_drewN | apply below_drew1 | refine below_set ?_ GE212.out) | exact HB.out)) hb)
                            clear HO_3
                            clear BK212
                            clear HB
                            have HO_3 := n0_
                            have BK212 := n1_
                            have HB := n2_
                            clear n0_ n1_ n2_
                            (try clear hb)
                            (try clear hb2)
                            (try clear hk)
                            (try clear hi)
                            refine hK.out _ _ ⟨(blk_cell BK212.out 0).trans rfl, (blk_cell BK212.out 1).trans rfl, (blk_cell BK212.out 2).trans rfl⟩ (fun hHeld => ?_)
                            clear hK K
                            refine norm_ (a' := ?_) ?_ ?_
                            rotate_left
                            · show Act.put _ (some 46) _ = _
                              simp only [Act.put, List.setIfInBounds_toArray, List.set_cons_zero, List.set_cons_succ, i64_w, i32_w]
                              rfl
                            exact norm_ (by simp only [putAll, Act.put, List.setIfInBounds_toArray, List.set_cons_zero, List.set_cons_succ]) (hCont () _ ⟨hHeld, (by (with_reducible repeat (first | apply Kd.R_alloc | apply Kd.R_drewN | apply Kd.R_drew)); exact HO_3.out), (by (with_reducible repeat (first | refine blk_drewN ?_ _ | refine blk_drew ?_ | refine blk_alloc ?_ _)); exact BK212.out), (by repeat (first | (with_reducible first | exact HB.out | apply below_alloc | apply pw_below_drewN | apply below_drew1 | refine below_set ?_ GE212.out) | exact HB.out))⟩)
                          · skip
                            refine goes_ Tryd.func28 (by kernel_rfl) rfl #[.int .i64 a0_2] (by rfl) rfl rfl (by (try simp only [List.map_toArray, List.map_cons, List.map_nil]); first | done | rfl | (simp only [List.length_drop, List.length_take]; rfl)) ?_
                            with_reducible refine (strconv_Itoa.calls a0_2 t223 _ ?side1 A40.out).mono ?_
                            (case side1 => refine GW.below HG.out ?_; repeat (first | (with_reducible first | exact HB.out | apply below_alloc | apply pw_below_drewN | apply below_drew1 | refine below_set ?_ GE212.out) | exact HB.out))
                            rintro e w44 ⟨rfl, hb⟩
                            refine ⟨_, rfl, ?_⟩
                            have n0_ := Aside0.mk (Kd.R_below (by (with_reducible repeat (first | apply Kd.R_alloc | apply Kd.R_drewN | apply Kd.R_drew)); exact HO_3.out) hb)
                            have n1_ := Aside0.mk (blk_below (g := gb212) (o := .cells #[.int .i64 a0_0, .slice A0_1 l0_1.length c0_1, .int .i64 a0_2] 37 (0, 0)) (by (with_reducible repeat (first | refine blk_drewN ?_ _ | refine blk_drew ?_ | refine blk_alloc ?_ _)); exact BK212.out) hb)
                            have n2_ := Aside0.mk (below_step (by repeat (first | (with_reducible first | exact HB.out | apply below_alloc | apply pw_below_drewN | apply below_drew1 | refine below_set ?_ GE212.out) | exact HB.out)) hb)
                            clear HO_3
                            clear BK212
                            clear HB
                            have HO_3 := n0_
                            have BK212 := n1_
                            have HB := n2_
                            clear n0_ n1_ n2_
                            (try clear hb)
                            (try clear hb2)
                            (try clear hk)
                            (try clear hi)
                            refine hK.out _ _ ⟨(blk_cell BK212.out 0).trans rfl, (blk_cell BK212.out 1).trans rfl, (blk_cell BK212.out 2).trans rfl⟩ (fun hHeld => ?_)
                            clear hK K
                            refine norm_ (a' := ?_) ?_ ?_
                            rotate_left
                            · show Act.put _ (some 46) _ = _
                              simp only [Act.put, List.setIfInBounds_toArray, List.set_cons_zero, List.set_cons_succ, i64_w, i32_w]
                              rfl
                            refine one_ (i := 1) (N := some 42) #[true, true, false, true, true, true, false, false] rfl rfl (one_of HT_.out (by kernel_rfl)) (by decide) (fun K hK => ?_)
                            have hcv45 := own_string (P := Tryd.prog) Tryd.underlying28 Tryd.underlying5 Tryd.underlying9 (Kd.own_of_R HO_3.out)
                            refine value_ (w1 := ?_) (v := ?_) (by rfl) rfl ?_ ?_
                            rotate_left 2
                            · go_simp
                              constructor
                              · rfl
                              · rfl
                            clear hcv45
                            refine hK.out _ _ ⟨(blk_cell BK212.out 0).trans rfl, (blk_cell BK212.out 1).trans rfl, (blk_cell BK212.out 2).trans rfl⟩ (fun hHeld => ?_)
                            clear hK K
                            refine norm_ (a' := ?_) ?_ ?_
                            rotate_left
                            · show Act.put _ (some 42) _ = _
                              simp only [Act.put, List.setIfInBounds_toArray, List.set_cons_zero, List.set_cons_succ, i64_w, i32_w]
                              rfl
                            refine pure_ (i := 2) (N := some 43) (v := ?_) (a' := ?_) #[true, true, true, true, true, true, false, false] rfl rfl (any_of HT_.out (by kernel_rfl)) (fun _ _ _ h => h) (Or.inl ⟨by rfl, ?_⟩) ?_ ?_
                            rotate_left
                            · intro w'
                              go_simp
                              with_reducible rfl
                            rotate_left
                            · simp only [Act.put, List.setIfInBounds_toArray, List.set_cons_zero, List.set_cons_succ, i64_w, i32_w]
                              rfl
                            exact norm_ (by simp only [putAll, Act.put, List.setIfInBounds_toArray, List.set_cons_zero, List.set_cons_succ]) (hCont () _ ⟨hHeld, (by (with_reducible repeat (first | apply Kd.R_alloc | apply Kd.R_drewN | apply Kd.R_drew)); exact HO_3.out), (by (with_reducible repeat (first | refine blk_drewN ?_ _ | refine blk_drew ?_ | refine blk_alloc ?_ _)); exact BK212.out), (by repeat (first | (with_reducible first | exact HB.out | apply below_alloc | apply pw_below_drewN | apply below_drew1 | refine below_set ?_ GE212.out) | exact HB.out))⟩)
                        rintro _ w46 ⟨hS_, h0_, h1_, h2_⟩
                        have n0_ : Aside0 (Kd.R (Kd.int .u8) 5 w46 w.heap.size (fun _ => True) u3 x3_1) := ⟨h0_⟩
                        have n1_ : Aside0 (w46.heap[gb212]? = some (.cells #[.int .i64 a0_0, .slice A0_1 l0_1.length c0_1, .int .i64 a0_2] 37 (0, 0))) := ⟨h1_⟩
                        have n2_ : Aside0 (Below w.heap.size w w46) := ⟨h2_⟩
                        clear HO_3
                        clear BK212
                        clear HB
                        clear h0_ h1_ h2_
                        have HO_3 := n0_
                        have BK212 := n1_
                        have HB := n2_
                        clear n0_ n1_ n2_
                        have hHeld : w46.cell? ⟨gb212, 0, none⟩ = some (.int .i64 a0_0) ∧ w46.cell? ⟨gb212, 1, none⟩ = some (.slice A0_1 l0_1.length c0_1) ∧ w46.cell? ⟨gb212, 2, none⟩ = some (.int .i64 a0_2) := hS_
                        refine norm_ (a' := ?_) ?_ ?_
                        rotate_left
                        · simp only [putAll, Act.put, List.setIfInBounds_toArray, List.set_cons_zero, List.set_cons_succ]
                          rfl
                        refine pure_ (i := 6) (N := some 47) (v := ?_) (a' := ?_) #[true, true, true, true, true, true, true, false] rfl rfl (any_of HT_.out (by kernel_rfl)) (fun _ _ _ h => h) (Or.inl ⟨by rfl, ?_⟩) ?_ ?_
                        rotate_left
                        · intro w'
                          go_simp
                          with_reducible rfl
                        rotate_left
                        · simp only [Act.put, List.setIfInBounds_toArray, List.set_cons_zero, List.set_cons_succ, i64_w, i32_w]
                          rfl
                        refine pure_ (i := 7) (N := some 2) (v := ?_) (a' := ?_) #[true, true, true, true, true, true, true, true] rfl rfl (any_of HT_.out (by kernel_rfl)) (fun _ _ _ h => h) (Or.inl ⟨by rfl, ?_⟩) ?_ ?_
                        rotate_left
                        · intro w'
                          go_simp
                          with_reducible rfl
                        rotate_left
                        · simp only [Act.put, List.setIfInBounds_toArray, List.set_cons_zero, List.set_cons_succ, i64_w, i32_w]
                          rfl
                        refine done_ (done_of HT_.out (by kernel_rfl)) ?_
                        try go_wp2
                        go_ret
                        exact ⟨by first | rfl | (simp [errW_none, errW_some] <;> rfl) | (simp only [← hji4]; first | rfl | (simp [errW_none, errW_some] <;> rfl)) | (simp [*, errW_none, errW_some] <;> rfl), by repeat (first | (with_reducible first | exact HB.out | apply below_alloc | apply pw_below_drewN | apply below_drew1 | refine below_set ?_ GE212.out) | exact HB.out)⟩
                      · rw [if_neg c41] at H
                        exact absurd H (by simp)
                    · rw [if_neg c39] at H
                      exact absurd H (by simp)
                  · rw [if_neg c38] at H
                    have c38b0 : (a0_0 == 5) = false := beq_eq_false_iff_ne.mpr c38
                    have c38b1 : (a0_0 != 5) = true := bne_iff_ne.mpr c38
                    obtain rfl := Option.some.inj H
                    have hcz47_0 : wr.cell? ⟨gb212, 0, none⟩ = some (.int .i64 a0_0) := (blk_cell BK212.out 0).trans rfl
                    have hcz47_1 : wr.cell? ⟨gb212, 1, none⟩ = some (.slice A0_1 l0_1.length c0_1) := (blk_cell BK212.out 1).trans rfl
                    have hcz47_2 : wr.cell? ⟨gb212, 2, none⟩ = some (.int .i64 a0_2) := (blk_cell BK212.out 2).trans rfl
                    have hfz47_0 := blk_frozen BK212.out 0
                    have hfz47_1 := blk_frozen BK212.out 1
                    have hfz47_2 := blk_frozen BK212.out 2
                    have hcv48 := own_string (P := Tryd.prog) Tryd.underlying28 Tryd.underlying5 Tryd.underlying9 (Kd.own_of_R HO_3.out)
                    go_wp2
                    go_ret
                    exact ⟨by first | rfl | (simp [errW_none, errW_some] <;> rfl) | (simp only [← hji4]; first | rfl | (simp [errW_none, errW_some] <;> rfl)) | (simp [*, errW_none, errW_some] <;> rfl), by repeat (first | (with_reducible first | exact HB.out | apply below_alloc | apply pw_below_drewN | apply below_drew1 | refine below_set ?_ GE212.out) | exact HB.out)⟩
      · rw [if_neg c6] at H
        exact absurd H (by simp)
    · rw [if_neg c5] at H
      exact absurd H (by simp)
  · replace c3 := Bool.eq_false_iff.mpr c3
    subst c3
    have H1 : (some (⟨#[]⟩ : ByteArray)) = some r := by rw [if_neg (show ¬ (false = true) by decide)] at H; exact H
    clear H
    have H := H1
    clear H1
    obtain rfl := Option.some.inj H
    go_enter Tryd.func16, Tryd.ntmps16
    go_wp2_with (first | ((with_reducible refine gate_dst (N := 1) rfl ?_); refine box_event ?hg (N := 1) ?hd (cs := #[.int .i64 a0_0, .slice A0_1 l0_1.length c0_1, .int .i64 a0_2]) (t := 37) ?hr ?_; (case hd => rfl); (case hg => rfl); (case hr => first | (go_simp; done) | (go_simp; rfl)); intro gb212 hg w49 hbox hb; have n0_ := Aside0.mk (below_step (by repeat (first | (with_reducible first | exact HB.out | apply below_alloc | apply pw_below_drewN | apply below_drew1) | exact HB.out)) hb); have n1_ := Aside0.mk (hbox); have n2_ := Aside0.mk ((by rw [hg]; exact (below_size (by repeat (first | (with_reducible first | exact HB.out | apply below_alloc | apply pw_below_drewN | apply below_drew1) | exact HB.out))) : w.heap.size ≤ gb212)); have n3_ := Aside0.mk ((by rw [hg]; exact (below_size (by repeat (first | (with_reducible first | exact HB.out | apply below_alloc | apply pw_below_drewN | apply below_drew1) | exact HB.out))) : w.heap.size ≤ gb212)); clear HB; have HB := n0_; have BK212 := n1_; have GW212 := n2_; have GE212 := n3_; clear n0_ n1_ n2_ n3_; clear hb hbox hg; have hcz50_0 : w49.cell? ⟨gb212, 0, none⟩ = some (.int .i64 a0_0) := (blk_cell BK212.out 0).trans rfl; have hcz50_1 : w49.cell? ⟨gb212, 1, none⟩ = some (.slice A0_1 l0_1.length c0_1) := (blk_cell BK212.out 1).trans rfl; have hcz50_2 : w49.cell? ⟨gb212, 2, none⟩ = some (.int .i64 a0_2) := (blk_cell BK212.out 2).trans rfl; have hfz50_0 := blk_frozen BK212.out 0; have hfz50_1 := blk_frozen BK212.out 1; have hfz50_2 := blk_frozen BK212.out 2) | ((with_reducible refine gate_callee (f := 36) rfl ?_); refine goesL_ (some 7) rfl rfl Tryd.func36 (by kernel_rfl) rfl #[.agg #[.int .i64 a0_0, .slice A0_1 l0_1.length c0_1, .int .i64 a0_2], .int .i64 4] rfl (by (try simp only [List.map_toArray, List.map_cons, List.map_nil]); first | done | rfl | (simp only [List.length_drop, List.length_take]; rfl)) ?_; (with_reducible refine (impl_RuleValid.calls k a0_0 _ _ l0_1 a0_2 4 false _ ?side1 ?side2 A2.out).mono ?_); (case side1 => repeat (first | exact (Kd.C_below HR0_1.out HB.out) | (with_reducible refine Kd.C_alloc ?_ _) | (with_reducible refine Kd.C_drewN ?_ _) | (with_reducible refine Kd.C_drew ?_))); (case side2 => exact HC0_1.out); rintro e w51 ⟨rfl, hb⟩; refine ⟨_, rfl, ?_⟩; have n0_ := Aside0.mk (blk_below (g := gb212) (o := .cells #[.int .i64 a0_0, .slice A0_1 l0_1.length c0_1, .int .i64 a0_2] 37 (0, 0)) (by (with_reducible repeat (first | refine blk_drewN ?_ _ | refine blk_drew ?_ | refine blk_alloc ?_ _)); exact BK212.out) hb); have n1_ := Aside0.mk (below_step (by repeat (first | (with_reducible first | exact HB.out | apply below_alloc | apply pw_below_drewN | apply below_drew1 | refine below_set ?_ GE212.out) | exact HB.out)) hb); clear BK212; clear HB; have BK212 := n0_; have HB := n1_; clear n0_ n1_; (try clear hb); (try clear hb2); (try clear hk); (try clear hi)))
    go_ret
    exact ⟨by first | rfl | (simp [errW_none, errW_some] <;> rfl) | (simp [*, errW_none, errW_some] <;> rfl), by repeat (first | (with_reducible first | exact HB.out | apply below_alloc | apply pw_below_drewN | apply below_drew1 | refine below_set ?_ GE212.out) | exact HB.out)⟩

end Go.Proofs.YtojnknpgnohegaaDoor.Q
