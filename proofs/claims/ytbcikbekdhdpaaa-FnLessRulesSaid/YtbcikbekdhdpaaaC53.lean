/- laws.FnLessRules: for every input it returns true and leaves its argument as it was. -/
import Derived.Test.YtbcikbekdhdpaaaC52
section
namespace Go.Proofs.Ytbcikbekdhdpaaa.Q
open Go.RowKit Go.Proofs.YtbcikbekdhdpaaaW.PrintWords Go.Proofs.YtbcikbekdhdpaaaW.PrintLast Go.Proofs.YtbcikbekdhdpaaaW.PrintMore
attribute [local go_sem] max2_int min2_int max_two min_two max_three min_three max_four min_four   -- for this text's walks alone
set_option linter.unusedVariables false
set_option linter.unusedSimpArgs false
mutual
def spec_l20Grid.l0 : Nat → Int → Int → Int → Int → List Int → List Int → Int → Option (List Int × Int × Int)
  | 0, _, _, _, _, _, _, _ => none
  | k + 1, x1, x6, x8, x9, x15, x1000, x1001 => if x9 < (x15.length : Int) then ((spec_l20Rd_pick.f k x1000 x1001 5).bind fun bt420 => (if bt420.1 < x8 then (if 0 ≤ x9 then (spec_l20Grid.l0 k x1 x6 x8 (wrap64 (x9 + 1)) (x15.set (x9 : Int).toNat 0) x1000 bt420.2) else (none)) else (spec_l20Grid.l0 k x1 x6 x8 (wrap64 (x9 + 1)) x15 x1000 bt420.2))) else ((spec_l20Rd_pick.f k x1000 x1001 3).bind fun bt423 => (spec_l20Grid.l1 k x1 x6 bt423.1 x15 x1000 bt423.2))
def spec_l20Grid.l1 : Nat → Int → Int → Int → List Int → List Int → Int → Option (List Int × Int × Int)
  | 0, _, _, _, _, _, _ => none
  | k + 1, x1, x6, x10, x15, x1000, x1001 => if x10 > 1 then ((spec_l20Rd_pick.f k x1000 x1001 (x15.length : Int)).bind fun bt425 => ((spec_l20Rd_pick.f k x1000 bt425.2 (wrap64 (x6 + 1))).bind fun bt427 => (if 0 ≤ bt425.1 then (if bt425.1 < (x15.length : Int) then (spec_l20Grid.l1 k x1 x6 (wrap64 (x10 - 1)) (x15.set (bt425.1 : Int).toNat bt427.1) x1000 bt427.2) else (none)) else (none)))) else ((spec_l20Rd_odd.f k x1000 x1001 x1).bind fun bt430 => (if bt430.1 = true then ((spec_l20Rd_pick.f k x1000 bt430.2 3).bind fun bt432 => (if bt432.1 = 0 then ((spec_l20Rd_pick.f k x1000 bt432.2 (x15.length : Int)).bind fun bt434 => ((some (([(-1), wrap64 (x6 + 1)] : List Int) : List Int)).bind fun y436 => ((spec_l20Rd_pick.f k x1000 bt434.2 2).bind fun bt439 => (if 0 ≤ bt439.1 then (if bt439.1 < (y436.length : Int) then (if 0 ≤ bt434.1 then (if bt434.1 < (x15.length : Int) then (some ((x15.set (bt434.1 : Int).toNat (rd y436 bt439.1)), x6, bt439.2)) else (none)) else (none)) else (none)) else (none))))) else (if bt432.1 = 1 then (if 1 ≤ (x15.length : Int) then (some ((x15.drop (1 : Int).toNat), x6, bt432.2)) else (none)) else ((spec_l20Size.f k x1000 bt432.2 1).bind fun bt446 => (some (x15, bt446.1, bt446.2)))))) else (some (x15, x6, bt430.2))))
end
def spec_l20Grid.f (k : Nat) (s0_0 : List Int) (s0_1 : Int) (a1 : Int) : Option (List Int × Int × Int) := (spec_l20Size.f k s0_0 s0_1 0).bind fun bt412 => ((spec_l20Solved.f k s0_0 bt412.2 bt412.1).bind fun bt414 => ((spec_l20Rd_pick.f k s0_0 bt414.2 5).bind fun bt418 => (spec_l20Grid.l0 k a1 bt412.1 bt418.1 0 bt414.1 s0_0 bt418.2)))
set_option maxHeartbeats 8000000 in
set_option maxRecDepth 100000 in
theorem spec_l20Grid.calls (k : Nat) (g : Nat) (s0_0 : List Int) (s0_1 : Int) (a1 : Int) (r1 : List Int) (r2 : Int) (r3 : Int) (w0 w : World) (hI : IsS100 w0 w g s0_0 s0_1) (hB : Below w0.heap.size w0 w) (h : spec_l20Grid.f k s0_0 s0_1 a1 = some (r1, r2, r3)) :
    Calls Try.prog 48 #[.pointer (some ⟨g, 0, none⟩), .int .i64 a1] w fun e w' => ∃ v0_ : Value, e = .returned (.tuple #[v0_, .int .i64 r2]) ∧ Kd.Q (Kd.int .i64) 3 w' w.heap.size (fun _ => True) v0_ r1 ∧ IsS100 w0 w' g s0_0 r3 ∧ Below w0.heap.size w0 w' ∧ KeepBut w w' g none := by
  have HI0 := Aside0.mk hI
  have HK := Aside0.mk (KeepBut.refl w g none)
  have HL := Aside0.mk hB.size
  clear hI
  have HW0 := Aside0.mk hB.size
  have HB := Aside0.mk hB
  clear hB
  have H : ((spec_l20Size.f k s0_0 s0_1 0).bind fun bt412 => ((spec_l20Solved.f k s0_0 bt412.2 bt412.1).bind fun bt414 => ((spec_l20Rd_pick.f k s0_0 bt414.2 5).bind fun bt418 => (spec_l20Grid.l0 k a1 bt412.1 bt418.1 0 bt414.1 s0_0 bt418.2)))) = some (r1, r2, r3) := h
  clear h
  replace H := Option.bind_eq_some_iff.mp H
  obtain ⟨⟨t412, t413⟩, A30, H⟩ := H
  replace H : ((spec_l20Solved.f k s0_0 t413 t412).bind fun bt414 => ((spec_l20Rd_pick.f k s0_0 bt414.2 5).bind fun bt418 => (spec_l20Grid.l0 k a1 t412 bt418.1 0 bt414.1 s0_0 bt418.2))) = some (r1, r2, r3) := H
  have A3 := Aside0.mk A30
  clear A30
  replace H := Option.bind_eq_some_iff.mp H
  obtain ⟨⟨t414, t417⟩, A40, H⟩ := H
  replace H : ((spec_l20Rd_pick.f k s0_0 t417 5).bind fun bt418 => (spec_l20Grid.l0 k a1 t412 bt418.1 0 t414 s0_0 bt418.2)) = some (r1, r2, r3) := H
  have A4 := Aside0.mk A40
  clear A40
  replace H := Option.bind_eq_some_iff.mp H
  obtain ⟨⟨t418, t419⟩, A50, H⟩ := H
  replace H : (spec_l20Grid.l0 k a1 t412 t418 0 t414 s0_0 t419) = some (r1, r2, r3) := H
  have A5 := Aside0.mk A50
  clear A50
  have H' := Aside0.mk H
  clear H
  go_enter Try.func48, Try.ntmps48
  go_wp2_with (first | ((with_reducible refine gate_callee (f := 45) rfl ?_); refine goesL_ (some 12) rfl rfl Try.func45 (by kernel_rfl) rfl #[.pointer (some ⟨g, 0, none⟩), .int .i64 0] rfl (by (try simp only [List.map_toArray, List.map_cons, List.map_nil]); first | done | rfl | (simp only [List.length_drop, List.length_take]; rfl)) ?_; (with_reducible refine (spec_l20Size.calls k g s0_0 s0_1 0 t412 t413 w0 _ ?side1 ?side2 A3.out).mono ?_); (case side1 => repeat (first | (with_reducible first | exact HI0.out | apply IsS100.alloc | apply IsS100.drewN | apply IsS100.drew | apply IsS100.set_1) | exact HI0.out)); (case side2 => repeat (first | (with_reducible first | exact HB.out | apply below_alloc | apply pw_below_drewN | apply below_drew1 | refine below_set ?_ (IsS100.ge HI0.out)) | exact HB.out)); rintro e w6 ⟨rfl, hi, hb, hk⟩; refine ⟨_, rfl, ?_⟩; have n0_ := Aside0.mk (KeepBut.trans (by repeat (first | (with_reducible first | exact HK.out | apply KeepBut.set_ | apply keep_drewN | apply keep_drew | apply keep_alloc) | exact HK.out)) hk (.inl rfl)); have n1_ := Aside0.mk (hb); have n2_ := Aside0.mk (hi); clear HK; clear HB; clear HI0; have HK := n0_; have HB := n1_; have HI0 := n2_; clear n0_ n1_ n2_; (try clear hb); (try clear hb2); (try clear hk); (try clear hi)) | ((with_reducible refine gate_callee (f := 46) rfl ?_); refine goesL_ (some 15) rfl rfl Try.func46 (by kernel_rfl) rfl #[.pointer (some ⟨g, 0, none⟩), .int .i64 t412] rfl (by (try simp only [List.map_toArray, List.map_cons, List.map_nil]); first | done | rfl | (simp only [List.length_drop, List.length_take]; rfl)) ?_; (with_reducible refine (spec_l20Solved.calls k g s0_0 t413 t412 t414 t417 w0 _ ?side1 ?side2 A4.out).mono ?_); (case side1 => repeat (first | (with_reducible first | exact HI0.out | apply IsS100.alloc | apply IsS100.drewN | apply IsS100.drew | apply IsS100.set_1) | exact HI0.out)); (case side2 => repeat (first | (with_reducible first | exact HB.out | apply below_alloc | apply pw_below_drewN | apply below_drew1 | refine below_set ?_ (IsS100.ge HI0.out)) | exact HB.out)); rintro e w7 ⟨v415, rfl, ho0, hi, hb, hk⟩; refine ⟨_, rfl, ?_⟩; have n0_ := Aside0.mk (Kd.R_lower ho0 (keep_size (w := w) (g := g) (row := none) (by repeat (first | (with_reducible first | exact HK.out | apply KeepBut.set_ | apply keep_drewN | apply keep_drew | apply keep_alloc) | exact HK.out)))); have n1_ := Aside0.mk (KeepBut.trans (by repeat (first | (with_reducible first | exact HK.out | apply KeepBut.set_ | apply keep_drewN | apply keep_drew | apply keep_alloc) | exact HK.out)) hk (.inl rfl)); have n2_ := Aside0.mk (hb); have n3_ := Aside0.mk (hi); clear HK; clear HB; clear HI0; have HO416 := n0_; have HK := n1_; have HB := n2_; have HI0 := n3_; clear n0_ n1_ n2_ n3_; (try clear hb); (try clear hb2); (try clear hk); (try clear hi); (try clear ho0)) | ((with_reducible refine gate_callee (f := 49) rfl ?_); refine goesL_ (some 17) rfl rfl Try.func49 (by kernel_rfl) rfl #[.pointer (some ⟨g, 0, none⟩), .int .i64 5] rfl (by (try simp only [List.map_toArray, List.map_cons, List.map_nil]); first | done | rfl | (simp only [List.length_drop, List.length_take]; rfl)) ?_; (with_reducible refine (spec_l20Rd_pick.calls k g s0_0 t417 5 t418 t419 w0 _ ?side1 ?side2 A5.out).mono ?_); (case side1 => repeat (first | (with_reducible first | exact HI0.out | apply IsS100.alloc | apply IsS100.drewN | apply IsS100.drew | apply IsS100.set_1) | exact HI0.out)); (case side2 => repeat (first | (with_reducible first | exact HB.out | apply below_alloc | apply pw_below_drewN | apply below_drew1 | refine below_set ?_ (IsS100.ge HI0.out)) | exact HB.out)); rintro e w8 ⟨rfl, hi, hb, hk⟩; refine ⟨_, rfl, ?_⟩; have n0_ := Aside0.mk (Kd.R_mono (Kd.R_keep (IsS100.apart (show IsS100 w0 _ g s0_0 t417 from by repeat (first | (with_reducible first | exact HI0.out | apply IsS100.alloc | apply IsS100.drewN | apply IsS100.drew | apply IsS100.set_1) | exact HI0.out)) (by (with_reducible repeat (first | apply Kd.R_alloc | apply Kd.R_drewN | apply Kd.R_drew)); exact HO416.out) (by decide)) hk (fun _ h => h.2)) (fun _ h => h.1)); have n1_ := Aside0.mk (KeepBut.trans (by repeat (first | (with_reducible first | exact HK.out | apply KeepBut.set_ | apply keep_drewN | apply keep_drew | apply keep_alloc) | exact HK.out)) hk (.inl rfl)); have n2_ := Aside0.mk (hb); have n3_ := Aside0.mk (hi); clear HO416; clear HK; clear HB; clear HI0; have HO416 := n0_; have HK := n1_; have HB := n2_; have HI0 := n3_; clear n0_ n1_ n2_ n3_; (try clear hb); (try clear hb2); (try clear hk); (try clear hi)))
  go_loopg [9] k (fun kq v9 w' => ∃ (x9_1 : Int) (x15_1 : List Int) (x1001_1 : Int), v9 = .int .i64 x9_1 ∧ Aside0 (spec_l20Grid.l0 kq a1 t412 t418 x9_1 x15_1 s0_0 x1001_1 = some (r1, r2, r3)) ∧ Aside0 (kq ≤ k) ∧ Aside0 (Kd.R (Kd.int .i64) 3 w' w.heap.size (fun _ => True) v415 x15_1) ∧ Aside0 (IsS100 w0 w' g s0_0 x1001_1) ∧ Aside0 (KeepBut w w' g none) ∧ Aside0 (Below w0.heap.size w0 w'))
  case atStart => exact ⟨(0), (t414), (t419), (by first | rfl | (simp; done) | (simp [*]; done)), H', ⟨Nat.le_refl _⟩, ⟨by (with_reducible repeat (first | apply Kd.R_alloc | apply Kd.R_drewN | apply Kd.R_drew)); exact HO416.out⟩, ⟨by repeat (first | (with_reducible first | exact HI0.out | apply IsS100.alloc | apply IsS100.drewN | apply IsS100.drew | apply IsS100.set_1) | exact HI0.out)⟩, ⟨by repeat (first | (with_reducible first | exact HK.out | apply KeepBut.set_ | apply keep_drewN | apply keep_drew | apply keep_alloc) | exact HK.out)⟩, ⟨by repeat (first | (with_reducible first | exact HB.out | apply below_alloc | apply pw_below_drewN | apply below_drew1 | refine below_set ?_ (IsS100.ge HI0.out)) | exact HB.out)⟩⟩
  case round =>
    clear H'
    try clear p2
    try clear c4
    obtain ⟨x9_1, x15_1, x1001_1, rfl, HA, HK1, HO_15, HI0, HK, HB⟩ := hrel
    cases gk with
    | zero => exact absurd HA.out (by simp [spec_l20Grid.l0])
    | succ k1 =>
      have H := HA.out
      clear HA
      simp only [spec_l20Grid.l0] at H
      by_cases c9 : x9_1 < (x15_1.length : Int)
      · rw [if_pos c9] at H
        have c9b0 : decide (x9_1 < (x15_1.length : Int)) = true := decide_eq_true c9
        clear c9
        replace H := Option.bind_eq_some_iff.mp H
        obtain ⟨⟨t420, t421⟩, A100, H⟩ := H
        replace H : (if t420 < t418 then (if 0 ≤ x9_1 then (spec_l20Grid.l0 k1 a1 t412 t418 (wrap64 (x9_1 + 1)) (x15_1.set (x9_1 : Int).toNat 0) s0_0 t421) else (none)) else (spec_l20Grid.l0 k1 a1 t412 t418 (wrap64 (x9_1 + 1)) x15_1 s0_0 t421)) = some (r1, r2, r3) := H
        have A10 := Aside0.mk A100
        clear A100
        by_cases c11 : t420 < t418
        · rw [if_pos c11] at H
          have c11b0 : decide (t420 < t418) = true := decide_eq_true c11
          clear c11
          by_cases c12 : 0 ≤ x9_1
          · rw [if_pos c12] at H
            have c12b0 : decide (0 ≤ x9_1) = true := decide_eq_true c12
            clear c12
            obtain ⟨y422, hy422⟩ : ∃ y_ : List Int, y_ = (x15_1.set (x9_1 : Int).toNat 0) := ⟨_, rfl⟩
            replace H : (spec_l20Grid.l0 k1 a1 t412 t418 (wrap64 (x9_1 + 1)) y422 s0_0 t421) = some (r1, r2, r3) := by first | (rw [hy422]; with_reducible exact H) | (have H2_ := (Option.bind_some _ _).symm.trans H; rw [hy422]; with_reducible exact H2_) | (have H2_ := (Option.bind_some _ _).symm.trans H; with_reducible exact H2_) | with_reducible exact H | (rw [hy422]; exact H) | exact H
            have Ny422 := Aside0.mk hy422
            clear hy422
            have H' := Aside0.mk H
            clear H
            obtain ⟨Ao14, co14, eo14⟩ := Kd.R_slice HO_15.out
            subst eo14
            go_wp2_with (first | ((with_reducible refine gate_callee (f := 49) rfl ?_); refine goesL_ (some 25) rfl rfl Try.func49 (by kernel_rfl) rfl #[.pointer (some ⟨g, 0, none⟩), .int .i64 5] rfl (by (try simp only [List.map_toArray, List.map_cons, List.map_nil]); first | done | rfl | (simp only [List.length_drop, List.length_take]; rfl)) ?_; (with_reducible refine (spec_l20Rd_pick.calls k1 g s0_0 x1001_1 5 t420 t421 w0 _ ?side1 ?side2 A10.out).mono ?_); (case side1 => repeat (first | (with_reducible first | exact HI0.out | apply IsS100.alloc | apply IsS100.drewN | apply IsS100.drew | apply IsS100.set_1) | exact HI0.out)); (case side2 => repeat (first | (with_reducible first | exact HB.out | apply below_alloc | apply pw_below_drewN | apply below_drew1 | refine below_set ?_ (IsS100.ge HI0.out)) | exact HB.out)); rintro e w15 ⟨rfl, hi, hb, hk⟩; refine ⟨_, rfl, ?_⟩; have n0_ := Aside0.mk (Kd.R_mono (Kd.R_keep (IsS100.apart (show IsS100 w0 _ g s0_0 x1001_1 from by repeat (first | (with_reducible first | exact HI0.out | apply IsS100.alloc | apply IsS100.drewN | apply IsS100.drew | apply IsS100.set_1) | exact HI0.out)) (by (with_reducible repeat (first | apply Kd.R_alloc | apply Kd.R_drewN | apply Kd.R_drew)); exact HO_15.out) (by decide)) hk (fun _ h => h.2)) (fun _ h => h.1)); have n1_ := Aside0.mk (KeepBut.trans (by repeat (first | (with_reducible first | exact HK.out | apply KeepBut.set_ | apply keep_drewN | apply keep_drew | apply keep_alloc) | exact HK.out)) hk (.inl rfl)); have n2_ := Aside0.mk (hb); have n3_ := Aside0.mk (hi); clear HO_15; clear HK; clear HB; clear HI0; have HO_15 := n0_; have HK := n1_; have HB := n2_; have HI0 := n3_; clear n0_ n1_ n2_ n3_; (try clear hb); (try clear hb2); (try clear hk); (try clear hi); have p13 : 0 ≤ (x9_1 : Int) := of_decide_eq_true (by first | (with_reducible assumption) | assumption); have q13 : (x9_1 : Int) < ((x15_1.length : Int) : Int) := of_decide_eq_true (by first | (with_reducible assumption) | assumption); obtain ⟨go13, co13, eo13, gb13, gl13, cl13, HG13⟩ := Kd.R_form HO_15.out (by omega); (first | cases eo13 | (injection eo13 with ea_ en_ ec_; (first | subst ea_ | (injection ea_ with ea_; subst ea_)); subst ec_; clear en_)); have GB13 := Aside0.mk gb13; have GG13 := Aside0.mk HG13; clear gb13 gl13 HG13; obtain ⟨hx13_0, hf13_0⟩ := Kd.R_celln 0 HO_15.out (x9_1 : Int) p13 q13; replace p13 := eq_true p13; replace q13 := eq_true q13; obtain ⟨hy16_, hz16_⟩ := Kd.R_celln 0 HO_15.out (x9_1 : Int) (of_decide_eq_true (by first | (with_reducible assumption) | assumption)) (of_decide_eq_true (by first | (with_reducible assumption) | assumption)); have HP16 := Kd.R_putg HO_15.out (x9_1 : Int) 0) | ((with_reducible refine gate_store (t := 3) (p := 30) rfl ?_); refine store_event (t := 3) (p := 30) (v := ?vo_w17) (w1 := (w15.setCell ⟨go13, (x9_1 : Int).toNat, none⟩ (.int .i64 0))) ?hg ?ho ?hn ?hr ?_; (case ho => rfl); (case hg => rfl); (case hn => rfl); (case hr => first | (go_simp; done) | (go_simp; rfl)); intro w17 hw; have hg : w15.grownBy w17 (some go13) := (by rw [hw]; exact HP16.2); have hp_ : Kd.R (Kd.int .i64) 3 w17 w.heap.size (fun _ => True) (.slice (some ⟨go13, 0, none⟩) x15_1.length co14) y422 := (by rw [hw, Ny422.out]; exact HP16.1); clear HP16; have n0_ := Aside0.mk (hp_); have n1_ := Aside0.mk (IsS100.grown (by repeat (first | (with_reducible first | exact HI0.out | apply IsS100.alloc | apply IsS100.drewN | apply IsS100.drew | apply IsS100.set_1) | exact HI0.out)) hg (IsS100.own_ne HI0.out HO_15.out (by decide))); have n2_ := Aside0.mk ((by rw [hw]; exact below_set (HB.out) (Nat.le_trans HL.out GB13.out) : Below w0.heap.size w0 w17)); have n3_ := Aside0.mk (KeepBut.trans (by repeat (first | (with_reducible first | exact HK.out | apply KeepBut.set_ | apply keep_drewN | apply keep_drew | apply keep_alloc) | exact HK.out)) (KeepBut.of_grown hg g) (Kd.R_base2 HO_15.out)); clear HO_15; clear HI0; clear HB; clear HK; have HO_15 := n0_; have HI0 := n1_; have HB := n2_; have HK := n3_; clear n0_ n1_ n2_ n3_; clear hg hw hp_))
            go_roundg k1
            case measure => have := HK1.out; omega
            case rel => exact ⟨(wrap64 (x9_1 + 1)), (y422), (t421), (by first | rfl | (simp; done) | (simp [*]; done)), H', ⟨by have := HK1.out; omega⟩, ⟨by (with_reducible repeat (first | apply Kd.R_alloc | apply Kd.R_drewN | apply Kd.R_drew)); exact HO_15.out⟩, ⟨by repeat (first | (with_reducible first | exact HI0.out | apply IsS100.alloc | apply IsS100.drewN | apply IsS100.drew | apply IsS100.set_1) | exact HI0.out)⟩, ⟨by repeat (first | (with_reducible first | exact HK.out | apply KeepBut.set_ | apply keep_drewN | apply keep_drew | apply keep_alloc) | exact HK.out)⟩, ⟨by repeat (first | (with_reducible first | exact HB.out | apply below_alloc | apply pw_below_drewN | apply below_drew1 | refine below_set ?_ (IsS100.ge HI0.out)) | exact HB.out)⟩⟩
          · rw [if_neg c12] at H
            exact absurd H (by simp)
        · rw [if_neg c11] at H
          have c11b0 : decide (t420 < t418) = false := decide_eq_false c11
          clear c11
          have H' := Aside0.mk H
          clear H
          obtain ⟨Ao18, co18, eo18⟩ := Kd.R_slice HO_15.out
          subst eo18
          go_wp2_with (first | ((with_reducible refine gate_callee (f := 49) rfl ?_); refine goesL_ (some 25) rfl rfl Try.func49 (by kernel_rfl) rfl #[.pointer (some ⟨g, 0, none⟩), .int .i64 5] rfl (by (try simp only [List.map_toArray, List.map_cons, List.map_nil]); first | done | rfl | (simp only [List.length_drop, List.length_take]; rfl)) ?_; (with_reducible refine (spec_l20Rd_pick.calls k1 g s0_0 x1001_1 5 t420 t421 w0 _ ?side1 ?side2 A10.out).mono ?_); (case side1 => repeat (first | (with_reducible first | exact HI0.out | apply IsS100.alloc | apply IsS100.drewN | apply IsS100.drew | apply IsS100.set_1) | exact HI0.out)); (case side2 => repeat (first | (with_reducible first | exact HB.out | apply below_alloc | apply pw_below_drewN | apply below_drew1 | refine below_set ?_ (IsS100.ge HI0.out)) | exact HB.out)); rintro e w19 ⟨rfl, hi, hb, hk⟩; refine ⟨_, rfl, ?_⟩; have n0_ := Aside0.mk (Kd.R_mono (Kd.R_keep (IsS100.apart (show IsS100 w0 _ g s0_0 x1001_1 from by repeat (first | (with_reducible first | exact HI0.out | apply IsS100.alloc | apply IsS100.drewN | apply IsS100.drew | apply IsS100.set_1) | exact HI0.out)) (by (with_reducible repeat (first | apply Kd.R_alloc | apply Kd.R_drewN | apply Kd.R_drew)); exact HO_15.out) (by decide)) hk (fun _ h => h.2)) (fun _ h => h.1)); have n1_ := Aside0.mk (KeepBut.trans (by repeat (first | (with_reducible first | exact HK.out | apply KeepBut.set_ | apply keep_drewN | apply keep_drew | apply keep_alloc) | exact HK.out)) hk (.inl rfl)); have n2_ := Aside0.mk (hb); have n3_ := Aside0.mk (hi); clear HO_15; clear HK; clear HB; clear HI0; have HO_15 := n0_; have HK := n1_; have HB := n2_; have HI0 := n3_; clear n0_ n1_ n2_ n3_; (try clear hb); (try clear hb2); (try clear hk); (try clear hi)))
          go_roundg k1
          case measure => have := HK1.out; omega
          case rel => exact ⟨(wrap64 (x9_1 + 1)), (x15_1), (t421), (by first | rfl | (simp; done) | (simp [*]; done)), H', ⟨by have := HK1.out; omega⟩, ⟨by (with_reducible repeat (first | apply Kd.R_alloc | apply Kd.R_drewN | apply Kd.R_drew)); exact HO_15.out⟩, ⟨by repeat (first | (with_reducible first | exact HI0.out | apply IsS100.alloc | apply IsS100.drewN | apply IsS100.drew | apply IsS100.set_1) | exact HI0.out)⟩, ⟨by repeat (first | (with_reducible first | exact HK.out | apply KeepBut.set_ | apply keep_drewN | apply keep_drew | apply keep_alloc) | exact HK.out)⟩, ⟨by repeat (first | (with_reducible first | exact HB.out | apply below_alloc | apply pw_below_drewN | apply below_drew1 | refine below_set ?_ (IsS100.ge HI0.out)) | exact HB.out)⟩⟩
      · rw [if_neg c9] at H
        have c9b0 : decide (x9_1 < (x15_1.length : Int)) = false := decide_eq_false c9
        clear c9
        replace H := Option.bind_eq_some_iff.mp H
        obtain ⟨⟨t423, t424⟩, A200, H⟩ := H
        replace H : (spec_l20Grid.l1 k1 a1 t412 t423 x15_1 s0_0 t424) = some (r1, r2, r3) := H
        have A20 := Aside0.mk A200
        clear A200
        have H' := Aside0.mk H
        clear H
        obtain ⟨Ao21, co21, eo21⟩ := Kd.R_slice HO_15.out
        subst eo21
        go_wp2_with (first | ((with_reducible refine gate_callee (f := 49) rfl ?_); refine goesL_ (some 32) rfl rfl Try.func49 (by kernel_rfl) rfl #[.pointer (some ⟨g, 0, none⟩), .int .i64 3] rfl (by (try simp only [List.map_toArray, List.map_cons, List.map_nil]); first | done | rfl | (simp only [List.length_drop, List.length_take]; rfl)) ?_; (with_reducible refine (spec_l20Rd_pick.calls k1 g s0_0 x1001_1 3 t423 t424 w0 _ ?side1 ?side2 A20.out).mono ?_); (case side1 => repeat (first | (with_reducible first | exact HI0.out | apply IsS100.alloc | apply IsS100.drewN | apply IsS100.drew | apply IsS100.set_1) | exact HI0.out)); (case side2 => repeat (first | (with_reducible first | exact HB.out | apply below_alloc | apply pw_below_drewN | apply below_drew1 | refine below_set ?_ (IsS100.ge HI0.out)) | exact HB.out)); rintro e w22 ⟨rfl, hi, hb, hk⟩; refine ⟨_, rfl, ?_⟩; have n0_ := Aside0.mk (Kd.R_mono (Kd.R_keep (IsS100.apart (show IsS100 w0 _ g s0_0 x1001_1 from by repeat (first | (with_reducible first | exact HI0.out | apply IsS100.alloc | apply IsS100.drewN | apply IsS100.drew | apply IsS100.set_1) | exact HI0.out)) (by (with_reducible repeat (first | apply Kd.R_alloc | apply Kd.R_drewN | apply Kd.R_drew)); exact HO_15.out) (by decide)) hk (fun _ h => h.2)) (fun _ h => h.1)); have n1_ := Aside0.mk (KeepBut.trans (by repeat (first | (with_reducible first | exact HK.out | apply KeepBut.set_ | apply keep_drewN | apply keep_drew | apply keep_alloc) | exact HK.out)) hk (.inl rfl)); have n2_ := Aside0.mk (hb); have n3_ := Aside0.mk (hi); clear HO_15; clear HK; clear HB; clear HI0; have HO_15 := n0_; have HK := n1_; have HB := n2_; have HI0 := n3_; clear n0_ n1_ n2_ n3_; (try clear hb); (try clear hb2); (try clear hk); (try clear hi)))
        go_loopg [10] k1 (fun kq v10 w' => ∃ (x10_2 : Int) (x15_2 : List Int) (x1001_2 : Int), v10 = .int .i64 x10_2 ∧ Aside0 (spec_l20Grid.l1 kq a1 t412 x10_2 x15_2 s0_0 x1001_2 = some (r1, r2, r3)) ∧ Aside0 (kq ≤ k1) ∧ Aside0 (Kd.R (Kd.int .i64) 3 w' w.heap.size (fun _ => True) (.slice Ao21 x15_1.length co21) x15_2) ∧ Aside0 (IsS100 w0 w' g s0_0 x1001_2) ∧ Aside0 (KeepBut w w' g none) ∧ Aside0 (Below w0.heap.size w0 w'))
        case atStart => exact ⟨(t423), (x15_1), (t424), (by first | rfl | (simp; done) | (simp [*]; done)), H', ⟨Nat.le_refl _⟩, ⟨by (with_reducible repeat (first | apply Kd.R_alloc | apply Kd.R_drewN | apply Kd.R_drew)); exact HO_15.out⟩, ⟨by repeat (first | (with_reducible first | exact HI0.out | apply IsS100.alloc | apply IsS100.drewN | apply IsS100.drew | apply IsS100.set_1) | exact HI0.out)⟩, ⟨by repeat (first | (with_reducible first | exact HK.out | apply KeepBut.set_ | apply keep_drewN | apply keep_drew | apply keep_alloc) | exact HK.out)⟩, ⟨by repeat (first | (with_reducible first | exact HB.out | apply below_alloc | apply pw_below_drewN | apply below_drew1 | refine below_set ?_ (IsS100.ge HI0.out)) | exact HB.out)⟩⟩
        case round =>
          clear H'
          try clear c1
          try clear p1
          try clear q1
          try clear hx1
          try clear p2
          try clear c4
          try clear p6
          try clear c9
          try clear c9b0
          try clear c11
          try clear c11b0
          try clear c12
          try clear c12b0
          try clear p13
          try clear q13
          try clear hx13
          try clear hf13
          try clear hx13_0
          try clear p13
          try clear p2
          try clear q13
          obtain ⟨x10_2, x15_2, x1001_2, rfl, HA, HK2, HO_15, HI0, HK, HB⟩ := hrel
          have hl15_2 := (Kd.R_reads' HO_15.out).1
          rw [hl15_2] at HO_15
          (try simp only [hl15_2])
          cases gk with
          | zero => exact absurd HA.out (by simp [spec_l20Grid.l1])
          | succ k2 =>
            have H := HA.out
            clear HA
            simp only [spec_l20Grid.l1] at H
            by_cases c23 : x10_2 > 1
            · rw [if_pos c23] at H
              have c23b0 : decide (1 < x10_2) = true := decide_eq_true c23
              clear c23
              replace H := Option.bind_eq_some_iff.mp H
              obtain ⟨⟨t425, t426⟩, A240, H⟩ := H
              replace H : ((spec_l20Rd_pick.f k2 s0_0 t426 (wrap64 (t412 + 1))).bind fun bt427 => (if 0 ≤ t425 then (if t425 < (x15_2.length : Int) then (spec_l20Grid.l1 k2 a1 t412 (wrap64 (x10_2 - 1)) (x15_2.set (t425 : Int).toNat bt427.1) s0_0 bt427.2) else (none)) else (none))) = some (r1, r2, r3) := H
              have A24 := Aside0.mk A240
              clear A240
              replace H := Option.bind_eq_some_iff.mp H
              obtain ⟨⟨t427, t428⟩, A250, H⟩ := H
              replace H : (if 0 ≤ t425 then (if t425 < (x15_2.length : Int) then (spec_l20Grid.l1 k2 a1 t412 (wrap64 (x10_2 - 1)) (x15_2.set (t425 : Int).toNat t427) s0_0 t428) else (none)) else (none)) = some (r1, r2, r3) := H
              have A25 := Aside0.mk A250
              clear A250
              by_cases c26 : 0 ≤ t425
              · rw [if_pos c26] at H
                have c26b0 : decide (0 ≤ t425) = true := decide_eq_true c26
                clear c26
                by_cases c27 : t425 < (x15_2.length : Int)
                · rw [if_pos c27] at H
                  have c27b0 : decide (t425 < (x15_2.length : Int)) = true := decide_eq_true c27
                  clear c27
                  obtain ⟨y429, hy429⟩ : ∃ y_ : List Int, y_ = (x15_2.set (t425 : Int).toNat t427) := ⟨_, rfl⟩
                  replace H : (spec_l20Grid.l1 k2 a1 t412 (wrap64 (x10_2 - 1)) y429 s0_0 t428) = some (r1, r2, r3) := by first | (rw [hy429]; with_reducible exact H) | (have H2_ := (Option.bind_some _ _).symm.trans H; rw [hy429]; with_reducible exact H2_) | (have H2_ := (Option.bind_some _ _).symm.trans H; with_reducible exact H2_) | with_reducible exact H | (rw [hy429]; exact H) | exact H
                  have Ny429 := Aside0.mk hy429
                  clear hy429
                  have H' := Aside0.mk H
                  clear H
                  go_wp2_with (first | ((with_reducible refine gate_callee (f := 49) rfl ?_); refine goesL_ (some 41) rfl rfl Try.func49 (by kernel_rfl) rfl #[.pointer (some ⟨g, 0, none⟩), .int .i64 (x15_2.length : Int)] rfl (by (try simp only [List.map_toArray, List.map_cons, List.map_nil]); first | done | rfl | (simp only [List.length_drop, List.length_take]; rfl)) ?_; (with_reducible refine (spec_l20Rd_pick.calls k2 g s0_0 x1001_2 (x15_2.length : Int) t425 t426 w0 _ ?side1 ?side2 A24.out).mono ?_); (case side1 => repeat (first | (with_reducible first | exact HI0.out | apply IsS100.alloc | apply IsS100.drewN | apply IsS100.drew | apply IsS100.set_1) | exact HI0.out)); (case side2 => repeat (first | (with_reducible first | exact HB.out | apply below_alloc | apply pw_below_drewN | apply below_drew1 | refine below_set ?_ (IsS100.ge HI0.out)) | exact HB.out)); rintro e w29 ⟨rfl, hi, hb, hk⟩; refine ⟨_, rfl, ?_⟩; have n0_ := Aside0.mk (Kd.R_mono (Kd.R_keep (IsS100.apart (show IsS100 w0 _ g s0_0 x1001_2 from by repeat (first | (with_reducible first | exact HI0.out | apply IsS100.alloc | apply IsS100.drewN | apply IsS100.drew | apply IsS100.set_1) | exact HI0.out)) (by (with_reducible repeat (first | apply Kd.R_alloc | apply Kd.R_drewN | apply Kd.R_drew)); exact HO_15.out) (by decide)) hk (fun _ h => h.2)) (fun _ h => h.1)); have n1_ := Aside0.mk (KeepBut.trans (by repeat (first | (with_reducible first | exact HK.out | apply KeepBut.set_ | apply keep_drewN | apply keep_drew | apply keep_alloc) | exact HK.out)) hk (.inl rfl)); have n2_ := Aside0.mk (hb); have n3_ := Aside0.mk (hi); clear HO_15; clear HK; clear HB; clear HI0; have HO_15 := n0_; have HK := n1_; have HB := n2_; have HI0 := n3_; clear n0_ n1_ n2_ n3_; (try clear hb); (try clear hb2); (try clear hk); (try clear hi)) | ((with_reducible refine gate_callee (f := 49) rfl ?_); refine goesL_ (some 45) rfl rfl Try.func49 (by kernel_rfl) rfl #[.pointer (some ⟨g, 0, none⟩), .int .i64 (wrap64 (t412 + 1))] rfl (by (try simp only [List.map_toArray, List.map_cons, List.map_nil]); first | done | rfl | (simp only [List.length_drop, List.length_take]; rfl)) ?_; (with_reducible refine (spec_l20Rd_pick.calls k2 g s0_0 t426 (wrap64 (t412 + 1)) t427 t428 w0 _ ?side1 ?side2 A25.out).mono ?_); (case side1 => repeat (first | (with_reducible first | exact HI0.out | apply IsS100.alloc | apply IsS100.drewN | apply IsS100.drew | apply IsS100.set_1) | exact HI0.out)); (case side2 => repeat (first | (with_reducible first | exact HB.out | apply below_alloc | apply pw_below_drewN | apply below_drew1 | refine below_set ?_ (IsS100.ge HI0.out)) | exact HB.out)); rintro e w30 ⟨rfl, hi, hb, hk⟩; refine ⟨_, rfl, ?_⟩; have n0_ := Aside0.mk (Kd.R_mono (Kd.R_keep (IsS100.apart (show IsS100 w0 _ g s0_0 t426 from by repeat (first | (with_reducible first | exact HI0.out | apply IsS100.alloc | apply IsS100.drewN | apply IsS100.drew | apply IsS100.set_1) | exact HI0.out)) (by (with_reducible repeat (first | apply Kd.R_alloc | apply Kd.R_drewN | apply Kd.R_drew)); exact HO_15.out) (by decide)) hk (fun _ h => h.2)) (fun _ h => h.1)); have n1_ := Aside0.mk (KeepBut.trans (by repeat (first | (with_reducible first | exact HK.out | apply KeepBut.set_ | apply keep_drewN | apply keep_drew | apply keep_alloc) | exact HK.out)) hk (.inl rfl)); have n2_ := Aside0.mk (hb); have n3_ := Aside0.mk (hi); clear HO_15; clear HK; clear HB; clear HI0; have HO_15 := n0_; have HK := n1_; have HB := n2_; have HI0 := n3_; clear n0_ n1_ n2_ n3_; (try clear hb); (try clear hb2); (try clear hk); (try clear hi); have p28 : 0 ≤ (t425 : Int) := of_decide_eq_true (by first | (with_reducible assumption) | assumption); have q28 : (t425 : Int) < ((x15_2.length : Int) : Int) := of_decide_eq_true (by first | (with_reducible assumption) | assumption); obtain ⟨go28, co28, eo28, gb28, gl28, cl28, HG28⟩ := Kd.R_form HO_15.out (by omega); (first | cases eo28 | (injection eo28 with ea_ en_ ec_; (first | subst ea_ | (injection ea_ with ea_; subst ea_)); subst ec_; clear en_)); have GB28 := Aside0.mk gb28; have GG28 := Aside0.mk HG28; clear gb28 gl28 HG28; obtain ⟨hx28_0, hf28_0⟩ := Kd.R_celln 0 HO_15.out (t425 : Int) p28 q28; replace p28 := eq_true p28; replace q28 := eq_true q28; obtain ⟨hy31_, hz31_⟩ := Kd.R_celln 0 HO_15.out (t425 : Int) (of_decide_eq_true (by first | (with_reducible assumption) | assumption)) (of_decide_eq_true (by first | (with_reducible assumption) | assumption)); have HP31 := Kd.R_putg HO_15.out (t425 : Int) t427) | ((with_reducible refine gate_store (t := 3) (p := 46) rfl ?_); refine store_event (t := 3) (p := 46) (v := ?vo_w32) (w1 := (w30.setCell ⟨go28, (t425 : Int).toNat, none⟩ (.int .i64 t427))) ?hg ?ho ?hn ?hr ?_; (case ho => rfl); (case hg => rfl); (case hn => rfl); (case hr => first | (go_simp; done) | (go_simp; rfl)); intro w32 hw; have hg : w30.grownBy w32 (some go28) := (by rw [hw]; exact HP31.2); have hp_ : Kd.R (Kd.int .i64) 3 w32 w.heap.size (fun _ => True) (.slice (some ⟨go28, 0, none⟩) x15_2.length co21) y429 := (by rw [hw, Ny429.out]; exact HP31.1); clear HP31; have n0_ := Aside0.mk (hp_); have n1_ := Aside0.mk (IsS100.grown (by repeat (first | (with_reducible first | exact HI0.out | apply IsS100.alloc | apply IsS100.drewN | apply IsS100.drew | apply IsS100.set_1) | exact HI0.out)) hg (IsS100.own_ne HI0.out HO_15.out (by decide))); have n2_ := Aside0.mk ((by rw [hw]; exact below_set (HB.out) (Nat.le_trans HL.out GB28.out) : Below w0.heap.size w0 w32)); have n3_ := Aside0.mk (KeepBut.trans (by repeat (first | (with_reducible first | exact HK.out | apply KeepBut.set_ | apply keep_drewN | apply keep_drew | apply keep_alloc) | exact HK.out)) (KeepBut.of_grown hg g) (Kd.R_base2 HO_15.out)); clear HO_15; clear HI0; clear HB; clear HK; have HO_15 := n0_; have HI0 := n1_; have HB := n2_; have HK := n3_; clear n0_ n1_ n2_ n3_; clear hg hw hp_))
                  (try simp only [← hl15_2])
                  go_roundg k2
                  case measure => have := HK1.out; have := HK2.out; omega
                  case rel => exact ⟨(wrap64 (x10_2 - 1)), (y429), (t428), (by first | rfl | (simp; done) | (simp [*]; done)), H', ⟨by have := HK1.out; have := HK2.out; omega⟩, ⟨by (try simp only [hl15_2]); (with_reducible repeat (first | apply Kd.R_alloc | apply Kd.R_drewN | apply Kd.R_drew)); exact HO_15.out⟩, ⟨by repeat (first | (with_reducible first | exact HI0.out | apply IsS100.alloc | apply IsS100.drewN | apply IsS100.drew | apply IsS100.set_1) | exact HI0.out)⟩, ⟨by repeat (first | (with_reducible first | exact HK.out | apply KeepBut.set_ | apply keep_drewN | apply keep_drew | apply keep_alloc) | exact HK.out)⟩, ⟨by repeat (first | (with_reducible first | exact HB.out | apply below_alloc | apply pw_below_drewN | apply below_drew1 | refine below_set ?_ (IsS100.ge HI0.out)) | exact HB.out)⟩⟩
                · rw [if_neg c27] at H
                  exact absurd H (by simp)
              · rw [if_neg c26] at H
                exact absurd H (by simp)
            · rw [if_neg c23] at H
              have c23b0 : decide (1 < x10_2) = false := decide_eq_false c23
              clear c23
              replace H := Option.bind_eq_some_iff.mp H
              obtain ⟨⟨t430, t431⟩, A330, H⟩ := H
              replace H : (if t430 = true then ((spec_l20Rd_pick.f k2 s0_0 t431 3).bind fun bt432 => (if bt432.1 = 0 then ((spec_l20Rd_pick.f k2 s0_0 bt432.2 (x15_2.length : Int)).bind fun bt434 => ((some (([(-1), wrap64 (t412 + 1)] : List Int) : List Int)).bind fun y436 => ((spec_l20Rd_pick.f k2 s0_0 bt434.2 2).bind fun bt439 => (if 0 ≤ bt439.1 then (if bt439.1 < (y436.length : Int) then (if 0 ≤ bt434.1 then (if bt434.1 < (x15_2.length : Int) then (some ((x15_2.set (bt434.1 : Int).toNat (rd y436 bt439.1)), t412, bt439.2)) else (none)) else (none)) else (none)) else (none))))) else (if bt432.1 = 1 then (if 1 ≤ (x15_2.length : Int) then (some ((x15_2.drop (1 : Int).toNat), t412, bt432.2)) else (none)) else ((spec_l20Size.f k2 s0_0 bt432.2 1).bind fun bt446 => (some (x15_2, bt446.1, bt446.2)))))) else (some (x15_2, t412, t431))) = some (r1, r2, r3) := H
              have A33 := Aside0.mk A330
              clear A330
              by_cases c34 : t430 = true
              · subst c34
                have H1 : ((spec_l20Rd_pick.f k2 s0_0 t431 3).bind fun bt432 => (if bt432.1 = 0 then ((spec_l20Rd_pick.f k2 s0_0 bt432.2 (x15_2.length : Int)).bind fun bt434 => ((some (([(-1), wrap64 (t412 + 1)] : List Int) : List Int)).bind fun y436 => ((spec_l20Rd_pick.f k2 s0_0 bt434.2 2).bind fun bt439 => (if 0 ≤ bt439.1 then (if bt439.1 < (y436.length : Int) then (if 0 ≤ bt434.1 then (if bt434.1 < (x15_2.length : Int) then (some ((x15_2.set (bt434.1 : Int).toNat (rd y436 bt439.1)), t412, bt439.2)) else (none)) else (none)) else (none)) else (none))))) else (if bt432.1 = 1 then (if 1 ≤ (x15_2.length : Int) then (some ((x15_2.drop (1 : Int).toNat), t412, bt432.2)) else (none)) else ((spec_l20Size.f k2 s0_0 bt432.2 1).bind fun bt446 => (some (x15_2, bt446.1, bt446.2)))))) = some (r1, r2, r3) := by rw [if_pos rfl] at H; exact H
                clear H
                have H := H1
                clear H1
                replace H := Option.bind_eq_some_iff.mp H
                obtain ⟨⟨t432, t433⟩, A350, H⟩ := H
                replace H : (if t432 = 0 then ((spec_l20Rd_pick.f k2 s0_0 t433 (x15_2.length : Int)).bind fun bt434 => ((some (([(-1), wrap64 (t412 + 1)] : List Int) : List Int)).bind fun y436 => ((spec_l20Rd_pick.f k2 s0_0 bt434.2 2).bind fun bt439 => (if 0 ≤ bt439.1 then (if bt439.1 < (y436.length : Int) then (if 0 ≤ bt434.1 then (if bt434.1 < (x15_2.length : Int) then (some ((x15_2.set (bt434.1 : Int).toNat (rd y436 bt439.1)), t412, bt439.2)) else (none)) else (none)) else (none)) else (none))))) else (if t432 = 1 then (if 1 ≤ (x15_2.length : Int) then (some ((x15_2.drop (1 : Int).toNat), t412, t433)) else (none)) else ((spec_l20Size.f k2 s0_0 t433 1).bind fun bt446 => (some (x15_2, bt446.1, bt446.2))))) = some (r1, r2, r3) := H
                have A35 := Aside0.mk A350
                clear A350
                by_cases c36 : t432 = 0
                · rw [if_pos c36] at H
                  have c36b0 : (t432 == 0) = true := beq_iff_eq.mpr c36
                  have c36b1 : (t432 != 0) = false := bne_eq_false_iff_eq.mpr c36
                  clear c36
                  replace H := Option.bind_eq_some_iff.mp H
                  obtain ⟨⟨t434, t435⟩, A370, H⟩ := H
                  replace H : ((some (([(-1), wrap64 (t412 + 1)] : List Int) : List Int)).bind fun y436 => ((spec_l20Rd_pick.f k2 s0_0 t435 2).bind fun bt439 => (if 0 ≤ bt439.1 then (if bt439.1 < (y436.length : Int) then (if 0 ≤ t434 then (if t434 < (x15_2.length : Int) then (some ((x15_2.set (t434 : Int).toNat (rd y436 bt439.1)), t412, bt439.2)) else (none)) else (none)) else (none)) else (none)))) = some (r1, r2, r3) := H
                  have A37 := Aside0.mk A370
                  clear A370
                  obtain ⟨y436, hy436⟩ : ∃ y_ : List Int, y_ = (([(-1), wrap64 (t412 + 1)] : List Int)) := ⟨_, rfl⟩
                  replace H : ((spec_l20Rd_pick.f k2 s0_0 t435 2).bind fun bt439 => (if 0 ≤ bt439.1 then (if bt439.1 < (y436.length : Int) then (if 0 ≤ t434 then (if t434 < (x15_2.length : Int) then (some ((x15_2.set (t434 : Int).toNat (rd y436 bt439.1)), t412, bt439.2)) else (none)) else (none)) else (none)) else (none))) = some (r1, r2, r3) := by first | (rw [hy436]; with_reducible exact H) | (have H2_ := (Option.bind_some _ _).symm.trans H; rw [hy436]; with_reducible exact H2_) | (have H2_ := (Option.bind_some _ _).symm.trans H; with_reducible exact H2_) | with_reducible exact H | (rw [hy436]; exact H) | exact H
                  have Ny436 := Aside0.mk hy436
                  clear hy436
                  replace H := Option.bind_eq_some_iff.mp H
                  obtain ⟨⟨t439, t440⟩, A380, H⟩ := H
                  replace H : (if 0 ≤ t439 then (if t439 < (y436.length : Int) then (if 0 ≤ t434 then (if t434 < (x15_2.length : Int) then (some ((x15_2.set (t434 : Int).toNat (rd y436 t439)), t412, t440)) else (none)) else (none)) else (none)) else (none)) = some (r1, r2, r3) := H
                  have A38 := Aside0.mk A380
                  clear A380
                  by_cases c39 : 0 ≤ t439
                  · rw [if_pos c39] at H
                    have c39b0 : decide (0 ≤ t439) = true := decide_eq_true c39
                    clear c39
                    by_cases c40 : t439 < (y436.length : Int)
                    · rw [if_pos c40] at H
                      have c40b0 : decide (t439 < (y436.length : Int)) = true := decide_eq_true c40
                      clear c40
                      by_cases c41 : 0 ≤ t434
                      · rw [if_pos c41] at H
                        have c41b0 : decide (0 ≤ t434) = true := decide_eq_true c41
                        clear c41
                        by_cases c42 : t434 < (x15_2.length : Int)
                        · rw [if_pos c42] at H
                          have c42b0 : decide (t434 < (x15_2.length : Int)) = true := decide_eq_true c42
                          clear c42
                          obtain ⟨y442, hy442⟩ : ∃ y_ : List Int, y_ = (x15_2.set (t434 : Int).toNat (rd y436 t439)) := ⟨_, rfl⟩
                          replace H : (some (y442, t412, t440)) = some (r1, r2, r3) := by first | (rw [hy442]; with_reducible exact H) | (have H2_ := (Option.bind_some _ _).symm.trans H; rw [hy442]; with_reducible exact H2_) | (have H2_ := (Option.bind_some _ _).symm.trans H; with_reducible exact H2_) | with_reducible exact H | (rw [hy442]; exact H) | exact H
                          have Ny442 := Aside0.mk hy442
                          clear hy442
                          simp only [Option.some.injEq, Prod.mk.injEq] at H
                          obtain ⟨rfl, rfl, rfl⟩ := H
                          go_wp2_with (first | ((with_reducible refine gate_callee (f := 47) rfl ?_); refine goesL_ (some 49) rfl rfl Try.func47 (by kernel_rfl) rfl #[.pointer (some ⟨g, 0, none⟩), .int .i64 a1] rfl (by (try simp only [List.map_toArray, List.map_cons, List.map_nil]); first | done | rfl | (simp only [List.length_drop, List.length_take]; rfl)) ?_; (with_reducible refine (spec_l20Rd_odd.calls k2 g s0_0 x1001_2 a1 true t431 w0 _ ?side1 ?side2 A33.out).mono ?_); (case side1 => repeat (first | (with_reducible first | exact HI0.out | apply IsS100.alloc | apply IsS100.drewN | apply IsS100.drew | apply IsS100.set_1) | exact HI0.out)); (case side2 => repeat (first | (with_reducible first | exact HB.out | apply below_alloc | apply pw_below_drewN | apply below_drew1 | refine below_set ?_ (IsS100.ge HI0.out)) | exact HB.out)); rintro e w44 ⟨rfl, hi, hb, hk⟩; refine ⟨_, rfl, ?_⟩; have n0_ := Aside0.mk (Kd.R_mono (Kd.R_keep (IsS100.apart (show IsS100 w0 _ g s0_0 x1001_2 from by repeat (first | (with_reducible first | exact HI0.out | apply IsS100.alloc | apply IsS100.drewN | apply IsS100.drew | apply IsS100.set_1) | exact HI0.out)) (by (with_reducible repeat (first | apply Kd.R_alloc | apply Kd.R_drewN | apply Kd.R_drew)); exact HO_15.out) (by decide)) hk (fun _ h => h.2)) (fun _ h => h.1)); have n1_ := Aside0.mk (KeepBut.trans (by repeat (first | (with_reducible first | exact HK.out | apply KeepBut.set_ | apply keep_drewN | apply keep_drew | apply keep_alloc) | exact HK.out)) hk (.inl rfl)); have n2_ := Aside0.mk (hb); have n3_ := Aside0.mk (hi); clear HO_15; clear HK; clear HB; clear HI0; have HO_15 := n0_; have HK := n1_; have HB := n2_; have HI0 := n3_; clear n0_ n1_ n2_ n3_; (try clear hb); (try clear hb2); (try clear hk); (try clear hi)) | ((with_reducible refine gate_callee (f := 49) rfl ?_); refine goesL_ (some 51) rfl rfl Try.func49 (by kernel_rfl) rfl #[.pointer (some ⟨g, 0, none⟩), .int .i64 3] rfl (by (try simp only [List.map_toArray, List.map_cons, List.map_nil]); first | done | rfl | (simp only [List.length_drop, List.length_take]; rfl)) ?_; (with_reducible refine (spec_l20Rd_pick.calls k2 g s0_0 t431 3 t432 t433 w0 _ ?side1 ?side2 A35.out).mono ?_); (case side1 => repeat (first | (with_reducible first | exact HI0.out | apply IsS100.alloc | apply IsS100.drewN | apply IsS100.drew | apply IsS100.set_1) | exact HI0.out)); (case side2 => repeat (first | (with_reducible first | exact HB.out | apply below_alloc | apply pw_below_drewN | apply below_drew1 | refine below_set ?_ (IsS100.ge HI0.out)) | exact HB.out)); rintro e w45 ⟨rfl, hi, hb, hk⟩; refine ⟨_, rfl, ?_⟩; have n0_ := Aside0.mk (Kd.R_mono (Kd.R_keep (IsS100.apart (show IsS100 w0 _ g s0_0 t431 from by repeat (first | (with_reducible first | exact HI0.out | apply IsS100.alloc | apply IsS100.drewN | apply IsS100.drew | apply IsS100.set_1) | exact HI0.out)) (by (with_reducible repeat (first | apply Kd.R_alloc | apply Kd.R_drewN | apply Kd.R_drew)); exact HO_15.out) (by decide)) hk (fun _ h => h.2)) (fun _ h => h.1)); have n1_ := Aside0.mk (KeepBut.trans (by repeat (first | (with_reducible first | exact HK.out | apply KeepBut.set_ | apply keep_drewN | apply keep_drew | apply keep_alloc) | exact HK.out)) hk (.inl rfl)); have n2_ := Aside0.mk (hb); have n3_ := Aside0.mk (hi); clear HO_15; clear HK; clear HB; clear HI0; have HO_15 := n0_; have HK := n1_; have HB := n2_; have HI0 := n3_; clear n0_ n1_ n2_ n3_; (try clear hb); (try clear hb2); (try clear hk); (try clear hi)) | ((with_reducible refine gate_callee (f := 49) rfl ?_); refine goesL_ (some 60) rfl rfl Try.func49 (by kernel_rfl) rfl #[.pointer (some ⟨g, 0, none⟩), .int .i64 (x15_2.length : Int)] rfl (by (try simp only [List.map_toArray, List.map_cons, List.map_nil]); first | done | rfl | (simp only [List.length_drop, List.length_take]; rfl)) ?_; (with_reducible refine (spec_l20Rd_pick.calls k2 g s0_0 t433 (x15_2.length : Int) t434 t435 w0 _ ?side1 ?side2 A37.out).mono ?_); (case side1 => repeat (first | (with_reducible first | exact HI0.out | apply IsS100.alloc | apply IsS100.drewN | apply IsS100.drew | apply IsS100.set_1) | exact HI0.out)); (case side2 => repeat (first | (with_reducible first | exact HB.out | apply below_alloc | apply pw_below_drewN | apply below_drew1 | refine below_set ?_ (IsS100.ge HI0.out)) | exact HB.out)); rintro e w46 ⟨rfl, hi, hb, hk⟩; refine ⟨_, rfl, ?_⟩; have n0_ := Aside0.mk (Kd.R_mono (Kd.R_keep (IsS100.apart (show IsS100 w0 _ g s0_0 t433 from by repeat (first | (with_reducible first | exact HI0.out | apply IsS100.alloc | apply IsS100.drewN | apply IsS100.drew | apply IsS100.set_1) | exact HI0.out)) (by (with_reducible repeat (first | apply Kd.R_alloc | apply Kd.R_drewN | apply Kd.R_drew)); exact HO_15.out) (by decide)) hk (fun _ h => h.2)) (fun _ h => h.1)); have n1_ := Aside0.mk (KeepBut.trans (by repeat (first | (with_reducible first | exact HK.out | apply KeepBut.set_ | apply keep_drewN | apply keep_drew | apply keep_alloc) | exact HK.out)) hk (.inl rfl)); have n2_ := Aside0.mk (hb); have n3_ := Aside0.mk (hi); clear HO_15; clear HK; clear HB; clear HI0; have HO_15 := n0_; have HK := n1_; have HB := n2_; have HI0 := n3_; clear n0_ n1_ n2_ n3_; (try clear hb); (try clear hb2); (try clear hk); (try clear hi)) | ((with_reducible refine gate_dst (N := 63) rfl ?_); refine Kd.R_lit (Kd.int .i64) _ 3 ?hg (N := 63) ?hd (xs := ([(-1), wrap64 (t412 + 1)] : List Int)) (inner := [.int .i64 (-1), .int .i64 (wrap64 (t412 + 1))]) (ok := fun _ => True) (okp := fun _ => True) ?hr ?hp (fun _ hk => hk) trivial (Below.refl _ _) (Nat.le_refl _) (by simp) ?_; (case hd => rfl); (case hg => rfl); (case hr => first | (go_simp; done) | (go_simp; rfl)); (case hp => exact (Reps.one (show Kd.M (Kd.int .i64) _ _ _ (-1) [.int .i64 (-1)] from rfl) (Reps.one (show Kd.M (Kd.int .i64) _ _ _ (wrap64 (t412 + 1)) [.int .i64 (wrap64 (t412 + 1))] from rfl) (Reps.none _ _)))); intro v437 w47 ho48 hb hg_ hnew_; clear hg_ hnew_; (first | rw [← Ny436.out] at ho48 | (simp only [Int.reduceToNat] at ho48; rw [← Ny436.out] at ho48)); have n0_ := Aside0.mk (Kd.R_elder' (by (with_reducible repeat (first | apply Kd.R_alloc | apply Kd.R_drewN | apply Kd.R_drew)); exact HO_15.out) (Kd.R_base ho48) hb); have n1_ := Aside0.mk (Kd.R_lower (Kd.R_new' ho48 (Kd.R_lt (by (with_reducible repeat (first | apply Kd.R_alloc | apply Kd.R_drewN | apply Kd.R_drew)); exact HO_15.out))) (keep_size (w := w) (g := g) (row := none) (by repeat (first | (with_reducible first | exact HK.out | apply KeepBut.set_ | apply keep_drewN | apply keep_drew | apply keep_alloc) | exact HK.out)))); have n2_ := Aside0.mk (IsS100.below (by repeat (first | (with_reducible first | exact HI0.out | apply IsS100.alloc | apply IsS100.drewN | apply IsS100.drew | apply IsS100.set_1) | exact HI0.out)) hb); have n3_ := Aside0.mk (KeepBut.trans (by repeat (first | (with_reducible first | exact HK.out | apply KeepBut.set_ | apply keep_drewN | apply keep_drew | apply keep_alloc) | exact HK.out)) (KeepBut.of_below hb g none) (.inl rfl)); have n4_ := Aside0.mk (below_step (by repeat (first | (with_reducible first | exact HB.out | apply below_alloc | apply pw_below_drewN | apply below_drew1 | refine below_set ?_ (IsS100.ge HI0.out)) | exact HB.out)) hb); clear HO_15; clear HI0; clear HK; clear HB; have HO_15 := n0_; have HO438 := n1_; have HI0 := n2_; have HK := n3_; have HB := n4_; clear n0_ n1_ n2_ n3_ n4_; clear hb ho48) | ((with_reducible refine gate_callee (f := 49) rfl ?_); refine goesL_ (some 65) rfl rfl Try.func49 (by kernel_rfl) rfl #[.pointer (some ⟨g, 0, none⟩), .int .i64 2] rfl (by (try simp only [List.map_toArray, List.map_cons, List.map_nil]); first | done | rfl | (simp only [List.length_drop, List.length_take]; rfl)) ?_; (with_reducible refine (spec_l20Rd_pick.calls k2 g s0_0 t435 2 t439 t440 w0 _ ?side1 ?side2 A38.out).mono ?_); (case side1 => repeat (first | (with_reducible first | exact HI0.out | apply IsS100.alloc | apply IsS100.drewN | apply IsS100.drew | apply IsS100.set_1) | exact HI0.out)); (case side2 => repeat (first | (with_reducible first | exact HB.out | apply below_alloc | apply pw_below_drewN | apply below_drew1 | refine below_set ?_ (IsS100.ge HI0.out)) | exact HB.out)); rintro e w49 ⟨rfl, hi, hb, hk⟩; refine ⟨_, rfl, ?_⟩; have n0_ := Aside0.mk (Kd.R_mono (Kd.R_keep (IsS100.apart (show IsS100 w0 _ g s0_0 t435 from by repeat (first | (with_reducible first | exact HI0.out | apply IsS100.alloc | apply IsS100.drewN | apply IsS100.drew | apply IsS100.set_1) | exact HI0.out)) (by (with_reducible repeat (first | apply Kd.R_alloc | apply Kd.R_drewN | apply Kd.R_drew)); exact HO_15.out) (by decide)) hk (fun _ h => h.2)) (fun _ h => h.1)); have n1_ := Aside0.mk (Kd.R_mono (Kd.R_keep (IsS100.apart (show IsS100 w0 _ g s0_0 t435 from by repeat (first | (with_reducible first | exact HI0.out | apply IsS100.alloc | apply IsS100.drewN | apply IsS100.drew | apply IsS100.set_1) | exact HI0.out)) (by (with_reducible repeat (first | apply Kd.R_alloc | apply Kd.R_drewN | apply Kd.R_drew)); exact HO438.out) (by decide)) hk (fun _ h => h.2)) (fun _ h => h.1)); have n2_ := Aside0.mk (KeepBut.trans (by repeat (first | (with_reducible first | exact HK.out | apply KeepBut.set_ | apply keep_drewN | apply keep_drew | apply keep_alloc) | exact HK.out)) hk (.inl rfl)); have n3_ := Aside0.mk (hb); have n4_ := Aside0.mk (hi); clear HO_15; clear HO438; clear HK; clear HB; clear HI0; have HO_15 := n0_; have HO438 := n1_; have HK := n2_; have HB := n3_; have HI0 := n4_; clear n0_ n1_ n2_ n3_ n4_; (try clear hb); (try clear hb2); (try clear hk); (try clear hi); obtain ⟨Ao50, co50, eo50⟩ := Kd.R_slice HO438.out; subst eo50; have p441 : 0 ≤ (t439 : Int) := of_decide_eq_true (by first | (with_reducible assumption) | assumption); have q441 : t439 < (y436.length : Int) := of_decide_eq_true (by first | (with_reducible assumption) | assumption); obtain ⟨ad441, e441, hx441_0⟩ := Kd.at_int (Kd.R_reads' HO438.out).2.2 t439 p441 q441; cases e441; replace p441 := eq_true p441; replace q441 := eq_true q441; have p43 : 0 ≤ (t434 : Int) := of_decide_eq_true (by first | (with_reducible assumption) | assumption); have q43 : (t434 : Int) < ((x15_2.length : Int) : Int) := of_decide_eq_true (by first | (with_reducible assumption) | assumption); obtain ⟨go43, co43, eo43, gb43, gl43, cl43, HG43⟩ := Kd.R_form HO_15.out (by omega); (first | cases eo43 | (injection eo43 with ea_ en_ ec_; (first | subst ea_ | (injection ea_ with ea_; subst ea_)); subst ec_; clear en_)); have GB43 := Aside0.mk gb43; have GG43 := Aside0.mk HG43; clear gb43 gl43 HG43; obtain ⟨hx43_0, hf43_0⟩ := Kd.R_celln 0 HO_15.out (t434 : Int) p43 q43; replace p43 := eq_true p43; replace q43 := eq_true q43; have n_ := Aside0.mk (Kd.R_mono (ok' := (fun k_ => some k_ ≠ (.slice (some ad441) y436.length co50 : Value).ownBlock)) HO_15.out (fun k_ hk => hk.2)); clear HO_15; have HO_15 := n_; clear n_; obtain ⟨hy51_, hz51_⟩ := Kd.R_celln 0 HO_15.out (t434 : Int) (of_decide_eq_true (by first | (with_reducible assumption) | assumption)) (of_decide_eq_true (by first | (with_reducible assumption) | assumption)); have HP51 := Kd.R_putg HO_15.out (t434 : Int) (rd y436 t439)) | ((with_reducible refine gate_store (t := 3) (p := 68) rfl ?_); refine store_event (t := 3) (p := 68) (v := ?vo_w52) (w1 := (w49.setCell ⟨go43, (t434 : Int).toNat, none⟩ (.int .i64 (rd y436 t439)))) ?hg ?ho ?hn ?hr ?_; (case ho => rfl); (case hg => rfl); (case hn => rfl); (case hr => first | (go_simp; done) | (go_simp; rfl)); intro w52 hw; have hg : w49.grownBy w52 (some go43) := (by rw [hw]; exact HP51.2); have hp_ : Kd.R (Kd.int .i64) 3 w52 w.heap.size (fun k_ => some k_ ≠ (.slice (some ad441) y436.length co50 : Value).ownBlock) (.slice (some ⟨go43, 0, none⟩) x15_2.length co21) y442 := (by rw [hw, Ny442.out]; exact HP51.1); clear HP51; have n0_ := Aside0.mk (hp_); have n1_ := Aside0.mk (IsS100.grown (by repeat (first | (with_reducible first | exact HI0.out | apply IsS100.alloc | apply IsS100.drewN | apply IsS100.drew | apply IsS100.set_1) | exact HI0.out)) hg (IsS100.own_ne HI0.out HO_15.out (by decide))); have n2_ := Aside0.mk (Kd.R_after (v := (.slice (some ⟨go43, 0, none⟩) x15_2.length co21)) (v1 := (.slice (some ⟨go43, 0, none⟩) x15_2.length co21)) (ok := (fun _ => True)) (by (with_reducible repeat (first | apply Kd.R_alloc | apply Kd.R_drewN | apply Kd.R_drew)); exact HO438.out) hg (.inl rfl)); have n3_ := Aside0.mk ((by rw [hw]; exact below_set (HB.out) (Nat.le_trans HL.out GB43.out) : Below w0.heap.size w0 w52)); have n4_ := Aside0.mk (KeepBut.trans (by repeat (first | (with_reducible first | exact HK.out | apply KeepBut.set_ | apply keep_drewN | apply keep_drew | apply keep_alloc) | exact HK.out)) (KeepBut.of_grown hg g) (Kd.R_base2 HO_15.out)); clear HO_15; clear HI0; clear HO438; clear HB; clear HK; have HO_15 := n0_; have HI0 := n1_; have HO438 := n2_; have HB := n3_; have HK := n4_; clear n0_ n1_ n2_ n3_ n4_; clear hg hw hp_))
                          go_ret2
                          exact ⟨_, by first | rfl | (simp [errW_none, errW_some] <;> rfl) | (simp [*, errW_none, errW_some] <;> rfl), Kd.Q_of_R (by (with_reducible repeat (first | apply Kd.R_alloc | apply Kd.R_drewN | apply Kd.R_drew)); exact Kd.R_mono HO_15.out (fun _ hk => trivial)), by repeat (first | (with_reducible first | exact HI0.out | apply IsS100.alloc | apply IsS100.drewN | apply IsS100.drew | apply IsS100.set_1) | exact HI0.out), by repeat (first | (with_reducible first | exact HB.out | apply below_alloc | apply pw_below_drewN | apply below_drew1 | refine below_set ?_ (IsS100.ge HI0.out)) | exact HB.out), by repeat (first | (with_reducible first | exact HK.out | apply KeepBut.set_ | apply keep_drewN | apply keep_drew | apply keep_alloc) | exact HK.out)⟩
                        · rw [if_neg c42] at H
                          exact absurd H (by simp)
                      · rw [if_neg c41] at H
                        exact absurd H (by simp)
                    · rw [if_neg c40] at H
                      exact absurd H (by simp)
                  · rw [if_neg c39] at H
                    exact absurd H (by simp)
                · rw [if_neg c36] at H
                  have c36b0 : (t432 == 0) = false := beq_eq_false_iff_ne.mpr c36
                  have c36b1 : (t432 != 0) = true := bne_iff_ne.mpr c36
                  by_cases c53 : t432 = 1
                  · rw [if_pos c53] at H
                    have c53b0 : (t432 == 1) = true := beq_iff_eq.mpr c53
                    have c53b1 : (t432 != 1) = false := bne_eq_false_iff_eq.mpr c53
                    clear c53
                    by_cases c54 : 1 ≤ (x15_2.length : Int)
                    · rw [if_pos c54] at H
                      have c54b0 := eq_true c54
                      have c54b1 : decide (1 ≤ (x15_2.length : Int)) = true := decide_eq_true c54
                      clear c54
                      obtain ⟨y443, hy443⟩ : ∃ y_ : List Int, y_ = (x15_2.drop (1 : Int).toNat) := ⟨_, rfl⟩
                      replace H : (some (y443, t412, t433)) = some (r1, r2, r3) := by first | (rw [hy443]; with_reducible exact H) | (have H2_ := (Option.bind_some _ _).symm.trans H; rw [hy443]; with_reducible exact H2_) | (have H2_ := (Option.bind_some _ _).symm.trans H; with_reducible exact H2_) | with_reducible exact H | (rw [hy443]; exact H) | exact H
                      have Ny443 := Aside0.mk hy443
                      clear hy443
                      simp only [Option.some.injEq, Prod.mk.injEq] at H
                      obtain ⟨rfl, rfl, rfl⟩ := H
                      go_wp2_with (first | ((with_reducible refine gate_callee (f := 47) rfl ?_); refine goesL_ (some 49) rfl rfl Try.func47 (by kernel_rfl) rfl #[.pointer (some ⟨g, 0, none⟩), .int .i64 a1] rfl (by (try simp only [List.map_toArray, List.map_cons, List.map_nil]); first | done | rfl | (simp only [List.length_drop, List.length_take]; rfl)) ?_; (with_reducible refine (spec_l20Rd_odd.calls k2 g s0_0 x1001_2 a1 true t431 w0 _ ?side1 ?side2 A33.out).mono ?_); (case side1 => repeat (first | (with_reducible first | exact HI0.out | apply IsS100.alloc | apply IsS100.drewN | apply IsS100.drew | apply IsS100.set_1) | exact HI0.out)); (case side2 => repeat (first | (with_reducible first | exact HB.out | apply below_alloc | apply pw_below_drewN | apply below_drew1 | refine below_set ?_ (IsS100.ge HI0.out)) | exact HB.out)); rintro e w55 ⟨rfl, hi, hb, hk⟩; refine ⟨_, rfl, ?_⟩; have n0_ := Aside0.mk (Kd.R_mono (Kd.R_keep (IsS100.apart (show IsS100 w0 _ g s0_0 x1001_2 from by repeat (first | (with_reducible first | exact HI0.out | apply IsS100.alloc | apply IsS100.drewN | apply IsS100.drew | apply IsS100.set_1) | exact HI0.out)) (by (with_reducible repeat (first | apply Kd.R_alloc | apply Kd.R_drewN | apply Kd.R_drew)); exact HO_15.out) (by decide)) hk (fun _ h => h.2)) (fun _ h => h.1)); have n1_ := Aside0.mk (KeepBut.trans (by repeat (first | (with_reducible first | exact HK.out | apply KeepBut.set_ | apply keep_drewN | apply keep_drew | apply keep_alloc) | exact HK.out)) hk (.inl rfl)); have n2_ := Aside0.mk (hb); have n3_ := Aside0.mk (hi); clear HO_15; clear HK; clear HB; clear HI0; have HO_15 := n0_; have HK := n1_; have HB := n2_; have HI0 := n3_; clear n0_ n1_ n2_ n3_; (try clear hb); (try clear hb2); (try clear hk); (try clear hi)) | ((with_reducible refine gate_callee (f := 49) rfl ?_); refine goesL_ (some 51) rfl rfl Try.func49 (by kernel_rfl) rfl #[.pointer (some ⟨g, 0, none⟩), .int .i64 3] rfl (by (try simp only [List.map_toArray, List.map_cons, List.map_nil]); first | done | rfl | (simp only [List.length_drop, List.length_take]; rfl)) ?_; (with_reducible refine (spec_l20Rd_pick.calls k2 g s0_0 t431 3 t432 t433 w0 _ ?side1 ?side2 A35.out).mono ?_); (case side1 => repeat (first | (with_reducible first | exact HI0.out | apply IsS100.alloc | apply IsS100.drewN | apply IsS100.drew | apply IsS100.set_1) | exact HI0.out)); (case side2 => repeat (first | (with_reducible first | exact HB.out | apply below_alloc | apply pw_below_drewN | apply below_drew1 | refine below_set ?_ (IsS100.ge HI0.out)) | exact HB.out)); rintro e w56 ⟨rfl, hi, hb, hk⟩; refine ⟨_, rfl, ?_⟩; have n0_ := Aside0.mk (Kd.R_mono (Kd.R_keep (IsS100.apart (show IsS100 w0 _ g s0_0 t431 from by repeat (first | (with_reducible first | exact HI0.out | apply IsS100.alloc | apply IsS100.drewN | apply IsS100.drew | apply IsS100.set_1) | exact HI0.out)) (by (with_reducible repeat (first | apply Kd.R_alloc | apply Kd.R_drewN | apply Kd.R_drew)); exact HO_15.out) (by decide)) hk (fun _ h => h.2)) (fun _ h => h.1)); have n1_ := Aside0.mk (KeepBut.trans (by repeat (first | (with_reducible first | exact HK.out | apply KeepBut.set_ | apply keep_drewN | apply keep_drew | apply keep_alloc) | exact HK.out)) hk (.inl rfl)); have n2_ := Aside0.mk (hb); have n3_ := Aside0.mk (hi); clear HO_15; clear HK; clear HB; clear HI0; have HO_15 := n0_; have HK := n1_; have HB := n2_; have HI0 := n3_; clear n0_ n1_ n2_ n3_; (try clear hb); (try clear hb2); (try clear hk); (try clear hi); have q57 : (1 : Int) ≤ ((x15_2.length : Int) : Int) := of_decide_eq_true (by first | (with_reducible assumption) | assumption); obtain ⟨i057, hi057, _, hsz57, _⟩ := info_parts info3; have hcut57 := cut_from (P := Try.prog) 23 3 .i64 Try.underlying23 hi057 1 hsz57 Ao21 x15_2.length co21 1 (by omega) q57; have hr57 := Kd.Q_drop (k := (1 : Int).toNat) (Kd.Q_of_R HO_15.out) (by omega); obtain ⟨A57, hA57⟩ : ∃ A1, A1 = (if co21 = (1 : Int).toNat then Ao21 else (Ao21 : Option Addr).map (·.add ((1 : Int).toNat * 1))) := ⟨_, rfl⟩; obtain ⟨c57, hc57⟩ : ∃ c1, c1 = co21 - (1 : Int).toNat := ⟨_, rfl⟩; have hy57 : y443.length = x15_2.length - (1 : Int).toNat := (by rw [Ny443.out, List.length_drop]); rw [← Ny443.out] at hr57; rw [← hy57, ← hA57, ← hc57] at hcut57; replace hr57 : Kd.Q (Kd.int .i64) 3 w56 w.heap.size (fun _ => True) (.slice A57 y443.length c57) y443 := (by rw [hA57, hc57, hy57]; exact hr57); have HE57 : Aside0 ((Value.slice A57 y443.length c57).ownBlock = (.slice Ao21 x15_2.length co21 : Value).ownBlock) := ⟨by rw [hA57]; split <;> (cases (Ao21 : Option Addr) <;> rfl)⟩; clear hy57 hi057 hsz57 HO_15 hA57 hc57; have HO445 := Aside0.mk hr57; clear hr57; replace q57 := eq_true q57))
                      go_ret2
                      exact ⟨_, by first | rfl | (simp [errW_none, errW_some] <;> rfl) | (simp [*, errW_none, errW_some] <;> rfl), by (with_reducible repeat (first | apply Kd.Q_alloc | apply Kd.Q_drewN | apply Kd.Q_drew)); exact HO445.out, by repeat (first | (with_reducible first | exact HI0.out | apply IsS100.alloc | apply IsS100.drewN | apply IsS100.drew | apply IsS100.set_1) | exact HI0.out), by repeat (first | (with_reducible first | exact HB.out | apply below_alloc | apply pw_below_drewN | apply below_drew1 | refine below_set ?_ (IsS100.ge HI0.out)) | exact HB.out), by repeat (first | (with_reducible first | exact HK.out | apply KeepBut.set_ | apply keep_drewN | apply keep_drew | apply keep_alloc) | exact HK.out)⟩
                    · rw [if_neg c54] at H
                      exact absurd H (by simp)
                  · rw [if_neg c53] at H
                    have c53b0 : (t432 == 1) = false := beq_eq_false_iff_ne.mpr c53
                    have c53b1 : (t432 != 1) = true := bne_iff_ne.mpr c53
                    replace H := Option.bind_eq_some_iff.mp H
                    obtain ⟨⟨t446, t447⟩, A580, H⟩ := H
                    replace H : (some (x15_2, t446, t447)) = some (r1, r2, r3) := H
                    have A58 := Aside0.mk A580
                    clear A580
                    simp only [Option.some.injEq, Prod.mk.injEq] at H
                    obtain ⟨rfl, rfl, rfl⟩ := H
                    go_wp2_with (first | ((with_reducible refine gate_callee (f := 47) rfl ?_); refine goesL_ (some 49) rfl rfl Try.func47 (by kernel_rfl) rfl #[.pointer (some ⟨g, 0, none⟩), .int .i64 a1] rfl (by (try simp only [List.map_toArray, List.map_cons, List.map_nil]); first | done | rfl | (simp only [List.length_drop, List.length_take]; rfl)) ?_; (with_reducible refine (spec_l20Rd_odd.calls k2 g s0_0 x1001_2 a1 true t431 w0 _ ?side1 ?side2 A33.out).mono ?_); (case side1 => repeat (first | (with_reducible first | exact HI0.out | apply IsS100.alloc | apply IsS100.drewN | apply IsS100.drew | apply IsS100.set_1) | exact HI0.out)); (case side2 => repeat (first | (with_reducible first | exact HB.out | apply below_alloc | apply pw_below_drewN | apply below_drew1 | refine below_set ?_ (IsS100.ge HI0.out)) | exact HB.out)); rintro e w59 ⟨rfl, hi, hb, hk⟩; refine ⟨_, rfl, ?_⟩; have n0_ := Aside0.mk (Kd.R_mono (Kd.R_keep (IsS100.apart (show IsS100 w0 _ g s0_0 x1001_2 from by repeat (first | (with_reducible first | exact HI0.out | apply IsS100.alloc | apply IsS100.drewN | apply IsS100.drew | apply IsS100.set_1) | exact HI0.out)) (by (with_reducible repeat (first | apply Kd.R_alloc | apply Kd.R_drewN | apply Kd.R_drew)); exact HO_15.out) (by decide)) hk (fun _ h => h.2)) (fun _ h => h.1)); have n1_ := Aside0.mk (KeepBut.trans (by repeat (first | (with_reducible first | exact HK.out | apply KeepBut.set_ | apply keep_drewN | apply keep_drew | apply keep_alloc) | exact HK.out)) hk (.inl rfl)); have n2_ := Aside0.mk (hb); have n3_ := Aside0.mk (hi); clear HO_15; clear HK; clear HB; clear HI0; have HO_15 := n0_; have HK := n1_; have HB := n2_; have HI0 := n3_; clear n0_ n1_ n2_ n3_; (try clear hb); (try clear hb2); (try clear hk); (try clear hi)) | ((with_reducible refine gate_callee (f := 49) rfl ?_); refine goesL_ (some 51) rfl rfl Try.func49 (by kernel_rfl) rfl #[.pointer (some ⟨g, 0, none⟩), .int .i64 3] rfl (by (try simp only [List.map_toArray, List.map_cons, List.map_nil]); first | done | rfl | (simp only [List.length_drop, List.length_take]; rfl)) ?_; (with_reducible refine (spec_l20Rd_pick.calls k2 g s0_0 t431 3 t432 t433 w0 _ ?side1 ?side2 A35.out).mono ?_); (case side1 => repeat (first | (with_reducible first | exact HI0.out | apply IsS100.alloc | apply IsS100.drewN | apply IsS100.drew | apply IsS100.set_1) | exact HI0.out)); (case side2 => repeat (first | (with_reducible first | exact HB.out | apply below_alloc | apply pw_below_drewN | apply below_drew1 | refine below_set ?_ (IsS100.ge HI0.out)) | exact HB.out)); rintro e w60 ⟨rfl, hi, hb, hk⟩; refine ⟨_, rfl, ?_⟩; have n0_ := Aside0.mk (Kd.R_mono (Kd.R_keep (IsS100.apart (show IsS100 w0 _ g s0_0 t431 from by repeat (first | (with_reducible first | exact HI0.out | apply IsS100.alloc | apply IsS100.drewN | apply IsS100.drew | apply IsS100.set_1) | exact HI0.out)) (by (with_reducible repeat (first | apply Kd.R_alloc | apply Kd.R_drewN | apply Kd.R_drew)); exact HO_15.out) (by decide)) hk (fun _ h => h.2)) (fun _ h => h.1)); have n1_ := Aside0.mk (KeepBut.trans (by repeat (first | (with_reducible first | exact HK.out | apply KeepBut.set_ | apply keep_drewN | apply keep_drew | apply keep_alloc) | exact HK.out)) hk (.inl rfl)); have n2_ := Aside0.mk (hb); have n3_ := Aside0.mk (hi); clear HO_15; clear HK; clear HB; clear HI0; have HO_15 := n0_; have HK := n1_; have HB := n2_; have HI0 := n3_; clear n0_ n1_ n2_ n3_; (try clear hb); (try clear hb2); (try clear hk); (try clear hi)) | ((with_reducible refine gate_callee (f := 45) rfl ?_); refine goesL_ (some 53) rfl rfl Try.func45 (by kernel_rfl) rfl #[.pointer (some ⟨g, 0, none⟩), .int .i64 1] rfl (by (try simp only [List.map_toArray, List.map_cons, List.map_nil]); first | done | rfl | (simp only [List.length_drop, List.length_take]; rfl)) ?_; (with_reducible refine (spec_l20Size.calls k2 g s0_0 t433 1 t446 t447 w0 _ ?side1 ?side2 A58.out).mono ?_); (case side1 => repeat (first | (with_reducible first | exact HI0.out | apply IsS100.alloc | apply IsS100.drewN | apply IsS100.drew | apply IsS100.set_1) | exact HI0.out)); (case side2 => repeat (first | (with_reducible first | exact HB.out | apply below_alloc | apply pw_below_drewN | apply below_drew1 | refine below_set ?_ (IsS100.ge HI0.out)) | exact HB.out)); rintro e w61 ⟨rfl, hi, hb, hk⟩; refine ⟨_, rfl, ?_⟩; have n0_ := Aside0.mk (Kd.R_mono (Kd.R_keep (IsS100.apart (show IsS100 w0 _ g s0_0 t433 from by repeat (first | (with_reducible first | exact HI0.out | apply IsS100.alloc | apply IsS100.drewN | apply IsS100.drew | apply IsS100.set_1) | exact HI0.out)) (by (with_reducible repeat (first | apply Kd.R_alloc | apply Kd.R_drewN | apply Kd.R_drew)); exact HO_15.out) (by decide)) hk (fun _ h => h.2)) (fun _ h => h.1)); have n1_ := Aside0.mk (KeepBut.trans (by repeat (first | (with_reducible first | exact HK.out | apply KeepBut.set_ | apply keep_drewN | apply keep_drew | apply keep_alloc) | exact HK.out)) hk (.inl rfl)); have n2_ := Aside0.mk (hb); have n3_ := Aside0.mk (hi); clear HO_15; clear HK; clear HB; clear HI0; have HO_15 := n0_; have HK := n1_; have HB := n2_; have HI0 := n3_; clear n0_ n1_ n2_ n3_; (try clear hb); (try clear hb2); (try clear hk); (try clear hi)))
                    go_ret2
                    exact ⟨_, by first | rfl | (simp [errW_none, errW_some] <;> rfl) | (simp [*, errW_none, errW_some] <;> rfl), Kd.Q_of_R (by (with_reducible repeat (first | apply Kd.R_alloc | apply Kd.R_drewN | apply Kd.R_drew)); exact HO_15.out), by repeat (first | (with_reducible first | exact HI0.out | apply IsS100.alloc | apply IsS100.drewN | apply IsS100.drew | apply IsS100.set_1) | exact HI0.out), by repeat (first | (with_reducible first | exact HB.out | apply below_alloc | apply pw_below_drewN | apply below_drew1 | refine below_set ?_ (IsS100.ge HI0.out)) | exact HB.out), by repeat (first | (with_reducible first | exact HK.out | apply KeepBut.set_ | apply keep_drewN | apply keep_drew | apply keep_alloc) | exact HK.out)⟩
              · replace c34 := Bool.eq_false_iff.mpr c34
                subst c34
                have H1 : (some (x15_2, t412, t431)) = some (r1, r2, r3) := by rw [if_neg (show ¬ (false = true) by decide)] at H; exact H
                clear H
                have H := H1
                clear H1
                simp only [Option.some.injEq, Prod.mk.injEq] at H
                obtain ⟨rfl, rfl, rfl⟩ := H
                go_wp2_with (first | ((with_reducible refine gate_callee (f := 47) rfl ?_); refine goesL_ (some 49) rfl rfl Try.func47 (by kernel_rfl) rfl #[.pointer (some ⟨g, 0, none⟩), .int .i64 a1] rfl (by (try simp only [List.map_toArray, List.map_cons, List.map_nil]); first | done | rfl | (simp only [List.length_drop, List.length_take]; rfl)) ?_; (with_reducible refine (spec_l20Rd_odd.calls k2 g s0_0 x1001_2 a1 false t431 w0 _ ?side1 ?side2 A33.out).mono ?_); (case side1 => repeat (first | (with_reducible first | exact HI0.out | apply IsS100.alloc | apply IsS100.drewN | apply IsS100.drew | apply IsS100.set_1) | exact HI0.out)); (case side2 => repeat (first | (with_reducible first | exact HB.out | apply below_alloc | apply pw_below_drewN | apply below_drew1 | refine below_set ?_ (IsS100.ge HI0.out)) | exact HB.out)); rintro e w62 ⟨rfl, hi, hb, hk⟩; refine ⟨_, rfl, ?_⟩; have n0_ := Aside0.mk (Kd.R_mono (Kd.R_keep (IsS100.apart (show IsS100 w0 _ g s0_0 x1001_2 from by repeat (first | (with_reducible first | exact HI0.out | apply IsS100.alloc | apply IsS100.drewN | apply IsS100.drew | apply IsS100.set_1) | exact HI0.out)) (by (with_reducible repeat (first | apply Kd.R_alloc | apply Kd.R_drewN | apply Kd.R_drew)); exact HO_15.out) (by decide)) hk (fun _ h => h.2)) (fun _ h => h.1)); have n1_ := Aside0.mk (KeepBut.trans (by repeat (first | (with_reducible first | exact HK.out | apply KeepBut.set_ | apply keep_drewN | apply keep_drew | apply keep_alloc) | exact HK.out)) hk (.inl rfl)); have n2_ := Aside0.mk (hb); have n3_ := Aside0.mk (hi); clear HO_15; clear HK; clear HB; clear HI0; have HO_15 := n0_; have HK := n1_; have HB := n2_; have HI0 := n3_; clear n0_ n1_ n2_ n3_; (try clear hb); (try clear hb2); (try clear hk); (try clear hi)))
                go_ret2
                exact ⟨_, by first | rfl | (simp [errW_none, errW_some] <;> rfl) | (simp [*, errW_none, errW_some] <;> rfl), Kd.Q_of_R (by (with_reducible repeat (first | apply Kd.R_alloc | apply Kd.R_drewN | apply Kd.R_drew)); exact HO_15.out), by repeat (first | (with_reducible first | exact HI0.out | apply IsS100.alloc | apply IsS100.drewN | apply IsS100.drew | apply IsS100.set_1) | exact HI0.out), by repeat (first | (with_reducible first | exact HB.out | apply below_alloc | apply pw_below_drewN | apply below_drew1 | refine below_set ?_ (IsS100.ge HI0.out)) | exact HB.out), by repeat (first | (with_reducible first | exact HK.out | apply KeepBut.set_ | apply keep_drewN | apply keep_drew | apply keep_alloc) | exact HK.out)⟩
def impl_neighbours.l0 : Nat → Int → List (S79) → Int → Int → Option ((List (S79)))
  | 0, _, _, _, _ => none
  | k + 1, x0, x3, x8, x9 => if x9 < x8 then (if x0 = 0 then (none) else (if (Int.tmod x9 x0) < (wrap64 (x0 - 1)) then (if x3.length < 8796093022208 then ((some (x3 ++ [(⟨x9, wrap64 (x9 + 1)⟩ : S79)] : List (S79))).bind fun y471 => (if (wrap64 (Int.tdiv x9 x0)) < (wrap64 (x0 - 1)) then (if y471.length < 8796093022208 then (impl_neighbours.l0 k x0 (y471 ++ [(⟨x9, wrap64 (x9 + x0)⟩ : S79)]) x8 (wrap64 (x9 + 1))) else (none)) else (impl_neighbours.l0 k x0 y471 x8 (wrap64 (x9 + 1))))) else (none)) else (if (wrap64 (Int.tdiv x9 x0)) < (wrap64 (x0 - 1)) then (if x3.length < 8796093022208 then (impl_neighbours.l0 k x0 (x3 ++ [(⟨x9, wrap64 (x9 + x0)⟩ : S79)]) x8 (wrap64 (x9 + 1))) else (none)) else (impl_neighbours.l0 k x0 x3 x8 (wrap64 (x9 + 1)))))) else (some x3)
def impl_neighbours.f (k : Nat) (a0 : Int) : Option ((List (S79))) := impl_neighbours.l0 k a0 (([] : List (S79))) (wrap64 (a0 * a0)) 0
theorem impl_neighbours.mono_l : ∀ k, (∀ y0 y1 y2 y3, LeO (impl_neighbours.l0 k y0 y1 y2 y3) (impl_neighbours.l0 (k + 1) y0 y1 y2 y3))
  | 0 => fun _ _ _ _ r h => by simp [impl_neighbours.l0] at h
  | k + 1 => by
    have ih0 := impl_neighbours.mono_l k
    · intro y0 y1 y2 y3
      unfold impl_neighbours.l0
      repeat' first
      | (with_reducible exact ih0 _ _ _ _)
      | (with_reducible exact LeO.refl _)
      | (with_reducible exact LeO.none _)
      | (with_reducible refine LeO.ite ?_ ?_)
      | (with_reducible refine LeO.bind ?_ (fun _ => ?_))
      | exact ih0 _ _ _ _
      | exact LeO.none _
      | refine LeO.ite ?_ ?_
      | refine LeO.bind ?_ (fun _ => ?_)
theorem impl_neighbours.mono : ∀ a0 k, LeO (impl_neighbours.f k a0) (impl_neighbours.f (k + 1) a0) := by
  intro a0 k
  have ih0 := impl_neighbours.mono_l k
  unfold impl_neighbours.f
  repeat' first
      | (with_reducible exact ih0 _ _ _ _)
      | (with_reducible exact LeO.refl _)
      | (with_reducible exact LeO.none _)
      | (with_reducible refine LeO.ite ?_ ?_)
      | (with_reducible refine LeO.bind ?_ (fun _ => ?_))
      | exact ih0 _ _ _ _
      | exact LeO.none _
      | refine LeO.ite ?_ ?_
      | refine LeO.bind ?_ (fun _ => ?_)
set_option maxHeartbeats 8000000 in
set_option maxRecDepth 100000 in
theorem impl_neighbours.calls (k : Nat) (a0 : Int) (r : List (S79)) (w : World) (h : impl_neighbours.f k a0 = some r) :
    Calls Try.prog 51 #[.int .i64 a0] w fun e w' => ∃ v0_ : Value, e = .returned (v0_) ∧ Kd.R k79 79 w' w.heap.size (fun _ => True) v0_ r ∧ Below w.heap.size w w' := by
  have hu79 := Try.underlying79
  have HB := Aside0.mk (Below.refl w.heap.size w)
  have H : (impl_neighbours.l0 k a0 (([] : List (S79))) (wrap64 (a0 * a0)) 0) = some r := h
  clear h
  obtain ⟨y468, hy468⟩ : ∃ y_ : List (S79), y_ = (([] : List (S79))) := ⟨_, rfl⟩
  replace H : (impl_neighbours.l0 k a0 y468 (wrap64 (a0 * a0)) 0) = some r := by first | (rw [hy468]; with_reducible exact H) | (have H2_ := (Option.bind_some _ _).symm.trans H; rw [hy468]; with_reducible exact H2_) | (have H2_ := (Option.bind_some _ _).symm.trans H; with_reducible exact H2_) | with_reducible exact H | (rw [hy468]; exact H) | exact H
  have Ny468 := Aside0.mk hy468
  clear hy468
  have H' := Aside0.mk H
  clear H
  go_enter Try.func51, Try.ntmps51
  go_wp2_with (first | ((with_reducible refine gate_dst (N := 5) rfl ?_); refine Kd.R_lit k79 _ 79 ?hg (N := 5) ?hd (xs := ([] : List (S79))) (inner := []) (ok := fun _ => True) (okp := fun _ => True) ?hr ?hp (fun _ hk => hk) trivial (Below.refl _ _) (Nat.le_refl _) (by simp) ?_; (case hd => rfl); (case hg => rfl); (case hr => first | (go_simp; done) | (go_simp; rfl)); (case hp => exact (Reps.none _ _)); intro v469 w2 ho3 hb hg_ hnew_; clear hg_ hnew_; (first | rw [← Ny468.out] at ho3 | (simp only [Int.reduceToNat] at ho3; rw [← Ny468.out] at ho3)); have n0_ := Aside0.mk (Kd.R_lower ho3 (below_size (by repeat (first | (with_reducible first | exact HB.out | apply below_alloc | apply pw_below_drewN | apply below_drew1) | exact HB.out)))); have n1_ := Aside0.mk (below_step (by repeat (first | (with_reducible first | exact HB.out | apply below_alloc | apply pw_below_drewN | apply below_drew1) | exact HB.out)) hb); clear HB; have HO470 := n0_; have HB := n1_; clear n0_ n1_; clear hb ho3))
  go_loopg [3, 9] k (fun kq v3 v9 w' => ∃ (x3_1 : List (S79)) (x9_1 : Int), v9 = .int .i64 x9_1 ∧ Aside0 (impl_neighbours.l0 kq a0 x3_1 (wrap64 (a0 * a0)) x9_1 = some r) ∧ Aside0 (kq ≤ k) ∧ Aside0 (Kd.R k79 79 w' w.heap.size (fun _ => True) v3 x3_1) ∧ Aside0 (Below w.heap.size w w'))
  case atStart => exact ⟨(y468), (0), (by first | rfl | (simp; done) | (simp [*]; done)), H', ⟨Nat.le_refl _⟩, ⟨by (with_reducible repeat (first | apply Kd.R_alloc | apply Kd.R_drewN | apply Kd.R_drew)); exact HO470.out⟩, ⟨by repeat (first | (with_reducible first | exact HB.out | apply below_alloc | apply pw_below_drewN | apply below_drew1) | exact HB.out)⟩⟩
  case round =>
    clear H'
    try clear p2
    obtain ⟨x3_1, x9_1, rfl, HA, HK1, HO_3, HB⟩ := hrel
    cases gk with
    | zero => exact absurd HA.out (by simp [impl_neighbours.l0])
    | succ k1 =>
      have H := HA.out
      clear HA
      simp only [impl_neighbours.l0] at H
      by_cases c4 : x9_1 < (wrap64 (a0 * a0))
      · rw [if_pos c4] at H
        have c4b0 : decide (x9_1 < (wrap64 (a0 * a0))) = true := decide_eq_true c4
        clear c4
        by_cases c5 : a0 = 0
        · rw [if_pos c5] at H
          exact absurd H (by simp)
        · rw [if_neg c5] at H
          have c5b0 : (a0 == 0) = false := beq_eq_false_iff_ne.mpr c5
          have c5b1 : (a0 != 0) = true := bne_iff_ne.mpr c5
          by_cases c6 : (Int.tmod x9_1 a0) < (wrap64 (a0 - 1))
          · rw [if_pos c6] at H
            have c6b0 : decide ((Int.tmod x9_1 a0) < (wrap64 (a0 - 1))) = true := decide_eq_true c6
            clear c6
            by_cases c7 : x3_1.length < 8796093022208
            · rw [if_pos c7] at H
              have LMc7 := Aside0.mk c7
              clear c7
              obtain ⟨y471, hy471⟩ : ∃ y_ : List (S79), y_ = (x3_1 ++ [(⟨x9_1, wrap64 (x9_1 + 1)⟩ : S79)]) := ⟨_, rfl⟩
              replace H : (if (wrap64 (Int.tdiv x9_1 a0)) < (wrap64 (a0 - 1)) then (if y471.length < 8796093022208 then (impl_neighbours.l0 k1 a0 (y471 ++ [(⟨x9_1, wrap64 (x9_1 + a0)⟩ : S79)]) (wrap64 (a0 * a0)) (wrap64 (x9_1 + 1))) else (none)) else (impl_neighbours.l0 k1 a0 y471 (wrap64 (a0 * a0)) (wrap64 (x9_1 + 1)))) = some r := by first | (rw [hy471]; with_reducible exact H) | (have H2_ := (Option.bind_some _ _).symm.trans H; rw [hy471]; with_reducible exact H2_) | (have H2_ := (Option.bind_some _ _).symm.trans H; with_reducible exact H2_) | with_reducible exact H | (rw [hy471]; exact H) | exact H
              have Ny471 := Aside0.mk hy471
              clear hy471
              by_cases c8 : (wrap64 (Int.tdiv x9_1 a0)) < (wrap64 (a0 - 1))
              · rw [if_pos c8] at H
                have c8b0 : decide ((wrap64 (Int.tdiv x9_1 a0)) < (wrap64 (a0 - 1))) = true := decide_eq_true c8
                clear c8
                by_cases c9 : y471.length < 8796093022208
                · rw [if_pos c9] at H
                  have LMc9 := Aside0.mk c9
                  clear c9
                  obtain ⟨y474, hy474⟩ : ∃ y_ : List (S79), y_ = (y471 ++ [(⟨x9_1, wrap64 (x9_1 + a0)⟩ : S79)]) := ⟨_, rfl⟩
                  replace H : (impl_neighbours.l0 k1 a0 y474 (wrap64 (a0 * a0)) (wrap64 (x9_1 + 1))) = some r := by first | (rw [hy474]; with_reducible exact H) | (have H2_ := (Option.bind_some _ _).symm.trans H; rw [hy474]; with_reducible exact H2_) | (have H2_ := (Option.bind_some _ _).symm.trans H; with_reducible exact H2_) | with_reducible exact H | (rw [hy474]; exact H) | exact H
                  have Ny474 := Aside0.mk hy474
                  clear hy474
                  have H' := Aside0.mk H
                  clear H
                  go_wp2_with (first | ((with_reducible refine gate_builtin (b := .append) (xs := #[.tmp 18, .tmp 23]) rfl ?_); at_builtin; refine Kd.R_append k79 (w0 := w) w.heap.size rfl (.tmp 18) (.tmp 23) 77 79 (.agg #[(.int .i64 0), (.int .i64 0)]) 16 rfl Try.underlying77 info79 rfl (by decide) (by omega) u3 x3_1 (⟨x9_1, wrap64 (x9_1 + 1)⟩ : S79) [.int .i64 x9_1, .int .i64 (wrap64 (x9_1 + 1))] (fun _ => True) (fun _ => False) rfl rfl ?aP (fun _ hk => hk.elim) ?aF ?aO ?aB ?aS ?aL ?_; (case aP => exact k79_mkM _ _ _ (⟨x9_1, wrap64 (x9_1 + 1)⟩ : S79)); (case aB => exact (by repeat (first | (with_reducible first | exact HB.out | apply below_alloc | apply pw_below_drewN | apply below_drew1) | exact HB.out))); (case aF => exact (fun _ _ => trivial)); (case aO => exact (by (with_reducible repeat (first | apply Kd.R_alloc | apply Kd.R_drewN | apply Kd.R_drew)); exact HO_3.out)); (case aS => exact (below_size (by repeat (first | (with_reducible first | exact HB.out | apply below_alloc | apply pw_below_drewN | apply below_drew1) | exact HB.out)))); (case aL => have := LMc7.out; omega); intro v472 w10 ho hb hg hat; rw [← Ny471.out] at ho; have n0_ := Aside0.mk (hb); have n1_ := Aside0.mk (ho); clear HB; clear HO_3; have HB := n0_; have HO473 := n1_; clear n0_ n1_; clear ho hb hg hat) | ((with_reducible refine gate_builtin (b := .append) (xs := #[.tmp 31, .tmp 37]) rfl ?_); at_builtin; refine Kd.R_append k79 (w0 := w) w.heap.size rfl (.tmp 31) (.tmp 37) 77 79 (.agg #[(.int .i64 0), (.int .i64 0)]) 16 rfl Try.underlying77 info79 rfl (by decide) (by omega) v472 y471 (⟨x9_1, wrap64 (x9_1 + a0)⟩ : S79) [.int .i64 x9_1, .int .i64 (wrap64 (x9_1 + a0))] (fun _ => True) (fun _ => False) rfl rfl ?aP (fun _ hk => hk.elim) ?aF ?aO ?aB ?aS ?aL ?_; (case aP => exact k79_mkM _ _ _ (⟨x9_1, wrap64 (x9_1 + a0)⟩ : S79)); (case aB => exact (by repeat (first | (with_reducible first | exact HB.out | apply below_alloc | apply pw_below_drewN | apply below_drew1) | exact HB.out))); (case aF => exact (fun _ _ => trivial)); (case aO => exact (by (with_reducible repeat (first | apply Kd.R_alloc | apply Kd.R_drewN | apply Kd.R_drew)); exact HO473.out)); (case aS => exact (below_size (by repeat (first | (with_reducible first | exact HB.out | apply below_alloc | apply pw_below_drewN | apply below_drew1) | exact HB.out)))); (case aL => have := LMc9.out; omega); intro v475 w11 ho hb hg hat; rw [← Ny474.out] at ho; have n0_ := Aside0.mk (hb); have n1_ := Aside0.mk (ho); clear HB; clear HO473; have HB := n0_; have HO476 := n1_; clear n0_ n1_; clear ho hb hg hat))
                  go_roundg k1
                  case measure => have := HK1.out; omega
                  case rel => exact ⟨(y474), (wrap64 (x9_1 + 1)), (by first | rfl | (simp; done) | (simp [*]; done)), H', ⟨by have := HK1.out; omega⟩, ⟨by (with_reducible repeat (first | apply Kd.R_alloc | apply Kd.R_drewN | apply Kd.R_drew)); exact HO476.out⟩, ⟨by repeat (first | (with_reducible first | exact HB.out | apply below_alloc | apply pw_below_drewN | apply below_drew1) | exact HB.out)⟩⟩
                · rw [if_neg c9] at H
                  exact absurd H (by simp)
              · rw [if_neg c8] at H
                have c8b0 : decide ((wrap64 (Int.tdiv x9_1 a0)) < (wrap64 (a0 - 1))) = false := decide_eq_false c8
                clear c8
                have H' := Aside0.mk H
                clear H
                go_wp2_with (first | ((with_reducible refine gate_builtin (b := .append) (xs := #[.tmp 18, .tmp 23]) rfl ?_); at_builtin; refine Kd.R_append k79 (w0 := w) w.heap.size rfl (.tmp 18) (.tmp 23) 77 79 (.agg #[(.int .i64 0), (.int .i64 0)]) 16 rfl Try.underlying77 info79 rfl (by decide) (by omega) u3 x3_1 (⟨x9_1, wrap64 (x9_1 + 1)⟩ : S79) [.int .i64 x9_1, .int .i64 (wrap64 (x9_1 + 1))] (fun _ => True) (fun _ => False) rfl rfl ?aP (fun _ hk => hk.elim) ?aF ?aO ?aB ?aS ?aL ?_; (case aP => exact k79_mkM _ _ _ (⟨x9_1, wrap64 (x9_1 + 1)⟩ : S79)); (case aB => exact (by repeat (first | (with_reducible first | exact HB.out | apply below_alloc | apply pw_below_drewN | apply below_drew1) | exact HB.out))); (case aF => exact (fun _ _ => trivial)); (case aO => exact (by (with_reducible repeat (first | apply Kd.R_alloc | apply Kd.R_drewN | apply Kd.R_drew)); exact HO_3.out)); (case aS => exact (below_size (by repeat (first | (with_reducible first | exact HB.out | apply below_alloc | apply pw_below_drewN | apply below_drew1) | exact HB.out)))); (case aL => have := LMc7.out; omega); intro v472 w12 ho hb hg hat; rw [← Ny471.out] at ho; have n0_ := Aside0.mk (hb); have n1_ := Aside0.mk (ho); clear HB; clear HO_3; have HB := n0_; have HO473 := n1_; clear n0_ n1_; clear ho hb hg hat))
                go_roundg k1
                case measure => have := HK1.out; omega
                case rel => exact ⟨(y471), (wrap64 (x9_1 + 1)), (by first | rfl | (simp; done) | (simp [*]; done)), H', ⟨by have := HK1.out; omega⟩, ⟨by (with_reducible repeat (first | apply Kd.R_alloc | apply Kd.R_drewN | apply Kd.R_drew)); exact HO473.out⟩, ⟨by repeat (first | (with_reducible first | exact HB.out | apply below_alloc | apply pw_below_drewN | apply below_drew1) | exact HB.out)⟩⟩
            · rw [if_neg c7] at H
              exact absurd H (by simp)
          · rw [if_neg c6] at H
            have c6b0 : decide ((Int.tmod x9_1 a0) < (wrap64 (a0 - 1))) = false := decide_eq_false c6
            clear c6
            by_cases c13 : (wrap64 (Int.tdiv x9_1 a0)) < (wrap64 (a0 - 1))
            · rw [if_pos c13] at H
              have c13b0 : decide ((wrap64 (Int.tdiv x9_1 a0)) < (wrap64 (a0 - 1))) = true := decide_eq_true c13
              clear c13
              by_cases c14 : x3_1.length < 8796093022208
              · rw [if_pos c14] at H
                have LMc14 := Aside0.mk c14
                clear c14
                obtain ⟨y477, hy477⟩ : ∃ y_ : List (S79), y_ = (x3_1 ++ [(⟨x9_1, wrap64 (x9_1 + a0)⟩ : S79)]) := ⟨_, rfl⟩
                replace H : (impl_neighbours.l0 k1 a0 y477 (wrap64 (a0 * a0)) (wrap64 (x9_1 + 1))) = some r := by first | (rw [hy477]; with_reducible exact H) | (have H2_ := (Option.bind_some _ _).symm.trans H; rw [hy477]; with_reducible exact H2_) | (have H2_ := (Option.bind_some _ _).symm.trans H; with_reducible exact H2_) | with_reducible exact H | (rw [hy477]; exact H) | exact H
                have Ny477 := Aside0.mk hy477
                clear hy477
                have H' := Aside0.mk H
                clear H
                go_wp2_with (first | ((with_reducible refine gate_builtin (b := .append) (xs := #[.tmp 31, .tmp 37]) rfl ?_); at_builtin; refine Kd.R_append k79 (w0 := w) w.heap.size rfl (.tmp 31) (.tmp 37) 77 79 (.agg #[(.int .i64 0), (.int .i64 0)]) 16 rfl Try.underlying77 info79 rfl (by decide) (by omega) u3 x3_1 (⟨x9_1, wrap64 (x9_1 + a0)⟩ : S79) [.int .i64 x9_1, .int .i64 (wrap64 (x9_1 + a0))] (fun _ => True) (fun _ => False) rfl rfl ?aP (fun _ hk => hk.elim) ?aF ?aO ?aB ?aS ?aL ?_; (case aP => exact k79_mkM _ _ _ (⟨x9_1, wrap64 (x9_1 + a0)⟩ : S79)); (case aB => exact (by repeat (first | (with_reducible first | exact HB.out | apply below_alloc | apply pw_below_drewN | apply below_drew1) | exact HB.out))); (case aF => exact (fun _ _ => trivial)); (case aO => exact (by (with_reducible repeat (first | apply Kd.R_alloc | apply Kd.R_drewN | apply Kd.R_drew)); exact HO_3.out)); (case aS => exact (below_size (by repeat (first | (with_reducible first | exact HB.out | apply below_alloc | apply pw_below_drewN | apply below_drew1) | exact HB.out)))); (case aL => have := LMc14.out; omega); intro v478 w15 ho hb hg hat; rw [← Ny477.out] at ho; have n0_ := Aside0.mk (hb); have n1_ := Aside0.mk (ho); clear HB; clear HO_3; have HB := n0_; have HO479 := n1_; clear n0_ n1_; clear ho hb hg hat))
                go_roundg k1
                case measure => have := HK1.out; omega
                case rel => exact ⟨(y477), (wrap64 (x9_1 + 1)), (by first | rfl | (simp; done) | (simp [*]; done)), H', ⟨by have := HK1.out; omega⟩, ⟨by (with_reducible repeat (first | apply Kd.R_alloc | apply Kd.R_drewN | apply Kd.R_drew)); exact HO479.out⟩, ⟨by repeat (first | (with_reducible first | exact HB.out | apply below_alloc | apply pw_below_drewN | apply below_drew1) | exact HB.out)⟩⟩
              · rw [if_neg c14] at H
                exact absurd H (by simp)
            · rw [if_neg c13] at H
              have c13b0 : decide ((wrap64 (Int.tdiv x9_1 a0)) < (wrap64 (a0 - 1))) = false := decide_eq_false c13
              clear c13
              have H' := Aside0.mk H
              clear H
              go_wp2
              go_roundg k1
              case measure => have := HK1.out; omega
              case rel => exact ⟨(x3_1), (wrap64 (x9_1 + 1)), (by first | rfl | (simp; done) | (simp [*]; done)), H', ⟨by have := HK1.out; omega⟩, ⟨by (with_reducible repeat (first | apply Kd.R_alloc | apply Kd.R_drewN | apply Kd.R_drew)); exact HO_3.out⟩, ⟨by repeat (first | (with_reducible first | exact HB.out | apply below_alloc | apply pw_below_drewN | apply below_drew1) | exact HB.out)⟩⟩
      · rw [if_neg c4] at H
        have c4b0 : decide (x9_1 < (wrap64 (a0 * a0))) = false := decide_eq_false c4
        clear c4
        obtain rfl := Option.some.inj H
        go_wp2
        go_ret
        exact ⟨_, by first | rfl | (simp [errW_none, errW_some] <;> rfl) | (simp [*, errW_none, errW_some] <;> rfl), by (with_reducible repeat (first | apply Kd.R_alloc | apply Kd.R_drewN | apply Kd.R_drew)); exact HO_3.out, by repeat (first | (with_reducible first | exact HB.out | apply below_alloc | apply pw_below_drewN | apply below_drew1) | exact HB.out)⟩
end Go.Proofs.Ytbcikbekdhdpaaa.Q
end
section
namespace Go.Proofs.Ytbcikbekdhdpaaa.Q
open Go.RowKit Go.Proofs.YtbcikbekdhdpaaaW.PrintWords Go.Proofs.YtbcikbekdhdpaaaW.PrintLast Go.Proofs.YtbcikbekdhdpaaaW.PrintMore
attribute [local go_sem] max2_int min2_int max_two min_two max_three min_three max_four min_four   -- for this text's walks alone
set_option linter.unusedVariables false
set_option linter.unusedSimpArgs false
def spec_DrawLessRules.f (k : Nat) (l0 : List Int) : Option (List Int × Int × Int) := (spec_l20Open.f l0).bind fun bt567 => ((spec_l20Size.f k bt567.1 bt567.2 0).bind fun bt570 => ((spec_l20Solved.f k bt567.1 bt570.2 bt570.1).bind fun bt572 => ((spec_l20Rd_odd.f k bt567.1 bt572.2 9).bind fun bt576 => (if bt576.1 = true then ((spec_l20Grid.f k bt567.1 bt576.2 3).bind fun bt578 => ((spec_l20Rd_pick.f k bt567.1 bt578.2.2 10).bind fun bt583 => ((some (([bt583.1, 20, (-1), 21] : List Int) : List Int)).bind fun y585 => ((some (([0, 0, 0, 1, 1, 2, 3] : List Int) : List Int)).bind fun y588 => ((spec_l20Rd_pick.f k bt567.1 bt583.2 7).bind fun bt591 => (if 0 ≤ bt591.1 then (if bt591.1 < (y588.length : Int) then (if 0 ≤ (rd y588 bt591.1) then (if (rd y588 bt591.1) < (y585.length : Int) then (some (bt578.1, bt578.2.1, rd y585 (rd y588 bt591.1))) else (none)) else (none)) else (none)) else (none))))))) else ((spec_l20Rd_pick.f k bt567.1 bt576.2 10).bind fun bt595 => ((some (([bt595.1, 20, (-1), 21] : List Int) : List Int)).bind fun y597 => ((some (([0, 0, 0, 1, 1, 2, 3] : List Int) : List Int)).bind fun y600 => ((spec_l20Rd_pick.f k bt567.1 bt595.2 7).bind fun bt603 => (if 0 ≤ bt603.1 then (if bt603.1 < (y600.length : Int) then (if 0 ≤ (rd y600 bt603.1) then (if (rd y600 bt603.1) < (y597.length : Int) then (some (bt572.1, bt570.1, rd y597 (rd y600 bt603.1))) else (none)) else (none)) else (none)) else (none))))))))))
def spec_DrawLessRules.T6 : Bool × List (List Nat × List Nat) := (true, [([], []), ([], []), ([], []), ([2], [2]), ([3], [3]), ([], []), ([], []), ([6, 3], [6]), ([5, 7], [5, 7]), ([8], [8]), ([4, 9], [4, 9]), ([10], [10]), ([0, 7, 0], [0]), ([1, 12, 0, 1, 12], [1]), ([11, 13, 0, 1, 2, 3, 4, 5, 6, 7, 8, 9, 10, 11, 12, 13], [11])])
def spec_DrawLessRules.B6 : List Nat := [0, 0, 0, 4, 12, 0, 0, 76, 236, 492, 1020, 2044, 205, 4303, 16383]
theorem spec_DrawLessRules.tab6 : rtab .any (opsOf Try.f17 6) = spec_DrawLessRules.T6 := by kernel_rfl
theorem spec_DrawLessRules.bits6 : waitsOk spec_DrawLessRules.T6.2 spec_DrawLessRules.B6 = true := by kernel_rfl
set_option maxHeartbeats 8000000 in
set_option maxRecDepth 100000 in
theorem spec_DrawLessRules.calls (k : Nat) (A0 : Option Addr) (c0 : Nat) (l0 : List Int) (r1 : List Int) (r2 : Int) (r3 : Int) (w : World) (hr0 : Kd.C (Kd.int .u8) w A0 l0.length l0) (hc0 : l0.length ≤ c0) (h : spec_DrawLessRules.f k l0 = some (r1, r2, r3)) :
    Calls Try.prog 17 #[.slice A0 l0.length c0] w fun e w' => ∃ v0_ : Value, e = .returned (.tuple #[v0_, .int .i64 r2, .int .i64 r3]) ∧ Kd.Q (Kd.int .i64) 3 w' w.heap.size (fun _ => True) v0_ r1 ∧ Below w.heap.size w w' := by
  have HR0 := Aside0.mk hr0
  have HC0 := Aside0.mk hc0
  clear hr0 hc0
  have HB := Aside0.mk (Below.refl w.heap.size w)
  have H : ((spec_l20Open.f l0).bind fun bt567 => ((spec_l20Size.f k bt567.1 bt567.2 0).bind fun bt570 => ((spec_l20Solved.f k bt567.1 bt570.2 bt570.1).bind fun bt572 => ((spec_l20Rd_odd.f k bt567.1 bt572.2 9).bind fun bt576 => (if bt576.1 = true then ((spec_l20Grid.f k bt567.1 bt576.2 3).bind fun bt578 => ((spec_l20Rd_pick.f k bt567.1 bt578.2.2 10).bind fun bt583 => ((some (([bt583.1, 20, (-1), 21] : List Int) : List Int)).bind fun y585 => ((some (([0, 0, 0, 1, 1, 2, 3] : List Int) : List Int)).bind fun y588 => ((spec_l20Rd_pick.f k bt567.1 bt583.2 7).bind fun bt591 => (if 0 ≤ bt591.1 then (if bt591.1 < (y588.length : Int) then (if 0 ≤ (rd y588 bt591.1) then (if (rd y588 bt591.1) < (y585.length : Int) then (some (bt578.1, bt578.2.1, rd y585 (rd y588 bt591.1))) else (none)) else (none)) else (none)) else (none))))))) else ((spec_l20Rd_pick.f k bt567.1 bt576.2 10).bind fun bt595 => ((some (([bt595.1, 20, (-1), 21] : List Int) : List Int)).bind fun y597 => ((some (([0, 0, 0, 1, 1, 2, 3] : List Int) : List Int)).bind fun y600 => ((spec_l20Rd_pick.f k bt567.1 bt595.2 7).bind fun bt603 => (if 0 ≤ bt603.1 then (if bt603.1 < (y600.length : Int) then (if 0 ≤ (rd y600 bt603.1) then (if (rd y600 bt603.1) < (y597.length : Int) then (some (bt572.1, bt570.1, rd y597 (rd y600 bt603.1))) else (none)) else (none)) else (none)) else (none))))))))))) = some (r1, r2, r3) := h
  clear h
  replace H := Option.bind_eq_some_iff.mp H
  obtain ⟨⟨t567, t568⟩, A20, H⟩ := H
  replace H : ((spec_l20Size.f k t567 t568 0).bind fun bt570 => ((spec_l20Solved.f k t567 bt570.2 bt570.1).bind fun bt572 => ((spec_l20Rd_odd.f k t567 bt572.2 9).bind fun bt576 => (if bt576.1 = true then ((spec_l20Grid.f k t567 bt576.2 3).bind fun bt578 => ((spec_l20Rd_pick.f k t567 bt578.2.2 10).bind fun bt583 => ((some (([bt583.1, 20, (-1), 21] : List Int) : List Int)).bind fun y585 => ((some (([0, 0, 0, 1, 1, 2, 3] : List Int) : List Int)).bind fun y588 => ((spec_l20Rd_pick.f k t567 bt583.2 7).bind fun bt591 => (if 0 ≤ bt591.1 then (if bt591.1 < (y588.length : Int) then (if 0 ≤ (rd y588 bt591.1) then (if (rd y588 bt591.1) < (y585.length : Int) then (some (bt578.1, bt578.2.1, rd y585 (rd y588 bt591.1))) else (none)) else (none)) else (none)) else (none))))))) else ((spec_l20Rd_pick.f k t567 bt576.2 10).bind fun bt595 => ((some (([bt595.1, 20, (-1), 21] : List Int) : List Int)).bind fun y597 => ((some (([0, 0, 0, 1, 1, 2, 3] : List Int) : List Int)).bind fun y600 => ((spec_l20Rd_pick.f k t567 bt595.2 7).bind fun bt603 => (if 0 ≤ bt603.1 then (if bt603.1 < (y600.length : Int) then (if 0 ≤ (rd y600 bt603.1) then (if (rd y600 bt603.1) < (y597.length : Int) then (some (bt572.1, bt570.1, rd y597 (rd y600 bt603.1))) else (none)) else (none)) else (none)) else (none)))))))))) = some (r1, r2, r3) := H
  have A2 := Aside0.mk A20
  clear A20
  replace H := Option.bind_eq_some_iff.mp H
  obtain ⟨⟨t570, t571⟩, A30, H⟩ := H
  replace H : ((spec_l20Solved.f k t567 t571 t570).bind fun bt572 => ((spec_l20Rd_odd.f k t567 bt572.2 9).bind fun bt576 => (if bt576.1 = true then ((spec_l20Grid.f k t567 bt576.2 3).bind fun bt578 => ((spec_l20Rd_pick.f k t567 bt578.2.2 10).bind fun bt583 => ((some (([bt583.1, 20, (-1), 21] : List Int) : List Int)).bind fun y585 => ((some (([0, 0, 0, 1, 1, 2, 3] : List Int) : List Int)).bind fun y588 => ((spec_l20Rd_pick.f k t567 bt583.2 7).bind fun bt591 => (if 0 ≤ bt591.1 then (if bt591.1 < (y588.length : Int) then (if 0 ≤ (rd y588 bt591.1) then (if (rd y588 bt591.1) < (y585.length : Int) then (some (bt578.1, bt578.2.1, rd y585 (rd y588 bt591.1))) else (none)) else (none)) else (none)) else (none))))))) else ((spec_l20Rd_pick.f k t567 bt576.2 10).bind fun bt595 => ((some (([bt595.1, 20, (-1), 21] : List Int) : List Int)).bind fun y597 => ((some (([0, 0, 0, 1, 1, 2, 3] : List Int) : List Int)).bind fun y600 => ((spec_l20Rd_pick.f k t567 bt595.2 7).bind fun bt603 => (if 0 ≤ bt603.1 then (if bt603.1 < (y600.length : Int) then (if 0 ≤ (rd y600 bt603.1) then (if (rd y600 bt603.1) < (y597.length : Int) then (some (bt572.1, t570, rd y597 (rd y600 bt603.1))) else (none)) else (none)) else (none)) else (none))))))))) = some (r1, r2, r3) := H
  have A3 := Aside0.mk A30
  clear A30
  replace H := Option.bind_eq_some_iff.mp H
  obtain ⟨⟨t572, t575⟩, A40, H⟩ := H
  replace H : ((spec_l20Rd_odd.f k t567 t575 9).bind fun bt576 => (if bt576.1 = true then ((spec_l20Grid.f k t567 bt576.2 3).bind fun bt578 => ((spec_l20Rd_pick.f k t567 bt578.2.2 10).bind fun bt583 => ((some (([bt583.1, 20, (-1), 21] : List Int) : List Int)).bind fun y585 => ((some (([0, 0, 0, 1, 1, 2, 3] : List Int) : List Int)).bind fun y588 => ((spec_l20Rd_pick.f k t567 bt583.2 7).bind fun bt591 => (if 0 ≤ bt591.1 then (if bt591.1 < (y588.length : Int) then (if 0 ≤ (rd y588 bt591.1) then (if (rd y588 bt591.1) < (y585.length : Int) then (some (bt578.1, bt578.2.1, rd y585 (rd y588 bt591.1))) else (none)) else (none)) else (none)) else (none))))))) else ((spec_l20Rd_pick.f k t567 bt576.2 10).bind fun bt595 => ((some (([bt595.1, 20, (-1), 21] : List Int) : List Int)).bind fun y597 => ((some (([0, 0, 0, 1, 1, 2, 3] : List Int) : List Int)).bind fun y600 => ((spec_l20Rd_pick.f k t567 bt595.2 7).bind fun bt603 => (if 0 ≤ bt603.1 then (if bt603.1 < (y600.length : Int) then (if 0 ≤ (rd y600 bt603.1) then (if (rd y600 bt603.1) < (y597.length : Int) then (some (t572, t570, rd y597 (rd y600 bt603.1))) else (none)) else (none)) else (none)) else (none)))))))) = some (r1, r2, r3) := H
  have A4 := Aside0.mk A40
  clear A40
  replace H := Option.bind_eq_some_iff.mp H
  obtain ⟨⟨t576, t577⟩, A50, H⟩ := H
  replace H : (if t576 = true then ((spec_l20Grid.f k t567 t577 3).bind fun bt578 => ((spec_l20Rd_pick.f k t567 bt578.2.2 10).bind fun bt583 => ((some (([bt583.1, 20, (-1), 21] : List Int) : List Int)).bind fun y585 => ((some (([0, 0, 0, 1, 1, 2, 3] : List Int) : List Int)).bind fun y588 => ((spec_l20Rd_pick.f k t567 bt583.2 7).bind fun bt591 => (if 0 ≤ bt591.1 then (if bt591.1 < (y588.length : Int) then (if 0 ≤ (rd y588 bt591.1) then (if (rd y588 bt591.1) < (y585.length : Int) then (some (bt578.1, bt578.2.1, rd y585 (rd y588 bt591.1))) else (none)) else (none)) else (none)) else (none))))))) else ((spec_l20Rd_pick.f k t567 t577 10).bind fun bt595 => ((some (([bt595.1, 20, (-1), 21] : List Int) : List Int)).bind fun y597 => ((some (([0, 0, 0, 1, 1, 2, 3] : List Int) : List Int)).bind fun y600 => ((spec_l20Rd_pick.f k t567 bt595.2 7).bind fun bt603 => (if 0 ≤ bt603.1 then (if bt603.1 < (y600.length : Int) then (if 0 ≤ (rd y600 bt603.1) then (if (rd y600 bt603.1) < (y597.length : Int) then (some (t572, t570, rd y597 (rd y600 bt603.1))) else (none)) else (none)) else (none)) else (none))))))) = some (r1, r2, r3) := H
  have A5 := Aside0.mk A50
  clear A50
  by_cases c6 : t576 = true
  · subst c6
    have H1 : ((spec_l20Grid.f k t567 t577 3).bind fun bt578 => ((spec_l20Rd_pick.f k t567 bt578.2.2 10).bind fun bt583 => ((some (([bt583.1, 20, (-1), 21] : List Int) : List Int)).bind fun y585 => ((some (([0, 0, 0, 1, 1, 2, 3] : List Int) : List Int)).bind fun y588 => ((spec_l20Rd_pick.f k t567 bt583.2 7).bind fun bt591 => (if 0 ≤ bt591.1 then (if bt591.1 < (y588.length : Int) then (if 0 ≤ (rd y588 bt591.1) then (if (rd y588 bt591.1) < (y585.length : Int) then (some (bt578.1, bt578.2.1, rd y585 (rd y588 bt591.1))) else (none)) else (none)) else (none)) else (none))))))) = some (r1, r2, r3) := by rw [if_pos rfl] at H; exact H
    clear H
    have H := H1
    clear H1
    replace H := Option.bind_eq_some_iff.mp H
    obtain ⟨⟨t578, t581, t582⟩, A70, H⟩ := H
    replace H : ((spec_l20Rd_pick.f k t567 t582 10).bind fun bt583 => ((some (([bt583.1, 20, (-1), 21] : List Int) : List Int)).bind fun y585 => ((some (([0, 0, 0, 1, 1, 2, 3] : List Int) : List Int)).bind fun y588 => ((spec_l20Rd_pick.f k t567 bt583.2 7).bind fun bt591 => (if 0 ≤ bt591.1 then (if bt591.1 < (y588.length : Int) then (if 0 ≤ (rd y588 bt591.1) then (if (rd y588 bt591.1) < (y585.length : Int) then (some (t578, t581, rd y585 (rd y588 bt591.1))) else (none)) else (none)) else (none)) else (none)))))) = some (r1, r2, r3) := H
    have A7 := Aside0.mk A70
    clear A70
    replace H := Option.bind_eq_some_iff.mp H
    obtain ⟨⟨t583, t584⟩, A80, H⟩ := H
    replace H : ((some (([t583, 20, (-1), 21] : List Int) : List Int)).bind fun y585 => ((some (([0, 0, 0, 1, 1, 2, 3] : List Int) : List Int)).bind fun y588 => ((spec_l20Rd_pick.f k t567 t584 7).bind fun bt591 => (if 0 ≤ bt591.1 then (if bt591.1 < (y588.length : Int) then (if 0 ≤ (rd y588 bt591.1) then (if (rd y588 bt591.1) < (y585.length : Int) then (some (t578, t581, rd y585 (rd y588 bt591.1))) else (none)) else (none)) else (none)) else (none))))) = some (r1, r2, r3) := H
    have A8 := Aside0.mk A80
    clear A80
    obtain ⟨y585, hy585⟩ : ∃ y_ : List Int, y_ = (([t583, 20, (-1), 21] : List Int)) := ⟨_, rfl⟩
    replace H : ((some (([0, 0, 0, 1, 1, 2, 3] : List Int) : List Int)).bind fun y588 => ((spec_l20Rd_pick.f k t567 t584 7).bind fun bt591 => (if 0 ≤ bt591.1 then (if bt591.1 < (y588.length : Int) then (if 0 ≤ (rd y588 bt591.1) then (if (rd y588 bt591.1) < (y585.length : Int) then (some (t578, t581, rd y585 (rd y588 bt591.1))) else (none)) else (none)) else (none)) else (none)))) = some (r1, r2, r3) := by first | (rw [hy585]; with_reducible exact H) | (have H2_ := (Option.bind_some _ _).symm.trans H; rw [hy585]; with_reducible exact H2_) | (have H2_ := (Option.bind_some _ _).symm.trans H; with_reducible exact H2_) | with_reducible exact H | (rw [hy585]; exact H) | exact H
    have Ny585 := Aside0.mk hy585
    clear hy585
    obtain ⟨y588, hy588⟩ : ∃ y_ : List Int, y_ = (([0, 0, 0, 1, 1, 2, 3] : List Int)) := ⟨_, rfl⟩
    replace H : ((spec_l20Rd_pick.f k t567 t584 7).bind fun bt591 => (if 0 ≤ bt591.1 then (if bt591.1 < (y588.length : Int) then (if 0 ≤ (rd y588 bt591.1) then (if (rd y588 bt591.1) < (y585.length : Int) then (some (t578, t581, rd y585 (rd y588 bt591.1))) else (none)) else (none)) else (none)) else (none))) = some (r1, r2, r3) := by first | (rw [hy588]; with_reducible exact H) | (have H2_ := (Option.bind_some _ _).symm.trans H; rw [hy588]; with_reducible exact H2_) | (have H2_ := (Option.bind_some _ _).symm.trans H; with_reducible exact H2_) | with_reducible exact H | (rw [hy588]; exact H) | exact H
    have Ny588 := Aside0.mk hy588
    clear hy588
    replace H := Option.bind_eq_some_iff.mp H
    obtain ⟨⟨t591, t592⟩, A90, H⟩ := H
    replace H : (if 0 ≤ t591 then (if t591 < (y588.length : Int) then (if 0 ≤ (rd y588 t591) then (if (rd y588 t591) < (y585.length : Int) then (some (t578, t581, rd y585 (rd y588 t591))) else (none)) else (none)) else (none)) else (none)) = some (r1, r2, r3) := H
    have A9 := Aside0.mk A90
    clear A90
    by_cases c10 : 0 ≤ t591
    · rw [if_pos c10] at H
      have c10b0 : decide (0 ≤ t591) = true := decide_eq_true c10
      clear c10
      by_cases c11 : t591 < (y588.length : Int)
      · rw [if_pos c11] at H
        have c11b0 : decide (t591 < (y588.length : Int)) = true := decide_eq_true c11
        clear c11
        by_cases c12 : 0 ≤ (rd y588 t591)
        · rw [if_pos c12] at H
          have c12b0 : decide (0 ≤ (rd y588 t591)) = true := decide_eq_true c12
          clear c12
          by_cases c13 : (rd y588 t591) < (y585.length : Int)
          · rw [if_pos c13] at H
            have c13b0 : decide ((rd y588 t591) < (y585.length : Int)) = true := decide_eq_true c13
            clear c13
            simp only [Option.some.injEq, Prod.mk.injEq] at H
            obtain ⟨rfl, rfl, rfl⟩ := H
            go_enter Try.func17, Try.ntmps17
            try go_wp2_with (first | ((with_reducible refine gate_callee (f := 44) rfl ?_); refine goesL_ (some 9) rfl rfl Try.func44 (by kernel_rfl) rfl #[.slice A0 l0.length c0] rfl (by (try simp only [List.map_toArray, List.map_cons, List.map_nil]); first | done | rfl | (simp only [List.length_drop, List.length_take]; rfl)) ?_; (with_reducible refine (spec_l20Open.calls _ _ l0 t567 t568 w _ ?side1 ?side2 ?side3 A2.out).mono ?_); (case side1 => repeat (first | (with_reducible first | exact HB.out | apply below_alloc | apply pw_below_drewN | apply below_drew1) | exact HB.out)); (case side2 => exact HR0.out); (case side3 => exact HC0.out); rintro e w14 ⟨g569, rfl, hi, hb, hb2⟩; refine ⟨_, rfl, ?_⟩; have n0_ := Aside0.mk (hb); have n1_ := Aside0.mk (hi); clear HB; have HB := n0_; have HI569 := n1_; clear n0_ n1_; (try clear hb); (try clear hb2); (try clear hk); (try clear hi)) | ((with_reducible refine gate_callee (f := 45) rfl ?_); refine goesL_ (some 11) rfl rfl Try.func45 (by kernel_rfl) rfl #[.pointer (some ⟨g569, 0, none⟩), .int .i64 0] rfl (by (try simp only [List.map_toArray, List.map_cons, List.map_nil]); first | done | rfl | (simp only [List.length_drop, List.length_take]; rfl)) ?_; (with_reducible refine (spec_l20Size.calls k g569 t567 t568 0 t570 t571 w _ ?side1 ?side2 A3.out).mono ?_); (case side1 => repeat (first | (with_reducible first | exact HI569.out | apply IsS100.alloc | apply IsS100.drewN | apply IsS100.drew | apply IsS100.set_1) | exact HI569.out)); (case side2 => repeat (first | (with_reducible first | exact HB.out | apply below_alloc | apply pw_below_drewN | apply below_drew1 | refine below_set ?_ (IsS100.ge HI569.out)) | exact HB.out)); rintro e w15 ⟨rfl, hi, hb, hk⟩; refine ⟨_, rfl, ?_⟩; have n0_ := Aside0.mk (hb); have n1_ := Aside0.mk (hi); clear HB; clear HI569; have HB := n0_; have HI569 := n1_; clear n0_ n1_; (try clear hb); (try clear hb2); (try clear hk); (try clear hi)) | ((with_reducible refine gate_callee (f := 46) rfl ?_); refine goesL_ (some 14) rfl rfl Try.func46 (by kernel_rfl) rfl #[.pointer (some ⟨g569, 0, none⟩), .int .i64 t570] rfl (by (try simp only [List.map_toArray, List.map_cons, List.map_nil]); first | done | rfl | (simp only [List.length_drop, List.length_take]; rfl)) ?_; (with_reducible refine (spec_l20Solved.calls k g569 t567 t571 t570 t572 t575 w _ ?side1 ?side2 A4.out).mono ?_); (case side1 => repeat (first | (with_reducible first | exact HI569.out | apply IsS100.alloc | apply IsS100.drewN | apply IsS100.drew | apply IsS100.set_1) | exact HI569.out)); (case side2 => repeat (first | (with_reducible first | exact HB.out | apply below_alloc | apply pw_below_drewN | apply below_drew1 | refine below_set ?_ (IsS100.ge HI569.out)) | exact HB.out)); rintro e w16 ⟨v573, rfl, ho0, hi, hb, hk⟩; refine ⟨_, rfl, ?_⟩; have n0_ := Aside0.mk (Kd.R_lower ho0 (below_size (by repeat (first | (with_reducible first | exact HB.out | apply below_alloc | apply pw_below_drewN | apply below_drew1 | refine below_set ?_ (IsS100.ge HI569.out)) | exact HB.out)))); have n1_ := Aside0.mk (hb); have n2_ := Aside0.mk (hi); clear HB; clear HI569; have HO574 := n0_; have HB := n1_; have HI569 := n2_; clear n0_ n1_ n2_; (try clear hb); (try clear hb2); (try clear hk); (try clear hi); (try clear ho0)) | ((with_reducible refine gate_callee (f := 47) rfl ?_); refine goesL_ (some 16) rfl rfl Try.func47 (by kernel_rfl) rfl #[.pointer (some ⟨g569, 0, none⟩), .int .i64 9] rfl (by (try simp only [List.map_toArray, List.map_cons, List.map_nil]); first | done | rfl | (simp only [List.length_drop, List.length_take]; rfl)) ?_; (with_reducible refine (spec_l20Rd_odd.calls k g569 t567 t575 9 true t577 w _ ?side1 ?side2 A5.out).mono ?_); (case side1 => repeat (first | (with_reducible first | exact HI569.out | apply IsS100.alloc | apply IsS100.drewN | apply IsS100.drew | apply IsS100.set_1) | exact HI569.out)); (case side2 => repeat (first | (with_reducible first | exact HB.out | apply below_alloc | apply pw_below_drewN | apply below_drew1 | refine below_set ?_ (IsS100.ge HI569.out)) | exact HB.out)); rintro e w17 ⟨rfl, hi, hb, hk⟩; refine ⟨_, rfl, ?_⟩; have n0_ := Aside0.mk (Kd.R_mono (Kd.R_keep (IsS100.apart (show IsS100 w _ g569 t567 t575 from by repeat (first | (with_reducible first | exact HI569.out | apply IsS100.alloc | apply IsS100.drewN | apply IsS100.drew | apply IsS100.set_1) | exact HI569.out)) (by (with_reducible repeat (first | apply Kd.R_alloc | apply Kd.R_drewN | apply Kd.R_drew)); exact (Kd.R_mono HO574.out (fun _ hk => by first | exact hk | exact hk.2 | exact hk.1 | exact trivial | exact ⟨hk.1, hk.2.1⟩ | exact ⟨hk.1.2, hk.2⟩ | exact ⟨hk.2, hk.1⟩ | exact ⟨hk.1.1, hk.2⟩ | exact ⟨hk.2.1, hk.2.2⟩ | exact ⟨hk.2.2, hk.2.1⟩ | exact ⟨hk.1.2, hk.1.1⟩ | exact ⟨hk.1.2, hk.2⟩ | exact ⟨hk.2, hk.1.2⟩ | exact ⟨hk.2, hk.1.1⟩ | exact hk.1.1 | exact hk.1.2 | exact hk.2.1 | exact hk.2.2))) (by decide)) hk (fun _ h => h.2)) (fun _ h => h.1)); have n1_ := Aside0.mk (hb); have n2_ := Aside0.mk (hi); clear HO574; clear HB; clear HI569; have HO574 := n0_; have HB := n1_; have HI569 := n2_; clear n0_ n1_ n2_; (try clear hb); (try clear hb2); (try clear hk); (try clear hi)) | ((with_reducible refine gate_callee (f := 48) rfl ?_); refine goesL_ (some 19) rfl rfl Try.func48 (by kernel_rfl) rfl #[.pointer (some ⟨g569, 0, none⟩), .int .i64 3] rfl (by (try simp only [List.map_toArray, List.map_cons, List.map_nil]); first | done | rfl | (simp only [List.length_drop, List.length_take]; rfl)) ?_; (with_reducible refine (spec_l20Grid.calls k g569 t567 t577 3 t578 t581 t582 w _ ?side1 ?side2 A7.out).mono ?_); (case side1 => repeat (first | (with_reducible first | exact HI569.out | apply IsS100.alloc | apply IsS100.drewN | apply IsS100.drew | apply IsS100.set_1) | exact HI569.out)); (case side2 => repeat (first | (with_reducible first | exact HB.out | apply below_alloc | apply pw_below_drewN | apply below_drew1 | refine below_set ?_ (IsS100.ge HI569.out)) | exact HB.out)); rintro e w18 ⟨v579, rfl, ho0, hi, hb, hk⟩; refine ⟨_, rfl, ?_⟩; have n0_ := Aside0.mk (Kd.R_mono (Kd.R_told (Kd.R_oldK (IsS100.apart (show IsS100 w _ g569 t567 t577 from by repeat (first | (with_reducible first | exact HI569.out | apply IsS100.alloc | apply IsS100.drewN | apply IsS100.drew | apply IsS100.set_1) | exact HI569.out)) (by (with_reducible repeat (first | apply Kd.R_alloc | apply Kd.R_drewN | apply Kd.R_drew)); exact (Kd.R_mono HO574.out (fun _ hk => by first | exact hk | exact hk.2 | exact hk.1 | exact trivial | exact ⟨hk.1, hk.2.1⟩ | exact ⟨hk.1.2, hk.2⟩ | exact ⟨hk.2, hk.1⟩ | exact ⟨hk.1.1, hk.2⟩ | exact ⟨hk.2.1, hk.2.2⟩ | exact ⟨hk.2.2, hk.2.1⟩ | exact ⟨hk.1.2, hk.1.1⟩ | exact ⟨hk.1.2, hk.2⟩ | exact ⟨hk.2, hk.1.2⟩ | exact ⟨hk.2, hk.1.1⟩ | exact hk.1.1 | exact hk.1.2 | exact hk.2.1 | exact hk.2.2))) (by decide)) hk) (Kd.Q_base ho0)) (fun _ h_ => h_.1)); have n1_ := Aside0.mk (Kd.Q_lower (Kd.Q_new' ho0 (Kd.R_lt (by (with_reducible repeat (first | apply Kd.R_alloc | apply Kd.R_drewN | apply Kd.R_drew)); exact (Kd.R_mono HO574.out (fun _ hk => by first | exact hk | exact hk.2 | exact hk.1 | exact trivial | exact ⟨hk.1, hk.2.1⟩ | exact ⟨hk.1.2, hk.2⟩ | exact ⟨hk.2, hk.1⟩ | exact ⟨hk.1.1, hk.2⟩ | exact ⟨hk.2.1, hk.2.2⟩ | exact ⟨hk.2.2, hk.2.1⟩ | exact ⟨hk.1.2, hk.1.1⟩ | exact ⟨hk.1.2, hk.2⟩ | exact ⟨hk.2, hk.1.2⟩ | exact ⟨hk.2, hk.1.1⟩ | exact hk.1.1 | exact hk.1.2 | exact hk.2.1 | exact hk.2.2))))) (below_size (by repeat (first | (with_reducible first | exact HB.out | apply below_alloc | apply pw_below_drewN | apply below_drew1 | refine below_set ?_ (IsS100.ge HI569.out)) | exact HB.out)))); have n2_ := Aside0.mk (hb); have n3_ := Aside0.mk (hi); clear HO574; clear HB; clear HI569; have HO574 := n0_; have HO580 := n1_; have HB := n2_; have HI569 := n3_; clear n0_ n1_ n2_ n3_; (try clear hb); (try clear hb2); (try clear hk); (try clear hi); (try clear ho0)))
            have pi593 : (0 ≤ (t591 : Int)) = True := eq_true (of_decide_eq_true (by first | (with_reducible assumption) | assumption))
            have qi593 : (t591 < (y588.length : Int)) = True := eq_true (of_decide_eq_true (by first | (with_reducible assumption) | assumption))
            have pi594 : (0 ≤ ((rd y588 t591) : Int)) = True := eq_true (of_decide_eq_true (by first | (with_reducible assumption) | assumption))
            have qi594 : ((rd y588 t591) < (y585.length : Int)) = True := eq_true (of_decide_eq_true (by first | (with_reducible assumption) | assumption))
            have n0_ := Aside0.mk (Kd.R_drew HO574.out)
            have n1_ := Aside0.mk (Kd.Q_drew HO580.out)
            have n2_ := Aside0.mk (IsS100.drew HI569.out)
            have n3_ := Aside0.mk (below_drew1 HB.out)
            clear HO574
            clear HO580
            clear HI569
            clear HB
            have HO574 := n0_
            have HO580 := n1_
            have HI569 := n2_
            have HB := n3_
            clear n0_ n1_ n2_ n3_
            refine start_ (n := 15) (S := fun w' => True) (ds := []) #[false, false, false, false, false, false, false, false, false, false, false, false, false, false, false] (by kernel_rfl) rfl rfl trivial (fun hHeld => ?_); refine with_tabW spec_DrawLessRules.tab6 spec_DrawLessRules.bits6 (fun HT_ HW_ => ?_)
            generalize w18.drew = w19 at HO574 HO580 HI569 HB hHeld ⊢
            refine pure_ (i := 0) (N := some 22) (v := ?_) (a' := ?_) #[true, false, false, false, false, false, false, false, false, false, false, false, false, false, false] rfl rfl (any_of HT_.out (by kernel_rfl)) (fun _ _ _ h => h) (Or.inl ⟨by rfl, ?_⟩) ?_ ?_
            rotate_left
            · intro w'
              go_simp
              with_reducible rfl
            rotate_left
            · simp only [Act.put, List.setIfInBounds_toArray, List.set_cons_zero, List.set_cons_succ, i64_w, i32_w]
              rfl
            refine pure_ (i := 1) (N := some 23) (v := ?_) (a' := ?_) #[true, true, false, false, false, false, false, false, false, false, false, false, false, false, false] rfl rfl (any_of HT_.out (by kernel_rfl)) (fun _ _ _ h => h) (Or.inl ⟨by rfl, ?_⟩) ?_ ?_
            rotate_left
            · intro w'
              go_simp
              with_reducible rfl
            rotate_left
            · simp only [Act.put, List.setIfInBounds_toArray, List.set_cons_zero, List.set_cons_succ, i64_w, i32_w]
              rfl
            refine pure_ (i := 2) (N := some 24) (v := ?_) (a' := ?_) #[true, true, true, false, false, false, false, false, false, false, false, false, false, false, false] rfl rfl (any_of HT_.out (by kernel_rfl)) (fun _ _ _ h => h) (Or.inl ⟨by rfl, ?_⟩) ?_ ?_
            rotate_left
            · intro w'
              go_simp
              with_reducible rfl
            rotate_left
            · simp only [Act.put, List.setIfInBounds_toArray, List.set_cons_zero, List.set_cons_succ, i64_w, i32_w]
              rfl
            refine pure_ (i := 6) (N := some 28) (v := ?_) (a' := ?_) #[true, true, true, false, false, false, true, false, false, false, false, false, false, false, false] rfl rfl (any_of HT_.out (by kernel_rfl)) (fun _ _ _ h => h) (Or.inl ⟨by rfl, ?_⟩) ?_ ?_
            rotate_left
            · intro w'
              go_simp
              with_reducible rfl
            rotate_left
            · simp only [Act.put, List.setIfInBounds_toArray, List.set_cons_zero, List.set_cons_succ, i64_w, i32_w]
              rfl
            refine inv_at [3, 4, 5, 7, 8, 9, 10, 11, 12, 13, 14] (fun a0_ b a w' => ∃ (v586 : Value) (adz_v586 : Addr) (v589 : Value) (adz_v589 : Addr) (m8_ : Value) (m10_ : Value), a = putSel a0_ b [(3, 25, .int .i64 t583), (4, 26, v586), (5, 27, v589), (7, 29, .int .i64 t591), (8, 30, m8_), (9, 31, .int .i64 (rd y588 t591)), (10, 32, m10_), (11, 33, .int .i64 (rd y585 (rd y588 t591))), (12, 2, v579), (13, 3, .int .i64 t581), (14, 4, .int .i64 (rd y585 (rd y588 t591)))] ∧ (Kd.R (Kd.int .i64) 3 w' w.heap.size (fun k_ => some k_ ≠ (v579 : Value).ownBlock) v573 t572) ∧ (Kd.Q (Kd.int .i64) 3 w' w.heap.size (fun k_ => some k_ ≠ (v573 : Value).ownBlock) v579 t578) ∧ (b 3 = false → IsS100 w w' g569 t567 t582) ∧ (Below w.heap.size w w') ∧ (b 3 = true → b 7 = false → IsS100 w w' g569 t567 t584) ∧ (b 4 = true → Kd.R (Kd.int .i64) 3 w' w.heap.size (fun k_ => some k_ ≠ (v573 : Value).ownBlock ∧ some k_ ≠ (v579 : Value).ownBlock) v586 y585) ∧ (b 4 = true → ∃ c_, (v586 : Value) = .slice (some adz_v586) y585.length c_) ∧ (b 5 = true → Kd.R (Kd.int .i64) 3 w' w.heap.size (fun k_ => some k_ ≠ (v573 : Value).ownBlock ∧ some k_ ≠ (v579 : Value).ownBlock) v589 y588) ∧ (b 5 = true → ∃ c_, (v589 : Value) = .slice (some adz_v589) y588.length c_) ∧ (b 7 = true → IsS100 w w' g569 t567 t592) ∧ (b 8 = true → (m8_ : Value) = .pointer (some (adz_v589.add (t591).toNat))) ∧ (b 10 = true → (m10_ : Value) = .pointer (some (adz_v586.add ((rd y588 t591)).toNat)))) HT_.out HW_.out (by kernel_rfl) (by kernel_rfl) ?_ ?_ ?_
            · exact ⟨.bool false, ⟨0, 0, none⟩, .bool false, ⟨0, 0, none⟩, .bool false, .bool false, by simp only [putSel, Bool.false_eq_true, if_false], (Kd.R_mono HO574.out (fun _ hk => by first | exact hk | exact hk.2 | exact hk.1 | exact trivial | exact ⟨hk.1, hk.2.1⟩ | exact ⟨hk.1.2, hk.2⟩ | exact ⟨hk.2, hk.1⟩ | exact ⟨hk.1.1, hk.2⟩ | exact ⟨hk.2.1, hk.2.2⟩ | exact ⟨hk.2.2, hk.2.1⟩ | exact ⟨hk.1.2, hk.1.1⟩ | exact ⟨hk.1.2, hk.2⟩ | exact ⟨hk.2, hk.1.2⟩ | exact ⟨hk.2, hk.1.1⟩ | exact hk.1.1 | exact hk.1.2 | exact hk.2.1 | exact hk.2.2)), (Kd.Q_mono HO580.out (fun _ hk => by first | exact hk | exact hk.2 | exact hk.1 | exact trivial | exact ⟨hk.1, hk.2.1⟩ | exact ⟨hk.1.2, hk.2⟩ | exact ⟨hk.2, hk.1⟩ | exact ⟨hk.1.1, hk.2⟩ | exact ⟨hk.2.1, hk.2.2⟩ | exact ⟨hk.2.2, hk.2.1⟩ | exact ⟨hk.1.2, hk.1.1⟩ | exact ⟨hk.1.2, hk.2⟩ | exact ⟨hk.2, hk.1.2⟩ | exact ⟨hk.2, hk.1.1⟩ | exact hk.1.1 | exact hk.1.2 | exact hk.2.1 | exact hk.2.2)), fun _ => HI569.out, HB.out, fun h_ => absurd h_ (by decide), fun h_ => absurd h_ (by decide), fun h_ => absurd h_ (by decide), fun h_ => absurd h_ (by decide), fun h_ => absurd h_ (by decide), fun h_ => absurd h_ (by decide), fun h_ => absurd h_ (by decide), fun h_ => absurd h_ (by decide)⟩
            · skip
              clear HB HI569 HO574 HO580
              refine steps_cons ?_ ?_
              · rintro b a w' ⟨v586, adz_v586, v589, adz_v589, m8_, m10_, ha, Q_HO574, Q_HO580, Q_HI569, Q_HB, Q_HI569_e3, Q_HO587, Q_HA_HO587, Q_HO590, Q_HA_HO590, Q_HI569_e7, Q_X8_, Q_X10_⟩ hb_ hon hoff
                refine ⟨_, rfl, fun K hK => ?_⟩
                have e24 : a.tmps[24]? = some (.pointer (some ⟨g569, 0, none⟩)) := by rw [ha]; exact (putSel_off rfl).trans rfl
                replace ha := Aside0.mk ha
                have HO574 := Aside0.mk Q_HO574
                have HO580 := Aside0.mk Q_HO580
                have HI569 := Aside0.mk (Q_HI569 hb_)
                have HB := Aside0.mk Q_HB
                refine goes_ Try.func49 (by kernel_rfl) rfl #[.pointer (some ⟨g569, 0, none⟩), .int .i64 10] (by rfl) rfl rfl (by first | (simp only [List.map_toArray, List.map_cons, List.map_nil, Act.eval, Array.getD_eq_getD_getElem?, Option.getD_some, e24]; done) | (simp only [List.map_toArray, List.map_cons, List.map_nil, Act.eval, Array.getD_eq_getD_getElem?, Option.getD_some, e24]; rfl)) ?_
                with_reducible refine (spec_l20Rd_pick.calls k g569 t567 t582 10 t583 t584 w _ ?side1 ?side2 A8.out).mono ?_
                (case side1 => repeat (first | (with_reducible first | exact HI569.out | apply IsS100.alloc | apply IsS100.drewN | apply IsS100.drew | apply IsS100.set_1) | exact HI569.out))
                (case side2 => repeat (first | (with_reducible first | exact HB.out | apply below_alloc | apply pw_below_drewN | apply below_drew1 | refine below_set ?_ (IsS100.ge HI569.out)) | exact HB.out))
                rintro e w20 ⟨rfl, hi, hb, hk⟩
                refine ⟨_, rfl, ?_⟩
                have n0_ := Aside0.mk (Kd.R_mono (Kd.R_keep (IsS100.apart (show IsS100 w _ g569 t567 t582 from by repeat (first | (with_reducible first | exact HI569.out | apply IsS100.alloc | apply IsS100.drewN | apply IsS100.drew | apply IsS100.set_1) | exact HI569.out)) (by (with_reducible repeat (first | apply Kd.R_alloc | apply Kd.R_drewN | apply Kd.R_drew)); exact (Kd.R_mono HO574.out (fun _ hk => by first | exact hk | exact hk.2 | exact hk.1 | exact trivial | exact ⟨hk.1, hk.2.1⟩ | exact ⟨hk.1.2, hk.2⟩ | exact ⟨hk.2, hk.1⟩ | exact ⟨hk.1.1, hk.2⟩ | exact ⟨hk.2.1, hk.2.2⟩ | exact ⟨hk.2.2, hk.2.1⟩ | exact ⟨hk.1.2, hk.1.1⟩ | exact ⟨hk.1.2, hk.2⟩ | exact ⟨hk.2, hk.1.2⟩ | exact ⟨hk.2, hk.1.1⟩ | exact hk.1.1 | exact hk.1.2 | exact hk.2.1 | exact hk.2.2))) (by decide)) hk (fun _ h => h.2)) (fun _ h => h.1))
                have n1_ := Aside0.mk (Kd.Q_mono (Kd.Q_keep (IsS100.apartQ (show IsS100 w _ g569 t567 t582 from by repeat (first | (with_reducible first | exact HI569.out | apply IsS100.alloc | apply IsS100.drewN | apply IsS100.drew | apply IsS100.set_1) | exact HI569.out)) (by (with_reducible repeat (first | apply Kd.Q_alloc | apply Kd.Q_drewN | apply Kd.Q_drew)); exact (Kd.Q_mono HO580.out (fun _ hk => by first | exact hk | exact hk.2 | exact hk.1 | exact trivial | exact ⟨hk.1, hk.2.1⟩ | exact ⟨hk.1.2, hk.2⟩ | exact ⟨hk.2, hk.1⟩ | exact ⟨hk.1.1, hk.2⟩ | exact ⟨hk.2.1, hk.2.2⟩ | exact ⟨hk.2.2, hk.2.1⟩ | exact ⟨hk.1.2, hk.1.1⟩ | exact ⟨hk.1.2, hk.2⟩ | exact ⟨hk.2, hk.1.2⟩ | exact ⟨hk.2, hk.1.1⟩ | exact hk.1.1 | exact hk.1.2 | exact hk.2.1 | exact hk.2.2))) (by decide)) hk (fun _ h => h.2)) (fun _ h => h.1))
                have n2_ := Aside0.mk (hb)
                have n3_ := Aside0.mk (hi)
                have z_HO590 := fun (h0_ : b 5 = true) => (show Kd.R (Kd.int .i64) 3 w20 w.heap.size (fun k_ => some k_ ≠ (v573 : Value).ownBlock ∧ some k_ ≠ (v579 : Value).ownBlock) v589 y588 from by first | exact (Kd.R_mono (Kd.R_keep (IsS100.apart (show IsS100 w _ g569 t567 t582 from by repeat (first | (with_reducible first | exact HI569.out | apply IsS100.alloc | apply IsS100.drewN | apply IsS100.drew | apply IsS100.set_1) | exact HI569.out)) (by (with_reducible repeat (first | apply Kd.R_alloc | apply Kd.R_drewN | apply Kd.R_drew)); exact (Q_HO590 h0_)) (by decide)) hk (fun _ h => h.2)) (fun _ h => h.1)) | exact Kd.R_mono (Kd.R_mono (Kd.R_keep (IsS100.apart (show IsS100 w _ g569 t567 t582 from by repeat (first | (with_reducible first | exact HI569.out | apply IsS100.alloc | apply IsS100.drewN | apply IsS100.drew | apply IsS100.set_1) | exact HI569.out)) (by (with_reducible repeat (first | apply Kd.R_alloc | apply Kd.R_drewN | apply Kd.R_drew)); exact (Q_HO590 h0_)) (by decide)) hk (fun _ h => h.2)) (fun _ h => h.1)) (fun _ h_ => by first | trivial | exact h_ | exact h_.1))
                clear HO574
                clear HO580
                clear HB
                clear HI569
                have HO574 := n0_
                have HO580 := n1_
                have HB := n2_
                have HI569 := n3_
                clear n0_ n1_ n2_ n3_
                (try clear hb)
                (try clear hb2)
                (try clear hk)
                (try clear hi)
                refine hK.out _ _ ⟨v586, adz_v586, v589, adz_v589, m8_, m10_, (by rw [ha.out]; exact putSel_upk 0 hb_ rfl rfl rfl), (by (with_reducible repeat (first | apply Kd.R_alloc | apply Kd.R_drewN | apply Kd.R_drew)); exact (Kd.R_mono HO574.out (fun _ hk => by first | exact hk | exact hk.2 | exact hk.1 | exact trivial | exact ⟨hk.1, hk.2.1⟩ | exact ⟨hk.1.2, hk.2⟩ | exact ⟨hk.2, hk.1⟩ | exact ⟨hk.1.1, hk.2⟩ | exact ⟨hk.2.1, hk.2.2⟩ | exact ⟨hk.2.2, hk.2.1⟩ | exact ⟨hk.1.2, hk.1.1⟩ | exact ⟨hk.1.2, hk.2⟩ | exact ⟨hk.2, hk.1.2⟩ | exact ⟨hk.2, hk.1.1⟩ | exact hk.1.1 | exact hk.1.2 | exact hk.2.1 | exact hk.2.2))), (by (with_reducible repeat (first | apply Kd.Q_alloc | apply Kd.Q_drewN | apply Kd.Q_drew)); exact (Kd.Q_mono HO580.out (fun _ hk => by first | exact hk | exact hk.2 | exact hk.1 | exact trivial | exact ⟨hk.1, hk.2.1⟩ | exact ⟨hk.1.2, hk.2⟩ | exact ⟨hk.2, hk.1⟩ | exact ⟨hk.1.1, hk.2⟩ | exact ⟨hk.2.1, hk.2.2⟩ | exact ⟨hk.2.2, hk.2.1⟩ | exact ⟨hk.1.2, hk.1.1⟩ | exact ⟨hk.1.2, hk.2⟩ | exact ⟨hk.2, hk.1.2⟩ | exact ⟨hk.2, hk.1.1⟩ | exact hk.1.1 | exact hk.1.2 | exact hk.2.1 | exact hk.2.2))), fun h0_ => absurd ((up_self b 3).symm.trans h0_) (by decide), (by repeat (first | (with_reducible first | exact HB.out | apply below_alloc | apply pw_below_drewN | apply below_drew1 | refine below_set ?_ (IsS100.ge HI569.out)) | exact HB.out)), fun _ _ => (by repeat (first | (with_reducible first | exact HI569.out | apply IsS100.alloc | apply IsS100.drewN | apply IsS100.drew | apply IsS100.set_1) | exact HI569.out)), fun h0_ => absurd ((hoff 4 (by kernel_rfl)).symm.trans h0_) (by decide), fun h0_ => absurd ((hoff 4 (by kernel_rfl)).symm.trans h0_) (by decide), z_HO590, Q_HA_HO590, fun h0_ => absurd ((hoff 7 (by kernel_rfl)).symm.trans h0_) (by decide), fun h0_ => absurd ((hoff 8 (by kernel_rfl)).symm.trans h0_) (by decide), fun h0_ => absurd ((hoff 10 (by kernel_rfl)).symm.trans h0_) (by decide)⟩
              refine steps_cons ?_ ?_
              · rintro b a w' ⟨v586, adz_v586, v589, adz_v589, m8_, m10_, ha, Q_HO574, Q_HO580, Q_HI569, Q_HB, Q_HI569_e3, Q_HO587, Q_HA_HO587, Q_HO590, Q_HA_HO590, Q_HI569_e7, Q_X8_, Q_X10_⟩ hb_ hon hoff
                refine ⟨_, rfl, fun K hK => ?_⟩
                have e25 : a.tmps[25]? = some (.int .i64 t583) := by rw [ha]; exact putSel_on (e := (3, 25, .int .i64 t583)) 0 rfl rfl (hon 3 (by kernel_rfl)) rfl
                replace ha := Aside0.mk ha
                have HO574 := Aside0.mk Q_HO574
                have HO580 := Aside0.mk Q_HO580
                have HB := Aside0.mk Q_HB
                refine Kd.R_lit_step (Kd.int .i64) _ 3 ?hg (N := 26) ?hd (xs := ([t583, 20, (-1), 21] : List Int)) (inner := [.int .i64 t583, .int .i64 20, .int .i64 (-1), .int .i64 21]) (ok := fun _ => True) (okp := fun _ => True) ?hr ?hp (fun _ hk => hk) trivial (Below.refl _ _) (Nat.le_refl _) (by simp) ?_; (case hd => rfl); (case hg => rfl); (case hr => first | (go_simp; done) | (go_simp; rfl)); (case hp => exact (Reps.one (show Kd.M (Kd.int .i64) _ _ _ t583 [.int .i64 t583] from rfl) (Reps.one (show Kd.M (Kd.int .i64) _ _ _ 20 [.int .i64 20] from rfl) (Reps.one (show Kd.M (Kd.int .i64) _ _ _ (-1) [.int .i64 (-1)] from rfl) (Reps.one (show Kd.M (Kd.int .i64) _ _ _ 21 [.int .i64 21] from rfl) (Reps.none _ _))))))
                intro v586 w22 ho23 hb hg_ hnew_
                clear hg_ hnew_
                (first | rw [← Ny585.out] at ho23 | (simp only [Int.reduceToNat] at ho23; rw [← Ny585.out] at ho23))
                have n0_ := Aside0.mk (Kd.R_elder' (by (with_reducible repeat (first | apply Kd.R_alloc | apply Kd.R_drewN | apply Kd.R_drew)); exact (Kd.R_mono HO574.out (fun _ hk => by first | exact hk | exact hk.2 | exact hk.1 | exact trivial | exact ⟨hk.1, hk.2.1⟩ | exact ⟨hk.1.2, hk.2⟩ | exact ⟨hk.2, hk.1⟩ | exact ⟨hk.1.1, hk.2⟩ | exact ⟨hk.2.1, hk.2.2⟩ | exact ⟨hk.2.2, hk.2.1⟩ | exact ⟨hk.1.2, hk.1.1⟩ | exact ⟨hk.1.2, hk.2⟩ | exact ⟨hk.2, hk.1.2⟩ | exact ⟨hk.2, hk.1.1⟩ | exact hk.1.1 | exact hk.1.2 | exact hk.2.1 | exact hk.2.2))) (Kd.R_base ho23) hb)
                have n1_ := Aside0.mk (Kd.Q_elder' (by (with_reducible repeat (first | apply Kd.Q_alloc | apply Kd.Q_drewN | apply Kd.Q_drew)); exact (Kd.Q_mono HO580.out (fun _ hk => by first | exact hk | exact hk.2 | exact hk.1 | exact trivial | exact ⟨hk.1, hk.2.1⟩ | exact ⟨hk.1.2, hk.2⟩ | exact ⟨hk.2, hk.1⟩ | exact ⟨hk.1.1, hk.2⟩ | exact ⟨hk.2.1, hk.2.2⟩ | exact ⟨hk.2.2, hk.2.1⟩ | exact ⟨hk.1.2, hk.1.1⟩ | exact ⟨hk.1.2, hk.2⟩ | exact ⟨hk.2, hk.1.2⟩ | exact ⟨hk.2, hk.1.1⟩ | exact hk.1.1 | exact hk.1.2 | exact hk.2.1 | exact hk.2.2))) (Kd.R_base ho23) hb)
                have n2_ := Aside0.mk (Kd.R_lower (Kd.R_new' (Kd.R_new' ho23 (Kd.R_lt (by (with_reducible repeat (first | apply Kd.R_alloc | apply Kd.R_drewN | apply Kd.R_drew)); exact (Kd.R_mono HO574.out (fun _ hk => by first | exact hk | exact hk.2 | exact hk.1 | exact trivial | exact ⟨hk.1, hk.2.1⟩ | exact ⟨hk.1.2, hk.2⟩ | exact ⟨hk.2, hk.1⟩ | exact ⟨hk.1.1, hk.2⟩ | exact ⟨hk.2.1, hk.2.2⟩ | exact ⟨hk.2.2, hk.2.1⟩ | exact ⟨hk.1.2, hk.1.1⟩ | exact ⟨hk.1.2, hk.2⟩ | exact ⟨hk.2, hk.1.2⟩ | exact ⟨hk.2, hk.1.1⟩ | exact hk.1.1 | exact hk.1.2 | exact hk.2.1 | exact hk.2.2))))) (Kd.Q_lt (by (with_reducible repeat (first | apply Kd.Q_alloc | apply Kd.Q_drewN | apply Kd.Q_drew)); exact (Kd.Q_mono HO580.out (fun _ hk => by first | exact hk | exact hk.2 | exact hk.1 | exact trivial | exact ⟨hk.1, hk.2.1⟩ | exact ⟨hk.1.2, hk.2⟩ | exact ⟨hk.2, hk.1⟩ | exact ⟨hk.1.1, hk.2⟩ | exact ⟨hk.2.1, hk.2.2⟩ | exact ⟨hk.2.2, hk.2.1⟩ | exact ⟨hk.1.2, hk.1.1⟩ | exact ⟨hk.1.2, hk.2⟩ | exact ⟨hk.2, hk.1.2⟩ | exact ⟨hk.2, hk.1.1⟩ | exact hk.1.1 | exact hk.1.2 | exact hk.2.1 | exact hk.2.2))))) (below_size (by repeat (first | (with_reducible first | exact HB.out | apply below_alloc | apply pw_below_drewN | apply below_drew1) | exact HB.out))))
                have n4_ := Aside0.mk (below_step (by repeat (first | (with_reducible first | exact HB.out | apply below_alloc | apply pw_below_drewN | apply below_drew1) | exact HB.out)) hb)
                have z_HI569_e3 := fun (h0_ : b 3 = true) (h1_ : b 7 = false) => (show IsS100 w w22 g569 t567 t584 from by first | exact (IsS100.below (by repeat (first | (with_reducible first | exact (Q_HI569_e3 h0_ h1_) | apply IsS100.alloc | apply IsS100.drewN | apply IsS100.drew | apply IsS100.set_1) | exact (Q_HI569_e3 h0_ h1_))) hb))
                have z_HO590 := fun (h0_ : b 5 = true) => (show Kd.R (Kd.int .i64) 3 w22 w.heap.size (fun k_ => some k_ ≠ (v573 : Value).ownBlock ∧ some k_ ≠ (v579 : Value).ownBlock) v589 y588 from by first | exact (Kd.R_elder' (by (with_reducible repeat (first | apply Kd.R_alloc | apply Kd.R_drewN | apply Kd.R_drew)); exact (Q_HO590 h0_)) (Kd.R_base ho23) hb) | exact Kd.R_mono (Kd.R_elder' (by (with_reducible repeat (first | apply Kd.R_alloc | apply Kd.R_drewN | apply Kd.R_drew)); exact (Q_HO590 h0_)) (Kd.R_base ho23) hb) (fun _ h_ => by first | trivial | exact h_ | exact h_.1))
                have z_HI569_e7 := fun (h0_ : b 7 = true) => (show IsS100 w w22 g569 t567 t592 from by first | exact (IsS100.below (by repeat (first | (with_reducible first | exact (Q_HI569_e7 h0_) | apply IsS100.alloc | apply IsS100.drewN | apply IsS100.drew | apply IsS100.set_1) | exact (Q_HI569_e7 h0_))) hb))
                clear HO574
                clear HO580
                clear HB
                have HO574 := n0_
                have HO580 := n1_
                have HO587 := n2_
                have HB := n4_
                clear n0_ n1_ n2_ n4_
                clear hb ho23
                obtain ⟨Ao24, co24, eo24⟩ := Kd.R_slice HO587.out
                subst eo24
                obtain ⟨ado24, fo24, _⟩ := Kd.at_int (Kd.R_reads' HO587.out).2.2 0 (by decide) (by rw [Ny585.out]; simp)
                cases fo24
                refine hK.out _ _ ⟨.slice (some ado24) y585.length co24, ado24, v589, adz_v589, m8_, m10_, (by rw [ha.out]; exact putSel_upk 1 hb_ rfl rfl rfl), (by (with_reducible repeat (first | apply Kd.R_alloc | apply Kd.R_drewN | apply Kd.R_drew)); exact (Kd.R_mono HO574.out (fun _ hk => by first | exact hk | exact hk.2 | exact hk.1 | exact trivial | exact ⟨hk.1, hk.2.1⟩ | exact ⟨hk.1.2, hk.2⟩ | exact ⟨hk.2, hk.1⟩ | exact ⟨hk.1.1, hk.2⟩ | exact ⟨hk.2.1, hk.2.2⟩ | exact ⟨hk.2.2, hk.2.1⟩ | exact ⟨hk.1.2, hk.1.1⟩ | exact ⟨hk.1.2, hk.2⟩ | exact ⟨hk.2, hk.1.2⟩ | exact ⟨hk.2, hk.1.1⟩ | exact hk.1.1 | exact hk.1.2 | exact hk.2.1 | exact hk.2.2))), (by (with_reducible repeat (first | apply Kd.Q_alloc | apply Kd.Q_drewN | apply Kd.Q_drew)); exact (Kd.Q_mono HO580.out (fun _ hk => by first | exact hk | exact hk.2 | exact hk.1 | exact trivial | exact ⟨hk.1, hk.2.1⟩ | exact ⟨hk.1.2, hk.2⟩ | exact ⟨hk.2, hk.1⟩ | exact ⟨hk.1.1, hk.2⟩ | exact ⟨hk.2.1, hk.2.2⟩ | exact ⟨hk.2.2, hk.2.1⟩ | exact ⟨hk.1.2, hk.1.1⟩ | exact ⟨hk.1.2, hk.2⟩ | exact ⟨hk.2, hk.1.2⟩ | exact ⟨hk.2, hk.1.1⟩ | exact hk.1.1 | exact hk.1.2 | exact hk.2.1 | exact hk.2.2))), fun h0_ => absurd ((hon 3 (by kernel_rfl)).symm.trans h0_) (by decide), (by repeat (first | (with_reducible first | exact HB.out | apply below_alloc | apply pw_below_drewN | apply below_drew1) | exact HB.out)), z_HI569_e3, fun _ => (by (with_reducible repeat (first | apply Kd.R_alloc | apply Kd.R_drewN | apply Kd.R_drew)); exact (Kd.R_mono HO587.out (fun _ hk => by first | exact hk | exact hk.2 | exact hk.1 | exact trivial | exact ⟨hk.1, hk.2.1⟩ | exact ⟨hk.1.2, hk.2⟩ | exact ⟨hk.2, hk.1⟩ | exact ⟨hk.1.1, hk.2⟩ | exact ⟨hk.2.1, hk.2.2⟩ | exact ⟨hk.2.2, hk.2.1⟩ | exact ⟨hk.1.2, hk.1.1⟩ | exact ⟨hk.1.2, hk.2⟩ | exact ⟨hk.2, hk.1.2⟩ | exact ⟨hk.2, hk.1.1⟩ | exact hk.1.1 | exact hk.1.2 | exact hk.2.1 | exact hk.2.2))), fun _ => ⟨_, rfl⟩, z_HO590, Q_HA_HO590, z_HI569_e7, Q_X8_, fun h0_ => absurd ((hoff 10 (by kernel_rfl)).symm.trans h0_) (by decide)⟩
              refine steps_cons ?_ ?_
              · rintro b a w' ⟨v586, adz_v586, v589, adz_v589, m8_, m10_, ha, Q_HO574, Q_HO580, Q_HI569, Q_HB, Q_HI569_e3, Q_HO587, Q_HA_HO587, Q_HO590, Q_HA_HO590, Q_HI569_e7, Q_X8_, Q_X10_⟩ hb_ hon hoff
                refine ⟨_, rfl, fun K hK => ?_⟩
                replace ha := Aside0.mk ha
                have HO574 := Aside0.mk Q_HO574
                have HO580 := Aside0.mk Q_HO580
                have HB := Aside0.mk Q_HB
                refine Kd.R_lit_step (Kd.int .i64) _ 3 ?hg (N := 27) ?hd (xs := ([0, 0, 0, 1, 1, 2, 3] : List Int)) (inner := [.int .i64 0, .int .i64 0, .int .i64 0, .int .i64 1, .int .i64 1, .int .i64 2, .int .i64 3]) (ok := fun _ => True) (okp := fun _ => True) ?hr ?hp (fun _ hk => hk) trivial (Below.refl _ _) (Nat.le_refl _) (by simp) ?_; (case hd => rfl); (case hg => rfl); (case hr => first | (go_simp; done) | (go_simp; rfl)); (case hp => exact (Reps.one (show Kd.M (Kd.int .i64) _ _ _ 0 [.int .i64 0] from rfl) (Reps.one (show Kd.M (Kd.int .i64) _ _ _ 0 [.int .i64 0] from rfl) (Reps.one (show Kd.M (Kd.int .i64) _ _ _ 0 [.int .i64 0] from rfl) (Reps.one (show Kd.M (Kd.int .i64) _ _ _ 1 [.int .i64 1] from rfl) (Reps.one (show Kd.M (Kd.int .i64) _ _ _ 1 [.int .i64 1] from rfl) (Reps.one (show Kd.M (Kd.int .i64) _ _ _ 2 [.int .i64 2] from rfl) (Reps.one (show Kd.M (Kd.int .i64) _ _ _ 3 [.int .i64 3] from rfl) (Reps.none _ _)))))))))
                intro v589 w20 ho21 hb hg_ hnew_
                clear hg_ hnew_
                (first | rw [← Ny588.out] at ho21 | (simp only [Int.reduceToNat] at ho21; rw [← Ny588.out] at ho21))
                have n0_ := Aside0.mk (Kd.R_elder' (by (with_reducible repeat (first | apply Kd.R_alloc | apply Kd.R_drewN | apply Kd.R_drew)); exact (Kd.R_mono HO574.out (fun _ hk => by first | exact hk | exact hk.2 | exact hk.1 | exact trivial | exact ⟨hk.1, hk.2.1⟩ | exact ⟨hk.1.2, hk.2⟩ | exact ⟨hk.2, hk.1⟩ | exact ⟨hk.1.1, hk.2⟩ | exact ⟨hk.2.1, hk.2.2⟩ | exact ⟨hk.2.2, hk.2.1⟩ | exact ⟨hk.1.2, hk.1.1⟩ | exact ⟨hk.1.2, hk.2⟩ | exact ⟨hk.2, hk.1.2⟩ | exact ⟨hk.2, hk.1.1⟩ | exact hk.1.1 | exact hk.1.2 | exact hk.2.1 | exact hk.2.2))) (Kd.R_base ho21) hb)
                have n1_ := Aside0.mk (Kd.Q_elder' (by (with_reducible repeat (first | apply Kd.Q_alloc | apply Kd.Q_drewN | apply Kd.Q_drew)); exact (Kd.Q_mono HO580.out (fun _ hk => by first | exact hk | exact hk.2 | exact hk.1 | exact trivial | exact ⟨hk.1, hk.2.1⟩ | exact ⟨hk.1.2, hk.2⟩ | exact ⟨hk.2, hk.1⟩ | exact ⟨hk.1.1, hk.2⟩ | exact ⟨hk.2.1, hk.2.2⟩ | exact ⟨hk.2.2, hk.2.1⟩ | exact ⟨hk.1.2, hk.1.1⟩ | exact ⟨hk.1.2, hk.2⟩ | exact ⟨hk.2, hk.1.2⟩ | exact ⟨hk.2, hk.1.1⟩ | exact hk.1.1 | exact hk.1.2 | exact hk.2.1 | exact hk.2.2))) (Kd.R_base ho21) hb)
                have n2_ := Aside0.mk (Kd.R_lower (Kd.R_new' (Kd.R_new' ho21 (Kd.R_lt (by (with_reducible repeat (first | apply Kd.R_alloc | apply Kd.R_drewN | apply Kd.R_drew)); exact (Kd.R_mono HO574.out (fun _ hk => by first | exact hk | exact hk.2 | exact hk.1 | exact trivial | exact ⟨hk.1, hk.2.1⟩ | exact ⟨hk.1.2, hk.2⟩ | exact ⟨hk.2, hk.1⟩ | exact ⟨hk.1.1, hk.2⟩ | exact ⟨hk.2.1, hk.2.2⟩ | exact ⟨hk.2.2, hk.2.1⟩ | exact ⟨hk.1.2, hk.1.1⟩ | exact ⟨hk.1.2, hk.2⟩ | exact ⟨hk.2, hk.1.2⟩ | exact ⟨hk.2, hk.1.1⟩ | exact hk.1.1 | exact hk.1.2 | exact hk.2.1 | exact hk.2.2))))) (Kd.Q_lt (by (with_reducible repeat (first | apply Kd.Q_alloc | apply Kd.Q_drewN | apply Kd.Q_drew)); exact (Kd.Q_mono HO580.out (fun _ hk => by first | exact hk | exact hk.2 | exact hk.1 | exact trivial | exact ⟨hk.1, hk.2.1⟩ | exact ⟨hk.1.2, hk.2⟩ | exact ⟨hk.2, hk.1⟩ | exact ⟨hk.1.1, hk.2⟩ | exact ⟨hk.2.1, hk.2.2⟩ | exact ⟨hk.2.2, hk.2.1⟩ | exact ⟨hk.1.2, hk.1.1⟩ | exact ⟨hk.1.2, hk.2⟩ | exact ⟨hk.2, hk.1.2⟩ | exact ⟨hk.2, hk.1.1⟩ | exact hk.1.1 | exact hk.1.2 | exact hk.2.1 | exact hk.2.2))))) (below_size (by repeat (first | (with_reducible first | exact HB.out | apply below_alloc | apply pw_below_drewN | apply below_drew1) | exact HB.out))))
                have n4_ := Aside0.mk (below_step (by repeat (first | (with_reducible first | exact HB.out | apply below_alloc | apply pw_below_drewN | apply below_drew1) | exact HB.out)) hb)
                have z_HI569 := fun (h0_ : b 3 = false) => (show IsS100 w w20 g569 t567 t582 from by first | exact (IsS100.below (by repeat (first | (with_reducible first | exact (Q_HI569 h0_) | apply IsS100.alloc | apply IsS100.drewN | apply IsS100.drew | apply IsS100.set_1) | exact (Q_HI569 h0_))) hb))
                have z_HI569_e3 := fun (h0_ : b 3 = true) (h1_ : b 7 = false) => (show IsS100 w w20 g569 t567 t584 from by first | exact (IsS100.below (by repeat (first | (with_reducible first | exact (Q_HI569_e3 h0_ h1_) | apply IsS100.alloc | apply IsS100.drewN | apply IsS100.drew | apply IsS100.set_1) | exact (Q_HI569_e3 h0_ h1_))) hb))
                have z_HO587 := fun (h0_ : b 4 = true) => (show Kd.R (Kd.int .i64) 3 w20 w.heap.size (fun k_ => some k_ ≠ (v573 : Value).ownBlock ∧ some k_ ≠ (v579 : Value).ownBlock) v586 y585 from by first | exact (Kd.R_elder' (by (with_reducible repeat (first | apply Kd.R_alloc | apply Kd.R_drewN | apply Kd.R_drew)); exact (Q_HO587 h0_)) (Kd.R_base ho21) hb) | exact Kd.R_mono (Kd.R_elder' (by (with_reducible repeat (first | apply Kd.R_alloc | apply Kd.R_drewN | apply Kd.R_drew)); exact (Q_HO587 h0_)) (Kd.R_base ho21) hb) (fun _ h_ => by first | trivial | exact h_ | exact h_.1))
                have z_HI569_e7 := fun (h0_ : b 7 = true) => (show IsS100 w w20 g569 t567 t592 from by first | exact (IsS100.below (by repeat (first | (with_reducible first | exact (Q_HI569_e7 h0_) | apply IsS100.alloc | apply IsS100.drewN | apply IsS100.drew | apply IsS100.set_1) | exact (Q_HI569_e7 h0_))) hb))
                clear HO574
                clear HO580
                clear HB
                have HO574 := n0_
                have HO580 := n1_
                have HO590 := n2_
                have HB := n4_
                clear n0_ n1_ n2_ n4_
                clear hb ho21
                obtain ⟨Ao22, co22, eo22⟩ := Kd.R_slice HO590.out
                subst eo22
                obtain ⟨ado22, fo22, _⟩ := Kd.at_int (Kd.R_reads' HO590.out).2.2 0 (by decide) (by rw [Ny588.out]; simp)
                cases fo22
                refine hK.out _ _ ⟨v586, adz_v586, .slice (some ado22) y588.length co22, ado22, m8_, m10_, (by rw [ha.out]; exact putSel_upk 2 hb_ rfl rfl rfl), (by (with_reducible repeat (first | apply Kd.R_alloc | apply Kd.R_drewN | apply Kd.R_drew)); exact (Kd.R_mono HO574.out (fun _ hk => by first | exact hk | exact hk.2 | exact hk.1 | exact trivial | exact ⟨hk.1, hk.2.1⟩ | exact ⟨hk.1.2, hk.2⟩ | exact ⟨hk.2, hk.1⟩ | exact ⟨hk.1.1, hk.2⟩ | exact ⟨hk.2.1, hk.2.2⟩ | exact ⟨hk.2.2, hk.2.1⟩ | exact ⟨hk.1.2, hk.1.1⟩ | exact ⟨hk.1.2, hk.2⟩ | exact ⟨hk.2, hk.1.2⟩ | exact ⟨hk.2, hk.1.1⟩ | exact hk.1.1 | exact hk.1.2 | exact hk.2.1 | exact hk.2.2))), (by (with_reducible repeat (first | apply Kd.Q_alloc | apply Kd.Q_drewN | apply Kd.Q_drew)); exact (Kd.Q_mono HO580.out (fun _ hk => by first | exact hk | exact hk.2 | exact hk.1 | exact trivial | exact ⟨hk.1, hk.2.1⟩ | exact ⟨hk.1.2, hk.2⟩ | exact ⟨hk.2, hk.1⟩ | exact ⟨hk.1.1, hk.2⟩ | exact ⟨hk.2.1, hk.2.2⟩ | exact ⟨hk.2.2, hk.2.1⟩ | exact ⟨hk.1.2, hk.1.1⟩ | exact ⟨hk.1.2, hk.2⟩ | exact ⟨hk.2, hk.1.2⟩ | exact ⟨hk.2, hk.1.1⟩ | exact hk.1.1 | exact hk.1.2 | exact hk.2.1 | exact hk.2.2))), z_HI569, (by repeat (first | (with_reducible first | exact HB.out | apply below_alloc | apply pw_below_drewN | apply below_drew1) | exact HB.out)), z_HI569_e3, z_HO587, Q_HA_HO587, fun _ => (by (with_reducible repeat (first | apply Kd.R_alloc | apply Kd.R_drewN | apply Kd.R_drew)); exact (Kd.R_mono HO590.out (fun _ hk => by first | exact hk | exact hk.2 | exact hk.1 | exact trivial | exact ⟨hk.1, hk.2.1⟩ | exact ⟨hk.1.2, hk.2⟩ | exact ⟨hk.2, hk.1⟩ | exact ⟨hk.1.1, hk.2⟩ | exact ⟨hk.2.1, hk.2.2⟩ | exact ⟨hk.2.2, hk.2.1⟩ | exact ⟨hk.1.2, hk.1.1⟩ | exact ⟨hk.1.2, hk.2⟩ | exact ⟨hk.2, hk.1.2⟩ | exact ⟨hk.2, hk.1.1⟩ | exact hk.1.1 | exact hk.1.2 | exact hk.2.1 | exact hk.2.2))), fun _ => ⟨_, rfl⟩, z_HI569_e7, fun h0_ => absurd ((hoff 8 (by kernel_rfl)).symm.trans h0_) (by decide), fun h0_ => absurd ((hoff 10 (by kernel_rfl)).symm.trans h0_) (by decide)⟩
              refine steps_cons ?_ ?_
              · rintro b a w' ⟨v586, adz_v586, v589, adz_v589, m8_, m10_, ha, Q_HO574, Q_HO580, Q_HI569, Q_HB, Q_HI569_e3, Q_HO587, Q_HA_HO587, Q_HO590, Q_HA_HO590, Q_HI569_e7, Q_X8_, Q_X10_⟩ hb_ hon hoff
                refine ⟨_, rfl, fun K hK => ?_⟩
                have e28 : a.tmps[28]? = some (.pointer (some ⟨g569, 0, none⟩)) := by rw [ha]; exact (putSel_off rfl).trans rfl
                replace ha := Aside0.mk ha
                have HO574 := Aside0.mk Q_HO574
                have HO580 := Aside0.mk Q_HO580
                have HB := Aside0.mk Q_HB
                have HI569 := Aside0.mk (Q_HI569_e3 (hon 3 (by kernel_rfl)) hb_)
                refine goes_ Try.func49 (by kernel_rfl) rfl #[.pointer (some ⟨g569, 0, none⟩), .int .i64 7] (by rfl) rfl rfl (by first | (simp only [List.map_toArray, List.map_cons, List.map_nil, Act.eval, Array.getD_eq_getD_getElem?, Option.getD_some, e28]; done) | (simp only [List.map_toArray, List.map_cons, List.map_nil, Act.eval, Array.getD_eq_getD_getElem?, Option.getD_some, e28]; rfl)) ?_
                with_reducible refine (spec_l20Rd_pick.calls k g569 t567 t584 7 t591 t592 w _ ?side1 ?side2 A9.out).mono ?_
                (case side1 => repeat (first | (with_reducible first | exact HI569.out | apply IsS100.alloc | apply IsS100.drewN | apply IsS100.drew | apply IsS100.set_1) | exact HI569.out))
                (case side2 => repeat (first | (with_reducible first | exact HB.out | apply below_alloc | apply pw_below_drewN | apply below_drew1 | refine below_set ?_ (IsS100.ge HI569.out)) | exact HB.out))
                rintro e w22 ⟨rfl, hi, hb, hk⟩
                refine ⟨_, rfl, ?_⟩
                have n0_ := Aside0.mk (Kd.R_mono (Kd.R_keep (IsS100.apart (show IsS100 w _ g569 t567 t584 from by repeat (first | (with_reducible first | exact HI569.out | apply IsS100.alloc | apply IsS100.drewN | apply IsS100.drew | apply IsS100.set_1) | exact HI569.out)) (by (with_reducible repeat (first | apply Kd.R_alloc | apply Kd.R_drewN | apply Kd.R_drew)); exact (Kd.R_mono HO574.out (fun _ hk => by first | exact hk | exact hk.2 | exact hk.1 | exact trivial | exact ⟨hk.1, hk.2.1⟩ | exact ⟨hk.1.2, hk.2⟩ | exact ⟨hk.2, hk.1⟩ | exact ⟨hk.1.1, hk.2⟩ | exact ⟨hk.2.1, hk.2.2⟩ | exact ⟨hk.2.2, hk.2.1⟩ | exact ⟨hk.1.2, hk.1.1⟩ | exact ⟨hk.1.2, hk.2⟩ | exact ⟨hk.2, hk.1.2⟩ | exact ⟨hk.2, hk.1.1⟩ | exact hk.1.1 | exact hk.1.2 | exact hk.2.1 | exact hk.2.2))) (by decide)) hk (fun _ h => h.2)) (fun _ h => h.1))
                have n1_ := Aside0.mk (Kd.Q_mono (Kd.Q_keep (IsS100.apartQ (show IsS100 w _ g569 t567 t584 from by repeat (first | (with_reducible first | exact HI569.out | apply IsS100.alloc | apply IsS100.drewN | apply IsS100.drew | apply IsS100.set_1) | exact HI569.out)) (by (with_reducible repeat (first | apply Kd.Q_alloc | apply Kd.Q_drewN | apply Kd.Q_drew)); exact (Kd.Q_mono HO580.out (fun _ hk => by first | exact hk | exact hk.2 | exact hk.1 | exact trivial | exact ⟨hk.1, hk.2.1⟩ | exact ⟨hk.1.2, hk.2⟩ | exact ⟨hk.2, hk.1⟩ | exact ⟨hk.1.1, hk.2⟩ | exact ⟨hk.2.1, hk.2.2⟩ | exact ⟨hk.2.2, hk.2.1⟩ | exact ⟨hk.1.2, hk.1.1⟩ | exact ⟨hk.1.2, hk.2⟩ | exact ⟨hk.2, hk.1.2⟩ | exact ⟨hk.2, hk.1.1⟩ | exact hk.1.1 | exact hk.1.2 | exact hk.2.1 | exact hk.2.2))) (by decide)) hk (fun _ h => h.2)) (fun _ h => h.1))
                have n2_ := Aside0.mk (hb)
                have n3_ := Aside0.mk (hi)
                have z_HO587 := fun (h0_ : b 4 = true) => (show Kd.R (Kd.int .i64) 3 w22 w.heap.size (fun k_ => some k_ ≠ (v573 : Value).ownBlock ∧ some k_ ≠ (v579 : Value).ownBlock) v586 y585 from by first | exact (Kd.R_mono (Kd.R_keep (IsS100.apart (show IsS100 w _ g569 t567 t584 from by repeat (first | (with_reducible first | exact HI569.out | apply IsS100.alloc | apply IsS100.drewN | apply IsS100.drew | apply IsS100.set_1) | exact HI569.out)) (by (with_reducible repeat (first | apply Kd.R_alloc | apply Kd.R_drewN | apply Kd.R_drew)); exact (Q_HO587 h0_)) (by decide)) hk (fun _ h => h.2)) (fun _ h => h.1)) | exact Kd.R_mono (Kd.R_mono (Kd.R_keep (IsS100.apart (show IsS100 w _ g569 t567 t584 from by repeat (first | (with_reducible first | exact HI569.out | apply IsS100.alloc | apply IsS100.drewN | apply IsS100.drew | apply IsS100.set_1) | exact HI569.out)) (by (with_reducible repeat (first | apply Kd.R_alloc | apply Kd.R_drewN | apply Kd.R_drew)); exact (Q_HO587 h0_)) (by decide)) hk (fun _ h => h.2)) (fun _ h => h.1)) (fun _ h_ => by first | trivial | exact h_ | exact h_.1))
                have z_HO590 := fun (h0_ : b 5 = true) => (show Kd.R (Kd.int .i64) 3 w22 w.heap.size (fun k_ => some k_ ≠ (v573 : Value).ownBlock ∧ some k_ ≠ (v579 : Value).ownBlock) v589 y588 from by first | exact (Kd.R_mono (Kd.R_keep (IsS100.apart (show IsS100 w _ g569 t567 t584 from by repeat (first | (with_reducible first | exact HI569.out | apply IsS100.alloc | apply IsS100.drewN | apply IsS100.drew | apply IsS100.set_1) | exact HI569.out)) (by (with_reducible repeat (first | apply Kd.R_alloc | apply Kd.R_drewN | apply Kd.R_drew)); exact (Q_HO590 h0_)) (by decide)) hk (fun _ h => h.2)) (fun _ h => h.1)) | exact Kd.R_mono (Kd.R_mono (Kd.R_keep (IsS100.apart (show IsS100 w _ g569 t567 t584 from by repeat (first | (with_reducible first | exact HI569.out | apply IsS100.alloc | apply IsS100.drewN | apply IsS100.drew | apply IsS100.set_1) | exact HI569.out)) (by (with_reducible repeat (first | apply Kd.R_alloc | apply Kd.R_drewN | apply Kd.R_drew)); exact (Q_HO590 h0_)) (by decide)) hk (fun _ h => h.2)) (fun _ h => h.1)) (fun _ h_ => by first | trivial | exact h_ | exact h_.1))
                clear HO574
                clear HO580
                clear HB
                clear HI569
                have HO574 := n0_
                have HO580 := n1_
                have HB := n2_
                have HI569 := n3_
                clear n0_ n1_ n2_ n3_
                (try clear hb)
                (try clear hb2)
                (try clear hk)
                (try clear hi)
                refine hK.out _ _ ⟨v586, adz_v586, v589, adz_v589, m8_, m10_, (by rw [ha.out]; exact putSel_upk 3 hb_ rfl rfl rfl), (by (with_reducible repeat (first | apply Kd.R_alloc | apply Kd.R_drewN | apply Kd.R_drew)); exact (Kd.R_mono HO574.out (fun _ hk => by first | exact hk | exact hk.2 | exact hk.1 | exact trivial | exact ⟨hk.1, hk.2.1⟩ | exact ⟨hk.1.2, hk.2⟩ | exact ⟨hk.2, hk.1⟩ | exact ⟨hk.1.1, hk.2⟩ | exact ⟨hk.2.1, hk.2.2⟩ | exact ⟨hk.2.2, hk.2.1⟩ | exact ⟨hk.1.2, hk.1.1⟩ | exact ⟨hk.1.2, hk.2⟩ | exact ⟨hk.2, hk.1.2⟩ | exact ⟨hk.2, hk.1.1⟩ | exact hk.1.1 | exact hk.1.2 | exact hk.2.1 | exact hk.2.2))), (by (with_reducible repeat (first | apply Kd.Q_alloc | apply Kd.Q_drewN | apply Kd.Q_drew)); exact (Kd.Q_mono HO580.out (fun _ hk => by first | exact hk | exact hk.2 | exact hk.1 | exact trivial | exact ⟨hk.1, hk.2.1⟩ | exact ⟨hk.1.2, hk.2⟩ | exact ⟨hk.2, hk.1⟩ | exact ⟨hk.1.1, hk.2⟩ | exact ⟨hk.2.1, hk.2.2⟩ | exact ⟨hk.2.2, hk.2.1⟩ | exact ⟨hk.1.2, hk.1.1⟩ | exact ⟨hk.1.2, hk.2⟩ | exact ⟨hk.2, hk.1.2⟩ | exact ⟨hk.2, hk.1.1⟩ | exact hk.1.1 | exact hk.1.2 | exact hk.2.1 | exact hk.2.2))), fun h0_ => absurd ((hon 3 (by kernel_rfl)).symm.trans h0_) (by decide), (by repeat (first | (with_reducible first | exact HB.out | apply below_alloc | apply pw_below_drewN | apply below_drew1 | refine below_set ?_ (IsS100.ge HI569.out)) | exact HB.out)), fun _ h1_ => absurd ((up_self b 7).symm.trans h1_) (by decide), z_HO587, Q_HA_HO587, z_HO590, Q_HA_HO590, fun _ => (by repeat (first | (with_reducible first | exact HI569.out | apply IsS100.alloc | apply IsS100.drewN | apply IsS100.drew | apply IsS100.set_1) | exact HI569.out)), fun h0_ => absurd ((hoff 8 (by kernel_rfl)).symm.trans h0_) (by decide), fun h0_ => absurd ((hoff 10 (by kernel_rfl)).symm.trans h0_) (by decide)⟩
              refine steps_cons ?_ ?_
              · rintro b a w' ⟨v586, adz_v586, v589, adz_v589, m8_, m10_, ha, Q_HO574, Q_HO580, Q_HI569, Q_HB, Q_HI569_e3, Q_HO587, Q_HA_HO587, Q_HO590, Q_HA_HO590, Q_HI569_e7, Q_X8_, Q_X10_⟩ hb_ hon hoff
                refine ⟨_, rfl, fun K hK => ?_⟩
                have e27 : a.tmps[27]? = some (v589) := by rw [ha]; exact putSel_on (e := (5, 27, v589)) 2 rfl rfl (hon 5 (by kernel_rfl)) rfl
                have e29 : a.tmps[29]? = some (.int .i64 t591) := by rw [ha]; exact putSel_on (e := (7, 29, .int .i64 t591)) 3 rfl rfl (hon 7 (by kernel_rfl)) rfl
                replace ha := Aside0.mk ha
                have HO574 := Aside0.mk Q_HO574
                have HO580 := Aside0.mk Q_HO580
                have HB := Aside0.mk Q_HB
                have HO590 := Aside0.mk (Q_HO590 (hon 5 (by kernel_rfl)))
                have HA_HO590 := Aside0.mk (Q_HA_HO590 (hon 5 (by kernel_rfl)))
                have HI569 := Aside0.mk (Q_HI569_e7 (hon 7 (by kernel_rfl)))
                obtain ⟨c_, hv_⟩ := HA_HO590.out
                rw [hv_] at e27
                refine value_ (w1 := w') (v := .pointer (some (adz_v589.add (t591).toNat))) (by rfl) rfl ?_ ?_
                · go_simp
                  (try simp only [i64_w])
                  try rfl
                refine hK.out _ _ ⟨v586, adz_v586, v589, adz_v589, (.pointer (some (adz_v589.add (t591).toNat))), m10_, (by rw [ha.out]; exact putSel_upk 4 hb_ rfl rfl rfl), Q_HO574, Q_HO580, fun h0_ => absurd ((hon 3 (by kernel_rfl)).symm.trans h0_) (by decide), Q_HB, fun _ h1_ => absurd ((hon 7 (by kernel_rfl)).symm.trans h1_) (by decide), Q_HO587, Q_HA_HO587, Q_HO590, Q_HA_HO590, Q_HI569_e7, fun _ => rfl, fun h0_ => absurd ((hoff 10 (by kernel_rfl)).symm.trans h0_) (by decide)⟩
              refine steps_cons ?_ ?_
              · rintro b a w' ⟨v586, adz_v586, v589, adz_v589, m8_, m10_, ha, Q_HO574, Q_HO580, Q_HI569, Q_HB, Q_HI569_e3, Q_HO587, Q_HA_HO587, Q_HO590, Q_HA_HO590, Q_HI569_e7, Q_X8_, Q_X10_⟩ hb_ hon hoff
                refine ⟨_, rfl, fun K hK => ?_⟩
                have e30 : a.tmps[30]? = some (m8_) := by rw [ha]; exact putSel_on (e := (8, 30, m8_)) 4 rfl rfl (hon 8 (by kernel_rfl)) rfl
                rw [Q_X8_ (hon 8 (by kernel_rfl))] at e30
                replace ha := Aside0.mk ha
                have HO574 := Aside0.mk Q_HO574
                have HO580 := Aside0.mk Q_HO580
                have HB := Aside0.mk Q_HB
                have HO590 := Aside0.mk (Q_HO590 (hon 5 (by kernel_rfl)))
                have HA_HO590 := Aside0.mk (Q_HA_HO590 (hon 5 (by kernel_rfl)))
                have HI569 := Aside0.mk (Q_HI569_e7 (hon 7 (by kernel_rfl)))
                obtain ⟨c_, hv_⟩ := HA_HO590.out
                have hF_ := HO590.out
                rw [hv_] at hF_
                obtain ⟨ad_, ea_, hx_⟩ := Kd.at_int (Kd.R_reads' hF_).2.2 t591 (of_eq_true pi593) (of_eq_true qi593)
                cases ea_
                refine value_ (w1 := w') (v := .int .i64 (rd y588 t591)) (by rfl) rfl ?_ ?_
                · go_simp
                  (try simp only [i64_w])
                  try rfl
                refine hK.out _ _ ⟨v586, adz_v586, v589, adz_v589, m8_, m10_, (by rw [ha.out]; exact putSel_upk 5 hb_ rfl rfl rfl), Q_HO574, Q_HO580, fun h0_ => absurd ((hon 3 (by kernel_rfl)).symm.trans h0_) (by decide), Q_HB, fun _ h1_ => absurd ((hon 7 (by kernel_rfl)).symm.trans h1_) (by decide), Q_HO587, Q_HA_HO587, Q_HO590, Q_HA_HO590, Q_HI569_e7, Q_X8_, fun h0_ => absurd ((hoff 10 (by kernel_rfl)).symm.trans h0_) (by decide)⟩
              refine steps_cons ?_ ?_
              · rintro b a w' ⟨v586, adz_v586, v589, adz_v589, m8_, m10_, ha, Q_HO574, Q_HO580, Q_HI569, Q_HB, Q_HI569_e3, Q_HO587, Q_HA_HO587, Q_HO590, Q_HA_HO590, Q_HI569_e7, Q_X8_, Q_X10_⟩ hb_ hon hoff
                refine ⟨_, rfl, fun K hK => ?_⟩
                have e26 : a.tmps[26]? = some (v586) := by rw [ha]; exact putSel_on (e := (4, 26, v586)) 1 rfl rfl (hon 4 (by kernel_rfl)) rfl
                have e31 : a.tmps[31]? = some (.int .i64 (rd y588 t591)) := by rw [ha]; exact putSel_on (e := (9, 31, .int .i64 (rd y588 t591))) 5 rfl rfl (hon 9 (by kernel_rfl)) rfl
                replace ha := Aside0.mk ha
                have HO574 := Aside0.mk Q_HO574
                have HO580 := Aside0.mk Q_HO580
                have HB := Aside0.mk Q_HB
                have HO587 := Aside0.mk (Q_HO587 (hon 4 (by kernel_rfl)))
                have HA_HO587 := Aside0.mk (Q_HA_HO587 (hon 4 (by kernel_rfl)))
                have HO590 := Aside0.mk (Q_HO590 (hon 5 (by kernel_rfl)))
                have HA_HO590 := Aside0.mk (Q_HA_HO590 (hon 5 (by kernel_rfl)))
                have HI569 := Aside0.mk (Q_HI569_e7 (hon 7 (by kernel_rfl)))
                obtain ⟨c_, hv_⟩ := HA_HO587.out
                rw [hv_] at e26
                refine value_ (w1 := w') (v := .pointer (some (adz_v586.add ((rd y588 t591)).toNat))) (by rfl) rfl ?_ ?_
                · go_simp
                  (try simp only [i64_w])
                  try rfl
                refine hK.out _ _ ⟨v586, adz_v586, v589, adz_v589, m8_, (.pointer (some (adz_v586.add ((rd y588 t591)).toNat))), (by rw [ha.out]; exact putSel_upk 6 hb_ rfl rfl rfl), Q_HO574, Q_HO580, fun h0_ => absurd ((hon 3 (by kernel_rfl)).symm.trans h0_) (by decide), Q_HB, fun _ h1_ => absurd ((hon 7 (by kernel_rfl)).symm.trans h1_) (by decide), Q_HO587, Q_HA_HO587, Q_HO590, Q_HA_HO590, Q_HI569_e7, Q_X8_, fun _ => rfl⟩
              refine steps_cons ?_ ?_
              · rintro b a w' ⟨v586, adz_v586, v589, adz_v589, m8_, m10_, ha, Q_HO574, Q_HO580, Q_HI569, Q_HB, Q_HI569_e3, Q_HO587, Q_HA_HO587, Q_HO590, Q_HA_HO590, Q_HI569_e7, Q_X8_, Q_X10_⟩ hb_ hon hoff
                refine ⟨_, rfl, fun K hK => ?_⟩
                have e32 : a.tmps[32]? = some (m10_) := by rw [ha]; exact putSel_on (e := (10, 32, m10_)) 6 rfl rfl (hon 10 (by kernel_rfl)) rfl
                rw [Q_X10_ (hon 10 (by kernel_rfl))] at e32
                replace ha := Aside0.mk ha
                have HO574 := Aside0.mk Q_HO574
                have HO580 := Aside0.mk Q_HO580
                have HB := Aside0.mk Q_HB
                have HO587 := Aside0.mk (Q_HO587 (hon 4 (by kernel_rfl)))
                have HA_HO587 := Aside0.mk (Q_HA_HO587 (hon 4 (by kernel_rfl)))
                have HO590 := Aside0.mk (Q_HO590 (hon 5 (by kernel_rfl)))
                have HA_HO590 := Aside0.mk (Q_HA_HO590 (hon 5 (by kernel_rfl)))
                have HI569 := Aside0.mk (Q_HI569_e7 (hon 7 (by kernel_rfl)))
                obtain ⟨c_, hv_⟩ := HA_HO587.out
                have hF_ := HO587.out
                rw [hv_] at hF_
                obtain ⟨ad_, ea_, hx_⟩ := Kd.at_int (Kd.R_reads' hF_).2.2 (rd y588 t591) (of_eq_true pi594) (of_eq_true qi594)
                cases ea_
                refine value_ (w1 := w') (v := .int .i64 (rd y585 (rd y588 t591))) (by rfl) rfl ?_ ?_
                · go_simp
                  (try simp only [i64_w])
                  try rfl
                refine hK.out _ _ ⟨v586, adz_v586, v589, adz_v589, m8_, m10_, (by rw [ha.out]; exact putSel_upk 7 hb_ rfl rfl rfl), Q_HO574, Q_HO580, fun h0_ => absurd ((hon 3 (by kernel_rfl)).symm.trans h0_) (by decide), Q_HB, fun _ h1_ => absurd ((hon 7 (by kernel_rfl)).symm.trans h1_) (by decide), Q_HO587, Q_HA_HO587, Q_HO590, Q_HA_HO590, Q_HI569_e7, Q_X8_, Q_X10_⟩
              refine steps_cons ?_ ?_
              · rintro b a w' ⟨v586, adz_v586, v589, adz_v589, m8_, m10_, ha, Q_HO574, Q_HO580, Q_HI569, Q_HB, Q_HI569_e3, Q_HO587, Q_HA_HO587, Q_HO590, Q_HA_HO590, Q_HI569_e7, Q_X8_, Q_X10_⟩ hb_ hon hoff
                refine ⟨_, rfl, fun K hK => ?_⟩
                have e22 : a.tmps[22]? = some (v579) := by rw [ha]; exact (putSel_off rfl).trans rfl
                replace ha := Aside0.mk ha
                have HO574 := Aside0.mk Q_HO574
                have HO580 := Aside0.mk Q_HO580
                have HB := Aside0.mk Q_HB
                have HI569 := Aside0.mk (Q_HI569_e7 (hon 7 (by kernel_rfl)))
                refine value_ (w1 := w') (v := v579) (by rfl) rfl ?_ ?_
                · go_simp
                  (try simp only [i64_w])
                  try rfl
                refine hK.out _ _ ⟨v586, adz_v586, v589, adz_v589, m8_, m10_, (by rw [ha.out]; exact putSel_upk 8 hb_ rfl rfl rfl), Q_HO574, Q_HO580, fun h0_ => absurd ((hon 3 (by kernel_rfl)).symm.trans h0_) (by decide), Q_HB, fun _ h1_ => absurd ((hon 7 (by kernel_rfl)).symm.trans h1_) (by decide), Q_HO587, Q_HA_HO587, Q_HO590, Q_HA_HO590, Q_HI569_e7, Q_X8_, Q_X10_⟩
              refine steps_cons ?_ ?_
              · rintro b a w' ⟨v586, adz_v586, v589, adz_v589, m8_, m10_, ha, Q_HO574, Q_HO580, Q_HI569, Q_HB, Q_HI569_e3, Q_HO587, Q_HA_HO587, Q_HO590, Q_HA_HO590, Q_HI569_e7, Q_X8_, Q_X10_⟩ hb_ hon hoff
                refine ⟨_, rfl, fun K hK => ?_⟩
                have e23 : a.tmps[23]? = some (.int .i64 t581) := by rw [ha]; exact (putSel_off rfl).trans rfl
                replace ha := Aside0.mk ha
                have HO574 := Aside0.mk Q_HO574
                have HO580 := Aside0.mk Q_HO580
                have HB := Aside0.mk Q_HB
                have HI569 := Aside0.mk (Q_HI569_e7 (hon 7 (by kernel_rfl)))
                refine value_ (w1 := w') (v := .int .i64 t581) (by rfl) rfl ?_ ?_
                · go_simp
                  (try simp only [i64_w])
                  try rfl
                refine hK.out _ _ ⟨v586, adz_v586, v589, adz_v589, m8_, m10_, (by rw [ha.out]; exact putSel_upk 9 hb_ rfl rfl rfl), Q_HO574, Q_HO580, fun h0_ => absurd ((hon 3 (by kernel_rfl)).symm.trans h0_) (by decide), Q_HB, fun _ h1_ => absurd ((hon 7 (by kernel_rfl)).symm.trans h1_) (by decide), Q_HO587, Q_HA_HO587, Q_HO590, Q_HA_HO590, Q_HI569_e7, Q_X8_, Q_X10_⟩
              refine steps_cons ?_ ?_
              · rintro b a w' ⟨v586, adz_v586, v589, adz_v589, m8_, m10_, ha, Q_HO574, Q_HO580, Q_HI569, Q_HB, Q_HI569_e3, Q_HO587, Q_HA_HO587, Q_HO590, Q_HA_HO590, Q_HI569_e7, Q_X8_, Q_X10_⟩ hb_ hon hoff
                refine ⟨_, rfl, fun K hK => ?_⟩
                have e33 : a.tmps[33]? = some (.int .i64 (rd y585 (rd y588 t591))) := by rw [ha]; exact putSel_on (e := (11, 33, .int .i64 (rd y585 (rd y588 t591)))) 7 rfl rfl (hon 11 (by kernel_rfl)) rfl
                replace ha := Aside0.mk ha
                have HO574 := Aside0.mk Q_HO574
                have HO580 := Aside0.mk Q_HO580
                have HB := Aside0.mk Q_HB
                have HO587 := Aside0.mk (Q_HO587 (hon 4 (by kernel_rfl)))
                have HA_HO587 := Aside0.mk (Q_HA_HO587 (hon 4 (by kernel_rfl)))
                have HO590 := Aside0.mk (Q_HO590 (hon 5 (by kernel_rfl)))
                have HA_HO590 := Aside0.mk (Q_HA_HO590 (hon 5 (by kernel_rfl)))
                have HI569 := Aside0.mk (Q_HI569_e7 (hon 7 (by kernel_rfl)))
                refine value_ (w1 := w') (v := .int .i64 (rd y585 (rd y588 t591))) (by rfl) rfl ?_ ?_
                · go_simp
                  (try simp only [i64_w])
                  try rfl
                refine hK.out _ _ ⟨v586, adz_v586, v589, adz_v589, m8_, m10_, (by rw [ha.out]; exact putSel_upk 10 hb_ rfl rfl rfl), Q_HO574, Q_HO580, fun h0_ => absurd ((hon 3 (by kernel_rfl)).symm.trans h0_) (by decide), Q_HB, fun _ h1_ => absurd ((hon 7 (by kernel_rfl)).symm.trans h1_) (by decide), Q_HO587, Q_HA_HO587, Q_HO590, Q_HA_HO590, Q_HI569_e7, Q_X8_, Q_X10_⟩
              exact steps_nil
            rintro b a w28 hall ⟨v586, adz_v586, v589, adz_v589, m8_, m10_, ha, Q_HO574, Q_HO580, Q_HI569, Q_HB, Q_HI569_e3, Q_HO587, Q_HA_HO587, Q_HO590, Q_HA_HO590, Q_HI569_e7, Q_X8_, Q_X10_⟩
            clear HB HI569 HO574 HO580
            have hb3_ := hall 3 (by kernel_rfl)
            have hb4_ := hall 4 (by kernel_rfl)
            have hb5_ := hall 5 (by kernel_rfl)
            have hb7_ := hall 7 (by kernel_rfl)
            have hb8_ := hall 8 (by kernel_rfl)
            have hb9_ := hall 9 (by kernel_rfl)
            have hb10_ := hall 10 (by kernel_rfl)
            have hb11_ := hall 11 (by kernel_rfl)
            have hb12_ := hall 12 (by kernel_rfl)
            have hb13_ := hall 13 (by kernel_rfl)
            have hb14_ := hall 14 (by kernel_rfl)
            subst ha
            obtain rfl := Q_X8_ hb8_
            obtain rfl := Q_X10_ hb10_
            simp only [putSel, hb3_, hb4_, hb5_, hb7_, hb8_, hb9_, hb10_, hb11_, hb12_, hb13_, hb14_, if_true, Act.put, List.setIfInBounds_toArray, List.set_cons_zero, List.set_cons_succ]
            have HO574 := Aside0.mk Q_HO574
            clear Q_HO574
            have HO580 := Aside0.mk Q_HO580
            clear Q_HO580
            clear Q_HI569
            have HB := Aside0.mk Q_HB
            clear Q_HB
            clear Q_HI569_e3
            have HO587 := Aside0.mk (Q_HO587 hb4_)
            clear Q_HO587
            have HA_HO587 := Aside0.mk (Q_HA_HO587 hb4_)
            clear Q_HA_HO587
            have HO590 := Aside0.mk (Q_HO590 hb5_)
            clear Q_HO590
            have HA_HO590 := Aside0.mk (Q_HA_HO590 hb5_)
            clear Q_HA_HO590
            have HI569 := Aside0.mk (Q_HI569_e7 hb7_)
            clear Q_HI569_e7
            clear hall hb3_ hb4_ hb5_ hb7_ hb8_ hb9_ hb10_ hb11_ hb12_ hb13_ hb14_
            obtain ⟨co29, eo29⟩ := HA_HO587.out
            clear HA_HO587
            subst eo29
            obtain ⟨co30, eo30⟩ := HA_HO590.out
            clear HA_HO590
            subst eo30
            try go_wp2
            go_ret3
            exact ⟨_, by first | rfl | (simp [errW_none, errW_some] <;> rfl) | (simp [*, errW_none, errW_some] <;> rfl), by (with_reducible repeat (first | apply Kd.Q_alloc | apply Kd.Q_drewN | apply Kd.Q_drew)); exact (Kd.Q_mono HO580.out (fun _ hk => by first | exact hk | exact hk.2 | exact hk.1 | exact trivial | exact ⟨hk.1, hk.2.1⟩ | exact ⟨hk.1.2, hk.2⟩ | exact ⟨hk.2, hk.1⟩ | exact ⟨hk.1.1, hk.2⟩ | exact ⟨hk.2.1, hk.2.2⟩ | exact ⟨hk.2.2, hk.2.1⟩ | exact ⟨hk.1.2, hk.1.1⟩ | exact ⟨hk.1.2, hk.2⟩ | exact ⟨hk.2, hk.1.2⟩ | exact ⟨hk.2, hk.1.1⟩ | exact hk.1.1 | exact hk.1.2 | exact hk.2.1 | exact hk.2.2)), by repeat (first | (with_reducible first | exact HB.out | apply below_alloc | apply pw_below_drewN | apply below_drew1 | refine below_set ?_ (IsS100.ge HI569.out)) | exact HB.out)⟩
          · rw [if_neg c13] at H
            exact absurd H (by simp)
        · rw [if_neg c12] at H
          exact absurd H (by simp)
      · rw [if_neg c11] at H
        exact absurd H (by simp)
    · rw [if_neg c10] at H
      exact absurd H (by simp)
  · replace c6 := Bool.eq_false_iff.mpr c6
    subst c6
    have H1 : ((spec_l20Rd_pick.f k t567 t577 10).bind fun bt595 => ((some (([bt595.1, 20, (-1), 21] : List Int) : List Int)).bind fun y597 => ((some (([0, 0, 0, 1, 1, 2, 3] : List Int) : List Int)).bind fun y600 => ((spec_l20Rd_pick.f k t567 bt595.2 7).bind fun bt603 => (if 0 ≤ bt603.1 then (if bt603.1 < (y600.length : Int) then (if 0 ≤ (rd y600 bt603.1) then (if (rd y600 bt603.1) < (y597.length : Int) then (some (t572, t570, rd y597 (rd y600 bt603.1))) else (none)) else (none)) else (none)) else (none)))))) = some (r1, r2, r3) := by rw [if_neg (show ¬ (false = true) by decide)] at H; exact H
    clear H
    have H := H1
    clear H1
    replace H := Option.bind_eq_some_iff.mp H
    obtain ⟨⟨t595, t596⟩, A310, H⟩ := H
    replace H : ((some (([t595, 20, (-1), 21] : List Int) : List Int)).bind fun y597 => ((some (([0, 0, 0, 1, 1, 2, 3] : List Int) : List Int)).bind fun y600 => ((spec_l20Rd_pick.f k t567 t596 7).bind fun bt603 => (if 0 ≤ bt603.1 then (if bt603.1 < (y600.length : Int) then (if 0 ≤ (rd y600 bt603.1) then (if (rd y600 bt603.1) < (y597.length : Int) then (some (t572, t570, rd y597 (rd y600 bt603.1))) else (none)) else (none)) else (none)) else (none))))) = some (r1, r2, r3) := H
    have A31 := Aside0.mk A310
    clear A310
    obtain ⟨y597, hy597⟩ : ∃ y_ : List Int, y_ = (([t595, 20, (-1), 21] : List Int)) := ⟨_, rfl⟩
    replace H : ((some (([0, 0, 0, 1, 1, 2, 3] : List Int) : List Int)).bind fun y600 => ((spec_l20Rd_pick.f k t567 t596 7).bind fun bt603 => (if 0 ≤ bt603.1 then (if bt603.1 < (y600.length : Int) then (if 0 ≤ (rd y600 bt603.1) then (if (rd y600 bt603.1) < (y597.length : Int) then (some (t572, t570, rd y597 (rd y600 bt603.1))) else (none)) else (none)) else (none)) else (none)))) = some (r1, r2, r3) := by first | (rw [hy597]; with_reducible exact H) | (have H2_ := (Option.bind_some _ _).symm.trans H; rw [hy597]; with_reducible exact H2_) | (have H2_ := (Option.bind_some _ _).symm.trans H; with_reducible exact H2_) | with_reducible exact H | (rw [hy597]; exact H) | exact H
    have Ny597 := Aside0.mk hy597
    clear hy597
    obtain ⟨y600, hy600⟩ : ∃ y_ : List Int, y_ = (([0, 0, 0, 1, 1, 2, 3] : List Int)) := ⟨_, rfl⟩
    replace H : ((spec_l20Rd_pick.f k t567 t596 7).bind fun bt603 => (if 0 ≤ bt603.1 then (if bt603.1 < (y600.length : Int) then (if 0 ≤ (rd y600 bt603.1) then (if (rd y600 bt603.1) < (y597.length : Int) then (some (t572, t570, rd y597 (rd y600 bt603.1))) else (none)) else (none)) else (none)) else (none))) = some (r1, r2, r3) := by first | (rw [hy600]; with_reducible exact H) | (have H2_ := (Option.bind_some _ _).symm.trans H; rw [hy600]; with_reducible exact H2_) | (have H2_ := (Option.bind_some _ _).symm.trans H; with_reducible exact H2_) | with_reducible exact H | (rw [hy600]; exact H) | exact H
    have Ny600 := Aside0.mk hy600
    clear hy600
    replace H := Option.bind_eq_some_iff.mp H
    obtain ⟨⟨t603, t604⟩, A320, H⟩ := H
    replace H : (if 0 ≤ t603 then (if t603 < (y600.length : Int) then (if 0 ≤ (rd y600 t603) then (if (rd y600 t603) < (y597.length : Int) then (some (t572, t570, rd y597 (rd y600 t603))) else (none)) else (none)) else (none)) else (none)) = some (r1, r2, r3) := H
    have A32 := Aside0.mk A320
    clear A320
    by_cases c33 : 0 ≤ t603
    · rw [if_pos c33] at H
      have c33b0 : decide (0 ≤ t603) = true := decide_eq_true c33
      clear c33
      by_cases c34 : t603 < (y600.length : Int)
      · rw [if_pos c34] at H
        have c34b0 : decide (t603 < (y600.length : Int)) = true := decide_eq_true c34
        clear c34
        by_cases c35 : 0 ≤ (rd y600 t603)
        · rw [if_pos c35] at H
          have c35b0 : decide (0 ≤ (rd y600 t603)) = true := decide_eq_true c35
          clear c35
          by_cases c36 : (rd y600 t603) < (y597.length : Int)
          · rw [if_pos c36] at H
            have c36b0 : decide ((rd y600 t603) < (y597.length : Int)) = true := decide_eq_true c36
            clear c36
            simp only [Option.some.injEq, Prod.mk.injEq] at H
            obtain ⟨rfl, rfl, rfl⟩ := H
            go_enter Try.func17, Try.ntmps17
            try go_wp2_with (first | ((with_reducible refine gate_callee (f := 44) rfl ?_); refine goesL_ (some 9) rfl rfl Try.func44 (by kernel_rfl) rfl #[.slice A0 l0.length c0] rfl (by (try simp only [List.map_toArray, List.map_cons, List.map_nil]); first | done | rfl | (simp only [List.length_drop, List.length_take]; rfl)) ?_; (with_reducible refine (spec_l20Open.calls _ _ l0 t567 t568 w _ ?side1 ?side2 ?side3 A2.out).mono ?_); (case side1 => repeat (first | (with_reducible first | exact HB.out | apply below_alloc | apply pw_below_drewN | apply below_drew1) | exact HB.out)); (case side2 => exact HR0.out); (case side3 => exact HC0.out); rintro e w37 ⟨g569, rfl, hi, hb, hb2⟩; refine ⟨_, rfl, ?_⟩; have n0_ := Aside0.mk (hb); have n1_ := Aside0.mk (hi); clear HB; have HB := n0_; have HI569 := n1_; clear n0_ n1_; (try clear hb); (try clear hb2); (try clear hk); (try clear hi)) | ((with_reducible refine gate_callee (f := 45) rfl ?_); refine goesL_ (some 11) rfl rfl Try.func45 (by kernel_rfl) rfl #[.pointer (some ⟨g569, 0, none⟩), .int .i64 0] rfl (by (try simp only [List.map_toArray, List.map_cons, List.map_nil]); first | done | rfl | (simp only [List.length_drop, List.length_take]; rfl)) ?_; (with_reducible refine (spec_l20Size.calls k g569 t567 t568 0 t570 t571 w _ ?side1 ?side2 A3.out).mono ?_); (case side1 => repeat (first | (with_reducible first | exact HI569.out | apply IsS100.alloc | apply IsS100.drewN | apply IsS100.drew | apply IsS100.set_1) | exact HI569.out)); (case side2 => repeat (first | (with_reducible first | exact HB.out | apply below_alloc | apply pw_below_drewN | apply below_drew1 | refine below_set ?_ (IsS100.ge HI569.out)) | exact HB.out)); rintro e w38 ⟨rfl, hi, hb, hk⟩; refine ⟨_, rfl, ?_⟩; have n0_ := Aside0.mk (hb); have n1_ := Aside0.mk (hi); clear HB; clear HI569; have HB := n0_; have HI569 := n1_; clear n0_ n1_; (try clear hb); (try clear hb2); (try clear hk); (try clear hi)) | ((with_reducible refine gate_callee (f := 46) rfl ?_); refine goesL_ (some 14) rfl rfl Try.func46 (by kernel_rfl) rfl #[.pointer (some ⟨g569, 0, none⟩), .int .i64 t570] rfl (by (try simp only [List.map_toArray, List.map_cons, List.map_nil]); first | done | rfl | (simp only [List.length_drop, List.length_take]; rfl)) ?_; (with_reducible refine (spec_l20Solved.calls k g569 t567 t571 t570 t572 t575 w _ ?side1 ?side2 A4.out).mono ?_); (case side1 => repeat (first | (with_reducible first | exact HI569.out | apply IsS100.alloc | apply IsS100.drewN | apply IsS100.drew | apply IsS100.set_1) | exact HI569.out)); (case side2 => repeat (first | (with_reducible first | exact HB.out | apply below_alloc | apply pw_below_drewN | apply below_drew1 | refine below_set ?_ (IsS100.ge HI569.out)) | exact HB.out)); rintro e w39 ⟨v573, rfl, ho0, hi, hb, hk⟩; refine ⟨_, rfl, ?_⟩; have n0_ := Aside0.mk (Kd.R_lower ho0 (below_size (by repeat (first | (with_reducible first | exact HB.out | apply below_alloc | apply pw_below_drewN | apply below_drew1 | refine below_set ?_ (IsS100.ge HI569.out)) | exact HB.out)))); have n1_ := Aside0.mk (hb); have n2_ := Aside0.mk (hi); clear HB; clear HI569; have HO574 := n0_; have HB := n1_; have HI569 := n2_; clear n0_ n1_ n2_; (try clear hb); (try clear hb2); (try clear hk); (try clear hi); (try clear ho0)) | ((with_reducible refine gate_callee (f := 47) rfl ?_); refine goesL_ (some 16) rfl rfl Try.func47 (by kernel_rfl) rfl #[.pointer (some ⟨g569, 0, none⟩), .int .i64 9] rfl (by (try simp only [List.map_toArray, List.map_cons, List.map_nil]); first | done | rfl | (simp only [List.length_drop, List.length_take]; rfl)) ?_; (with_reducible refine (spec_l20Rd_odd.calls k g569 t567 t575 9 false t577 w _ ?side1 ?side2 A5.out).mono ?_); (case side1 => repeat (first | (with_reducible first | exact HI569.out | apply IsS100.alloc | apply IsS100.drewN | apply IsS100.drew | apply IsS100.set_1) | exact HI569.out)); (case side2 => repeat (first | (with_reducible first | exact HB.out | apply below_alloc | apply pw_below_drewN | apply below_drew1 | refine below_set ?_ (IsS100.ge HI569.out)) | exact HB.out)); rintro e w40 ⟨rfl, hi, hb, hk⟩; refine ⟨_, rfl, ?_⟩; have n0_ := Aside0.mk (Kd.R_mono (Kd.R_keep (IsS100.apart (show IsS100 w _ g569 t567 t575 from by repeat (first | (with_reducible first | exact HI569.out | apply IsS100.alloc | apply IsS100.drewN | apply IsS100.drew | apply IsS100.set_1) | exact HI569.out)) (by (with_reducible repeat (first | apply Kd.R_alloc | apply Kd.R_drewN | apply Kd.R_drew)); exact (Kd.R_mono HO574.out (fun _ hk => by first | exact hk | exact hk.2 | exact hk.1 | exact trivial | exact ⟨hk.1, hk.2.1⟩ | exact ⟨hk.1.2, hk.2⟩ | exact ⟨hk.2, hk.1⟩ | exact ⟨hk.1.1, hk.2⟩ | exact ⟨hk.2.1, hk.2.2⟩ | exact ⟨hk.2.2, hk.2.1⟩ | exact ⟨hk.1.2, hk.1.1⟩ | exact ⟨hk.1.2, hk.2⟩ | exact ⟨hk.2, hk.1.2⟩ | exact ⟨hk.2, hk.1.1⟩ | exact hk.1.1 | exact hk.1.2 | exact hk.2.1 | exact hk.2.2))) (by decide)) hk (fun _ h => h.2)) (fun _ h => h.1)); have n1_ := Aside0.mk (hb); have n2_ := Aside0.mk (hi); clear HO574; clear HB; clear HI569; have HO574 := n0_; have HB := n1_; have HI569 := n2_; clear n0_ n1_ n2_; (try clear hb); (try clear hb2); (try clear hk); (try clear hi)))
            have pi605 : (0 ≤ (t603 : Int)) = True := eq_true (of_decide_eq_true (by first | (with_reducible assumption) | assumption))
            have qi605 : (t603 < (y600.length : Int)) = True := eq_true (of_decide_eq_true (by first | (with_reducible assumption) | assumption))
            have pi606 : (0 ≤ ((rd y600 t603) : Int)) = True := eq_true (of_decide_eq_true (by first | (with_reducible assumption) | assumption))
            have qi606 : ((rd y600 t603) < (y597.length : Int)) = True := eq_true (of_decide_eq_true (by first | (with_reducible assumption) | assumption))
            have n0_ := Aside0.mk (Kd.R_drew HO574.out)
            have n1_ := Aside0.mk (IsS100.drew HI569.out)
            have n2_ := Aside0.mk (below_drew1 HB.out)
            clear HO574
            clear HI569
            clear HB
            have HO574 := n0_
            have HI569 := n1_
            have HB := n2_
            clear n0_ n1_ n2_
            refine start_ (n := 15) (S := fun w' => True) (ds := []) #[false, false, false, false, false, false, false, false, false, false, false, false, false, false, false] (by kernel_rfl) rfl rfl trivial (fun hHeld => ?_); refine with_tabW spec_DrawLessRules.tab6 spec_DrawLessRules.bits6 (fun HT_ HW_ => ?_)
            generalize w40.drew = w41 at HO574 HI569 HB hHeld ⊢
            refine pure_ (i := 0) (N := some 22) (v := ?_) (a' := ?_) #[true, false, false, false, false, false, false, false, false, false, false, false, false, false, false] rfl rfl (any_of HT_.out (by kernel_rfl)) (fun _ _ _ h => h) (Or.inl ⟨by rfl, ?_⟩) ?_ ?_
            rotate_left
            · intro w'
              go_simp
              with_reducible rfl
            rotate_left
            · simp only [Act.put, List.setIfInBounds_toArray, List.set_cons_zero, List.set_cons_succ, i64_w, i32_w]
              rfl
            refine pure_ (i := 1) (N := some 23) (v := ?_) (a' := ?_) #[true, true, false, false, false, false, false, false, false, false, false, false, false, false, false] rfl rfl (any_of HT_.out (by kernel_rfl)) (fun _ _ _ h => h) (Or.inl ⟨by rfl, ?_⟩) ?_ ?_
            rotate_left
            · intro w'
              go_simp
              with_reducible rfl
            rotate_left
            · simp only [Act.put, List.setIfInBounds_toArray, List.set_cons_zero, List.set_cons_succ, i64_w, i32_w]
              rfl
            refine pure_ (i := 2) (N := some 24) (v := ?_) (a' := ?_) #[true, true, true, false, false, false, false, false, false, false, false, false, false, false, false] rfl rfl (any_of HT_.out (by kernel_rfl)) (fun _ _ _ h => h) (Or.inl ⟨by rfl, ?_⟩) ?_ ?_
            rotate_left
            · intro w'
              go_simp
              with_reducible rfl
            rotate_left
            · simp only [Act.put, List.setIfInBounds_toArray, List.set_cons_zero, List.set_cons_succ, i64_w, i32_w]
              rfl
            refine pure_ (i := 6) (N := some 28) (v := ?_) (a' := ?_) #[true, true, true, false, false, false, true, false, false, false, false, false, false, false, false] rfl rfl (any_of HT_.out (by kernel_rfl)) (fun _ _ _ h => h) (Or.inl ⟨by rfl, ?_⟩) ?_ ?_
            rotate_left
            · intro w'
              go_simp
              with_reducible rfl
            rotate_left
            · simp only [Act.put, List.setIfInBounds_toArray, List.set_cons_zero, List.set_cons_succ, i64_w, i32_w]
              rfl
            refine inv_at [3, 4, 5, 7, 8, 9, 10, 11, 12, 13, 14] (fun a0_ b a w' => ∃ (v598 : Value) (adz_v598 : Addr) (v601 : Value) (adz_v601 : Addr) (m8_ : Value) (m10_ : Value), a = putSel a0_ b [(3, 25, .int .i64 t595), (4, 26, v598), (5, 27, v601), (7, 29, .int .i64 t603), (8, 30, m8_), (9, 31, .int .i64 (rd y600 t603)), (10, 32, m10_), (11, 33, .int .i64 (rd y597 (rd y600 t603))), (12, 2, v573), (13, 3, .int .i64 t570), (14, 4, .int .i64 (rd y597 (rd y600 t603)))] ∧ (Kd.R (Kd.int .i64) 3 w' w.heap.size (fun _ => True) v573 t572) ∧ (b 3 = false → IsS100 w w' g569 t567 t577) ∧ (Below w.heap.size w w') ∧ (b 3 = true → b 7 = false → IsS100 w w' g569 t567 t596) ∧ (b 4 = true → Kd.R (Kd.int .i64) 3 w' w.heap.size (fun k_ => some k_ ≠ (v573 : Value).ownBlock) v598 y597) ∧ (b 4 = true → ∃ c_, (v598 : Value) = .slice (some adz_v598) y597.length c_) ∧ (b 5 = true → Kd.R (Kd.int .i64) 3 w' w.heap.size (fun k_ => some k_ ≠ (v573 : Value).ownBlock) v601 y600) ∧ (b 5 = true → ∃ c_, (v601 : Value) = .slice (some adz_v601) y600.length c_) ∧ (b 7 = true → IsS100 w w' g569 t567 t604) ∧ (b 8 = true → (m8_ : Value) = .pointer (some (adz_v601.add (t603).toNat))) ∧ (b 10 = true → (m10_ : Value) = .pointer (some (adz_v598.add ((rd y600 t603)).toNat)))) HT_.out HW_.out (by kernel_rfl) (by kernel_rfl) ?_ ?_ ?_
            · exact ⟨.bool false, ⟨0, 0, none⟩, .bool false, ⟨0, 0, none⟩, .bool false, .bool false, by simp only [putSel, Bool.false_eq_true, if_false], HO574.out, fun _ => HI569.out, HB.out, fun h_ => absurd h_ (by decide), fun h_ => absurd h_ (by decide), fun h_ => absurd h_ (by decide), fun h_ => absurd h_ (by decide), fun h_ => absurd h_ (by decide), fun h_ => absurd h_ (by decide), fun h_ => absurd h_ (by decide), fun h_ => absurd h_ (by decide)⟩
            · skip
              clear HB HI569 HO574
              refine steps_cons ?_ ?_
              · rintro b a w' ⟨v598, adz_v598, v601, adz_v601, m8_, m10_, ha, Q_HO574, Q_HI569, Q_HB, Q_HI569_e3, Q_HO599, Q_HA_HO599, Q_HO602, Q_HA_HO602, Q_HI569_e7, Q_X8_, Q_X10_⟩ hb_ hon hoff
                refine ⟨_, rfl, fun K hK => ?_⟩
                have e24 : a.tmps[24]? = some (.pointer (some ⟨g569, 0, none⟩)) := by rw [ha]; exact (putSel_off rfl).trans rfl
                replace ha := Aside0.mk ha
                have HO574 := Aside0.mk Q_HO574
                have HI569 := Aside0.mk (Q_HI569 hb_)
                have HB := Aside0.mk Q_HB
                refine goes_ Try.func49 (by kernel_rfl) rfl #[.pointer (some ⟨g569, 0, none⟩), .int .i64 10] (by rfl) rfl rfl (by first | (simp only [List.map_toArray, List.map_cons, List.map_nil, Act.eval, Array.getD_eq_getD_getElem?, Option.getD_some, e24]; done) | (simp only [List.map_toArray, List.map_cons, List.map_nil, Act.eval, Array.getD_eq_getD_getElem?, Option.getD_some, e24]; rfl)) ?_
                with_reducible refine (spec_l20Rd_pick.calls k g569 t567 t577 10 t595 t596 w _ ?side1 ?side2 A31.out).mono ?_
                (case side1 => repeat (first | (with_reducible first | exact HI569.out | apply IsS100.alloc | apply IsS100.drewN | apply IsS100.drew | apply IsS100.set_1) | exact HI569.out))
                (case side2 => repeat (first | (with_reducible first | exact HB.out | apply below_alloc | apply pw_below_drewN | apply below_drew1 | refine below_set ?_ (IsS100.ge HI569.out)) | exact HB.out))
                rintro e w42 ⟨rfl, hi, hb, hk⟩
                refine ⟨_, rfl, ?_⟩
                have n0_ := Aside0.mk (Kd.R_mono (Kd.R_keep (IsS100.apart (show IsS100 w _ g569 t567 t577 from by repeat (first | (with_reducible first | exact HI569.out | apply IsS100.alloc | apply IsS100.drewN | apply IsS100.drew | apply IsS100.set_1) | exact HI569.out)) (by (with_reducible repeat (first | apply Kd.R_alloc | apply Kd.R_drewN | apply Kd.R_drew)); exact (Kd.R_mono HO574.out (fun _ hk => by first | exact hk | exact hk.2 | exact hk.1 | exact trivial | exact ⟨hk.1, hk.2.1⟩ | exact ⟨hk.1.2, hk.2⟩ | exact ⟨hk.2, hk.1⟩ | exact ⟨hk.1.1, hk.2⟩ | exact ⟨hk.2.1, hk.2.2⟩ | exact ⟨hk.2.2, hk.2.1⟩ | exact ⟨hk.1.2, hk.1.1⟩ | exact ⟨hk.1.2, hk.2⟩ | exact ⟨hk.2, hk.1.2⟩ | exact ⟨hk.2, hk.1.1⟩ | exact hk.1.1 | exact hk.1.2 | exact hk.2.1 | exact hk.2.2))) (by decide)) hk (fun _ h => h.2)) (fun _ h => h.1))
                have n1_ := Aside0.mk (hb)
                have n2_ := Aside0.mk (hi)
                have z_HO602 := fun (h0_ : b 5 = true) => (show Kd.R (Kd.int .i64) 3 w42 w.heap.size (fun k_ => some k_ ≠ (v573 : Value).ownBlock) v601 y600 from by first | exact (Kd.R_mono (Kd.R_keep (IsS100.apart (show IsS100 w _ g569 t567 t577 from by repeat (first | (with_reducible first | exact HI569.out | apply IsS100.alloc | apply IsS100.drewN | apply IsS100.drew | apply IsS100.set_1) | exact HI569.out)) (by (with_reducible repeat (first | apply Kd.R_alloc | apply Kd.R_drewN | apply Kd.R_drew)); exact (Q_HO602 h0_)) (by decide)) hk (fun _ h => h.2)) (fun _ h => h.1)) | exact Kd.R_mono (Kd.R_mono (Kd.R_keep (IsS100.apart (show IsS100 w _ g569 t567 t577 from by repeat (first | (with_reducible first | exact HI569.out | apply IsS100.alloc | apply IsS100.drewN | apply IsS100.drew | apply IsS100.set_1) | exact HI569.out)) (by (with_reducible repeat (first | apply Kd.R_alloc | apply Kd.R_drewN | apply Kd.R_drew)); exact (Q_HO602 h0_)) (by decide)) hk (fun _ h => h.2)) (fun _ h => h.1)) (fun _ h_ => by first | trivial | exact h_ | exact h_.1))
                clear HO574
                clear HB
                clear HI569
                have HO574 := n0_
                have HB := n1_
                have HI569 := n2_
                clear n0_ n1_ n2_
                (try clear hb)
                (try clear hb2)
                (try clear hk)
                (try clear hi)
                refine hK.out _ _ ⟨v598, adz_v598, v601, adz_v601, m8_, m10_, (by rw [ha.out]; exact putSel_upk 0 hb_ rfl rfl rfl), (by (with_reducible repeat (first | apply Kd.R_alloc | apply Kd.R_drewN | apply Kd.R_drew)); exact (Kd.R_mono HO574.out (fun _ hk => by first | exact hk | exact hk.2 | exact hk.1 | exact trivial | exact ⟨hk.1, hk.2.1⟩ | exact ⟨hk.1.2, hk.2⟩ | exact ⟨hk.2, hk.1⟩ | exact ⟨hk.1.1, hk.2⟩ | exact ⟨hk.2.1, hk.2.2⟩ | exact ⟨hk.2.2, hk.2.1⟩ | exact ⟨hk.1.2, hk.1.1⟩ | exact ⟨hk.1.2, hk.2⟩ | exact ⟨hk.2, hk.1.2⟩ | exact ⟨hk.2, hk.1.1⟩ | exact hk.1.1 | exact hk.1.2 | exact hk.2.1 | exact hk.2.2))), fun h0_ => absurd ((up_self b 3).symm.trans h0_) (by decide), (by repeat (first | (with_reducible first | exact HB.out | apply below_alloc | apply pw_below_drewN | apply below_drew1 | refine below_set ?_ (IsS100.ge HI569.out)) | exact HB.out)), fun _ _ => (by repeat (first | (with_reducible first | exact HI569.out | apply IsS100.alloc | apply IsS100.drewN | apply IsS100.drew | apply IsS100.set_1) | exact HI569.out)), fun h0_ => absurd ((hoff 4 (by kernel_rfl)).symm.trans h0_) (by decide), fun h0_ => absurd ((hoff 4 (by kernel_rfl)).symm.trans h0_) (by decide), z_HO602, Q_HA_HO602, fun h0_ => absurd ((hoff 7 (by kernel_rfl)).symm.trans h0_) (by decide), fun h0_ => absurd ((hoff 8 (by kernel_rfl)).symm.trans h0_) (by decide), fun h0_ => absurd ((hoff 10 (by kernel_rfl)).symm.trans h0_) (by decide)⟩
              refine steps_cons ?_ ?_
              · rintro b a w' ⟨v598, adz_v598, v601, adz_v601, m8_, m10_, ha, Q_HO574, Q_HI569, Q_HB, Q_HI569_e3, Q_HO599, Q_HA_HO599, Q_HO602, Q_HA_HO602, Q_HI569_e7, Q_X8_, Q_X10_⟩ hb_ hon hoff
                refine ⟨_, rfl, fun K hK => ?_⟩
                have e25 : a.tmps[25]? = some (.int .i64 t595) := by rw [ha]; exact putSel_on (e := (3, 25, .int .i64 t595)) 0 rfl rfl (hon 3 (by kernel_rfl)) rfl
                replace ha := Aside0.mk ha
                have HO574 := Aside0.mk Q_HO574
                have HB := Aside0.mk Q_HB
                refine Kd.R_lit_step (Kd.int .i64) _ 3 ?hg (N := 26) ?hd (xs := ([t595, 20, (-1), 21] : List Int)) (inner := [.int .i64 t595, .int .i64 20, .int .i64 (-1), .int .i64 21]) (ok := fun _ => True) (okp := fun _ => True) ?hr ?hp (fun _ hk => hk) trivial (Below.refl _ _) (Nat.le_refl _) (by simp) ?_; (case hd => rfl); (case hg => rfl); (case hr => first | (go_simp; done) | (go_simp; rfl)); (case hp => exact (Reps.one (show Kd.M (Kd.int .i64) _ _ _ t595 [.int .i64 t595] from rfl) (Reps.one (show Kd.M (Kd.int .i64) _ _ _ 20 [.int .i64 20] from rfl) (Reps.one (show Kd.M (Kd.int .i64) _ _ _ (-1) [.int .i64 (-1)] from rfl) (Reps.one (show Kd.M (Kd.int .i64) _ _ _ 21 [.int .i64 21] from rfl) (Reps.none _ _))))))
                intro v598 w44 ho45 hb hg_ hnew_
                clear hg_ hnew_
                (first | rw [← Ny597.out] at ho45 | (simp only [Int.reduceToNat] at ho45; rw [← Ny597.out] at ho45))
                have n0_ := Aside0.mk (Kd.R_elder' (by (with_reducible repeat (first | apply Kd.R_alloc | apply Kd.R_drewN | apply Kd.R_drew)); exact (Kd.R_mono HO574.out (fun _ hk => by first | exact hk | exact hk.2 | exact hk.1 | exact trivial | exact ⟨hk.1, hk.2.1⟩ | exact ⟨hk.1.2, hk.2⟩ | exact ⟨hk.2, hk.1⟩ | exact ⟨hk.1.1, hk.2⟩ | exact ⟨hk.2.1, hk.2.2⟩ | exact ⟨hk.2.2, hk.2.1⟩ | exact ⟨hk.1.2, hk.1.1⟩ | exact ⟨hk.1.2, hk.2⟩ | exact ⟨hk.2, hk.1.2⟩ | exact ⟨hk.2, hk.1.1⟩ | exact hk.1.1 | exact hk.1.2 | exact hk.2.1 | exact hk.2.2))) (Kd.R_base ho45) hb)
                have n1_ := Aside0.mk (Kd.R_lower (Kd.R_new' ho45 (Kd.R_lt (by (with_reducible repeat (first | apply Kd.R_alloc | apply Kd.R_drewN | apply Kd.R_drew)); exact (Kd.R_mono HO574.out (fun _ hk => by first | exact hk | exact hk.2 | exact hk.1 | exact trivial | exact ⟨hk.1, hk.2.1⟩ | exact ⟨hk.1.2, hk.2⟩ | exact ⟨hk.2, hk.1⟩ | exact ⟨hk.1.1, hk.2⟩ | exact ⟨hk.2.1, hk.2.2⟩ | exact ⟨hk.2.2, hk.2.1⟩ | exact ⟨hk.1.2, hk.1.1⟩ | exact ⟨hk.1.2, hk.2⟩ | exact ⟨hk.2, hk.1.2⟩ | exact ⟨hk.2, hk.1.1⟩ | exact hk.1.1 | exact hk.1.2 | exact hk.2.1 | exact hk.2.2))))) (below_size (by repeat (first | (with_reducible first | exact HB.out | apply below_alloc | apply pw_below_drewN | apply below_drew1) | exact HB.out))))
                have n3_ := Aside0.mk (below_step (by repeat (first | (with_reducible first | exact HB.out | apply below_alloc | apply pw_below_drewN | apply below_drew1) | exact HB.out)) hb)
                have z_HI569_e3 := fun (h0_ : b 3 = true) (h1_ : b 7 = false) => (show IsS100 w w44 g569 t567 t596 from by first | exact (IsS100.below (by repeat (first | (with_reducible first | exact (Q_HI569_e3 h0_ h1_) | apply IsS100.alloc | apply IsS100.drewN | apply IsS100.drew | apply IsS100.set_1) | exact (Q_HI569_e3 h0_ h1_))) hb))
                have z_HO602 := fun (h0_ : b 5 = true) => (show Kd.R (Kd.int .i64) 3 w44 w.heap.size (fun k_ => some k_ ≠ (v573 : Value).ownBlock) v601 y600 from by first | exact (Kd.R_elder' (by (with_reducible repeat (first | apply Kd.R_alloc | apply Kd.R_drewN | apply Kd.R_drew)); exact (Q_HO602 h0_)) (Kd.R_base ho45) hb) | exact Kd.R_mono (Kd.R_elder' (by (with_reducible repeat (first | apply Kd.R_alloc | apply Kd.R_drewN | apply Kd.R_drew)); exact (Q_HO602 h0_)) (Kd.R_base ho45) hb) (fun _ h_ => by first | trivial | exact h_ | exact h_.1))
                have z_HI569_e7 := fun (h0_ : b 7 = true) => (show IsS100 w w44 g569 t567 t604 from by first | exact (IsS100.below (by repeat (first | (with_reducible first | exact (Q_HI569_e7 h0_) | apply IsS100.alloc | apply IsS100.drewN | apply IsS100.drew | apply IsS100.set_1) | exact (Q_HI569_e7 h0_))) hb))
                clear HO574
                clear HB
                have HO574 := n0_
                have HO599 := n1_
                have HB := n3_
                clear n0_ n1_ n3_
                clear hb ho45
                obtain ⟨Ao46, co46, eo46⟩ := Kd.R_slice HO599.out
                subst eo46
                obtain ⟨ado46, fo46, _⟩ := Kd.at_int (Kd.R_reads' HO599.out).2.2 0 (by decide) (by rw [Ny597.out]; simp)
                cases fo46
                refine hK.out _ _ ⟨.slice (some ado46) y597.length co46, ado46, v601, adz_v601, m8_, m10_, (by rw [ha.out]; exact putSel_upk 1 hb_ rfl rfl rfl), (by (with_reducible repeat (first | apply Kd.R_alloc | apply Kd.R_drewN | apply Kd.R_drew)); exact (Kd.R_mono HO574.out (fun _ hk => by first | exact hk | exact hk.2 | exact hk.1 | exact trivial | exact ⟨hk.1, hk.2.1⟩ | exact ⟨hk.1.2, hk.2⟩ | exact ⟨hk.2, hk.1⟩ | exact ⟨hk.1.1, hk.2⟩ | exact ⟨hk.2.1, hk.2.2⟩ | exact ⟨hk.2.2, hk.2.1⟩ | exact ⟨hk.1.2, hk.1.1⟩ | exact ⟨hk.1.2, hk.2⟩ | exact ⟨hk.2, hk.1.2⟩ | exact ⟨hk.2, hk.1.1⟩ | exact hk.1.1 | exact hk.1.2 | exact hk.2.1 | exact hk.2.2))), fun h0_ => absurd ((hon 3 (by kernel_rfl)).symm.trans h0_) (by decide), (by repeat (first | (with_reducible first | exact HB.out | apply below_alloc | apply pw_below_drewN | apply below_drew1) | exact HB.out)), z_HI569_e3, fun _ => (by (with_reducible repeat (first | apply Kd.R_alloc | apply Kd.R_drewN | apply Kd.R_drew)); exact (Kd.R_mono HO599.out (fun _ hk => by first | exact hk | exact hk.2 | exact hk.1 | exact trivial | exact ⟨hk.1, hk.2.1⟩ | exact ⟨hk.1.2, hk.2⟩ | exact ⟨hk.2, hk.1⟩ | exact ⟨hk.1.1, hk.2⟩ | exact ⟨hk.2.1, hk.2.2⟩ | exact ⟨hk.2.2, hk.2.1⟩ | exact ⟨hk.1.2, hk.1.1⟩ | exact ⟨hk.1.2, hk.2⟩ | exact ⟨hk.2, hk.1.2⟩ | exact ⟨hk.2, hk.1.1⟩ | exact hk.1.1 | exact hk.1.2 | exact hk.2.1 | exact hk.2.2))), fun _ => ⟨_, rfl⟩, z_HO602, Q_HA_HO602, z_HI569_e7, Q_X8_, fun h0_ => absurd ((hoff 10 (by kernel_rfl)).symm.trans h0_) (by decide)⟩
              refine steps_cons ?_ ?_
              · rintro b a w' ⟨v598, adz_v598, v601, adz_v601, m8_, m10_, ha, Q_HO574, Q_HI569, Q_HB, Q_HI569_e3, Q_HO599, Q_HA_HO599, Q_HO602, Q_HA_HO602, Q_HI569_e7, Q_X8_, Q_X10_⟩ hb_ hon hoff
                refine ⟨_, rfl, fun K hK => ?_⟩
                replace ha := Aside0.mk ha
                have HO574 := Aside0.mk Q_HO574
                have HB := Aside0.mk Q_HB
                refine Kd.R_lit_step (Kd.int .i64) _ 3 ?hg (N := 27) ?hd (xs := ([0, 0, 0, 1, 1, 2, 3] : List Int)) (inner := [.int .i64 0, .int .i64 0, .int .i64 0, .int .i64 1, .int .i64 1, .int .i64 2, .int .i64 3]) (ok := fun _ => True) (okp := fun _ => True) ?hr ?hp (fun _ hk => hk) trivial (Below.refl _ _) (Nat.le_refl _) (by simp) ?_; (case hd => rfl); (case hg => rfl); (case hr => first | (go_simp; done) | (go_simp; rfl)); (case hp => exact (Reps.one (show Kd.M (Kd.int .i64) _ _ _ 0 [.int .i64 0] from rfl) (Reps.one (show Kd.M (Kd.int .i64) _ _ _ 0 [.int .i64 0] from rfl) (Reps.one (show Kd.M (Kd.int .i64) _ _ _ 0 [.int .i64 0] from rfl) (Reps.one (show Kd.M (Kd.int .i64) _ _ _ 1 [.int .i64 1] from rfl) (Reps.one (show Kd.M (Kd.int .i64) _ _ _ 1 [.int .i64 1] from rfl) (Reps.one (show Kd.M (Kd.int .i64) _ _ _ 2 [.int .i64 2] from rfl) (Reps.one (show Kd.M (Kd.int .i64) _ _ _ 3 [.int .i64 3] from rfl) (Reps.none _ _)))))))))
                intro v601 w42 ho43 hb hg_ hnew_
                clear hg_ hnew_
                (first | rw [← Ny600.out] at ho43 | (simp only [Int.reduceToNat] at ho43; rw [← Ny600.out] at ho43))
                have n0_ := Aside0.mk (Kd.R_elder' (by (with_reducible repeat (first | apply Kd.R_alloc | apply Kd.R_drewN | apply Kd.R_drew)); exact (Kd.R_mono HO574.out (fun _ hk => by first | exact hk | exact hk.2 | exact hk.1 | exact trivial | exact ⟨hk.1, hk.2.1⟩ | exact ⟨hk.1.2, hk.2⟩ | exact ⟨hk.2, hk.1⟩ | exact ⟨hk.1.1, hk.2⟩ | exact ⟨hk.2.1, hk.2.2⟩ | exact ⟨hk.2.2, hk.2.1⟩ | exact ⟨hk.1.2, hk.1.1⟩ | exact ⟨hk.1.2, hk.2⟩ | exact ⟨hk.2, hk.1.2⟩ | exact ⟨hk.2, hk.1.1⟩ | exact hk.1.1 | exact hk.1.2 | exact hk.2.1 | exact hk.2.2))) (Kd.R_base ho43) hb)
                have n1_ := Aside0.mk (Kd.R_lower (Kd.R_new' ho43 (Kd.R_lt (by (with_reducible repeat (first | apply Kd.R_alloc | apply Kd.R_drewN | apply Kd.R_drew)); exact (Kd.R_mono HO574.out (fun _ hk => by first | exact hk | exact hk.2 | exact hk.1 | exact trivial | exact ⟨hk.1, hk.2.1⟩ | exact ⟨hk.1.2, hk.2⟩ | exact ⟨hk.2, hk.1⟩ | exact ⟨hk.1.1, hk.2⟩ | exact ⟨hk.2.1, hk.2.2⟩ | exact ⟨hk.2.2, hk.2.1⟩ | exact ⟨hk.1.2, hk.1.1⟩ | exact ⟨hk.1.2, hk.2⟩ | exact ⟨hk.2, hk.1.2⟩ | exact ⟨hk.2, hk.1.1⟩ | exact hk.1.1 | exact hk.1.2 | exact hk.2.1 | exact hk.2.2))))) (below_size (by repeat (first | (with_reducible first | exact HB.out | apply below_alloc | apply pw_below_drewN | apply below_drew1) | exact HB.out))))
                have n3_ := Aside0.mk (below_step (by repeat (first | (with_reducible first | exact HB.out | apply below_alloc | apply pw_below_drewN | apply below_drew1) | exact HB.out)) hb)
                have z_HI569 := fun (h0_ : b 3 = false) => (show IsS100 w w42 g569 t567 t577 from by first | exact (IsS100.below (by repeat (first | (with_reducible first | exact (Q_HI569 h0_) | apply IsS100.alloc | apply IsS100.drewN | apply IsS100.drew | apply IsS100.set_1) | exact (Q_HI569 h0_))) hb))
                have z_HI569_e3 := fun (h0_ : b 3 = true) (h1_ : b 7 = false) => (show IsS100 w w42 g569 t567 t596 from by first | exact (IsS100.below (by repeat (first | (with_reducible first | exact (Q_HI569_e3 h0_ h1_) | apply IsS100.alloc | apply IsS100.drewN | apply IsS100.drew | apply IsS100.set_1) | exact (Q_HI569_e3 h0_ h1_))) hb))
                have z_HO599 := fun (h0_ : b 4 = true) => (show Kd.R (Kd.int .i64) 3 w42 w.heap.size (fun k_ => some k_ ≠ (v573 : Value).ownBlock) v598 y597 from by first | exact (Kd.R_elder' (by (with_reducible repeat (first | apply Kd.R_alloc | apply Kd.R_drewN | apply Kd.R_drew)); exact (Q_HO599 h0_)) (Kd.R_base ho43) hb) | exact Kd.R_mono (Kd.R_elder' (by (with_reducible repeat (first | apply Kd.R_alloc | apply Kd.R_drewN | apply Kd.R_drew)); exact (Q_HO599 h0_)) (Kd.R_base ho43) hb) (fun _ h_ => by first | trivial | exact h_ | exact h_.1))
                have z_HI569_e7 := fun (h0_ : b 7 = true) => (show IsS100 w w42 g569 t567 t604 from by first | exact (IsS100.below (by repeat (first | (with_reducible first | exact (Q_HI569_e7 h0_) | apply IsS100.alloc | apply IsS100.drewN | apply IsS100.drew | apply IsS100.set_1) | exact (Q_HI569_e7 h0_))) hb))
                clear HO574
                clear HB
                have HO574 := n0_
                have HO602 := n1_
                have HB := n3_
                clear n0_ n1_ n3_
                clear hb ho43
                obtain ⟨Ao44, co44, eo44⟩ := Kd.R_slice HO602.out
                subst eo44
                obtain ⟨ado44, fo44, _⟩ := Kd.at_int (Kd.R_reads' HO602.out).2.2 0 (by decide) (by rw [Ny600.out]; simp)
                cases fo44
                refine hK.out _ _ ⟨v598, adz_v598, .slice (some ado44) y600.length co44, ado44, m8_, m10_, (by rw [ha.out]; exact putSel_upk 2 hb_ rfl rfl rfl), (by (with_reducible repeat (first | apply Kd.R_alloc | apply Kd.R_drewN | apply Kd.R_drew)); exact (Kd.R_mono HO574.out (fun _ hk => by first | exact hk | exact hk.2 | exact hk.1 | exact trivial | exact ⟨hk.1, hk.2.1⟩ | exact ⟨hk.1.2, hk.2⟩ | exact ⟨hk.2, hk.1⟩ | exact ⟨hk.1.1, hk.2⟩ | exact ⟨hk.2.1, hk.2.2⟩ | exact ⟨hk.2.2, hk.2.1⟩ | exact ⟨hk.1.2, hk.1.1⟩ | exact ⟨hk.1.2, hk.2⟩ | exact ⟨hk.2, hk.1.2⟩ | exact ⟨hk.2, hk.1.1⟩ | exact hk.1.1 | exact hk.1.2 | exact hk.2.1 | exact hk.2.2))), z_HI569, (by repeat (first | (with_reducible first | exact HB.out | apply below_alloc | apply pw_below_drewN | apply below_drew1) | exact HB.out)), z_HI569_e3, z_HO599, Q_HA_HO599, fun _ => (by (with_reducible repeat (first | apply Kd.R_alloc | apply Kd.R_drewN | apply Kd.R_drew)); exact (Kd.R_mono HO602.out (fun _ hk => by first | exact hk | exact hk.2 | exact hk.1 | exact trivial | exact ⟨hk.1, hk.2.1⟩ | exact ⟨hk.1.2, hk.2⟩ | exact ⟨hk.2, hk.1⟩ | exact ⟨hk.1.1, hk.2⟩ | exact ⟨hk.2.1, hk.2.2⟩ | exact ⟨hk.2.2, hk.2.1⟩ | exact ⟨hk.1.2, hk.1.1⟩ | exact ⟨hk.1.2, hk.2⟩ | exact ⟨hk.2, hk.1.2⟩ | exact ⟨hk.2, hk.1.1⟩ | exact hk.1.1 | exact hk.1.2 | exact hk.2.1 | exact hk.2.2))), fun _ => ⟨_, rfl⟩, z_HI569_e7, fun h0_ => absurd ((hoff 8 (by kernel_rfl)).symm.trans h0_) (by decide), fun h0_ => absurd ((hoff 10 (by kernel_rfl)).symm.trans h0_) (by decide)⟩
              refine steps_cons ?_ ?_
              · rintro b a w' ⟨v598, adz_v598, v601, adz_v601, m8_, m10_, ha, Q_HO574, Q_HI569, Q_HB, Q_HI569_e3, Q_HO599, Q_HA_HO599, Q_HO602, Q_HA_HO602, Q_HI569_e7, Q_X8_, Q_X10_⟩ hb_ hon hoff
                refine ⟨_, rfl, fun K hK => ?_⟩
                have e28 : a.tmps[28]? = some (.pointer (some ⟨g569, 0, none⟩)) := by rw [ha]; exact (putSel_off rfl).trans rfl
                replace ha := Aside0.mk ha
                have HO574 := Aside0.mk Q_HO574
                have HB := Aside0.mk Q_HB
                have HI569 := Aside0.mk (Q_HI569_e3 (hon 3 (by kernel_rfl)) hb_)
                refine goes_ Try.func49 (by kernel_rfl) rfl #[.pointer (some ⟨g569, 0, none⟩), .int .i64 7] (by rfl) rfl rfl (by first | (simp only [List.map_toArray, List.map_cons, List.map_nil, Act.eval, Array.getD_eq_getD_getElem?, Option.getD_some, e28]; done) | (simp only [List.map_toArray, List.map_cons, List.map_nil, Act.eval, Array.getD_eq_getD_getElem?, Option.getD_some, e28]; rfl)) ?_
                with_reducible refine (spec_l20Rd_pick.calls k g569 t567 t596 7 t603 t604 w _ ?side1 ?side2 A32.out).mono ?_
                (case side1 => repeat (first | (with_reducible first | exact HI569.out | apply IsS100.alloc | apply IsS100.drewN | apply IsS100.drew | apply IsS100.set_1) | exact HI569.out))
                (case side2 => repeat (first | (with_reducible first | exact HB.out | apply below_alloc | apply pw_below_drewN | apply below_drew1 | refine below_set ?_ (IsS100.ge HI569.out)) | exact HB.out))
                rintro e w44 ⟨rfl, hi, hb, hk⟩
                refine ⟨_, rfl, ?_⟩
                have n0_ := Aside0.mk (Kd.R_mono (Kd.R_keep (IsS100.apart (show IsS100 w _ g569 t567 t596 from by repeat (first | (with_reducible first | exact HI569.out | apply IsS100.alloc | apply IsS100.drewN | apply IsS100.drew | apply IsS100.set_1) | exact HI569.out)) (by (with_reducible repeat (first | apply Kd.R_alloc | apply Kd.R_drewN | apply Kd.R_drew)); exact (Kd.R_mono HO574.out (fun _ hk => by first | exact hk | exact hk.2 | exact hk.1 | exact trivial | exact ⟨hk.1, hk.2.1⟩ | exact ⟨hk.1.2, hk.2⟩ | exact ⟨hk.2, hk.1⟩ | exact ⟨hk.1.1, hk.2⟩ | exact ⟨hk.2.1, hk.2.2⟩ | exact ⟨hk.2.2, hk.2.1⟩ | exact ⟨hk.1.2, hk.1.1⟩ | exact ⟨hk.1.2, hk.2⟩ | exact ⟨hk.2, hk.1.2⟩ | exact ⟨hk.2, hk.1.1⟩ | exact hk.1.1 | exact hk.1.2 | exact hk.2.1 | exact hk.2.2))) (by decide)) hk (fun _ h => h.2)) (fun _ h => h.1))
                have n1_ := Aside0.mk (hb)
                have n2_ := Aside0.mk (hi)
                have z_HO599 := fun (h0_ : b 4 = true) => (show Kd.R (Kd.int .i64) 3 w44 w.heap.size (fun k_ => some k_ ≠ (v573 : Value).ownBlock) v598 y597 from by first | exact (Kd.R_mono (Kd.R_keep (IsS100.apart (show IsS100 w _ g569 t567 t596 from by repeat (first | (with_reducible first | exact HI569.out | apply IsS100.alloc | apply IsS100.drewN | apply IsS100.drew | apply IsS100.set_1) | exact HI569.out)) (by (with_reducible repeat (first | apply Kd.R_alloc | apply Kd.R_drewN | apply Kd.R_drew)); exact (Q_HO599 h0_)) (by decide)) hk (fun _ h => h.2)) (fun _ h => h.1)) | exact Kd.R_mono (Kd.R_mono (Kd.R_keep (IsS100.apart (show IsS100 w _ g569 t567 t596 from by repeat (first | (with_reducible first | exact HI569.out | apply IsS100.alloc | apply IsS100.drewN | apply IsS100.drew | apply IsS100.set_1) | exact HI569.out)) (by (with_reducible repeat (first | apply Kd.R_alloc | apply Kd.R_drewN | apply Kd.R_drew)); exact (Q_HO599 h0_)) (by decide)) hk (fun _ h => h.2)) (fun _ h => h.1)) (fun _ h_ => by first | trivial | exact h_ | exact h_.1))
                have z_HO602 := fun (h0_ : b 5 = true) => (show Kd.R (Kd.int .i64) 3 w44 w.heap.size (fun k_ => some k_ ≠ (v573 : Value).ownBlock) v601 y600 from by first | exact (Kd.R_mono (Kd.R_keep (IsS100.apart (show IsS100 w _ g569 t567 t596 from by repeat (first | (with_reducible first | exact HI569.out | apply IsS100.alloc | apply IsS100.drewN | apply IsS100.drew | apply IsS100.set_1) | exact HI569.out)) (by (with_reducible repeat (first | apply Kd.R_alloc | apply Kd.R_drewN | apply Kd.R_drew)); exact (Q_HO602 h0_)) (by decide)) hk (fun _ h => h.2)) (fun _ h => h.1)) | exact Kd.R_mono (Kd.R_mono (Kd.R_keep (IsS100.apart (show IsS100 w _ g569 t567 t596 from by repeat (first | (with_reducible first | exact HI569.out | apply IsS100.alloc | apply IsS100.drewN | apply IsS100.drew | apply IsS100.set_1) | exact HI569.out)) (by (with_reducible repeat (first | apply Kd.R_alloc | apply Kd.R_drewN | apply Kd.R_drew)); exact (Q_HO602 h0_)) (by decide)) hk (fun _ h => h.2)) (fun _ h => h.1)) (fun _ h_ => by first | trivial | exact h_ | exact h_.1))
                clear HO574
                clear HB
                clear HI569
                have HO574 := n0_
                have HB := n1_
                have HI569 := n2_
                clear n0_ n1_ n2_
                (try clear hb)
                (try clear hb2)
                (try clear hk)
                (try clear hi)
                refine hK.out _ _ ⟨v598, adz_v598, v601, adz_v601, m8_, m10_, (by rw [ha.out]; exact putSel_upk 3 hb_ rfl rfl rfl), (by (with_reducible repeat (first | apply Kd.R_alloc | apply Kd.R_drewN | apply Kd.R_drew)); exact (Kd.R_mono HO574.out (fun _ hk => by first | exact hk | exact hk.2 | exact hk.1 | exact trivial | exact ⟨hk.1, hk.2.1⟩ | exact ⟨hk.1.2, hk.2⟩ | exact ⟨hk.2, hk.1⟩ | exact ⟨hk.1.1, hk.2⟩ | exact ⟨hk.2.1, hk.2.2⟩ | exact ⟨hk.2.2, hk.2.1⟩ | exact ⟨hk.1.2, hk.1.1⟩ | exact ⟨hk.1.2, hk.2⟩ | exact ⟨hk.2, hk.1.2⟩ | exact ⟨hk.2, hk.1.1⟩ | exact hk.1.1 | exact hk.1.2 | exact hk.2.1 | exact hk.2.2))), fun h0_ => absurd ((hon 3 (by kernel_rfl)).symm.trans h0_) (by decide), (by repeat (first | (with_reducible first | exact HB.out | apply below_alloc | apply pw_below_drewN | apply below_drew1 | refine below_set ?_ (IsS100.ge HI569.out)) | exact HB.out)), fun _ h1_ => absurd ((up_self b 7).symm.trans h1_) (by decide), z_HO599, Q_HA_HO599, z_HO602, Q_HA_HO602, fun _ => (by repeat (first | (with_reducible first | exact HI569.out | apply IsS100.alloc | apply IsS100.drewN | apply IsS100.drew | apply IsS100.set_1) | exact HI569.out)), fun h0_ => absurd ((hoff 8 (by kernel_rfl)).symm.trans h0_) (by decide), fun h0_ => absurd ((hoff 10 (by kernel_rfl)).symm.trans h0_) (by decide)⟩
              refine steps_cons ?_ ?_
              · rintro b a w' ⟨v598, adz_v598, v601, adz_v601, m8_, m10_, ha, Q_HO574, Q_HI569, Q_HB, Q_HI569_e3, Q_HO599, Q_HA_HO599, Q_HO602, Q_HA_HO602, Q_HI569_e7, Q_X8_, Q_X10_⟩ hb_ hon hoff
                refine ⟨_, rfl, fun K hK => ?_⟩
                have e27 : a.tmps[27]? = some (v601) := by rw [ha]; exact putSel_on (e := (5, 27, v601)) 2 rfl rfl (hon 5 (by kernel_rfl)) rfl
                have e29 : a.tmps[29]? = some (.int .i64 t603) := by rw [ha]; exact putSel_on (e := (7, 29, .int .i64 t603)) 3 rfl rfl (hon 7 (by kernel_rfl)) rfl
                replace ha := Aside0.mk ha
                have HO574 := Aside0.mk Q_HO574
                have HB := Aside0.mk Q_HB
                have HO602 := Aside0.mk (Q_HO602 (hon 5 (by kernel_rfl)))
                have HA_HO602 := Aside0.mk (Q_HA_HO602 (hon 5 (by kernel_rfl)))
                have HI569 := Aside0.mk (Q_HI569_e7 (hon 7 (by kernel_rfl)))
                obtain ⟨c_, hv_⟩ := HA_HO602.out
                rw [hv_] at e27
                refine value_ (w1 := w') (v := .pointer (some (adz_v601.add (t603).toNat))) (by rfl) rfl ?_ ?_
                · go_simp
                  (try simp only [i64_w])
                  try rfl
                refine hK.out _ _ ⟨v598, adz_v598, v601, adz_v601, (.pointer (some (adz_v601.add (t603).toNat))), m10_, (by rw [ha.out]; exact putSel_upk 4 hb_ rfl rfl rfl), Q_HO574, fun h0_ => absurd ((hon 3 (by kernel_rfl)).symm.trans h0_) (by decide), Q_HB, fun _ h1_ => absurd ((hon 7 (by kernel_rfl)).symm.trans h1_) (by decide), Q_HO599, Q_HA_HO599, Q_HO602, Q_HA_HO602, Q_HI569_e7, fun _ => rfl, fun h0_ => absurd ((hoff 10 (by kernel_rfl)).symm.trans h0_) (by decide)⟩
              refine steps_cons ?_ ?_
              · rintro b a w' ⟨v598, adz_v598, v601, adz_v601, m8_, m10_, ha, Q_HO574, Q_HI569, Q_HB, Q_HI569_e3, Q_HO599, Q_HA_HO599, Q_HO602, Q_HA_HO602, Q_HI569_e7, Q_X8_, Q_X10_⟩ hb_ hon hoff
                refine ⟨_, rfl, fun K hK => ?_⟩
                have e30 : a.tmps[30]? = some (m8_) := by rw [ha]; exact putSel_on (e := (8, 30, m8_)) 4 rfl rfl (hon 8 (by kernel_rfl)) rfl
                rw [Q_X8_ (hon 8 (by kernel_rfl))] at e30
                replace ha := Aside0.mk ha
                have HO574 := Aside0.mk Q_HO574
                have HB := Aside0.mk Q_HB
                have HO602 := Aside0.mk (Q_HO602 (hon 5 (by kernel_rfl)))
                have HA_HO602 := Aside0.mk (Q_HA_HO602 (hon 5 (by kernel_rfl)))
                have HI569 := Aside0.mk (Q_HI569_e7 (hon 7 (by kernel_rfl)))
                obtain ⟨c_, hv_⟩ := HA_HO602.out
                have hF_ := HO602.out
                rw [hv_] at hF_
                obtain ⟨ad_, ea_, hx_⟩ := Kd.at_int (Kd.R_reads' hF_).2.2 t603 (of_eq_true pi605) (of_eq_true qi605)
                cases ea_
                refine value_ (w1 := w') (v := .int .i64 (rd y600 t603)) (by rfl) rfl ?_ ?_
                · go_simp
                  (try simp only [i64_w])
                  try rfl
                refine hK.out _ _ ⟨v598, adz_v598, v601, adz_v601, m8_, m10_, (by rw [ha.out]; exact putSel_upk 5 hb_ rfl rfl rfl), Q_HO574, fun h0_ => absurd ((hon 3 (by kernel_rfl)).symm.trans h0_) (by decide), Q_HB, fun _ h1_ => absurd ((hon 7 (by kernel_rfl)).symm.trans h1_) (by decide), Q_HO599, Q_HA_HO599, Q_HO602, Q_HA_HO602, Q_HI569_e7, Q_X8_, fun h0_ => absurd ((hoff 10 (by kernel_rfl)).symm.trans h0_) (by decide)⟩
              refine steps_cons ?_ ?_
              · rintro b a w' ⟨v598, adz_v598, v601, adz_v601, m8_, m10_, ha, Q_HO574, Q_HI569, Q_HB, Q_HI569_e3, Q_HO599, Q_HA_HO599, Q_HO602, Q_HA_HO602, Q_HI569_e7, Q_X8_, Q_X10_⟩ hb_ hon hoff
                refine ⟨_, rfl, fun K hK => ?_⟩
                have e26 : a.tmps[26]? = some (v598) := by rw [ha]; exact putSel_on (e := (4, 26, v598)) 1 rfl rfl (hon 4 (by kernel_rfl)) rfl
                have e31 : a.tmps[31]? = some (.int .i64 (rd y600 t603)) := by rw [ha]; exact putSel_on (e := (9, 31, .int .i64 (rd y600 t603))) 5 rfl rfl (hon 9 (by kernel_rfl)) rfl
                replace ha := Aside0.mk ha
                have HO574 := Aside0.mk Q_HO574
                have HB := Aside0.mk Q_HB
                have HO599 := Aside0.mk (Q_HO599 (hon 4 (by kernel_rfl)))
                have HA_HO599 := Aside0.mk (Q_HA_HO599 (hon 4 (by kernel_rfl)))
                have HO602 := Aside0.mk (Q_HO602 (hon 5 (by kernel_rfl)))
                have HA_HO602 := Aside0.mk (Q_HA_HO602 (hon 5 (by kernel_rfl)))
                have HI569 := Aside0.mk (Q_HI569_e7 (hon 7 (by kernel_rfl)))
                obtain ⟨c_, hv_⟩ := HA_HO599.out
                rw [hv_] at e26
                refine value_ (w1 := w') (v := .pointer (some (adz_v598.add ((rd y600 t603)).toNat))) (by rfl) rfl ?_ ?_
                · go_simp
                  (try simp only [i64_w])
                  try rfl
                refine hK.out _ _ ⟨v598, adz_v598, v601, adz_v601, m8_, (.pointer (some (adz_v598.add ((rd y600 t603)).toNat))), (by rw [ha.out]; exact putSel_upk 6 hb_ rfl rfl rfl), Q_HO574, fun h0_ => absurd ((hon 3 (by kernel_rfl)).symm.trans h0_) (by decide), Q_HB, fun _ h1_ => absurd ((hon 7 (by kernel_rfl)).symm.trans h1_) (by decide), Q_HO599, Q_HA_HO599, Q_HO602, Q_HA_HO602, Q_HI569_e7, Q_X8_, fun _ => rfl⟩
              refine steps_cons ?_ ?_
              · rintro b a w' ⟨v598, adz_v598, v601, adz_v601, m8_, m10_, ha, Q_HO574, Q_HI569, Q_HB, Q_HI569_e3, Q_HO599, Q_HA_HO599, Q_HO602, Q_HA_HO602, Q_HI569_e7, Q_X8_, Q_X10_⟩ hb_ hon hoff
                refine ⟨_, rfl, fun K hK => ?_⟩
                have e32 : a.tmps[32]? = some (m10_) := by rw [ha]; exact putSel_on (e := (10, 32, m10_)) 6 rfl rfl (hon 10 (by kernel_rfl)) rfl
                rw [Q_X10_ (hon 10 (by kernel_rfl))] at e32
                replace ha := Aside0.mk ha
                have HO574 := Aside0.mk Q_HO574
                have HB := Aside0.mk Q_HB
                have HO599 := Aside0.mk (Q_HO599 (hon 4 (by kernel_rfl)))
                have HA_HO599 := Aside0.mk (Q_HA_HO599 (hon 4 (by kernel_rfl)))
                have HO602 := Aside0.mk (Q_HO602 (hon 5 (by kernel_rfl)))
                have HA_HO602 := Aside0.mk (Q_HA_HO602 (hon 5 (by kernel_rfl)))
                have HI569 := Aside0.mk (Q_HI569_e7 (hon 7 (by kernel_rfl)))
                obtain ⟨c_, hv_⟩ := HA_HO599.out
                have hF_ := HO599.out
                rw [hv_] at hF_
                obtain ⟨ad_, ea_, hx_⟩ := Kd.at_int (Kd.R_reads' hF_).2.2 (rd y600 t603) (of_eq_true pi606) (of_eq_true qi606)
                cases ea_
                refine value_ (w1 := w') (v := .int .i64 (rd y597 (rd y600 t603))) (by rfl) rfl ?_ ?_
                · go_simp
                  (try simp only [i64_w])
                  try rfl
                refine hK.out _ _ ⟨v598, adz_v598, v601, adz_v601, m8_, m10_, (by rw [ha.out]; exact putSel_upk 7 hb_ rfl rfl rfl), Q_HO574, fun h0_ => absurd ((hon 3 (by kernel_rfl)).symm.trans h0_) (by decide), Q_HB, fun _ h1_ => absurd ((hon 7 (by kernel_rfl)).symm.trans h1_) (by decide), Q_HO599, Q_HA_HO599, Q_HO602, Q_HA_HO602, Q_HI569_e7, Q_X8_, Q_X10_⟩
              refine steps_cons ?_ ?_
              · rintro b a w' ⟨v598, adz_v598, v601, adz_v601, m8_, m10_, ha, Q_HO574, Q_HI569, Q_HB, Q_HI569_e3, Q_HO599, Q_HA_HO599, Q_HO602, Q_HA_HO602, Q_HI569_e7, Q_X8_, Q_X10_⟩ hb_ hon hoff
                refine ⟨_, rfl, fun K hK => ?_⟩
                have e22 : a.tmps[22]? = some (v573) := by rw [ha]; exact (putSel_off rfl).trans rfl
                replace ha := Aside0.mk ha
                have HO574 := Aside0.mk Q_HO574
                have HB := Aside0.mk Q_HB
                have HI569 := Aside0.mk (Q_HI569_e7 (hon 7 (by kernel_rfl)))
                refine value_ (w1 := w') (v := v573) (by rfl) rfl ?_ ?_
                · go_simp
                  (try simp only [i64_w])
                  try rfl
                refine hK.out _ _ ⟨v598, adz_v598, v601, adz_v601, m8_, m10_, (by rw [ha.out]; exact putSel_upk 8 hb_ rfl rfl rfl), Q_HO574, fun h0_ => absurd ((hon 3 (by kernel_rfl)).symm.trans h0_) (by decide), Q_HB, fun _ h1_ => absurd ((hon 7 (by kernel_rfl)).symm.trans h1_) (by decide), Q_HO599, Q_HA_HO599, Q_HO602, Q_HA_HO602, Q_HI569_e7, Q_X8_, Q_X10_⟩
              refine steps_cons ?_ ?_
              · rintro b a w' ⟨v598, adz_v598, v601, adz_v601, m8_, m10_, ha, Q_HO574, Q_HI569, Q_HB, Q_HI569_e3, Q_HO599, Q_HA_HO599, Q_HO602, Q_HA_HO602, Q_HI569_e7, Q_X8_, Q_X10_⟩ hb_ hon hoff
                refine ⟨_, rfl, fun K hK => ?_⟩
                have e23 : a.tmps[23]? = some (.int .i64 t570) := by rw [ha]; exact (putSel_off rfl).trans rfl
                replace ha := Aside0.mk ha
                have HO574 := Aside0.mk Q_HO574
                have HB := Aside0.mk Q_HB
                have HI569 := Aside0.mk (Q_HI569_e7 (hon 7 (by kernel_rfl)))
                refine value_ (w1 := w') (v := .int .i64 t570) (by rfl) rfl ?_ ?_
                · go_simp
                  (try simp only [i64_w])
                  try rfl
                refine hK.out _ _ ⟨v598, adz_v598, v601, adz_v601, m8_, m10_, (by rw [ha.out]; exact putSel_upk 9 hb_ rfl rfl rfl), Q_HO574, fun h0_ => absurd ((hon 3 (by kernel_rfl)).symm.trans h0_) (by decide), Q_HB, fun _ h1_ => absurd ((hon 7 (by kernel_rfl)).symm.trans h1_) (by decide), Q_HO599, Q_HA_HO599, Q_HO602, Q_HA_HO602, Q_HI569_e7, Q_X8_, Q_X10_⟩
              refine steps_cons ?_ ?_
              · rintro b a w' ⟨v598, adz_v598, v601, adz_v601, m8_, m10_, ha, Q_HO574, Q_HI569, Q_HB, Q_HI569_e3, Q_HO599, Q_HA_HO599, Q_HO602, Q_HA_HO602, Q_HI569_e7, Q_X8_, Q_X10_⟩ hb_ hon hoff
                refine ⟨_, rfl, fun K hK => ?_⟩
                have e33 : a.tmps[33]? = some (.int .i64 (rd y597 (rd y600 t603))) := by rw [ha]; exact putSel_on (e := (11, 33, .int .i64 (rd y597 (rd y600 t603)))) 7 rfl rfl (hon 11 (by kernel_rfl)) rfl
                replace ha := Aside0.mk ha
                have HO574 := Aside0.mk Q_HO574
                have HB := Aside0.mk Q_HB
                have HO599 := Aside0.mk (Q_HO599 (hon 4 (by kernel_rfl)))
                have HA_HO599 := Aside0.mk (Q_HA_HO599 (hon 4 (by kernel_rfl)))
                have HO602 := Aside0.mk (Q_HO602 (hon 5 (by kernel_rfl)))
                have HA_HO602 := Aside0.mk (Q_HA_HO602 (hon 5 (by kernel_rfl)))
                have HI569 := Aside0.mk (Q_HI569_e7 (hon 7 (by kernel_rfl)))
                refine value_ (w1 := w') (v := .int .i64 (rd y597 (rd y600 t603))) (by rfl) rfl ?_ ?_
                · go_simp
                  (try simp only [i64_w])
                  try rfl
                refine hK.out _ _ ⟨v598, adz_v598, v601, adz_v601, m8_, m10_, (by rw [ha.out]; exact putSel_upk 10 hb_ rfl rfl rfl), Q_HO574, fun h0_ => absurd ((hon 3 (by kernel_rfl)).symm.trans h0_) (by decide), Q_HB, fun _ h1_ => absurd ((hon 7 (by kernel_rfl)).symm.trans h1_) (by decide), Q_HO599, Q_HA_HO599, Q_HO602, Q_HA_HO602, Q_HI569_e7, Q_X8_, Q_X10_⟩
              exact steps_nil
            rintro b a w50 hall ⟨v598, adz_v598, v601, adz_v601, m8_, m10_, ha, Q_HO574, Q_HI569, Q_HB, Q_HI569_e3, Q_HO599, Q_HA_HO599, Q_HO602, Q_HA_HO602, Q_HI569_e7, Q_X8_, Q_X10_⟩
            clear HB HI569 HO574
            have hb3_ := hall 3 (by kernel_rfl)
            have hb4_ := hall 4 (by kernel_rfl)
            have hb5_ := hall 5 (by kernel_rfl)
            have hb7_ := hall 7 (by kernel_rfl)
            have hb8_ := hall 8 (by kernel_rfl)
            have hb9_ := hall 9 (by kernel_rfl)
            have hb10_ := hall 10 (by kernel_rfl)
            have hb11_ := hall 11 (by kernel_rfl)
            have hb12_ := hall 12 (by kernel_rfl)
            have hb13_ := hall 13 (by kernel_rfl)
            have hb14_ := hall 14 (by kernel_rfl)
            subst ha
            obtain rfl := Q_X8_ hb8_
            obtain rfl := Q_X10_ hb10_
            simp only [putSel, hb3_, hb4_, hb5_, hb7_, hb8_, hb9_, hb10_, hb11_, hb12_, hb13_, hb14_, if_true, Act.put, List.setIfInBounds_toArray, List.set_cons_zero, List.set_cons_succ]
            have HO574 := Aside0.mk Q_HO574
            clear Q_HO574
            clear Q_HI569
            have HB := Aside0.mk Q_HB
            clear Q_HB
            clear Q_HI569_e3
            have HO599 := Aside0.mk (Q_HO599 hb4_)
            clear Q_HO599
            have HA_HO599 := Aside0.mk (Q_HA_HO599 hb4_)
            clear Q_HA_HO599
            have HO602 := Aside0.mk (Q_HO602 hb5_)
            clear Q_HO602
            have HA_HO602 := Aside0.mk (Q_HA_HO602 hb5_)
            clear Q_HA_HO602
            have HI569 := Aside0.mk (Q_HI569_e7 hb7_)
            clear Q_HI569_e7
            clear hall hb3_ hb4_ hb5_ hb7_ hb8_ hb9_ hb10_ hb11_ hb12_ hb13_ hb14_
            obtain ⟨co51, eo51⟩ := HA_HO599.out
            clear HA_HO599
            subst eo51
            obtain ⟨co52, eo52⟩ := HA_HO602.out
            clear HA_HO602
            subst eo52
            try go_wp2
            go_ret3
            exact ⟨_, by first | rfl | (simp [errW_none, errW_some] <;> rfl) | (simp [*, errW_none, errW_some] <;> rfl), Kd.Q_of_R (by (with_reducible repeat (first | apply Kd.R_alloc | apply Kd.R_drewN | apply Kd.R_drew)); exact (Kd.R_mono HO574.out (fun _ hk => by first | exact hk | exact hk.2 | exact hk.1 | exact trivial | exact ⟨hk.1, hk.2.1⟩ | exact ⟨hk.1.2, hk.2⟩ | exact ⟨hk.2, hk.1⟩ | exact ⟨hk.1.1, hk.2⟩ | exact ⟨hk.2.1, hk.2.2⟩ | exact ⟨hk.2.2, hk.2.1⟩ | exact ⟨hk.1.2, hk.1.1⟩ | exact ⟨hk.1.2, hk.2⟩ | exact ⟨hk.2, hk.1.2⟩ | exact ⟨hk.2, hk.1.1⟩ | exact hk.1.1 | exact hk.1.2 | exact hk.2.1 | exact hk.2.2))), by repeat (first | (with_reducible first | exact HB.out | apply below_alloc | apply pw_below_drewN | apply below_drew1 | refine below_set ?_ (IsS100.ge HI569.out)) | exact HB.out)⟩
          · rw [if_neg c36] at H
            exact absurd H (by simp)
        · rw [if_neg c35] at H
          exact absurd H (by simp)
      · rw [if_neg c34] at H
        exact absurd H (by simp)
    · rw [if_neg c33] at H
      exact absurd H (by simp)
end Go.Proofs.Ytbcikbekdhdpaaa.Q
end
