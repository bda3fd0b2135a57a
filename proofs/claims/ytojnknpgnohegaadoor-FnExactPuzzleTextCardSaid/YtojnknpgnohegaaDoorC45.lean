/- laws.FnExactPuzzleText: for every input it returns true and leaves its argument as it was, where the listed package-level variables of Go's library hold what the program's text lays in them. -/
import Derived.WalkKit
import Derived.ProofKit
import Derived.OpenShut
import Derived.ShutString
import Derived.ChangeOld
import Derived.Below
import Derived.SizedLaws
import Derived.Carry
import Derived.LaidMore
import Derived.Stop.Joined
import Derived.Stop.LaidErr
import Derived.SevenTiedAt
import Derived.MakeChecks
import Derived.Test.YtojnknpgnohegaaDoorC44
import Derived.Test.YtojnknpgnohegaaDoorRows
import Derived.Test.YtojnknpgnohegaaDoorCards
import Derived.Test.YtojnknpgnohegaaDoorTie
section
namespace Go.Proofs.YtojnknpgnohegaaDoor.FnExactPuzzleText
open Go.ChangeShapes Go.WideShapes Go.ChangeAt Go.RowKit Go.Proofs.YtojnknpgnohegaaDoorW.PrintWords Go.Proofs.YtojnknpgnohegaaDoor.Q
theorem own : ownKnob Tryd.prog.godebug = none := by kernel_rfl
theorem laidOut : laidOutB Tryd.prog = true := by kernel_rfl
set_option maxRecDepth 100000 in
theorem door_met (os : Os) (args : Array Value) : laidMetH Tryd.prog Rows.fnExactPuzzleTextRow.laid ((World.doorLaid Tryd.prog 62 os).forCall (fun _ _ => 0) ⟨#[], args, []⟩).memory :=
  laidMetH_of_parts3 (fuel := 8) (laidMet_of_run' 8 (by kernel_rfl) (by kernel_rfl)) (by kernel_rfl) (by kernel_rfl)
theorem of_laid {W : World} (h : laidMetH Tryd.prog Rows.fnExactPuzzleTextRow.laid W) : GW W := by
  rw [MakeChecks.laidMetH_plain _ _ _ (by kernel_rfl)] at h
  exact GW.mk (Lib.tabIs_of_head (g := 3) (t := 105) (e := 92) (n := 20) (by kernel_rfl) (by kernel_rfl) Tryd.underlying105 Tryd.underlying92 (by kernel_rfl) (by kernel_rfl) (show laidMet Tryd.prog (("internal/strconv.uint64pow10", Lib.tabData .u64 Lib.pow10Tab) :: _) W from h.tail.tail))
set_option maxRecDepth 100000 in
theorem lifted (os : Os) (started : os.Started) (H : Type) (enc : TypeId × Value → H) :
    ReturnsInHanded {} Tryd.checked os 6 .any (fun w args => (Rows.fnExactPuzzleTextSpec.pre enc Tryd.prog Tryd.f6 [] false w args ∧ laidMetH Tryd.prog Rows.fnExactPuzzleTextRow.laid w) ∧ sizedMet enc Tryd.prog Tryd.f6 (OpenSpec.ofChange Rows.fnExactPuzzleTextSpec) false w args)
      (Rows.fnExactPuzzleTextSpec.post enc Tryd.prog Tryd.f6 false true false false) := by
  refine returnsInHanded_of_change_and (C := Tryd.checked) (X := fun w _ => laidMetH Tryd.prog Rows.fnExactPuzzleTextRow.laid w) (fun _ _ _ hh h => h.of_heap hh) own started (by kernel_rfl) Tryd.func6
    (ChangeSpec.witness_shaped (enc := enc) (C := Tryd.checked) (os := os) (X := fun w _ => laidMetH Tryd.prog Rows.fnExactPuzzleTextRow.laid w) false (World.doorLaid Tryd.prog 62 os) #[.agg #[.int .i64 0, .slice none 0 0, .slice none 0 0]] 8 rfl (World.shaped_of_RefB (by kernel_rfl) (by kernel_rfl)) (by kernel_rfl) (by kernel_rfl) (by kernel_rfl) (door_met os _)) ?_
  intro W base args ds gs before hval0 hW _ _ hL _
  have hval : ∀ (j : Nat) t v, Tryd.f6.params[j]? = some t → args[j]? = some v → Value.okWide Tryd.prog W .any base t v := hval0
  have hW' := hW
  obtain ⟨p, q, hA0, hV, rfl, _, _⟩ := hW
  have hA : DataW.TrodAll enc Tryd.prog W 0 (fun _ => true) true Tryd.f6.params.toList args.toList ds p := hA0
  rw [Tryd.params6] at hA hval
  obtain ⟨v0, vs0, d0, ds0, p0, q0, hargs, rfl, rfl, h0, r0⟩ := trodAll_cons hA
  obtain ⟨rfl, rfl, rfl⟩ := trodAll_nil r0
  obtain rfl : args = #[v0] := by cases args; simp_all
  obtain ⟨rfl, rfl⟩ := trodVars_none hV
  have k0_ := h0
  have lt0 : ∀ x ∈ p0, x.block < W.heap.size := by obtain ⟨m, hm⟩ := k0_; exact DataW.trod_lt m _ _ _ hm
  obtain ⟨⟨x0, x1, x2⟩, cs0, rfl, hK0, g0, ⟨m1, g1⟩, ⟨m2, g2⟩⟩ := agg_of Tryd.underlying43 (hval 0 43 v0 rfl rfl) h0 (Opens.struct3 (d2 := Kd.slice 34 k34) (fun x : Int × List Int × List S34 => x) (fun x y z => (x, y, z)) (fun _ _ _ => rfl) Tryd.underlying43 (by kernel_rfl) rfl rfl rfl (Opens.int Tryd.underlying3 (by kernel_rfl)) (Opens.slice Tryd.underlying32 (by kernel_rfl) (Opens.int Tryd.underlying3 (by kernel_rfl))) (Opens.slice Tryd.underlying41 (by kernel_rfl) (Opens.struct3 (fun x : S34 => (x.f0, x.f1, x.f2)) (fun x y z => ⟨x, y, z⟩) (fun _ _ _ => rfl) Tryd.underlying34 (by kernel_rfl) rfl rfl rfl (Opens.int Tryd.underlying3 (by kernel_rfl)) (Opens.slice Tryd.underlying32 (by kernel_rfl) (Opens.int Tryd.underlying3 (by kernel_rfl))) (Opens.int Tryd.underlying3 (by kernel_rfl)))))
  obtain ⟨_, _, rfl, rfl, _, _, rfl, ⟨A1, c1, rfl, l1, C1⟩, ⟨A2, c2, rfl, l2, C2⟩⟩ := hK0
  clear hA0 hval0
  obtain ⟨k, hk⟩ := pure_FnExactPuzzleText x0 x1 x2 g0 m1 g1 m2 g2
  refine (laws_FnExactPuzzleText.calls k x0 _ _ x1 _ _ x2 true W C1 l1 C2 l2 (of_laid hL) hk).mono fun e W' ⟨he, bel⟩ => ?_
  subst he
  exact ⟨_, rfl, _, _, _, [], _, [], hW', trodAll_mk1 (shut_bool Tryd.underlying4 _), (trodAll_cons_mk (Below.trod laidOut (by kernel_rfl) (of_decide_eq_true (by kernel_rfl)) k0_ bel lt0) trodAll_mk0), rfl, bel.frame _, fun h => by cases h⟩
theorem over : Rows.fnExactPuzzleTextRow.holds Tryd.pinned (OpenSpec.ofChange Rows.fnExactPuzzleTextSpec) :=
  OpenClaim.holds_of_wide 6 Tryd.f6 rfl rfl rfl rfl rfl rfl rfl ⟨rfl, rfl, rfl, rfl, rfl⟩ rfl rfl rfl rfl rfl (by kernel_rfl) Tryd.func6 (by kernel_rfl)
    (of_decide_eq_true (by kernel_rfl)) (by unfold Func.isWrapper; first | (rw [if_pos (by decide +kernel)]; kernel_rfl) | (rw [if_neg (by decide +kernel)]; exact ⟨rfl, rfl⟩))
    (fun os started H enc _ => lifted os started H enc)
theorem card_holds : Rows.FnExactPuzzleTextCardSaid :=
  Claim7.holds_tied_plain_at .later [] [.data, .data, .data] true (true, "6b034f625a908fc8998258824ba6867cffb7db54fa1710b10f748e4515a1e078") true
    over (fun _ h => by cases h) (by kernel_rfl) (fun _ h => by cases h) fnExactPuzzleText_row_tie rfl ⟨rfl, rfl⟩ (by kernel_rfl) rfl
    (fun f fn hf hfn => by
      obtain rfl : f = 6 := Option.some.inj ((show Tryd.prog.funcNamed Rows.fnExactPuzzleTextRow.func = some 6 by kernel_rfl).symm.trans hf) |>.symm
      obtain rfl : fn = Tryd.f6 := (Option.some.inj (Tryd.func6.symm.trans hfn)).symm
      exact ⟨by kernel_rfl, fun j t ht => by
        rw [Tryd.params6] at ht
        have hm : t ∈ [43] := by simpa using Array.mem_of_getElem? ht
        have hall : ([43].all fun u => !Tryd.prog.wantsStandIn u) = true := by kernel_rfl
        exact (show Tryd.prog.wantsStandIn t = false by simpa using List.all_eq_true.1 hall t hm)⟩)
    (by kernel_rfl)
end Go.Proofs.YtojnknpgnohegaaDoor.FnExactPuzzleText
namespace Go.Proofs.YtojnknpgnohegaaDoor
theorem fnExactPuzzleText_holds : Rows.FnExactPuzzleTextCardSaid := FnExactPuzzleText.card_holds
end Go.Proofs.YtojnknpgnohegaaDoor
end
