/- strconv.Itoa, out of the shelf's contract: the decimal numeral, where internal/strconv.uint64pow10 holds its table. -/
import Derived.Test.YtojnknpgnohegaaDoorQ0
import Derived.Test.YtojnknpgnohegaaDoorShelf
import Derived.Lib.AppendIntMem
namespace Go.Proofs.YtojnknpgnohegaaDoor.Q
open Go.RowKit Go.Proofs.YtojnknpgnohegaaDoorW.PrintWords

/-- What the functions over strconv.Itoa ask of the package-level variables. -/
def GW (w : World) : Prop := Lib.TabBelow Tryd.prog w.heap.size w "internal/strconv.uint64pow10" .u64 Lib.pow10Tab
theorem GW.below {w w1 : World} (h : GW w) (hb : Below w.heap.size w w1) : GW w1 := fun w' h' => h w' (below_then hb hb.size h')
theorem GW.mk {w : World} (h : Lib.TabIs Tryd.prog w "internal/strconv.uint64pow10" .u64 Lib.pow10Tab) : GW w := Lib.tabBelow_of_tabIs h

def strconv_Itoa.f (a0 : Int) : Option ByteArray := if -9223372036854775808 ≤ a0 then (if a0 ≤ 9223372036854775807 then some ⟨(Lib.itoa a0).toArray⟩ else none) else none
theorem strconv_Itoa.calls (a0 : Int) (r : ByteArray) (w : World) (hG : GW w) (h : strconv_Itoa.f a0 = some r) :
    Calls Tryd.prog 28 #[.int .i64 a0] w fun e w' => e = .returned (.string r) ∧ Below w.heap.size w w' := by
  unfold strconv_Itoa.f at h
  split at h
  · split at h
    · rename_i h0 h1
      obtain rfl := Option.some.inj h
      refine (Tryd.strconv_Itoa a0 h0 h1 w hG.here).mono ?_
      rintro e w' ⟨rfl, k, os, rfl⟩
      exact ⟨rfl, Lib.below_grow _ _ (Nat.le_refl _) k os⟩
    · cases h
  · cases h
end Go.Proofs.YtojnknpgnohegaaDoor.Q
