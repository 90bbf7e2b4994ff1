/-
  Draws of a tape, and how many are left.
-/
import Derived.Test.YtpmgocnapdhabaaChecked
import Derived.Test.YtpmgocnapdhabaaIdlCl
import Derived.Test.YtpmgocnapdhabaaPlan
namespace Go.Proofs.Ytpmgocnapdhabaa
open Go Go.Idl
set_option linter.unusedSimpArgs false
set_option linter.unusedVariables false
set_option maxRecDepth 100000
attribute [local irreducible] Go.Idl.IWP Go.Idl.IOps Go.Idl.Obl Go.Idl.OpG Go.Idl.thenI Go.Idl.inBlockI Go.Idl.LoopU
set_option maxHeartbeats 1000000

def T : TT := [(3, ⟨1, 8, [.int .i64], .int .i64⟩), (4, ⟨1, 1, [.bool], .bool⟩), (5, ⟨1, 1, [.int .u8], .int .u8⟩), (9, ⟨1, 16, [.str], .str⟩), (23, ⟨2, 24, [.str, .int .i64], .strct [(0, 9), (1, 3)]⟩),
  (25, ⟨1, 4, [.int .u32], .int .u32⟩), (30, ⟨1, 24, [.slc], .slc 3⟩), (36, ⟨1, 8, [.int .u64], .int .u64⟩), (43, ⟨4, 4, [.int .u8, .int .u8, .int .u8, .int .u8], .arr 4 5⟩), (44, ⟨1, 24, [.slc], .slc 5⟩), (45, ⟨1, 8, [.int .u64], .int .u64⟩), (47, ⟨1, 24, [.slc], .slc 4⟩)]
theorem tok : TOk Try.prog T := TOk.of (by kernel_rfl)

def tape (l : List UInt8) (at_ : Int) : IV := .agg [.str l, .i64 at_]
theorem tape_fresh (l : List UInt8) (p : Int) : (tape l p).fresh = true := rfl
attribute [go_sem] tape_fresh
def drawV (l : List UInt8) (p : Int) : Int := if 0 ≤ p ∧ p < (l.length : Int) / 4 then word32 l (4 * p).toNat else 0
def drawP (l : List UInt8) (p : Int) : Int := if 0 ≤ p ∧ p < (l.length : Int) / 4 then p + 1 else p
theorem drawV_lo (l : List UInt8) (p : Int) : 0 ≤ drawV l p := by unfold drawV; split; exact word32_lo _ _; omega
theorem drawV_hi (l : List UInt8) (p : Int) : drawV l p < 4294967296 := by unfold drawV; split; exact word32_hi _ _; omega

end Go.Proofs.Ytpmgocnapdhabaa
