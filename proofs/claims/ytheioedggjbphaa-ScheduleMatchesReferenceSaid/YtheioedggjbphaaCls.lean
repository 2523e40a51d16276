/-
  A class of worlds by a condition, for a region that stores (tools/fill.py: %cplan). No program in sight.
-/
import Derived.Test.YtheioedggjbphaaPlan
namespace Sk
open Go
/-- a world with a condition -/
structure Wc (c : World → Prop) where
  w : World
  h : c w
end Sk
