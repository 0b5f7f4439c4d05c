/- Sizes read from any flat data. No condition. -/
import Derived.Test.YtcfnckccmkjjlaaLiftB
import Derived.Test.YtcfnckccmkjjlaaCurveB
namespace Go.Proofs.Ytcfnckccmkjjlaa.K
open Go Go.RowKit
def decZ : List Int → M.Sz
  | [a, b] => ⟨a, b⟩
  | _ => ⟨0, 0⟩
theorem decZ_enc : ∀ z : List Int, z.length = 2 → M.encZ (decZ z) = ints z
  | [a, b], _ => rfl
  | [], h => by simp at h
  | [_], h => by simp at h
  | _ :: _ :: _ :: _, h => by simp at h
end Go.Proofs.Ytcfnckccmkjjlaa.K
