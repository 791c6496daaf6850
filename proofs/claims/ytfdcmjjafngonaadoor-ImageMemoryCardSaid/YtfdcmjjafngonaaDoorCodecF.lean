/- codec.Size, and the walk of the law CodecNumbers. -/
import Derived.Test.YtfdcmjjafngonaaDoorCodecE
import Derived.Test.YtfdcmjjafngonaaDoorShelf
import Derived.Deep.DeepCutAuto
namespace Go.Proofs.YtfdcmjjafngonaaDoor
open Go.RowKit

theorem ret_intC {k : IntKind} {a b : Int} (h : a = b) : Ending.returned (.int k a) = .returned (.int k b) := by rw [h]

theorem min_cast (n m : Nat) : min (n : Int) (m : Int) = ((min n m : Nat) : Int) := by omega

theorem ba_append (a b : List UInt8) : (⟨a.toArray⟩ ++ ⟨b.toArray⟩ : ByteArray) = ⟨(a ++ b).toArray⟩ := by
  apply ByteArray.ext
  simp [ByteArray.data_append]
theorem ba_append_toList (a b : List UInt8) : (⟨a.toArray⟩ ++ ⟨b.toArray⟩ : ByteArray).toList = a ++ b := by
  rw [ba_append]
  simp [go_sem]

end Go.Proofs.YtfdcmjjafngonaaDoor