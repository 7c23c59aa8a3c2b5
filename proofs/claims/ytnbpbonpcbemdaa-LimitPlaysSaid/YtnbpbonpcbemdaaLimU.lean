/- The names that are kept stay unlike. -/
import Derived.Test.YtnbpbonpcbemdaaLimF
namespace Go.Proofs.Ytnbpbonpcbemdaa
open Go.RowKit
theorem took_nodup {rate burst cost : Nat} {l : List Bkt} {s : ByteArray} {now : Int} (h : (l.map Bkt.name).Nodup) : ((tookN rate burst l s cost now).map Bkt.name).Nodup := by
  unfold tookN
  rw [dropR_eq]
  refine List.Sublist.nodup ((List.take_sublist 16 _).map _) ?_
  rw [List.map_cons, List.nodup_cons]
  exact ⟨dropR_not l s h, (dropR_sub l s).nodup h⟩
end Go.Proofs.Ytnbpbonpcbemdaa
