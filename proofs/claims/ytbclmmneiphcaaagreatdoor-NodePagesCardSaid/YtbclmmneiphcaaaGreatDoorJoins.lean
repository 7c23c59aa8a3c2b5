/- latchkeylaw10.NodeJoins (printed by gen_joins.py). -/
import Derived.Test.YtbclmmneiphcaaaGreatDoorPut
namespace Go.Proofs.YtbclmmneiphcaaaGreatDoor
open Go.RowKit
theorem sumSz_take_le (l : List ByteArray) (k : Nat) : sumSz (l.take k) ≤ sumSz l := by
  have := sumSz_app (l.take k) (l.drop k)
  rw [List.take_append_drop] at this; omega
theorem sumSz_drop_le (l : List ByteArray) (k : Nat) : sumSz (l.drop k) ≤ sumSz l := by
  have := sumSz_app (l.take k) (l.drop k)
  rw [List.take_append_drop] at this; omega
theorem over_bulk (n o : Nd) : (n.over o).bulk ≤ n.bulk + o.bulk := by
  have h1 : sumSz (ovr n.ks o.ks) ≤ sumSz n.ks + sumSz o.ks := by
    unfold ovr; rw [sumSz_app]; have := sumSz_take_le o.ks n.ks.length; have := sumSz_drop_le n.ks o.ks.length; omega
  have h2 : sumSz (ovr n.vs o.vs) ≤ sumSz n.vs + sumSz o.vs := by
    unfold ovr; rw [sumSz_app]; have := sumSz_take_le o.vs n.vs.length; have := sumSz_drop_le n.vs o.vs.length; omega
  show sumSz (ovr n.ks o.ks) + sumSz (ovr n.vs o.vs) + (ovr n.ks o.ks).length + (ovr n.vs o.vs).length + (ovr n.ls o.ls).length ≤ n.bulk + o.bulk
  rw [ovr_len, ovr_len, ovr_len]
  unfold Nd.bulk; omega
theorem over_val (gk gv gl : Nat) (n o : Nd) : (lentV gk gv gl (n.over o)).val (n.over o) = (lentV gk gv gl n).val n := by
  show Value.agg #[.bool n.leaf, .slice _ (ovr n.ks o.ks).length ((ovr n.ks o.ks).length + 4), .slice _ (ovr n.vs o.vs).length ((ovr n.vs o.vs).length + 4), .slice _ (ovr n.ls o.ls).length ((ovr n.ls o.ls).length + 4)] = _
  rw [ovr_len, ovr_len, ovr_len]
section
variable {E : World} {S : Ph} {L : List Hp}
/-- a node that is lent lies in what is lent -/
theorem lend_three {w : World} {gk gv gl : Nat} {n : Nd} (hb : n.bulk ≤ 4294967296) (h : Own E w (Hp.three gk gv gl n :: Hp.ro S :: L)) : ∃ a : Ph, Hp.three gk gv gl n a ∧ Ph.apart a S ∧ NdIn (Ph.join a S) (lentV gk gv gl n) n ∧ SpareIn (Ph.join a S) gk gv gl n ∧ Own E w (Hp.ro (Ph.join a S) :: L) := by
  obtain ⟨a, ha, hd, h⟩ := h.lend
  obtain ⟨h1, h2⟩ := three_in hb ha
  exact ⟨a, ha, hd, h1.sub Ph.join_l, h2.sub Ph.join_l, h⟩
theorem newBook {w : World} {b : Nat} (h : Own E w (Hp.blk b BKT #[.slice none 0 0, .slice none 0 0, .slice none 0 0, .slice none 0 0] :: L)) : Own E w (Hp.bk b Bk.nil :: L) :=
  Own.toBk (B := Bk.nil) ((show Own E w (Hp.fams Bk.nil :: Hp.lst LIT (.slice none 0 0) [] :: Hp.lst LIT (.slice none 0 0) [] :: Hp.lst LST (.slice none 0 0) [] :: Hp.lst LST (.slice none 0 0) [] :: Hp.blk b BKT #[.slice none 0 0, .slice none 0 0, .slice none 0 0, .slice none 0 0] :: L) from fams_nil (((((h.emptyLst LST none).emptyLst LST none).emptyLst LIT none).emptyLst LIT none))).ac (by simp only [Hp.all] <;> ac_rfl))
end
end Go.Proofs.YtbclmmneiphcaaaGreatDoor
