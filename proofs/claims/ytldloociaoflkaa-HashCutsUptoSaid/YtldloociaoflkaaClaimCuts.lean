/- HashCuts answers true for any text, cuts and key, where they are together of bulk at most 1048576. -/
import Derived.Test.YtldloociaoflkaaLaw
import Derived.Test.YtldloociaoflkaaUpto
import Derived.Test.YtldloociaoflkaaCuts
namespace Go.Proofs.Ytldloociaoflkaa
open Go.ChangeShapes Go.WideShapes Go.ChangeAt Go.RowKit
open Go.ChangeMaps (open_string)

set_option maxRecDepth 100000 in
theorem cuts_lifted (os : Os) (started : os.Started) (H : Type) (enc : TypeId × Value → H) (F : Stop.Interp) :
    ReturnsInHanded {} Try.checked os 7 .any ((Rows.OpenSpec.upto Rows.hashCutsSpec).pre6 enc Try.prog Try.f7 Rows.hashCutsUptoRow.domain false) (((Rows.OpenSpec.upto Rows.hashCutsSpec).at F).post enc Try.prog Try.f7 false true false false) := by
  refine law_lifted_upto (C := Try.checked) (S := Rows.OpenSpec.upto Rows.hashCutsSpec) (sp := Rows.hashCutsSpec) (k := Rows.uptoSmall) rfl rfl rfl (by kernel_rfl) (by kernel_rfl) started (by kernel_rfl) Try.func7
    (OpenSpec.witness (enc := enc) (C := Try.checked) (s := Rows.OpenSpec.upto Rows.hashCutsSpec) (k := Rows.uptoSmall) rfl false ⟨#[], #[.string ByteArray.empty, .slice none 0 0, .string ByteArray.empty], []⟩ 8 (by kernel_rfl) (by kernel_rfl) (by kernel_rfl) (x := ([.lit (.string []), .nil, .lit (.string [])], [], [])) (by kernel_rfl) rfl (by kernel_rfl))
    (by kernel_rfl) rfl (by kernel_rfl) (tb := 4) rfl (by kernel_rfl) (fun ds hd => by match ds, hd with | [d0, d1, d2], _ => rfl) ?_
  intro W base args ds before hval0 hA0 hk hsz0
  have hval : ∀ (j : Nat) t v, Try.f7.params[j]? = some t → args[j]? = some v → Value.okWide Try.prog W .any base t v := hval0
  have hA : DataW.TrodAll enc Try.prog W 0 (fun _ => true) true Try.f7.params.toList args.toList ds before := hA0
  have hsz : (DataW.weightsEach Try.prog Try.f7.params.toList ds).all (· ≤ reachBytes) = true := hsz0
  clear hval0 hA0 hsz0
  rw [Try.params7] at hA hval hsz
  obtain ⟨v0, v1, v2, d0, d1, d2, p0, p1, p2, rfl, rfl, rfl, h0, h1, h2⟩ := trodAll_three hA
  obtain ⟨a0, rfl, rfl, rfl, ws0⟩ := open_string (by kernel_rfl) (hval 0 _ v0 rfl rfl) h0
  obtain ⟨A1, n1, c1, xs1, rfl, hn1, hc1, hr1, hw1, hz1, hd1⟩ := arg_slice (P := Try.prog) (t := 49) (e := 3) (size := 1) (by kernel_rfl) (by kernel_rfl) (by omega) (fun _ => rfl) (el_int (k := .i64) (by kernel_rfl)) (hval 1 _ v1 rfl rfl) h1
  have hs1 := hz1 reachBytes (weightsEach_get hsz 1 rfl rfl)
  clear hz1
  obtain ⟨a2, rfl, rfl, rfl, ws2⟩ := open_string (by kernel_rfl) (hval 2 _ v2 rfl rfl) h2
  have hb := bulk_of _ hk
  simp only [Rows.uptoBulkAll] at hb
  have hb0 := bulk_string (H := H) a0
  have hb2 := bulk_string (H := H) a2
  have hb1 := (bulk_slice hd1).2.2
  have hl1 := hr1.1
  rw [hb0, hb2] at hb
  refine (cuts_any a0 A1 n1 c1 xs1 a2 W (by omega) hr1 (fun z hz => wf_i64' (hw1 z hz)) (by omega) (by omega) (Own.start W)).mono ?_
  rintro e W' ⟨rfl, hw⟩
  exact ⟨rfl, hw.below⟩

theorem cuts_holds : Rows.HashCutsUptoSaid :=
  OpenClaim.holds_of_cond 7 Try.f7 rfl rfl rfl rfl rfl rfl rfl ⟨rfl, rfl, rfl, rfl, rfl⟩ rfl rfl rfl rfl rfl (by kernel_rfl) Try.func7 (by kernel_rfl)
    (of_decide_eq_true (by kernel_rfl)) (by unfold Func.isWrapper; rw [if_neg (of_decide_eq_false (by kernel_rfl))]; exact ⟨rfl, rfl⟩)
    (fun os started H enc _ F => cuts_lifted os started H enc F)

end Go.Proofs.Ytldloociaoflkaa
