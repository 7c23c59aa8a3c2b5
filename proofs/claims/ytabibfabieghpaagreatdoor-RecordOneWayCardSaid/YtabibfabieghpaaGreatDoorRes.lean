/- Results that lie in owned blocks. No program in sight. -/
import Derived.Test.YtabibfabieghpaaGreatDoorOps
namespace Go.Proofs.YtabibfabieghpaaGreatDoor
open Go.RowKit
section
variable {P : Program} {E w : World} {L : List Hp} {fn : Func} {tmps : Array Value} {t ty : TypeId} {vs us : List Value} {d0 : TypeDesc} {p q p2 q2 : Tmp} {g g2 : Nat}
theorem run_load_blk (h : Own E w (Hp.blk g t vs.toArray :: L)) (hu : P.underlying ty = some d0) (hd0 : d0.isRow = true) (hi : (P.info? ty).map (·.size) = some vs.length) :
    (loadVar ty ⟨g, 0, none⟩).run P w = .ok (.agg vs.toArray) w :=
  run_loadVar_mid (P := P) w g 0 ty vs d0 (h.range 0 vs (fun j u hu => by simpa using hu)) hu hd0 hi
theorem run_as (w : World) : (asAddr (.pointer (some ⟨g, 0, none⟩))).run P w = .ok ⟨g, 0, none⟩ w := rfl
theorem getD_of {x : Value} (h : tmps.getD p undef = x) : tmps[p]?.getD undef = x := by simpa [Array.getD_eq_getD_getElem?] using h
theorem results_ct (hr : fn.results = #[.cell p ty, .tmp q]) (hp : tmps.getD p undef = .pointer (some ⟨g, 0, none⟩)) (h : Own E w (Hp.blk g t vs.toArray :: L)) (hu : P.underlying ty = some d0) (hd0 : d0.isRow = true) (hi : (P.info? ty).map (·.size) = some vs.length) :
    (results fn tmps).run P w = .ok (.tuple #[.agg vs.toArray, tmps.getD q undef]) w := by
  simp [results, hr, getD_of hp, run_as, run_load_blk h hu hd0 hi]
theorem results_ctc (hr : fn.results = #[.cell p ty, .tmp q, .cell p2 ty]) (hp : tmps.getD p undef = .pointer (some ⟨g, 0, none⟩)) (hp2 : tmps.getD p2 undef = .pointer (some ⟨g2, 0, none⟩))
    (h : Own E w (Hp.blk g t vs.toArray :: Hp.blk g2 t us.toArray :: L)) (hu : P.underlying ty = some d0) (hd0 : d0.isRow = true) (hi : (P.info? ty).map (·.size) = some vs.length) (hi2 : (P.info? ty).map (·.size) = some us.length) :
    (results fn tmps).run P w = .ok (.tuple #[.agg vs.toArray, tmps.getD q undef, .agg us.toArray]) w := by
  simp [results, hr, getD_of hp, getD_of hp2, run_as, run_load_blk h hu hd0 hi, run_load_blk h.f1 hu hd0 hi2]
theorem results_ctct (hr : fn.results = #[.cell p ty, .tmp q, .cell p2 ty, .tmp q2]) (hp : tmps.getD p undef = .pointer (some ⟨g, 0, none⟩)) (hp2 : tmps.getD p2 undef = .pointer (some ⟨g2, 0, none⟩))
    (h : Own E w (Hp.blk g t vs.toArray :: Hp.blk g2 t us.toArray :: L)) (hu : P.underlying ty = some d0) (hd0 : d0.isRow = true) (hi : (P.info? ty).map (·.size) = some vs.length) (hi2 : (P.info? ty).map (·.size) = some us.length) :
    (results fn tmps).run P w = .ok (.tuple #[.agg vs.toArray, tmps.getD q undef, .agg us.toArray, tmps.getD q2 undef]) w := by
  simp [results, hr, getD_of hp, getD_of hp2, run_as, run_load_blk h hu hd0 hi, run_load_blk h.f1 hu hd0 hi2]
end
end Go.Proofs.YtabibfabieghpaaGreatDoor
