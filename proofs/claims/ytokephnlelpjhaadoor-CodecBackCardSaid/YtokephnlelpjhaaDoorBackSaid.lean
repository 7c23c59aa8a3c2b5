/- What is read of a text: its own saying, or ErrCodecForm. -/
import Derived.Test.YtokephnlelpjhaaDoorAwake2
namespace Go.Proofs.YtokephnlelpjhaaDoor
open Go.RowKit
theorem b64_size (s : ByteArray) : (b64 s).size = (4 * s.size + 2) / 3 := Six.enc_len _ _
theorem std_size (s : ByteArray) : (std s).size = (s.size + 2) / 3 * 4 := by
  show (Six.enc (sgOf mailB) 0 0 s.data.toList ++ Six.fill s.size).length = _
  rw [List.length_append, Six.enc_len, Six.fill_len]
  have : s.data.toList.length = s.size := rfl
  rw [this]
  omega
theorem hexS_size (s : ByteArray) : (hexS s).size = 2 * s.size := hexL_len _
theorem back_b64 (s : ByteArray) : readV (fromS namesB.data.toList (b64 s).data.toList) = .tuple #[.string s, .int .i64 0] := by
  have h : fromS namesB.data.toList (b64 s).data.toList = some s.data.toList := (fromS_some _ _ _).2 ⟨names_back _, rfl⟩
  rw [h]
  rfl
theorem back_std (s : ByteArray) : readV (fromM (std s).data.toList) = .tuple #[.string s, .int .i64 0] := by
  have h : fromM (std s).data.toList = some s.data.toList := (fromM_some _ _).2 rfl
  rw [h]
  rfl
theorem back_hex (s : ByteArray) : readV (unhexL (hexS s).data.toList) = .tuple #[.string s, .int .i64 0] := by
  have h : unhexL (hexS s).data.toList = some s.data.toList := hex_back _
  rw [h]
  rfl
theorem said_b64 (x : ByteArray) : (∃ t : ByteArray, readV (fromS namesB.data.toList x.data.toList) = .tuple #[.string t, .int .i64 0] ∧ b64 t = x) ∨ readV (fromS namesB.data.toList x.data.toList) = .tuple #[.string ⟨#[]⟩, .int .i64 24] := by
  cases h : fromS namesB.data.toList x.data.toList with
  | none => exact .inr rfl
  | some t => exact .inl ⟨⟨t.toArray⟩, rfl, (bytes_ext x _ ((fromS_some _ _ _).1 h).2.symm).symm⟩
theorem said_std (x : ByteArray) : (∃ t : ByteArray, readV (fromM x.data.toList) = .tuple #[.string t, .int .i64 0] ∧ std t = x) ∨ readV (fromM x.data.toList) = .tuple #[.string ⟨#[]⟩, .int .i64 24] := by
  cases h : fromM x.data.toList with
  | none => exact .inr rfl
  | some t => exact .inl ⟨⟨t.toArray⟩, rfl, (bytes_ext x _ ((fromM_some _ _).1 h)).symm⟩
theorem said_hex (x : ByteArray) : (∃ t : ByteArray, readV (unhexL x.data.toList) = .tuple #[.string t, .int .i64 0] ∧ hexS t = x) ∨ readV (unhexL x.data.toList) = .tuple #[.string ⟨#[]⟩, .int .i64 24] := by
  cases h : unhexL x.data.toList with
  | none => exact .inr rfl
  | some t => exact .inl ⟨⟨t.toArray⟩, rfl, (bytes_ext x _ (hex_again _ _ h).symm).symm⟩
end Go.Proofs.YtokephnlelpjhaaDoor
