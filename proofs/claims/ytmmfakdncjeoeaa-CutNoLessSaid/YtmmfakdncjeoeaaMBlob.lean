/- Plain laws on a text's bytes (layer 2). -/
import Derived.Test.YtmmfakdncjeoeaaMW
import Derived.Test.YtmmfakdncjeoeaaPCx4
namespace Go.Proofs.Ytmmfakdncjeoeaa.MBlob
open Go.RowKit Go.Proofs.Ytmmfakdncjeoeaa.PC Go.Proofs.Ytmmfakdncjeoeaa.MW Go.Proofs.YtmmfakdncjeoeaaW.PrintWords Go.Proofs.YtmmfakdncjeoeaaW.PrintLast Go.Proofs.YtmmfakdncjeoeaaW.PrintMore

def nobytes : ByteArray := ⟨#[]⟩

def bbytes (s : ByteArray) : List Int := wbytes s.size ++ bytesOf s

theorem nobytes_toList : nobytes.toList = ([] : List UInt8) := toList_strOfNums []

theorem bbytes_len (s : ByteArray) : (bbytes s).length = (wbytes s.size).length + s.size := by unfold bbytes; rw [List.length_append, bytesOf_length]
theorem put_bytes (l : List Int) (s : ByteArray) (hl : l.length ≤ 100000000000000) (hs : s.size ≤ 10000000000) : blob_Put.f l s = some (l ++ bbytes s) := by
  have h10 := wbytes_le10 (m := s.size) (by omega)
  unfold blob_Put.f
  rw [wu64 (by omega) (by omega), put_eq l s.size (by omega) (by omega), Option.bind_some, if_pos (by rw [List.length_append]; omega)]
  unfold bbytes
  rw [List.append_assoc]

end Go.Proofs.Ytmmfakdncjeoeaa.MBlob
