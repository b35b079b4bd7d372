/- Plain laws on a text's bytes (layer 2). -/
import Derived.Test.YtjfklfmfeghjnabMW
import Derived.Test.YtjfklfmfeghjnabPKx4
namespace Go.Proofs.Ytjfklfmfeghjnab.MBlob
open Go.RowKit Go.Proofs.Ytjfklfmfeghjnab.PK Go.Proofs.Ytjfklfmfeghjnab.MW Go.Proofs.YtjfklfmfeghjnabW.PrintWords Go.Proofs.YtjfklfmfeghjnabW.PrintLast Go.Proofs.YtjfklfmfeghjnabW.PrintMore

def nobytes : ByteArray := ⟨#[]⟩

/-- Reading a text: the number of its bytes first. -/
def bget (l : List Int) (most : Int) : ByteArray × Int × Int :=
  if (wget l).2.2 = 0 then
    if (wget l).1 > (if most < 0 then 0 else most) then (nobytes, 0, 6)
    else if (wget l).1 > (l.length : Int) - (wget l).2.1 then (nobytes, 0, 2)
    else (strOfNums ((l.drop (wget l).2.1.toNat).take (wget l).1.toNat), (wget l).2.1 + (wget l).1, 0)
  else (nobytes, 0, (wget l).2.2)

def bbytes (s : ByteArray) : List Int := wbytes s.size ++ bytesOf s

theorem nobytes_toList : nobytes.toList = ([] : List UInt8) := toList_strOfNums []

theorem extract_nums (s : ByteArray) (i j : Nat) : s.extract i j = strOfNums (((bytesOf s).drop i).take (j - i)) := by
  rw [← strOfNums_bytesOf (s.extract i j)]
  congr 1
  unfold bytesOf
  rw [ByteArray.data_extract, Array.toList_extract, List.map_take, List.map_drop]

theorem mx0 (a : Int) : mx a 0 = if a < 0 then 0 else a := rfl

theorem bbytes_len (s : ByteArray) : (bbytes s).length = (wbytes s.size).length + s.size := by unfold bbytes; rw [List.length_append, bytesOf_length]
theorem byt_bbytes (s : ByteArray) : Byt (bbytes s) := (wbytes_byt _).append (byt_bytesOf s)
theorem bytesOf_nobytes : bytesOf nobytes = [] := rfl
theorem sz64 (s : ByteArray) (h : s.size ≤ 140737488355328) : s.size < 18446744073709551616 := by omega

theorem put_bytes (l : List Int) (s : ByteArray) (hl : l.length ≤ 100000000000000) (hs : s.size ≤ 10000000000) : blob_Put.f l s = some (l ++ bbytes s) := by
  have h10 := wbytes_le10 (m := s.size) (by omega)
  unfold blob_Put.f
  rw [wu64 (by omega) (by omega), put_eq l s.size (by omega) (by omega), Option.bind_some, if_pos (by rw [List.length_append]; omega)]
  unfold bbytes
  rw [List.append_assoc]

theorem bget_put (s : ByteArray) (hs : s.size ≤ 10000000000) (rest : List Int) (most : Int) : bget (bbytes s ++ rest) most = if (s.size : Int) > (if most < 0 then 0 else most) then (nobytes, 0, 6) else (s, (((bbytes s).length : Nat) : Int), 0) := by
  have hl : bbytes s ++ rest = wbytes s.size ++ (bytesOf s ++ rest) := by unfold bbytes; rw [List.append_assoc]
  have hb := bytesOf_length s
  unfold bget
  rw [hl, wget_put s.size (by omega)]
  dsimp only
  rw [if_pos rfl]
  by_cases h : (s.size : Int) > (if most < 0 then 0 else most)
  · rw [if_pos h, if_pos h]
  · rw [if_neg h, if_neg h, if_neg (by rw [List.length_append, List.length_append, hb]; omega)]
    rw [Int.toNat_natCast, Int.toNat_natCast, List.drop_left, List.take_append_of_le_length (by omega), List.take_of_length_le (by omega), strOfNums_bytesOf, bbytes_len]
    simp

theorem bget_back {l : List Int} (hl : Byt l) {most : Int} {t : ByteArray} {n : Int} (h : bget l most = (t, n, 0)) : n = (((bbytes t).length : Nat) : Int) ∧ (bbytes t).length ≤ l.length ∧ l.take (bbytes t).length = bbytes t ∧ (t.size : Int) ≤ (if most < 0 then 0 else most) := by
  unfold bget at h
  generalize (if most < 0 then 0 else most) = M at h ⊢
  split at h
  · rename_i h0
    obtain ⟨a, p, e, hq⟩ : ∃ n p e, wget l = (n, p, e) := ⟨_, _, _, rfl⟩
    rw [hq] at h h0
    dsimp only at h h0
    subst h0
    obtain ⟨m, rfl, hm64, rfl, hle, htk⟩ := wget_back hl hq
    split at h
    · exact absurd h (by simp)
    · rename_i h1
      split at h
      · exact absurd h (by simp)
      · rename_i h2
        obtain ⟨ht, hn, _⟩ := Prod.mk.injEq _ _ _ _ ▸ h |>.imp id (fun h => by simpa using h)
        have hsz : t.size = m := by
          rw [← ht, strOfNums_size, List.length_take, List.length_drop]
          simp only [Int.toNat_natCast]
          omega
        have hbt : bytesOf t = (l.drop (wbytes m).length).take m := by
          rw [← ht]
          simp only [Int.toNat_natCast]
          exact bytesOf_strOfNums ((hl.drop _).take _)
        have hlen : (bbytes t).length = (wbytes m).length + m := by rw [bbytes_len, hsz]
        refine ⟨by rw [hlen]; omega, by omega, ?_, by omega⟩
        rw [hlen, List.take_add, ← htk, ← hbt]
        unfold bbytes
        rw [hsz]
  · rename_i h0
    exact absurd (congrArg (fun x => x.2.2) h) h0

theorem bget_err {l : List Int} {most : Int} (h : (bget l most).2.2 ≠ 0) : (bget l most).1 = nobytes ∧ (bget l most).2.1 = 0 := by
  unfold bget at h ⊢
  generalize (if most < 0 then 0 else most) = M at h ⊢
  split
  · rename_i h0
    rw [if_pos h0] at h
    split
    · exact ⟨rfl, rfl⟩
    · rename_i h1
      rw [if_neg h1] at h
      split
      · exact ⟨rfl, rfl⟩
      · rename_i h2
        rw [if_neg h2] at h
        exact absurd rfl h
  · exact ⟨rfl, rfl⟩

end Go.Proofs.Ytjfklfmfeghjnab.MBlob
