/- Plain laws on a text's bytes (layer 2). -/
import Derived.Test.YtjfklfmfeghjnabMW
import Derived.Test.YtjfklfmfeghjnabPGx2
import Derived.Test.YtjfklfmfeghjnabPGx4
import Derived.Test.YtjfklfmfeghjnabPGx8
namespace Go.Proofs.Ytjfklfmfeghjnab.MBlob
open Go.RowKit Go.Proofs.Ytjfklfmfeghjnab.PG Go.Proofs.Ytjfklfmfeghjnab.MW Go.Proofs.YtjfklfmfeghjnabW.PrintWords Go.Proofs.YtjfklfmfeghjnabW.PrintLast Go.Proofs.YtjfklfmfeghjnabW.PrintMore

def nobytes : ByteArray := ⟨#[]⟩

/-- Reading a text: the number of its bytes first. -/
def bget (l : List Int) (most : Int) : ByteArray × Int × Int :=
  if (wget l).2.2 = 0 then
    if (wget l).1 > (if most < 0 then 0 else most) then (nobytes, 0, 6)
    else if (wget l).1 > (l.length : Int) - (wget l).2.1 then (nobytes, 0, 2)
    else (strOfNums ((l.drop (wget l).2.1.toNat).take (wget l).1.toNat), (wget l).2.1 + (wget l).1, 0)
  else (nobytes, 0, (wget l).2.2)

def bbytes (s : ByteArray) : List Int := wbytes s.size ++ bytesOf s

theorem nobytes_toList : nobytes.toList = ([] : List UInt8) := toList_strOfNums []

theorem extract_nums (s : ByteArray) (i j : Nat) : s.extract i j = strOfNums (((bytesOf s).drop i).take (j - i)) := by
  rw [← strOfNums_bytesOf (s.extract i j)]
  congr 1
  unfold bytesOf
  rw [ByteArray.data_extract, Array.toList_extract, List.map_take, List.map_drop]

theorem mx0 (a : Int) : mx a 0 = if a < 0 then 0 else a := rfl

theorem get_ev (l : List Int) (hl : Byt l) (hlen : l.length ≤ 140737488355328) (most : Int) (hm : -9223372036854775808 ≤ most ∧ most < 9223372036854775808) : Ev (fun k => blob_Get.f k l most) (bget l most) := by
  have hg := MW.get_ev l hl
  refine Ev.congr (fun k => by unfold blob_Get.f; rfl) (Ev.bind hg ?_)
  refine Ev.congr (f := fun _ => some (bget l most)) (fun k => ?_) (Ev.now _)
  unfold bget
  by_cases h0 : (wget l).2.2 = 0
  · rw [if_pos h0, if_pos h0]
    obtain ⟨n, p, e, hq⟩ : ∃ n p e, wget l = (n, p, e) := ⟨_, _, _, rfl⟩
    rw [hq] at h0 ⊢
    dsimp only at h0 ⊢
    subst h0
    obtain ⟨m, rfl, hm64, rfl, hle, _⟩ := wget_back hl hq
    have hp10 := wbytes_le10 hm64
    rw [mx0, wu64 (x := if most < 0 then 0 else most) (by split <;> omega) (by split <;> omega)]
    by_cases h1 : (m : Int) > (if most < 0 then 0 else most)
    · rw [if_pos h1, if_pos h1]; rfl
    · rw [if_neg h1, if_neg h1, w64 (x := (l.length : Int) - ((wbytes m).length : Nat)) (by omega) (by omega), wu64 (by omega) (by omega)]
      by_cases h2 : (m : Int) > (l.length : Int) - ((wbytes m).length : Nat)
      · rw [if_pos h2, if_pos h2]; rfl
      · rw [if_neg h2, if_neg h2, w64 (x := (m : Int)) (by omega) (by omega), w64 (by omega) (by omega), if_pos (by omega), if_pos (by omega), if_pos (by omega)]
        congr 3
        rw [List.drop_take]
        congr 1
        omega
  · rw [if_neg h0, if_neg h0]; rfl

theorem refget_ev (s : ByteArray) (hs : s.size ≤ 140737488355328) (most : Int) (hm : -9223372036854775808 ≤ most ∧ most < 9223372036854775808) : Ev (fun k => tachographref02_Get.f k s most) (bget (bytesOf s) most) := by
  have hg := MW.refget_ev s hs
  have hl := byt_bytesOf s
  have hlen := bytesOf_length s
  refine Ev.congr (fun k => by unfold tachographref02_Get.f; rfl) (Ev.bind hg ?_)
  by_cases h0 : (wget (bytesOf s)).2.2 = 0
  · refine Ev.congr (f := fun k => tachographref02_Get.j0 k s (if most < 0 then 0 else most) (wget (bytesOf s)).1 (wget (bytesOf s)).2.1) (fun k => ?_) ?_
    · rw [if_pos h0]
      split <;> rfl
    · refine Ev.step (f := fun _ => some (bget (bytesOf s) most)) (fun k => ?_) (Ev.now _)
      unfold bget
      rw [if_pos h0]
      simp only [tachographref02_Get.j0]
      obtain ⟨n, p, e, hq⟩ : ∃ n p e, wget (bytesOf s) = (n, p, e) := ⟨_, _, _, rfl⟩
      rw [hq] at h0 ⊢
      dsimp only at h0 ⊢
      subst h0
      obtain ⟨m, rfl, hm64, rfl, hle, _⟩ := wget_back hl hq
      have hp10 := wbytes_le10 hm64
      rw [wu64 (x := if most < 0 then 0 else most) (by split <;> omega) (by split <;> omega)]
      by_cases h1 : (m : Int) > (if most < 0 then 0 else most)
      · rw [if_pos h1, if_pos h1]; rfl
      · rw [if_neg h1, if_neg h1, wu64 (x := (s.size : Int)) (by omega) (by omega)]
        by_cases h2 : (m : Int) > (s.size : Int)
        · rw [if_pos h2, if_pos (by omega)]; rfl
        · rw [if_neg h2, w64 (x := (m : Int)) (by omega) (by omega), w64 (by omega) (by omega)]
          by_cases h3 : (((wbytes m).length : Nat) : Int) + (m : Int) > (s.size : Int)
          · rw [if_pos h3, if_pos (by omega)]; rfl
          · rw [if_neg h3, if_pos (by omega), if_pos (by omega), if_pos (by omega), if_neg (by omega), extract_nums]
            congr 3
            congr 1
            omega
  · unfold bget
    refine Ev.congr (f := fun _ => some (nobytes, 0, (wget (bytesOf s)).2.2)) (fun k => by rw [if_neg h0]; rfl) ?_
    rw [if_neg h0]
    exact Ev.now _

theorem bbytes_len (s : ByteArray) : (bbytes s).length = (wbytes s.size).length + s.size := by unfold bbytes; rw [List.length_append, bytesOf_length]
theorem byt_bbytes (s : ByteArray) : Byt (bbytes s) := (wbytes_byt _).append (byt_bytesOf s)
theorem bytesOf_nobytes : bytesOf nobytes = [] := rfl
theorem sz64 (s : ByteArray) (h : s.size ≤ 140737488355328) : s.size < 18446744073709551616 := by omega

theorem put_bytes (l : List Int) (s : ByteArray) (hl : l.length ≤ 100000000000000) (hs : s.size ≤ 10000000000) : blob_Put.f l s = some (l ++ bbytes s) := by
  have h10 := wbytes_le10 (m := s.size) (by omega)
  unfold blob_Put.f
  rw [wu64 (by omega) (by omega), put_eq l s.size (by omega) (by omega), Option.bind_some, if_pos (by rw [List.length_append]; omega)]
  unfold bbytes
  rw [List.append_assoc]

theorem bget_put (s : ByteArray) (hs : s.size ≤ 10000000000) (rest : List Int) (most : Int) : bget (bbytes s ++ rest) most = if (s.size : Int) > (if most < 0 then 0 else most) then (nobytes, 0, 6) else (s, (((bbytes s).length : Nat) : Int), 0) := by
  have hl : bbytes s ++ rest = wbytes s.size ++ (bytesOf s ++ rest) := by unfold bbytes; rw [List.append_assoc]
  have hb := bytesOf_length s
  unfold bget
  rw [hl, wget_put s.size (by omega)]
  dsimp only
  rw [if_pos rfl]
  by_cases h : (s.size : Int) > (if most < 0 then 0 else most)
  · rw [if_pos h, if_pos h]
  · rw [if_neg h, if_neg h, if_neg (by rw [List.length_append, List.length_append, hb]; omega)]
    rw [Int.toNat_natCast, Int.toNat_natCast, List.drop_left, List.take_append_of_le_length (by omega), List.take_of_length_le (by omega), strOfNums_bytesOf, bbytes_len]
    simp

theorem bget_back {l : List Int} (hl : Byt l) {most : Int} {t : ByteArray} {n : Int} (h : bget l most = (t, n, 0)) : n = (((bbytes t).length : Nat) : Int) ∧ (bbytes t).length ≤ l.length ∧ l.take (bbytes t).length = bbytes t ∧ (t.size : Int) ≤ (if most < 0 then 0 else most) := by
  unfold bget at h
  generalize (if most < 0 then 0 else most) = M at h ⊢
  split at h
  · rename_i h0
    obtain ⟨a, p, e, hq⟩ : ∃ n p e, wget l = (n, p, e) := ⟨_, _, _, rfl⟩
    rw [hq] at h h0
    dsimp only at h h0
    subst h0
    obtain ⟨m, rfl, hm64, rfl, hle, htk⟩ := wget_back hl hq
    split at h
    · exact absurd h (by simp)
    · rename_i h1
      split at h
      · exact absurd h (by simp)
      · rename_i h2
        obtain ⟨ht, hn, _⟩ := Prod.mk.injEq _ _ _ _ ▸ h |>.imp id (fun h => by simpa using h)
        have hsz : t.size = m := by
          rw [← ht, strOfNums_size, List.length_take, List.length_drop]
          simp only [Int.toNat_natCast]
          omega
        have hbt : bytesOf t = (l.drop (wbytes m).length).take m := by
          rw [← ht]
          simp only [Int.toNat_natCast]
          exact bytesOf_strOfNums ((hl.drop _).take _)
        have hlen : (bbytes t).length = (wbytes m).length + m := by rw [bbytes_len, hsz]
        refine ⟨by rw [hlen]; omega, by omega, ?_, by omega⟩
        rw [hlen, List.take_add, ← htk, ← hbt]
        unfold bbytes
        rw [hsz]
  · rename_i h0
    exact absurd (congrArg (fun x => x.2.2) h) h0

theorem bget_err {l : List Int} {most : Int} (h : (bget l most).2.2 ≠ 0) : (bget l most).1 = nobytes ∧ (bget l most).2.1 = 0 := by
  unfold bget at h ⊢
  generalize (if most < 0 then 0 else most) = M at h ⊢
  split
  · rename_i h0
    rw [if_pos h0] at h
    split
    · exact ⟨rfl, rfl⟩
    · rename_i h1
      rw [if_neg h1] at h
      split
      · exact ⟨rfl, rfl⟩
      · rename_i h2
        rw [if_neg h2] at h
        exact absurd rfl h
  · exact ⟨rfl, rfl⟩

end Go.Proofs.Ytjfklfmfeghjnab.MBlob
