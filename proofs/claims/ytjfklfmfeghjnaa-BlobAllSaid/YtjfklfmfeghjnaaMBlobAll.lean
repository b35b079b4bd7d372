/- Plain laws on texts, one behind the other (layer 2). -/
import Derived.Test.YtjfklfmfeghjnaaMBlob
import Derived.Test.YtjfklfmfeghjnaaPAx6
namespace Go.Proofs.Ytjfklfmfeghjnaa.MBlob
open Go.RowKit Go.Proofs.Ytjfklfmfeghjnaa.PA Go.Proofs.Ytjfklfmfeghjnaa.MW Go.Proofs.YtjfklfmfeghjnaaW.PrintWords Go.Proofs.YtjfklfmfeghjnaaW.PrintLast Go.Proofs.YtjfklfmfeghjnaaW.PrintMore

def ball : Nat → List Int → Int → List ByteArray × Int
  | 0, _, _ => ([], 0)
  | n + 1, l, most => if l.length = 0 then ([], 0) else if (bget l most).2.2 = 0 then (if (ball n (l.drop (bget l most).2.1.toNat) most).2 = 0 then ((bget l most).1 :: (ball n (l.drop (bget l most).2.1.toNat) most).1, 0) else ([], (ball n (l.drop (bget l most).2.1.toNat) most).2)) else ([], (bget l most).2.2)

/-- What a loop answers that has read acc. -/
def bfin (acc : List ByteArray) (r : List ByteArray × Int) : List ByteArray × Int := if r.2 = 0 then (acc ++ r.1, 0) else ([], r.2)

theorem bbytes_pos (s : ByteArray) : 0 < (bbytes s).length := by rw [bbytes_len]; have := wbytes_pos s.size; omega

theorem bytesOf_extract_end (s : ByteArray) (i : Nat) : bytesOf (s.extract i s.size) = (bytesOf s).drop i := by
  unfold bytesOf
  rw [ByteArray.data_extract, Array.toList_extract, List.map_take, List.map_drop, List.take_of_length_le]
  rw [List.length_drop, List.length_map, data_length]
  exact Nat.le_refl _

theorem ball_ev (most : Int) (hm : -9223372036854775808 ≤ most ∧ most < 9223372036854775808) : ∀ (n : Nat) (l : List Int) (acc : List ByteArray), Byt l → l.length < n → acc.length + l.length < 8796093022208 →
    Ev (fun k => blob_All.l0 k l most acc) (bfin acc (ball n l most))
  | 0, _, _ => fun _ h => absurd h (by omega)
  | n + 1, l, acc => fun hl hn ha => by
    have hg := get_ev l hl (by omega) most hm
    by_cases h0 : l.length = 0
    · refine Ev.step (f := fun _ => some (bfin acc (ball (n + 1) l most))) (fun k => ?_) (Ev.now _)
      simp only [blob_All.l0, ball, bfin, if_pos h0, if_true, List.append_nil]
      rw [if_neg (by omega)]
    · by_cases h1 : (bget l most).2.2 = 0
      · obtain ⟨t, z, e, hq⟩ : ∃ t z e, bget l most = (t, z, e) := ⟨_, _, _, rfl⟩
        have h1' : e = 0 := by rw [hq] at h1; exact h1
        subst h1'
        obtain ⟨rfl, hle, htk, _⟩ := bget_back hl hq
        have hpos := bbytes_pos t
        have ih := ball_ev most hm n (l.drop (bbytes t).length) (acc ++ [t]) (hl.drop _) (by rw [List.length_drop]; omega) (by rw [List.length_drop, List.length_append]; simp only [List.length_cons, List.length_nil]; omega)
        have hr : bfin acc (ball (n + 1) l most) = bfin (acc ++ [t]) (ball n (l.drop (bbytes t).length) most) := by
          simp only [ball, bfin, hq, if_neg h0, if_true, Int.toNat_natCast]
          by_cases h2 : (ball n (l.drop (bbytes t).length) most).2 = 0
          · rw [if_pos h2, if_pos h2]; simp
          · rw [if_neg h2, if_neg h2, if_neg h2]
        rw [hr]
        refine Ev.step (f := fun k => (blob_Get.f k l most).bind fun bt140 => if bt140.2.2 = 0 then (if acc.length < 8796093022208 then (if 0 ≤ bt140.2.1 then (if bt140.2.1 ≤ (l.length : Int) then blob_All.l0 k (l.drop (bt140.2.1 : Int).toNat) most (acc ++ [bt140.1]) else none) else none) else none) else some ([], bt140.2.2)) (fun k => ?_) (Ev.bind hg ?_)
        · simp only [blob_All.l0]
          rw [if_pos (by omega)]
          congr 1
          funext x
          simp only [Option.bind_some, ite_self]
        · refine Ev.congr (fun k => ?_) ih
          rw [hq]
          dsimp only
          rw [if_pos rfl, if_pos (by omega), if_pos (by omega), if_pos (by omega), Int.toNat_natCast]
      · refine Ev.step (f := fun k => (blob_Get.f k l most).bind fun bt140 => if bt140.2.2 = 0 then (if acc.length < 8796093022208 then (if 0 ≤ bt140.2.1 then (if bt140.2.1 ≤ (l.length : Int) then blob_All.l0 k (l.drop (bt140.2.1 : Int).toNat) most (acc ++ [bt140.1]) else none) else none) else none) else some ([], bt140.2.2)) (fun k => ?_) (Ev.bind hg ?_)
        · simp only [blob_All.l0]
          rw [if_pos (by omega)]
          congr 1
          funext x
          simp only [Option.bind_some, ite_self]
        · refine Ev.congr (f := fun _ => some (bfin acc (ball (n + 1) l most))) (fun k => ?_) (Ev.now _)
          rw [if_neg h1]
          simp only [ball, bfin, if_neg h0, if_neg h1]

theorem refball_ev (most : Int) (hm : -9223372036854775808 ≤ most ∧ most < 9223372036854775808) : ∀ (n : Nat) (s : ByteArray) (acc : List ByteArray), s.size < n → acc.length + s.size < 8796093022208 →
    Ev (fun k => tachographref02_All.l0 k s most acc) (bfin acc (ball n (bytesOf s) most))
  | 0, _, _ => fun h => absurd h (by omega)
  | n + 1, s, acc => fun hn ha => by
    have hl := byt_bytesOf s
    have hlen := bytesOf_length s
    have hg := refget_ev s (by omega) most hm
    by_cases h0 : (bytesOf s).length = 0
    · refine Ev.step (f := fun _ => some (bfin acc (ball (n + 1) (bytesOf s) most))) (fun k => ?_) (Ev.now _)
      simp only [tachographref02_All.l0, ball, bfin, if_pos h0, if_true, List.append_nil]
      rw [if_neg (by omega)]
    · by_cases h1 : (bget (bytesOf s) most).2.2 = 0
      · obtain ⟨t, z, e, hq⟩ : ∃ t z e, bget (bytesOf s) most = (t, z, e) := ⟨_, _, _, rfl⟩
        have h1' : e = 0 := by rw [hq] at h1; exact h1
        subst h1'
        obtain ⟨rfl, hle, htk, _⟩ := bget_back hl hq
        have hpos := bbytes_pos t
        have hsz : (s.extract (bbytes t).length s.size).size = s.size - (bbytes t).length := by rw [← bytesOf_length, bytesOf_extract_end, List.length_drop, hlen]
        have ih := refball_ev most hm n (s.extract (bbytes t).length s.size) (acc ++ [t]) (by rw [hsz]; omega) (by rw [hsz, List.length_append]; simp only [List.length_cons, List.length_nil]; omega)
        rw [bytesOf_extract_end] at ih
        have hr : bfin acc (ball (n + 1) (bytesOf s) most) = bfin (acc ++ [t]) (ball n ((bytesOf s).drop (bbytes t).length) most) := by
          simp only [ball, bfin, hq, if_neg h0, if_true, Int.toNat_natCast]
          by_cases h2 : (ball n ((bytesOf s).drop (bbytes t).length) most).2 = 0
          · rw [if_pos h2, if_pos h2]; simp
          · rw [if_neg h2, if_neg h2, if_neg h2]
        rw [hr]
        refine Ev.step (fun k => by simp only [tachographref02_All.l0]; rw [if_pos (by omega)]) (Ev.bind hg ?_)
        refine Ev.congr (fun k => ?_) ih
        rw [hq]
        dsimp only
        rw [if_pos rfl, if_pos (by omega), if_pos (by omega), if_pos (by omega), Int.toNat_natCast]
      · refine Ev.step (fun k => by simp only [tachographref02_All.l0]; rw [if_pos (by omega)]) (Ev.bind hg ?_)
        refine Ev.congr (f := fun _ => some (bfin acc (ball (n + 1) (bytesOf s) most))) (fun k => ?_) (Ev.now _)
        rw [if_neg h1]
        simp only [ball, bfin, if_neg h0, if_neg h1]

theorem same_l0 (a : List ByteArray) (ha : a.length < 4611686018427387904) : ∀ (n i : Nat), a.length - i = n → Ev (fun k => tachographref02_Same.l0 k a a (i : Int)) true
  | 0, i => fun h => by
    refine Ev.step (f := fun _ => some true) (fun k => ?_) (Ev.now _)
    simp only [tachographref02_Same.l0]
    rw [if_neg (by omega)]
  | n + 1, i => fun h => by
    have ih := same_l0 a ha n (i + 1) (by omega)
    refine Ev.step (f := fun k => tachographref02_Same.l0 k a a ((i + 1 : Nat) : Int)) (fun k => ?_) ih
    simp only [tachographref02_Same.l0]
    rw [if_pos (by omega), if_pos (by omega), if_pos (by omega), if_pos trivial, w64 (by omega) (by omega)]
    rfl

theorem same_self (a : List ByteArray) (ha : a.length < 4611686018427387904) : Ev (fun k => tachographref02_Same.f k a a) true :=
  Ev.congr (fun k => by unfold tachographref02_Same.f; rw [if_pos rfl]; rfl) (same_l0 a ha _ 0 rfl)

theorem ball_len (most : Int) : ∀ (n : Nat) (l : List Int), (ball n l most).1.length ≤ n
  | 0, _ => Nat.le_refl _
  | n + 1, l => by
    have ih := ball_len most n (l.drop (bget l most).2.1.toNat)
    simp only [ball]
    split
    · simp
    · split
      · split
        · simp only [List.length_cons]; omega
        · simp
      · simp
end Go.Proofs.Ytjfklfmfeghjnaa.MBlob
