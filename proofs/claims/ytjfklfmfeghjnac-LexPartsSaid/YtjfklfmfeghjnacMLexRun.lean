/- Plain laws on a text's tokens: where they stand, and what comes of two texts. -/
import Derived.Test.YtjfklfmfeghjnacMLex
import Derived.Test.YtjfklfmfeghjnacPLx9
set_option linter.unusedVariables false
namespace Go.Proofs.Ytjfklfmfeghjnac.MLex
open Go.RowKit Go.Proofs.Ytjfklfmfeghjnac.PL Go.Proofs.Ytjfklfmfeghjnac.MBase Go.Proofs.Ytjfklfmfeghjnac.MQuote Go.Proofs.YtjfklfmfeghjnacW.PrintWords Go.Proofs.YtjfklfmfeghjnacW.PrintLast Go.Proofs.YtjfklfmfeghjnacW.PrintMore

theorem run_err : ∀ (n : Nat) (s : ByteArray) (p : Int × Int) (out : List T), (run n s p out).2.1 ≠ 0 → (run n s p out).1 = []
 | 0, s, p, out => fun _ => rfl
 | n + 1, s, p, out => fun h => by
  simp only [run] at h ⊢
  by_cases h1 : s.size = 0
  ·rw [if_pos h1] at h; exact absurd rfl h
  ·rw [if_neg h1] at h ⊢
   by_cases h2 : ws (bt s 0) = true
   ·rw [if_pos h2] at h ⊢
    exact run_err n _ _ _ h
   ·rw [if_neg h2] at h ⊢
    by_cases h3 : (stp s).2.2.2 = 0
    ·rw [if_pos h3] at h ⊢
     exact run_err n _ _ _ h
    ·rw [if_neg h3]
abbrev FX : ByteArray := ⟨#[64, 49, 50, 32, 112, 40, 34, 97, 34, 44, 45, 51, 41]⟩
set_option maxRecDepth 100000 in
theorem fixed_run : (run 14 FX (1, 1) []).1.length = 8 ∧ (run 14 FX (1, 1) []).2.1 = 0 ∧ (run 14 FX (1, 1) []).2.2.1 = 0 ∧ (run 14 FX (1, 1) []).2.2.2 = 0 ∧ ((run 14 FX (1, 1) []).1.getD 4 (0, ⟨#[]⟩, 0, 0)).1 = 7 ∧ ((run 14 FX (1, 1) []).1.getD 4 (0, ⟨#[]⟩, 0, 0)).2.1.data.toList = [97] := by decide +kernel
theorem rdA (l : List T) (i : Nat) (hi : i < l.length) : rd_T46 (l.map mkA) (i : Int) = mkA l[i] := by
 simp [rd_T46, List.getD_eq_getElem?_getD, List.getElem?_eq_getElem hi]
theorem rdB (l : List T) (i : Nat) (hi : i < l.length) : rd_T47 (l.map mkB) (i : Int) = mkB l[i] := by
 simp [rd_T47, List.getD_eq_getElem?_getD, List.getElem?_eq_getElem hi]
theorem fixed21 : Ev (fun k => tachographlaw21_fixed.f k) true := by
 have h := lex_ev FX (by show (13 : Nat) ≤ _; omega)
 obtain ⟨f1, f2, f3, f4, f5, f6⟩ := fixed_run
 obtain ⟨R, hR⟩ : ∃ R, run (FX.size + 1) FX (1, 1) [] = R := ⟨_, rfl⟩
 have hR' : run 14 FX (1, 1) [] = R := hR
 rw [hR'] at f1 f2 f3 f4 f5 f6
 rw [hR] at h
 unfold tachographlaw21_fixed.f
 refine Ev.bind h ?_
 have h4 : rd_T46 (R.1.map mkA) 4 = mkA (R.1[4]'(by omega)) := rdA R.1 4 (by omega)
 have e4 : R.1.getD 4 (0, ⟨#[]⟩, 0, 0) = R.1[4]'(by omega) := by simp [List.getD_eq_getElem?_getD, List.getElem?_eq_getElem (show 4 < R.1.length by omega)]
 rw [e4] at f5 f6
 refine Ev.congr (f := fun _ => some true) (fun k => ?_) (Ev.now _)
 dsimp only
 rw [if_pos f2, if_pos (by rw [List.length_map, f1]; rfl), if_pos (by rw [f3, f4]; rfl), if_pos (by rw [List.length_map, f1]; omega), h4, if_pos (show (mkA (R.1[4]'(by omega))).f0 = 7 from f5)]
 show some ((R.1[4]'(by omega)).2.1.toList == [97]) = some true
 rw [toList_eq, f6]
 rfl

/-! ### where tokens stand -/
def Bef (a b : Int × Int) : Prop := a.1 < b.1 ∨ (a.1 = b.1 ∧ a.2 < b.2)
theorem Bef.trans {a b c : Int × Int} (h : Bef a b) (k : Bef b c) : Bef a c := by
 unfold Bef at *
 omega
theorem adv_bef1 (c : Int) (p : Int × Int) : Bef p (adv p [c]) := by
 rw [adv_cons, adv_nil]
 unfold Bef
 split
 ·dsimp only; omega
 ·dsimp only; omega
theorem adv_bef : ∀ (l : List Int) (p : Int × Int), l ≠ [] → Bef p (adv p l)
 | [], p => fun h => absurd rfl h
 | c :: r, p => fun _ => by
  have h1 := adv_bef1 c p
  cases r with
  | nil => exact h1
  | cons d r =>
   have h2 := adv_bef (d :: r) (adv p [c]) (by simp)
   have e : adv p (c :: d :: r) = adv (adv p [c]) (d :: r) := adv_append p [c] (d :: r)
   rw [e]
   exact h1.trans h2
def Rise (e : Int × Int) : Int × Int → List T → Prop
 | _, [] => True
 | q, t :: ts => Bef q t.2.2 ∧ Bef t.2.2 e ∧ 1 ≤ t.2.2.2 ∧ Rise e t.2.2 ts
theorem rest_adv (s : ByteArray) (m : Nat) (hm : m ≤ s.size) (p : Int × Int) : adv (adv p ((bytesOf s).take m)) (bytesOf (s.extract m s.size)) = adv p (bytesOf s) := by
 have hl := bytesOf_length s
 rw [← adv_append, bytesOf_extract, List.take_of_length_le (by omega : (bytesOf s).length ≤ s.size), List.take_append_drop]
theorem run_places : ∀ (n : Nat) (s : ByteArray) (p q : Int × Int) (out : List T), s.size < n → 1 ≤ p.1 → 1 ≤ p.2 → Bef q p →
  ((run n s p out).2.1 = 0 → (run n s p out).2.2 = (0, 0) ∧ ∃ ts, (run n s p out).1 = out ++ ts ∧ Rise (adv p (bytesOf s)) q ts) ∧
  ((run n s p out).2.1 ≠ 0 → Bef (run n s p out).2.2 (adv p (bytesOf s)) ∧ 1 ≤ (run n s p out).2.2.1 ∧ 1 ≤ (run n s p out).2.2.2)
 | 0, s, p, q, out => fun h => absurd h (by omega)
 | n + 1, s, p, q, out => fun hn h1 h2 hq => by
  simp only [run]
  by_cases hz : s.size = 0
  ·simp only [if_pos hz]
   exact ⟨fun _ => ⟨trivial, [], by simp, trivial⟩, fun h => absurd rfl h⟩
  ·obtain ⟨c, r, hb, hc⟩ := cons_of s hz
   have hl := bytesOf_length s
   rw [hb, List.length_cons] at hl
   have hend : Bef p (adv p (bytesOf s)) := adv_bef _ _ (by rw [hb]; simp)
   simp only [if_neg hz]
   by_cases hw : ws (bt s 0) = true
   ·simp only [if_pos hw]
    have hx : (s.extract 1 s.size).size = s.size - 1 := by rw [ByteArray.size_extract]; omega
    have hbd := adv_bound [bt s 0] p h1 h2
    have e := rest_adv s 1 (by omega) p
    have e1 : (bytesOf s).take 1 = [bt s 0] := by rw [hb, hc]; rfl
    rw [e1] at e
    have ih := run_places n (s.extract 1 s.size) (adv p [bt s 0]) q out (by omega) hbd.1 hbd.2.1 (hq.trans (adv_bef _ _ (by simp)))
    rw [e] at ih
    exact ih
   ·simp only [if_neg hw]
    by_cases he : (stp s).2.2.2 = 0
    ·simp only [if_pos he]
     obtain ⟨f1, f2⟩ := stp_fits s he
     obtain ⟨m, hm⟩ : ∃ m : Nat, (stp s).2.2.1 = (m : Int) := ⟨(stp s).2.2.1.toNat, by omega⟩
     rw [hm] at f1 f2
     simp only [hm, Int.toNat_natCast]
     have hx : (s.extract m s.size).size = s.size - m := by rw [ByteArray.size_extract]; omega
     have hbd := adv_bound ((bytesOf s).take m) p h1 h2
     have e := rest_adv s m (by omega) p
     have hne : (bytesOf s).take m ≠ [] := by
      obtain ⟨m', rfl⟩ : ∃ m', m = m' + 1 := ⟨m - 1, by omega⟩
      rw [hb, List.take_succ_cons]
      simp
     have ih := run_places n (s.extract m s.size) (adv p ((bytesOf s).take m)) p (out ++ [((stp s).1, (stp s).2.1, p.1, p.2)]) (by omega) hbd.1 hbd.2.1 (adv_bef _ _ hne)
     rw [e] at ih
     refine ⟨fun h0 => ?_, ih.2⟩
     obtain ⟨g1, ts, g2, g3⟩ := ih.1 h0
     exact ⟨g1, ((stp s).1, (stp s).2.1, p.1, p.2) :: ts, by rw [g2]; simp, hq, hend, h2, g3⟩
    ·simp only [if_neg he]
     exact ⟨fun h => absurd h he, fun _ => ⟨hend, h1, h2⟩⟩

/-! ### two texts -/
theorem run_succ (n : Nat) (s : ByteArray) (p : Int × Int) (out : List T) : run (n + 1) s p out = if s.size = 0 then (out, 0, 0, 0) else if ws (bt s 0) = true then run n (s.extract 1 s.size) (adv p [bt s 0]) out
  else if (stp s).2.2.2 = 0 then run n (s.extract (stp s).2.2.1.toNat s.size) (adv p ((bytesOf s).take (stp s).2.2.1.toNat)) (out ++ [((stp s).1, (stp s).2.1, p.1, p.2)])
  else ([], (stp s).2.2.2, p.1, p.2) := rfl
theorem run_more : ∀ (n : Nat) (s : ByteArray) (p : Int × Int) (out : List T), s.size < n → run (n + 1) s p out = run n s p out
 | 0, s, p, out => fun h => absurd h (by omega)
 | n + 1, s, p, out => fun hn => by
  rw [run_succ (n + 1) s p out, run_succ n s p out]
  by_cases h1 : s.size = 0
  ·rw [if_pos h1, if_pos h1]
  ·rw [if_neg h1, if_neg h1]
   by_cases h2 : ws (bt s 0) = true
   ·rw [if_pos h2, if_pos h2]
    exact run_more n _ _ _ (by rw [ByteArray.size_extract]; omega)
   ·rw [if_neg h2, if_neg h2]
    by_cases h3 : (stp s).2.2.2 = 0
    ·rw [if_pos h3, if_pos h3]
     have := stp_fits s h3
     exact run_more n _ _ _ (by rw [ByteArray.size_extract]; omega)
    ·rw [if_neg h3, if_neg h3]
theorem run_fuel (s : ByteArray) (p : Int × Int) (out : List T) : ∀ (d n : Nat), s.size < n → run (n + d) s p out = run n s p out
 | 0, n => fun _ => rfl
 | d + 1, n => fun h => by rw [← Nat.add_assoc, run_more _ _ _ _ (by omega), run_fuel s p out d n h]
theorem run_same (s : ByteArray) (p : Int × Int) (out : List T) (n m : Nat) (hn : s.size < n) (hm : s.size < m) : run n s p out = run m s p out := by
 rcases Nat.le_total n m with h | h
 ·obtain ⟨d, rfl⟩ := Nat.exists_eq_add_of_le h
  exact (run_fuel s p out d n hn).symm
 ·obtain ⟨d, rfl⟩ := Nat.exists_eq_add_of_le h
  exact run_fuel s p out d m hm
theorem run_pre : ∀ (n : Nat) (s : ByteArray) (p : Int × Int) (pre out : List T), (run n s p (pre ++ out)).2 = (run n s p out).2 ∧ ((run n s p out).2.1 = 0 → (run n s p (pre ++ out)).1 = pre ++ (run n s p out).1)
 | 0, s, p, pre, out => ⟨rfl, fun h => by simp [run] at h⟩
 | n + 1, s, p, pre, out => by
  simp only [run]
  by_cases h1 : s.size = 0
  ·simp only [if_pos h1]; exact ⟨trivial, fun _ => trivial⟩
  ·simp only [if_neg h1]
   by_cases h2 : ws (bt s 0) = true
   ·simp only [if_pos h2]; exact run_pre n _ _ _ _
   ·simp only [if_neg h2]
    by_cases h3 : (stp s).2.2.2 = 0
    ·simp only [if_pos h3, List.append_assoc]
     exact run_pre n _ _ _ _
    ·simp only [if_neg h3]
     exact ⟨trivial, fun h => absurd h h3⟩
def shf (d : Int) (t : T) : T := (t.1, t.2.1, t.2.2.1 + d, t.2.2.2)
theorem adv_shf (d : Int) : ∀ (l : List Int) (p : Int × Int), adv (p.1 + d, p.2) l = ((adv p l).1 + d, (adv p l).2)
 | [], p => rfl
 | c :: l, p => by
  rw [adv_cons, adv_cons]
  by_cases h : c = 10
  ·rw [if_pos h, if_pos h, ← adv_shf d l (p.1 + 1, 1)]
   dsimp only
   rw [show p.1 + d + 1 = p.1 + 1 + d by omega]
  ·rw [if_neg h, if_neg h, ← adv_shf d l (p.1, p.2 + 1)]
theorem run_shf (d : Int) : ∀ (n : Nat) (s : ByteArray) (p : Int × Int) (out : List T), (run n s (p.1 + d, p.2) (out.map (shf d))).2.1 = (run n s p out).2.1 ∧ ((run n s p out).2.1 = 0 → (run n s (p.1 + d, p.2) (out.map (shf d))).1 = (run n s p out).1.map (shf d))
 | 0, s, p, out => ⟨rfl, fun h => by simp [run] at h⟩
 | n + 1, s, p, out => by
  simp only [run]
  by_cases h1 : s.size = 0
  ·simp only [if_pos h1]; exact ⟨trivial, fun _ => trivial⟩
  ·simp only [if_neg h1]
   by_cases h2 : ws (bt s 0) = true
   ·simp only [if_pos h2, adv_shf]; exact run_shf d n _ _ _
   ·simp only [if_neg h2]
    by_cases h3 : (stp s).2.2.2 = 0
    ·simp only [if_pos h3, adv_shf]
     have h := run_shf d n (s.extract (stp s).2.2.1.toNat s.size) (adv p ((bytesOf s).take (stp s).2.2.1.toNat)) (out ++ [((stp s).1, (stp s).2.1, p.1, p.2)])
     rw [List.map_append] at h
     exact h
    ·simp only [if_neg h3]
     exact ⟨trivial, fun h => absurd h h3⟩
theorem cnt_app (p : Int → Bool) (h10 : p 10 = false) (m : List Int) : ∀ l, cnt p (l ++ 10 :: m) = cnt p l
 | [] => by rw [List.nil_append, cnt_cons, h10]; rfl
 | c :: l => by rw [List.cons_append, cnt_cons, cnt_cons, cnt_app p h10 m l]
theorem tok_app (c : Int) (r m : List Int) (h : (tok (c :: r)).2 > 0) : tok (c :: (r ++ 10 :: m)) = tok (c :: r) := by
 have d10 : dig 10 = false := rfl
 have l10 : lett 10 = false := rfl
 have e1 := cnt_app lett l10 m (c :: r)
 have e2 := cnt_app dig d10 m (c :: r)
 have e3 := cnt_app dig d10 m r
 rw [List.cons_append] at e1 e2
 simp only [tok, e1, e2, e3]
theorem nx_app (c : Int) (r m : List Int) (h : (nx (c :: r)).2.2 = 0) : nx (c :: (r ++ m)) = nx (c :: r) := by
 unfold nx at h ⊢
 by_cases a1 : c < 32
 ·simp only [if_pos a1]
 ·simp only [if_neg a1] at h ⊢
  by_cases a2 : c = 92
  ·simp only [if_pos a2] at h ⊢
   cases r with
   | nil => simp [esc] at h
   | cons d r =>
    simp only [List.cons_append, esc] at h ⊢
    by_cases b1 : d = 34 ∨ d = 92
    ·simp only [if_pos b1]
    ·simp only [if_neg b1] at h ⊢
     by_cases b2 : d = 110
     ·simp only [if_pos b2]
     ·simp only [if_neg b2] at h ⊢
      by_cases b3 : d = 120
      ·simp only [if_pos b3] at h ⊢
       cases r with
       | nil => simp at h
       | cons x r =>
        simp only [List.cons_append] at h ⊢
        by_cases b4 : dg x < 0
        ·simp only [if_pos b4]
        ·simp only [if_neg b4] at h ⊢
         cases r with
         | nil => simp at h
         | cons y r => simp only [List.cons_append]
      ·simp only [if_neg b3]
  ·simp only [if_neg a2]
theorem gq_app (m : List Int) : ∀ (n n' : Nat) (l out : List Int) (a : Int), n ≤ n' → (gq n l out a).2.2 = 0 → gq n' (l ++ m) out a = gq n l out a
 | 0, n', l, out, a => fun _ h => by simp [gq] at h
 | n + 1, n', [], out, a => fun _ h => by simp [gq] at h
 | n + 1, 0, c :: r, out, a => fun hle => absurd hle (by omega)
 | n + 1, n' + 1, c :: r, out, a => fun hle h => by
  rw [List.cons_append]
  simp only [gq] at h ⊢
  by_cases hq : c = 34
  ·simp only [if_pos hq]
  ·simp only [if_neg hq] at h ⊢
   by_cases hz : (nx (c :: r)).2.2 = 0
   ·have hf := nx_fits c r hz
    rw [nx_app c r m hz, if_pos hz, if_pos hz]
    rw [if_pos hz] at h
    have e : (c :: (r ++ m)).drop (nx (c :: r)).2.1.toNat = (c :: r).drop (nx (c :: r)).2.1.toNat ++ m := by
     rw [← List.cons_append, List.drop_append_of_le_length (by rw [List.length_cons]; omega)]
    rw [e]
    exact gq_app m n n' _ _ _ (by omega) h
   ·rw [if_neg hz] at h
    exact absurd h hz
theorem stp_app (s t : ByteArray) (m : List Int) (ht : bytesOf t = 10 :: m) (h : (stp s).2.2.2 = 0) : stp (s ++ t) = stp s := by
 have hb := bytesOf_append s t
 have hl := bytesOf_length s
 cases hs : bytesOf s with
 | nil => unfold stp at h; rw [hs] at h; simp at h
 | cons c r =>
  rw [hs] at hl
  rw [hs, ht, List.cons_append] at hb
  unfold stp at h ⊢
  rw [hs] at h ⊢
  rw [hb]
  by_cases h34 : c = 34
  ·simp only [if_pos h34] at h ⊢
   have e : qget (s ++ t) = qget s := by
    unfold qget at h ⊢
    rw [hs] at h ⊢
    rw [hb]
    simp only [if_pos h34] at h ⊢
    exact gq_app _ _ _ _ _ _ (by rw [List.length_append]; omega) h
   rw [e]
  ·simp only [if_neg h34] at h ⊢
   by_cases hp : (tok (c :: r)).2 > 0
   ·have hle := tok_le (c :: r)
    rw [tok_app c r m hp, if_pos hp, if_pos hp]
    have e : (s ++ t).extract 0 (tok (c :: r)).2 = s.extract 0 (tok (c :: r)).2 := by
     have e1 : bytesOf ((s ++ t).extract 0 (tok (c :: r)).2) = bytesOf (s.extract 0 (tok (c :: r)).2) := by
      rw [bytesOf_extract, bytesOf_extract, hb, hs, ← List.cons_append, List.take_append_of_le_length hle]
     rw [← strOfNums_bytesOf ((s ++ t).extract 0 (tok (c :: r)).2), e1, strOfNums_bytesOf]
    rw [e]
   ·rw [if_neg hp] at h
    simp at h
theorem ext_app (s t : ByteArray) (m : Nat) (hm : m ≤ s.size) : (s ++ t).extract m (s ++ t).size = s.extract m s.size ++ t := by
 have hl := bytesOf_length s
 have hlt := bytesOf_length t
 have e : bytesOf ((s ++ t).extract m (s ++ t).size) = bytesOf (s.extract m s.size ++ t) := by
  rw [bytesOf_extract, bytesOf_append, bytesOf_append, bytesOf_extract, List.take_of_length_le (by rw [List.length_append, ByteArray.size_append]; omega), List.take_of_length_le (by omega : (bytesOf s).length ≤ s.size), List.drop_append_of_le_length (by omega)]
 rw [← strOfNums_bytesOf ((s ++ t).extract m (s ++ t).size), e, strOfNums_bytesOf]
theorem run_app (t : ByteArray) (m : List Int) (ht : bytesOf t = 10 :: m) (N : Nat) (hN : t.size < N) : ∀ (n : Nat) (s : ByteArray) (p : Int × Int) (out : List T), s.size < n → (run n s p out).2.1 = 0 →
  run (n + N) (s ++ t) p out = run N (t.extract 1 t.size) (adv p (bytesOf s ++ [10])) (run n s p out).1
 | 0, s, p, out => fun h => absurd h (by omega)
 | n + 1, s, p, out => fun hn h => by
  have htz : t.size = m.length + 1 := by rw [← bytesOf_length, ht]; rfl
  by_cases h1 : s.size = 0
  ·have hb : bytesOf s = [] := List.length_eq_zero_iff.1 (by rw [bytesOf_length]; exact h1)
   have e : s ++ t = t := by
    rw [← strOfNums_bytesOf (s ++ t), bytesOf_append, hb, List.nil_append, strOfNums_bytesOf]
   have hb0 : bt t 0 = 10 := (bt_cons ht).2
   have er : (run (n + 1) s p out).1 = out := by rw [run, if_pos h1]
   rw [e, er, hb, List.nil_append, show n + 1 + N = (n + N) + 1 by omega, run, if_neg (by omega), hb0, if_pos (by decide)]
   exact run_same _ _ _ _ _ (by rw [ByteArray.size_extract]; omega) (by rw [ByteArray.size_extract]; omega)
  ·obtain ⟨c, r, hb, hc⟩ := cons_of s h1
   have hbt : bytesOf (s ++ t) = c :: (r ++ 10 :: m) := by rw [bytesOf_append, hb, ht, List.cons_append]
   have hb0 : bt (s ++ t) 0 = c := (bt_cons hbt).2
   have hz : (s ++ t).size = s.size + t.size := ByteArray.size_append
   have hl := bytesOf_length s
   have step : run (n + 1 + N) (s ++ t) p out = run ((n + N) + 1) (s ++ t) p out := by rw [show n + 1 + N = (n + N) + 1 by omega]
   rw [step, run, if_neg (by omega), hb0]
   simp only [run, if_neg h1, hc] at h ⊢
   by_cases h2 : ws c = true
   ·simp only [if_pos h2] at h ⊢
    rw [ext_app s t 1 (by omega), run_app t m ht N hN n _ _ _ (by rw [ByteArray.size_extract]; omega) h]
    have e1 : (bytesOf s).take 1 = [c] := by rw [hb]; rfl
    have e := rest_adv s 1 (by omega) p
    rw [e1] at e
    rw [adv_append, e, ← adv_append]
   ·simp only [if_neg h2] at h ⊢
    by_cases h3 : (stp s).2.2.2 = 0
    ·obtain ⟨f1, f2⟩ := stp_fits s h3
     have es := stp_app s t m ht h3
     rw [es]
     simp only [if_pos h3] at h ⊢
     obtain ⟨j, hj⟩ : ∃ j : Nat, (stp s).2.2.1 = (j : Int) := ⟨(stp s).2.2.1.toNat, by omega⟩
     rw [hj] at f1 f2
     simp only [hj, Int.toNat_natCast] at h ⊢
     have etk : (bytesOf (s ++ t)).take j = (bytesOf s).take j := by rw [bytesOf_append, List.take_append_of_le_length (by omega)]
     rw [ext_app s t j (by omega), etk, run_app t m ht N hN n _ _ _ (by rw [ByteArray.size_extract]; omega) h, adv_append, rest_adv s j (by omega) p, ← adv_append]
    ·rw [if_neg h3] at h
     exact absurd h h3
end Go.Proofs.Ytjfklfmfeghjnac.MLex
