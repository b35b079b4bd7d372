/- Proved: tachographlaw02.BlobAll answers true at every texts and number: texts, put one behind the other, are read as they are; cut off within the last one, they aren't. Conditions: none but the form's own reach. -/
import Derived.Test.YtjfklfmfeghjnaaMBlobAll
import Derived.Test.YtjfklfmfeghjnaaPAx8
namespace Go.Proofs.Ytjfklfmfeghjnaa.Pure
open Go.RowKit Go.Proofs.Ytjfklfmfeghjnaa.PA Go.Proofs.Ytjfklfmfeghjnaa.MW Go.Proofs.Ytjfklfmfeghjnaa.MBlob Go.Proofs.YtjfklfmfeghjnaaW.PrintWords Go.Proofs.YtjfklfmfeghjnaaW.PrintLast Go.Proofs.YtjfklfmfeghjnaaW.PrintMore

def cat (l : List ByteArray) : List Int := (l.map bbytes).flatten
theorem cat_cons (x : ByteArray) (l : List ByteArray) : cat (x :: l) = bbytes x ++ cat l := by simp [cat]
theorem cat_snoc (l : List ByteArray) (x : ByteArray) : cat (l ++ [x]) = cat l ++ bbytes x := by simp [cat]
theorem cat_byt (l : List ByteArray) : Byt (cat l) := by
  induction l with
  | nil => exact fun _ h => by cases h
  | cons x l ih => rw [cat_cons]; exact (byt_bbytes x).append ih
theorem bbytes_le {s : ByteArray} (h : s.size ≤ 300) : (bbytes s).length ≤ 310 := by
  have := wbytes_le10 (m := s.size) (by omega)
  rw [bbytes_len]
  omega
theorem cat_len (l : List ByteArray) (h : ∀ s ∈ l, s.size ≤ 300) : (cat l).length ≤ 310 * l.length := by
  induction l with
  | nil => simp [cat]
  | cons x l ih =>
    have h1 := bbytes_le (h x List.mem_cons_self)
    have h2 := ih (fun s hs => h s (List.mem_cons_of_mem _ hs))
    rw [cat_cons, List.length_append, List.length_cons]
    omega

theorem bget_cut (s : ByteArray) (hs : s.size ≤ 300) (j : Nat) (hj : j < (bbytes s).length) : bget ((bbytes s).take j) 300 = (nobytes, 0, 2) := by
  have hb := bytesOf_length s
  rw [bbytes_len] at hj
  by_cases h : j < (wbytes s.size).length
  · have e : (bbytes s).take j = (wbytes s.size).take j := by unfold bbytes; rw [List.take_append_of_le_length (by omega)]
    unfold bget
    rw [e, wget_cut s.size (by omega) j h]
    rfl
  · have e : (bbytes s).take j = wbytes s.size ++ (bytesOf s).take (j - (wbytes s.size).length) := by
      unfold bbytes
      rw [List.take_append, List.take_of_length_le (by omega)]
    unfold bget
    rw [e, wget_put s.size (by omega)]
    dsimp only
    rw [if_pos rfl, if_neg (by rw [if_neg (by omega)]; omega), if_pos (by rw [List.length_append, List.length_take]; omega)]

theorem ball_err (most : Int) : ∀ (n : Nat) (l : List Int), (ball n l most).2 ≠ 0 → (ball n l most).1 = []
  | 0, l => fun h => absurd rfl h
  | n + 1, l => fun h => by
    by_cases h0 : l.length = 0
    · simp only [ball, if_pos h0]
    · by_cases h1 : (bget l most).2.2 = 0
      · by_cases h2 : (ball n (l.drop (bget l most).2.1.toNat) most).2 = 0
        · simp only [ball, if_neg h0, if_pos h1, if_pos h2] at h
          exact absurd rfl h
        · simp only [ball, if_neg h0, if_pos h1, if_neg h2]
      · simp only [ball, if_neg h0, if_neg h1]

theorem ball_cat (t : List Int) : ∀ (l : List ByteArray) (n : Nat), l.length ≤ n → (∀ s ∈ l, s.size ≤ 300) → ball n (cat l ++ t) 300 = bfin l (ball (n - l.length) t 300)
  | [], n => fun _ _ => by
    have e := ball_err 300 n t
    have h : cat [] ++ t = t := rfl
    rw [h, List.length_nil, Nat.sub_zero]
    unfold bfin
    by_cases h0 : (ball n t 300).2 = 0
    · rw [if_pos h0, List.nil_append, ← h0]
    · rw [if_neg h0, ← e h0]
  | x :: l, 0 => fun h _ => by simp at h
  | x :: l, n + 1 => fun h hs => by
    have hx := hs x List.mem_cons_self
    have ih := ball_cat t l n (by simpa using h) (fun s hs' => hs s (List.mem_cons_of_mem _ hs'))
    have hg : bget (cat (x :: l) ++ t) 300 = (x, (((bbytes x).length : Nat) : Int), 0) := by
      rw [cat_cons, List.append_assoc, bget_put x (by omega), if_neg (by rw [if_neg (by omega)]; omega)]
    have hp := bbytes_pos x
    have hl : ¬ (cat (x :: l) ++ t).length = 0 := by rw [cat_cons, List.append_assoc, List.length_append]; omega
    have hd : (cat (x :: l) ++ t).drop (bbytes x).length = cat l ++ t := by rw [cat_cons, List.append_assoc, List.drop_left]
    rw [List.length_cons, Nat.add_sub_add_right]
    simp only [ball, if_neg hl, hg, if_true, Int.toNat_natCast, hd, ih]
    unfold bfin
    by_cases h0 : (ball (n - l.length) t 300).2 = 0
    · simp only [if_pos h0, if_true, List.cons_append]
    · simp only [if_neg h0]

theorem all_ev (l : List ByteArray) (t : List Int) (hl : l.length ≤ 60) (hs : ∀ s ∈ l, s.size ≤ 300) (ht : t.length ≤ 310) (hb : Byt t) (n : Nat) (hn : 20000 ≤ n) : Ev (fun k => blob_All.f k (cat l ++ t) 300) (bfin l (ball (n - l.length) t 300)) := by
  have hc := cat_len l hs
  have h := ball_ev 300 (by omega) n (cat l ++ t) [] ((cat_byt l).append hb) (by rw [List.length_append]; omega) (by rw [List.length_append]; simp only [List.length_nil]; omega)
  rw [ball_cat t l n (by omega) hs] at h
  have e : bfin [] (bfin l (ball (n - l.length) t 300)) = bfin l (ball (n - l.length) t 300) := by
    unfold bfin
    by_cases h0 : (ball (n - l.length) t 300).2 = 0
    · simp only [if_pos h0, if_true, List.nil_append]
    · simp only [if_neg h0]
  rw [e] at h
  exact h

theorem all_whole (l : List ByteArray) (hl : l.length ≤ 60) (hs : ∀ s ∈ l, s.size ≤ 300) : Ev (fun k => blob_All.f k (cat l) 300) (l, 0) := by
  have h := all_ev l [] hl hs (by simp) (fun _ h => by cases h) 20000 (by omega)
  rw [List.append_nil] at h
  have e : ball (20000 - l.length) [] 300 = ([], 0) := by
    obtain ⟨q, hq⟩ : ∃ q, 20000 - l.length = q + 1 := ⟨20000 - l.length - 1, by omega⟩
    rw [hq]
    rfl
  rw [e] at h
  simpa [bfin] using h

theorem all_cut (l : List ByteArray) (x : ByteArray) (hl : l.length ≤ 60) (hs : ∀ s ∈ l, s.size ≤ 300) (hx : x.size ≤ 300) (j : Nat) (h0 : 0 < j) (hj : j < (bbytes x).length) : Ev (fun k => blob_All.f k (cat l ++ (bbytes x).take j) 300) ([], 2) := by
  have hbl := bbytes_le hx
  have h := all_ev l ((bbytes x).take j) hl hs (by rw [List.length_take]; omega) ((byt_bbytes x).take _) 20000 (by omega)
  have e : ball (20000 - l.length) ((bbytes x).take j) 300 = ([], 2) := by
    obtain ⟨q, hq⟩ : ∃ q, 20000 - l.length = q + 1 := ⟨20000 - l.length - 1, by omega⟩
    have hl' : ¬ ((bbytes x).take j).length = 0 := by rw [List.length_take]; omega
    rw [hq]
    simp only [ball, if_neg hl', bget_cut x hx j hj]
    rfl
  rw [e] at h
  simpa [bfin] using h

theorem fin_ev (l : List ByteArray) (a : Int) (ha : 0 ≤ a ∧ a < 65536) (hl : l.length ≤ 60) (hs : ∀ s ∈ l, s.size ≤ 300) : Ev (fun k => tachographlaw02_BlobAll.j1 k l a (cat l) ((cat l.dropLast).length : Int) false) true := by
  by_cases hn : l = []
  · subst hn
    refine Ev.step (f := fun _ => some true) (fun k => ?_) (Ev.now _)
    simp only [tachographlaw02_BlobAll.j1, fixed02]
    rw [if_neg (by simp), if_pos (by simp)]
    rfl
  · obtain ⟨m, x, rfl⟩ : ∃ m x, l = m ++ [x] := ⟨l.dropLast, l.getLast hn, (List.dropLast_concat_getLast hn).symm⟩
    have hx : x.size ≤ 300 := hs x (by simp)
    have hm : ∀ s ∈ m, s.size ≤ 300 := fun s h => hs s (by simp [h])
    have hlm : m.length ≤ 60 := by simp at hl; omega
    have hbl := bbytes_le hx
    have hbp := bbytes_pos x
    have hcl := cat_len m hm
    have hne : ¬ ((m ++ [x]).length : Int) = 0 := by rw [List.length_append, List.length_singleton]; omega
    rw [List.dropLast_concat, cat_snoc]
    have hlen : (cat m ++ bbytes x).length = (cat m).length + (bbytes x).length := List.length_append
    obtain ⟨d, hd⟩ : ∃ d : Nat, Int.tmod a ((bbytes x).length : Int) = (d : Int) := ⟨(Int.tmod a ((bbytes x).length : Int)).toNat, by
      have := Int.tmod_nonneg ((bbytes x).length : Int) ha.1
      omega⟩
    have hdl : d < (bbytes x).length := by
      have := Int.tmod_lt_of_pos a (b := ((bbytes x).length : Int)) (by omega)
      omega
    have hw1 : wrap64 (((cat m ++ bbytes x).length : Int) - ((cat m).length : Int)) = ((bbytes x).length : Int) := by rw [w64 (by omega) (by omega)]; omega
    have hw2 : wrap64 (((cat m).length : Int) + Int.tmod (wrap64 a) ((bbytes x).length : Int)) = (((cat m).length + d : Nat) : Int) := by
      rw [w64 (x := a) (by omega) (by omega), hd, w64 (by omega) (by omega)]
      omega
    have htk : (cat m ++ bbytes x).take ((cat m).length + d) = cat m ++ (bbytes x).take d := by
      rw [List.take_append, List.take_of_length_le (by omega)]
      congr 2
      omega
    by_cases h0 : d = 0
    · subst h0
      have hall := all_whole m hlm hm
      have hsame := same_self m (by omega)
      have htm : (m ++ [x]).take m.length = m := by rw [List.take_left]
      refine Ev.step (fun k => by
        simp only [tachographlaw02_BlobAll.j1, hw1, hw2, Int.toNat_natCast, htk, List.take_zero, List.append_nil]
        rw [if_neg (by simp), if_neg hne, if_neg (by omega), if_pos (by omega), if_pos (by omega)]) (Ev.bind hall ?_)
      refine Ev.congr (fun k => by
        rw [fixed02]
        simp only [Option.bind_some]
        rw [if_pos (by omega), if_pos trivial, if_pos trivial, List.length_append, List.length_singleton, w64 (by omega) (by omega), if_pos (by omega), if_pos (by omega), show (((m.length + 1 : Nat) : Int) - 1).toNat = m.length by omega, htm]) (Ev.bind hsame ?_)
      exact Ev.now _
    · have hall := all_cut m x hlm hm hx d (by omega) hdl
      refine Ev.step (fun k => by
        simp only [tachographlaw02_BlobAll.j1, hw1, hw2, Int.toNat_natCast, htk]
        rw [if_neg (by simp), if_neg hne, if_neg (by omega), if_pos (by omega), if_pos (by omega)]) (Ev.bind hall ?_)
      refine Ev.congr (f := fun _ => some true) (fun k => ?_) (Ev.now _)
      rw [fixed02]
      simp only [Option.bind_some]
      rw [if_neg (by omega), if_pos trivial, if_pos trivial]
      rfl

theorem rdOf_dropE {l : List ByteArray} {i : Nat} {x : ByteArray} {r : List ByteArray} (h : l.drop i = x :: r) : rdOf ByteArray.empty l (i : Int) = x ∧ i < l.length ∧ l.drop (i + 1) = r ∧ l.take (i + 1) = l.take i ++ [x] := by
  have hl : i < l.length := by
    rcases Nat.lt_or_ge i l.length with h1 | h1
    · exact h1
    · rw [List.drop_eq_nil_of_le h1] at h; cases h
  rw [List.drop_eq_getElem_cons hl] at h
  obtain ⟨h1, h2⟩ := List.cons.inj h
  refine ⟨?_, hl, h2, by rw [List.take_add_one, List.getElem?_eq_getElem hl, h1]; rfl⟩
  unfold rdOf
  rw [Int.toNat_natCast, List.getD_eq_getElem?_getD, List.getElem?_eq_getElem hl, h1]
  rfl

theorem loop_ev (l : List ByteArray) (a : Int) (ha : 0 ≤ a ∧ a < 65536) (hl : l.length ≤ 60) (hw : ∀ s ∈ l, s.size ≤ 140737488351232) : ∀ (r : List ByteArray) (i : Nat), l.drop i = r → (∀ s ∈ l.take i, s.size ≤ 300) → Ev (fun k => tachographlaw02_BlobAll.l0 k l a (cat (l.take i)) ((cat (l.take i).dropLast).length : Int) l (l.length : Int) (i : Int)) true
  | [], i => fun h hs => by
    have hi := List.drop_eq_nil_iff.1 h
    rw [List.take_of_length_le hi] at hs ⊢
    have hall := all_whole l hl hs
    have hsame := same_self l (by omega)
    have hfin := fin_ev l a ha hl hs
    refine Ev.step (fun k => by simp only [tachographlaw02_BlobAll.l0]; rw [if_neg (by omega)]) (Ev.bind hall ?_)
    refine Ev.bind hsame ?_
    refine Ev.congr (fun k => ?_) hfin
    rw [if_pos rfl, if_pos rfl]
    by_cases hn : l = []
    · subst hn
      rw [if_pos (by simp)]
      rfl
    · obtain ⟨m, x, rfl⟩ : ∃ m x, l = m ++ [x] := ⟨l.dropLast, l.getLast hn, (List.dropLast_concat_getLast hn).symm⟩
      have hbp := bbytes_pos x
      rw [List.dropLast_concat, cat_snoc, if_neg (by rw [List.length_append]; omega)]
  | x :: r, i => fun h hs => by
    obtain ⟨hx, hi, hr, htk⟩ := rdOf_dropE h
    by_cases hb : (x.size : Int) > 300
    · refine Ev.step (f := fun _ => some true) (fun k => ?_) (Ev.now _)
      simp only [tachographlaw02_BlobAll.l0, hx, fixed02]
      rw [if_pos (by omega), if_pos (by omega), if_pos (by omega), if_pos hb]
      rfl
    · have hcl := cat_len (l.take i) hs
      have hlt : (l.take i).length ≤ 60 := by rw [List.length_take]; omega
      have ih := loop_ev l a ha hl hw r (i + 1) hr (by
        rw [htk]
        intro s hs'
        rcases List.mem_append.1 hs' with h1 | h1
        · exact hs s h1
        · rw [List.mem_singleton.1 h1]; omega)
      rw [htk, List.dropLast_concat, cat_snoc] at ih
      refine Ev.step (fun k => ?_) ih
      simp only [tachographlaw02_BlobAll.l0, hx]
      rw [if_pos (by omega), if_pos (by omega), if_pos (by omega), if_neg hb, put_bytes _ x (by omega) (by omega), Option.bind_some, w64 (by omega) (by omega)]
      rfl

theorem BlobAll : tachographlaw02_BlobAll.Pure := by
  intro l a hl ha
  have ha' : 0 ≤ a ∧ a ≤ 65535 := by simpa [Lit.wf, IntKind.min, IntKind.max, IntKind.bits, IntKind.signed] using ha
  refine Ev.rounds (r := true) ?_
  by_cases h : (l.length : Int) > 60
  · refine Ev.congr (f := fun _ => some true) (fun k => ?_) (Ev.now _)
    unfold tachographlaw02_BlobAll.f
    rw [if_pos h, fixed02]
    rfl
  · refine Ev.congr (fun k => by unfold tachographlaw02_BlobAll.f; rw [if_neg h]) ?_
    exact loop_ev l a (by omega) (by omega) (fun s hs => hl.2.2 s hs) l 0 rfl (fun s hs => by simp at hs)

end Go.Proofs.Ytjfklfmfeghjnaa.Pure
