/- Plain laws on a signature's payload: what is put is read, what is read was put so, and what is cut off isn't read. -/
import Derived.Test.YtjfklfmfeghjnabMSigbin
import Derived.Test.YtjfklfmfeghjnabPGx10
import Derived.Test.YtjfklfmfeghjnabPGx2
set_option linter.unusedVariables false
namespace Go.Proofs.Ytjfklfmfeghjnab.MSigbin
open Go.RowKit Go.Proofs.Ytjfklfmfeghjnab.PG Go.Proofs.Ytjfklfmfeghjnab.MSig Go.Proofs.Ytjfklfmfeghjnab.MBlob Go.Proofs.Ytjfklfmfeghjnab.MCursor Go.Proofs.YtjfklfmfeghjnabW.PrintWords Go.Proofs.YtjfklfmfeghjnabW.PrintLast Go.Proofs.YtjfklfmfeghjnabW.PrintMore Go.Proofs.YtjfklfmfeghjnabAid
open Go.Proofs.Ytjfklfmfeghjnab.MW (Byt wget wget_back wget_put wget_cut wget_err byt_bytesOf bytesOf_strOfNums strOfNums_bytesOf w64 wu64 wbytes_pos wbytes_byt wbytes_le10)

/-! ### the bytes -/
def pb (p : Pred) : List Int := bbytes p.f0 ++ (wbytes p.f1.length ++ p.f1)
def pbs (l : List Pred) : List Int := l.flatMap pb
def sbytes (l : List Pred) : List Int := wbytes l.length ++ pbs l
def Fine (p : Pred) : Prop := p.f0.size ≤ 32 ∧ p.f1.length ≤ 8 ∧ Byt p.f1

theorem pbs_cons (p : Pred) (l : List Pred) : pbs (p :: l) = pb p ++ pbs l := by simp [pbs]
theorem byt_pb {p : Pred} (h : Fine p) : Byt (pb p) := (byt_bbytes _).append ((wbytes_byt _).append h.2.2)
theorem byt_pbs {l : List Pred} (h : ∀ p ∈ l, Fine p) : Byt (pbs l) := fun x hx => by
  obtain ⟨p, hp, hx⟩ := List.mem_flatMap.1 hx
  exact byt_pb (h p hp) x hx
theorem byt_sbytes {l : List Pred} (h : ∀ p ∈ l, Fine p) : Byt (sbytes l) := (wbytes_byt _).append (byt_pbs h)
theorem pb_len {p : Pred} (h : Fine p) : (pb p).length ≤ 60 := by
  obtain ⟨h1, h2, _⟩ := h
  have h3 := wbytes_le10 (m := p.f1.length) (by omega)
  have h4 := wbytes_le10 (m := p.f0.size) (by omega)
  simp only [pb, List.length_append, bbytes_len]
  omega
theorem pb_pos (p : Pred) : 0 < (pb p).length := by
  have := wbytes_pos p.f1.length
  simp only [pb, List.length_append]
  omega
theorem pbs_len : ∀ {l : List Pred}, (∀ p ∈ l, Fine p) → (pbs l).length ≤ 60 * l.length
  | [] => fun _ => by simp [pbs]
  | p :: l => fun h => by
    have h1 := pb_len (h p List.mem_cons_self)
    have h2 := pbs_len (fun q hq => h q (List.mem_cons_of_mem _ hq))
    rw [pbs_cons, List.length_append, List.length_cons]
    omega

theorem drop_more {l x r : List Int} {a : Nat} (h : l.drop a = x ++ r) : l.drop (a + x.length) = r := by
  rw [← List.drop_drop, h, List.drop_left]

/-! ### what was put is read -/
theorem T_put (s : ByteArray) (a : Nat) (nm : ByteArray) (hn : nm.size ≤ 32) (rest : List Int) (h : (bytesOf s).drop a = bbytes nm ++ rest) : tkT s (a : Int) 0 = (nm, ((a + (bbytes nm).length : Nat) : Int), 0) := by
  have h1 : gt ((bytesOf s).drop ((a : Int)).toNat) = (nm, (((bbytes nm).length : Nat) : Int), 0) := by
    rw [Int.toNat_natCast, h]
    refine (bget_put nm (by omega) rest 32).trans ?_
    rw [if_neg (by rw [if_neg (by omega)]; omega)]
  rw [tkT_ok s a (by rw [h1]), h1]
  dsimp only
  rw [Int.natCast_add]
theorem N_put (most : Int) (s : ByteArray) (a m : Nat) (hm : m < 18446744073709551616) (hm2 : (m : Int) ≤ most) (rest : List Int) (h : (bytesOf s).drop a = wbytes m ++ rest) : tkN most s (a : Int) 0 = ((m : Int), ((a + (wbytes m).length : Nat) : Int), 0) := by
  have h1 : wget ((bytesOf s).drop ((a : Int)).toNat) = ((m : Int), (((wbytes m).length : Nat) : Int), 0) := by
    rw [Int.toNat_natCast, h]
    exact wget_put m hm rest
  rw [tkN_ok most s a (by rw [h1]) (by rw [h1]; dsimp only; omega), h1]
  dsimp only
  rw [Int.natCast_add]
theorem drop_lt {l : List Int} {a : Nat} {c : Int} {r : List Int} (h : l.drop a = c :: r) : a < l.length := by
  rcases Nat.lt_or_ge a l.length with h' | h'
  · exact h'
  · rw [List.drop_eq_nil_of_le h'] at h
    cases h
theorem B_at (s : ByteArray) (a : Nat) (c : Int) (r : List Int) (h : (bytesOf s).drop a = c :: r) : tkB s (a : Int) 0 = (c, ((a + 1 : Nat) : Int), 0) := by
  have hl := bytesOf_length s
  have hlt := drop_lt h
  rw [gByte_at s (a : Int) (by omega) (by omega)]
  have h1 := rd_bytesOf s a
  rw [List.drop_eq_getElem_cons hlt] at h
  have h2 : (bytesOf s)[a] = c := (List.cons.inj h).1
  have h3 : rd (bytesOf s) (a : Int) = c := by rw [← h2]; simp [rd, List.getD_eq_getElem?_getD, List.getElem?_eq_getElem hlt]
  rw [← h1, h3]
  rfl
theorem B_put (s : ByteArray) : ∀ (args : List Int) (a : Nat) (rest : List Int), (bytesOf s).drop a = args ++ rest → tb s args.length (a : Int) 0 = (args, ((a + args.length : Nat) : Int), 0)
  | [], a, rest => fun _ => rfl
  | c :: args, a, rest => fun h => by
    have h1 := B_at s a c (args ++ rest) h
    have h2 : (bytesOf s).drop (a + 1) = args ++ rest := drop_more (x := [c]) h
    have ih := B_put s args (a + 1) rest h2
    show ((tkB s (a : Int) 0).1 :: (tb s args.length (tkB s (a : Int) 0).2.1 (tkB s (a : Int) 0).2.2).1, (tb s args.length (tkB s (a : Int) 0).2.1 (tkB s (a : Int) 0).2.2).2) = _
    rw [h1]
    dsimp only
    rw [ih]
    dsimp only
    rw [List.length_cons, show a + 1 + args.length = a + (args.length + 1) by omega]
theorem tp_eq (s : ByteArray) (a : Int) (e : Int) {t : ByteArray × Int × Int} {n : Int × Int × Int} {b : List Int × Int × Int} (ht : tkT s a e = t) (hn : tkN 8 s t.2.1 t.2.2 = n) (hb : tb s n.1.toNat n.2.1 n.2.2 = b) : tp s a e = (⟨t.1, b.1⟩, b.2) := by
  subst ht hn hb
  rfl
theorem tp_put (s : ByteArray) (a : Nat) (p : Pred) (hp : Fine p) (rest : List Int) (h : (bytesOf s).drop a = pb p ++ rest) : tp s (a : Int) 0 = (p, ((a + (pb p).length : Nat) : Int), 0) := by
  obtain ⟨h1, h2, h3⟩ := hp
  have e1 : (bytesOf s).drop a = bbytes p.f0 ++ (wbytes p.f1.length ++ (p.f1 ++ rest)) := by rw [h]; simp [pb]
  have d1 := drop_more e1
  have d2 := drop_more d1
  have t1 := T_put s a p.f0 h1 _ e1
  have t2 := N_put 8 s (a + (bbytes p.f0).length) p.f1.length (by omega) (by omega) _ d1
  have t3 := B_put s p.f1 _ rest d2
  rw [tp_eq s a 0 t1 t2 t3]
  dsimp only
  simp only [pb, List.length_append]
  rw [show a + (bbytes p.f0).length + (wbytes p.f1.length).length + p.f1.length = a + ((bbytes p.f0).length + ((wbytes p.f1.length).length + p.f1.length)) by omega]
theorem ts_put (s : ByteArray) : ∀ (l : List Pred) (a : Nat) (rest : List Int), (∀ p ∈ l, Fine p) → (bytesOf s).drop a = pbs l ++ rest → ts s l.length (a : Int) 0 = (l, ((a + (pbs l).length : Nat) : Int), 0)
  | [], a, rest => fun _ _ => rfl
  | p :: l, a, rest => fun hf h => by
    have e1 : (bytesOf s).drop a = pb p ++ (pbs l ++ rest) := by rw [h, pbs_cons, List.append_assoc]
    have t1 := tp_put s a p (hf p List.mem_cons_self) _ e1
    have ih := ts_put s l _ rest (fun q hq => hf q (List.mem_cons_of_mem _ hq)) (drop_more e1)
    show ((tp s (a : Int) 0).1 :: (ts s l.length (tp s (a : Int) 0).2.1 (tp s (a : Int) 0).2.2).1, (ts s l.length (tp s (a : Int) 0).2.1 (tp s (a : Int) 0).2.2).2) = _
    rw [t1]
    dsimp only
    rw [ih]
    dsimp only
    rw [pbs_cons, List.length_append, Nat.add_assoc]

/-! ### cut off, it isn't -/
theorem bget_cut32 (s : ByteArray) (hs : s.size ≤ 32) (j : Nat) (hj : j < (bbytes s).length) : bget ((bbytes s).take j) 32 = (nobytes, 0, 2) := by
  have hb := bytesOf_length s
  rw [bbytes_len] at hj
  by_cases h : j < (wbytes s.size).length
  · have e : (bbytes s).take j = (wbytes s.size).take j := by unfold bbytes; rw [List.take_append_of_le_length (by omega)]
    unfold bget
    rw [e, wget_cut s.size (by omega) j h]
    rfl
  · have e : (bbytes s).take j = wbytes s.size ++ (bytesOf s).take (j - (wbytes s.size).length) := by
      unfold bbytes
      rw [List.take_append, List.take_of_length_le (by omega)]
    unfold bget
    rw [e, wget_put s.size (by omega)]
    dsimp only
    rw [if_pos rfl, if_neg (by rw [if_neg (by omega)]; omega), if_pos (by rw [List.length_append, List.length_take]; omega)]
theorem T_cut (s : ByteArray) (a : Nat) (nm : ByteArray) (hn : nm.size ≤ 32) (j : Nat) (hj : j < (bbytes nm).length) (h : (bytesOf s).drop a = (bbytes nm).take j) : tkT s (a : Int) 0 = (nobytes, (a : Int), 2) := by
  have h1 : gt ((bytesOf s).drop ((a : Int)).toNat) = (nobytes, 0, 2) := by
    rw [Int.toNat_natCast, h]
    exact bget_cut32 nm hn j hj
  rw [tkT_err s a (by rw [h1]; decide), h1]
theorem N_cut (most : Int) (s : ByteArray) (a m : Nat) (hm : m < 18446744073709551616) (j : Nat) (hj : j < (wbytes m).length) (h : (bytesOf s).drop a = (wbytes m).take j) : tkN most s (a : Int) 0 = (0, (a : Int), 2) := by
  have h1 : wget ((bytesOf s).drop ((a : Int)).toNat) = (0, 0, 2) := by
    rw [Int.toNat_natCast, h]
    exact wget_cut m hm j hj
  rw [tkN_err most s a (by rw [h1]; decide), h1]
theorem B_cut (s : ByteArray) (hs : s.size ≤ 140737488355328) : ∀ (args : List Int) (a j : Nat), a ≤ s.size → j < args.length → (bytesOf s).drop a = args.take j → (tb s args.length (a : Int) 0).2.2 = 2
  | [], a, j => fun _ hj _ => absurd hj (by simp)
  | c :: args, a, 0 => fun ha hj h => by
    have hl := bytesOf_length s
    have h1 : s.size ≤ a := by
      have := List.drop_eq_nil_iff.1 (by rw [h]; rfl)
      omega
    have e1 := gByte_end s (a : Int) (by omega)
    show (tb s args.length (tkB s (a : Int) 0).2.1 (tkB s (a : Int) 0).2.2).2.2 = 2
    rw [e1]
    obtain ⟨_, _, b⟩ := tb_bounds s hs args.length (a : Int) 2 (by omega) (by omega)
    exact (b (by decide)).2
  | c :: args, a, j + 1 => fun ha hj h => by
    have hl := bytesOf_length s
    have h0 : (bytesOf s).drop a = c :: args.take j := h
    have h1 := B_at s a c _ h0
    have h2 : (bytesOf s).drop (a + 1) = args.take j := drop_more (x := [c]) h0
    have hlt := drop_lt h0
    show (tb s args.length (tkB s (a : Int) 0).2.1 (tkB s (a : Int) 0).2.2).2.2 = 2
    rw [h1]
    exact B_cut s hs args (a + 1) j (by omega) (by rw [List.length_cons] at hj; omega) h2
theorem take_split {x y : List Int} {j : Nat} (h : ¬ j < x.length) : (x ++ y).take j = x ++ y.take (j - x.length) := by rw [List.take_append, List.take_of_length_le (by omega)]
theorem take_in {x y : List Int} {j : Nat} (h : j < x.length) : (x ++ y).take j = x.take j := List.take_append_of_le_length (by omega)
theorem drop_le {l x : List Int} {a n : Nat} (hn : l.length = n) (h : l.drop a = x) (ha : a ≤ n) : a + x.length ≤ n := by
  have := congrArg List.length h
  rw [List.length_drop] at this
  omega
theorem tp_cut (s : ByteArray) (hs : s.size ≤ 140737488355328) (a : Nat) (ha : a ≤ s.size) (p : Pred) (hp : Fine p) (j : Nat) (hj : j < (pb p).length) (h : (bytesOf s).drop a = (pb p).take j) : (tp s (a : Int) 0).2.2 = 2 := by
  obtain ⟨h1, h2, h3⟩ := hp
  have hl := bytesOf_length s
  by_cases c1 : j < (bbytes p.f0).length
  · have e1 : (bytesOf s).drop a = (bbytes p.f0).take j := by rw [h]; exact take_in c1
    have t1 := T_cut s a p.f0 h1 j c1 e1
    obtain ⟨_, _, b⟩ := bN 8 s (a : Int) 2 hs (by omega) (by omega)
    obtain ⟨b1, b2⟩ := b (by decide)
    rw [tp_eq s a 0 t1 rfl rfl]
    dsimp only
    rw [b1, b2]
    obtain ⟨_, _, d⟩ := tb_bounds s hs (tkN 8 s (a : Int) 2).1.toNat (a : Int) 2 (by omega) (by omega)
    exact (d (by decide)).2
  · have e1 : (bytesOf s).drop a = bbytes p.f0 ++ (wbytes p.f1.length ++ p.f1).take (j - (bbytes p.f0).length) := by rw [h]; exact take_split c1
    have t1 := T_put s a p.f0 h1 _ e1
    have d1 := drop_more e1
    have l1 := drop_le hl e1 ha
    rw [List.length_append] at l1
    by_cases c2 : j - (bbytes p.f0).length < (wbytes p.f1.length).length
    · have e2 := N_cut 8 s (a + (bbytes p.f0).length) p.f1.length (by omega) _ c2 (by rw [d1]; exact take_in c2)
      rw [tp_eq s a 0 t1 e2 rfl]
      obtain ⟨_, _, d⟩ := tb_bounds s hs (0 : Int).toNat ((a + (bbytes p.f0).length : Nat) : Int) 2 (by omega) (by omega)
      exact (d (by decide)).2
    · have d2 : (bytesOf s).drop (a + (bbytes p.f0).length) = wbytes p.f1.length ++ p.f1.take (j - (bbytes p.f0).length - (wbytes p.f1.length).length) := by rw [d1]; exact take_split c2
      have t2 := N_put 8 s (a + (bbytes p.f0).length) p.f1.length (by omega) (by omega) _ d2
      have d3 := drop_more d2
      have l2 := drop_le hl d2 (by omega)
      rw [List.length_append] at l2
      have t3 := B_cut s hs p.f1 (a + (bbytes p.f0).length + (wbytes p.f1.length).length) _ (by omega) (by simp only [pb, List.length_append] at hj; omega) d3
      rw [tp_eq s a 0 t1 t2 (by rw [Int.toNat_natCast])]
      exact t3
theorem ts_cut (s : ByteArray) (hs : s.size ≤ 140737488355328) : ∀ (l : List Pred) (a j : Nat), a ≤ s.size → (∀ p ∈ l, Fine p) → j < (pbs l).length → (bytesOf s).drop a = (pbs l).take j → (ts s l.length (a : Int) 0).2.2 = 2
  | [], a, j => fun _ _ hj _ => absurd hj (by simp [pbs])
  | p :: l, a, j => fun ha hf hj h => by
    have hl := bytesOf_length s
    rw [pbs_cons] at hj h
    show (ts s l.length (tp s (a : Int) 0).2.1 (tp s (a : Int) 0).2.2).2.2 = 2
    by_cases c1 : j < (pb p).length
    · have e1 : (bytesOf s).drop a = (pb p).take j := by rw [h]; exact take_in c1
      have t1 := tp_cut s hs a ha p (hf p List.mem_cons_self) j c1 e1
      obtain ⟨b1, b2, _⟩ := tp_bounds s hs (a : Int) 0 (by omega) (by omega)
      obtain ⟨_, _, d⟩ := ts_bounds s hs l.length (tp s (a : Int) 0).2.1 (tp s (a : Int) 0).2.2 (by omega) b2
      rw [(d (by rw [t1]; decide)).2, t1]
    · have e1 : (bytesOf s).drop a = pb p ++ (pbs l).take (j - (pb p).length) := by rw [h]; exact take_split c1
      have t1 := tp_put s a p (hf p List.mem_cons_self) _ e1
      have l1 := drop_le hl e1 ha
      rw [List.length_append] at l1
      rw [t1]
      exact ts_cut s hs l _ _ (by omega) (fun q hq => hf q (List.mem_cons_of_mem _ hq)) (by rw [List.length_append] at hj; omega) (drop_more e1)

/-! ### whole payloads -/
theorem sget_eq (s : ByteArray) {n : Int × Int × Int} {r : List Pred × Int × Int} (hn : tkN 64 s 0 0 = n) (hr : ts s n.1.toNat n.2.1 n.2.2 = r) : sget s = fin s r.1 r.2.1 r.2.2 := by
  subst hn hr
  rfl
theorem sget_cut (l : List Pred) (hl : l.length ≤ 64) (hf : ∀ p ∈ l, Fine p) (m : Nat) (hm : m < (sbytes l).length) : sget (strOfNums ((sbytes l).take m)) = ([], 2) := by
  have hb : bytesOf (strOfNums ((sbytes l).take m)) = (sbytes l).take m := bytesOf_strOfNums ((byt_sbytes hf).take m)
  have hw := wbytes_le10 (m := l.length) (by omega)
  have hp := pbs_len hf
  have hs : (strOfNums ((sbytes l).take m)).size ≤ 140737488355328 := by
    rw [strOfNums_size, List.length_take]
    simp only [sbytes, List.length_append]
    omega
  by_cases c1 : m < (wbytes l.length).length
  · have t1 := N_cut 64 (strOfNums ((sbytes l).take m)) 0 l.length (by omega) m c1 (by rw [hb, List.drop_zero]; exact take_in c1)
    rw [sget_eq _ t1 rfl]
    exact fin_err _ hs 0 0 2 [] (by omega) (by omega) (by decide)
  · have e1 : (bytesOf (strOfNums ((sbytes l).take m))).drop 0 = wbytes l.length ++ (pbs l).take (m - (wbytes l.length).length) := by rw [hb, List.drop_zero]; exact take_split c1
    have t1 := N_put 64 (strOfNums ((sbytes l).take m)) 0 l.length (by omega) (by omega) _ e1
    have l1 := drop_le (bytesOf_length _) e1 (Nat.zero_le _)
    rw [List.length_append] at l1
    have t2 := ts_cut (strOfNums ((sbytes l).take m)) hs l _ _ (by omega) hf (by simp only [sbytes, List.length_append] at hm; omega) (drop_more e1)
    rw [sget_eq _ t1 (by rw [Int.toNat_natCast])]
    unfold fin
    rw [t2, if_neg (by decide)]
theorem sget_more (l : List Pred) (hl : l.length ≤ 64) (hf : ∀ p ∈ l, Fine p) (x : Int) (hx : 0 ≤ x ∧ x < 256) : sget (strOfNums (sbytes l ++ [x])) = ([], 4) := by
  have hb : bytesOf (strOfNums (sbytes l ++ [x])) = sbytes l ++ [x] := bytesOf_strOfNums ((byt_sbytes hf).append (fun y hy => by rw [List.mem_singleton.1 hy]; exact hx))
  have e1 : (bytesOf (strOfNums (sbytes l ++ [x]))).drop 0 = wbytes l.length ++ (pbs l ++ [x]) := by rw [hb, List.drop_zero, sbytes, List.append_assoc]
  have t1 := N_put 64 (strOfNums (sbytes l ++ [x])) 0 l.length (by omega) (by omega) _ e1
  have t2 := ts_put (strOfNums (sbytes l ++ [x])) l _ [x] hf (drop_more e1)
  rw [sget_eq _ t1 t2]
  unfold fin
  rw [if_pos rfl, if_pos]
  dsimp only
  rw [strOfNums_size]
  simp only [sbytes, List.length_append, List.length_cons, List.length_nil]
  omega

/-! ### what is read was put so -/
theorem wget_eq {y : List Int} (hy : Byt y) (h : (wget y).2.2 = 0) : ∃ m : Nat, m < 18446744073709551616 ∧ (wget y).1 = m ∧ (wget y).2.1 = (((wbytes m).length : Nat) : Int) ∧ ∃ r, y = wbytes m ++ r := by
  obtain ⟨m, h1, h2, h3, h4, h5⟩ := wget_back hy (n := (wget y).1) (k := (wget y).2.1) (by rw [← h])
  exact ⟨m, h2, h1, h3, y.drop (wbytes m).length, by rw [← (List.take_append_drop (wbytes m).length y), ← h5]; simp⟩
theorem N_back (most : Int) (s : ByteArray) (a : Nat) (h : (tkN most s (a : Int) 0).2.2 = 0) : ∃ m : Nat, m < 18446744073709551616 ∧ (tkN most s (a : Int) 0).1 = m ∧ (tkN most s (a : Int) 0).2.1 = ((a + (wbytes m).length : Nat) : Int) ∧ ∃ r, (bytesOf s).drop a = wbytes m ++ r := by
  have hy : Byt ((bytesOf s).drop a) := (byt_bytesOf s).drop a
  by_cases h0 : (wget ((bytesOf s).drop ((a : Int)).toNat)).2.2 = 0
  · by_cases h1 : (wget ((bytesOf s).drop ((a : Int)).toNat)).1 > most
    · rw [tkN_big most s a h0 h1] at h
      cases h
    · rw [tkN_ok most s a h0 h1]
      rw [Int.toNat_natCast] at h0 ⊢
      obtain ⟨m, h2, h3, h4, r, h5⟩ := wget_eq hy h0
      exact ⟨m, h2, h3, by dsimp only; rw [h4, Int.natCast_add], r, h5⟩
  · rw [tkN_err most s a h0] at h
    exact absurd h h0
theorem T_back (s : ByteArray) (a : Nat) (h : (tkT s (a : Int) 0).2.2 = 0) : (tkT s (a : Int) 0).2.1 = ((a + (bbytes (tkT s (a : Int) 0).1).length : Nat) : Int) ∧ ∃ r, (bytesOf s).drop a = bbytes (tkT s (a : Int) 0).1 ++ r := by
  have hy : Byt ((bytesOf s).drop a) := (byt_bytesOf s).drop a
  by_cases h0 : (gt ((bytesOf s).drop ((a : Int)).toNat)).2.2 = 0
  · rw [tkT_ok s a h0]
    rw [Int.toNat_natCast] at h0 ⊢
    obtain ⟨h1, h2, h3, _⟩ := bget_back hy (most := 32) (t := (gt ((bytesOf s).drop a)).1) (n := (gt ((bytesOf s).drop a)).2.1) (by rw [← h0])
    dsimp only
    refine ⟨by rw [h1, Int.natCast_add], ((bytesOf s).drop a).drop (bbytes (gt ((bytesOf s).drop a)).1).length, ?_⟩
    conv => lhs; rw [← List.take_append_drop (bbytes (gt ((bytesOf s).drop a)).1).length ((bytesOf s).drop a), h3]
  · rw [tkT_err s a h0] at h
    exact absurd h h0
theorem B_back (s : ByteArray) (hs : s.size ≤ 140737488355328) : ∀ (n a : Nat), a ≤ s.size → (tb s n (a : Int) 0).2.2 = 0 → (tb s n (a : Int) 0).1.length = n ∧ (tb s n (a : Int) 0).2.1 = ((a + n : Nat) : Int) ∧ a + n ≤ s.size ∧ ∃ r, (bytesOf s).drop a = (tb s n (a : Int) 0).1 ++ r
  | 0, a => fun ha _ => ⟨rfl, rfl, ha, _, rfl⟩
  | n + 1, a => fun ha h => by
    have hl := bytesOf_length s
    rcases Nat.lt_or_ge a s.size with hlt | hge
    · have hd : (bytesOf s).drop a = (bytesOf s)[a] :: (bytesOf s).drop (a + 1) := List.drop_eq_getElem_cons (by omega)
      have h1 := B_at s a _ _ hd
      have h2 : tb s (n + 1) (a : Int) 0 = ((bytesOf s)[a] :: (tb s n ((a + 1 : Nat) : Int) 0).1, (tb s n ((a + 1 : Nat) : Int) 0).2) := by
        show ((tkB s (a : Int) 0).1 :: (tb s n (tkB s (a : Int) 0).2.1 (tkB s (a : Int) 0).2.2).1, (tb s n (tkB s (a : Int) 0).2.1 (tkB s (a : Int) 0).2.2).2) = _
        rw [h1]
      rw [h2] at h ⊢
      obtain ⟨i1, i2, i3, r, i4⟩ := B_back s hs n (a + 1) (by omega) h
      refine ⟨by dsimp only; rw [List.length_cons, i1], by dsimp only; rw [i2]; omega, by omega, r, ?_⟩
      rw [hd, i4]
      rfl
    · have e1 := gByte_end s (a : Int) (by omega)
      have h2 : (tb s (n + 1) (a : Int) 0).2 = (tb s n (a : Int) 2).2 := by
        show (tb s n (tkB s (a : Int) 0).2.1 (tkB s (a : Int) 0).2.2).2 = _
        rw [e1]
      obtain ⟨_, _, b⟩ := tb_bounds s hs n (a : Int) 2 (by omega) (by omega)
      rw [h2, (b (by decide)).2] at h
      cases h
theorem tp_back (s : ByteArray) (hs : s.size ≤ 140737488355328) (a : Nat) (ha : a ≤ s.size) (h : (tp s (a : Int) 0).2.2 = 0) : (tp s (a : Int) 0).2.1 = ((a + (pb (tp s (a : Int) 0).1).length : Nat) : Int) ∧ a + (pb (tp s (a : Int) 0).1).length ≤ s.size ∧ ∃ r, (bytesOf s).drop a = pb (tp s (a : Int) 0).1 ++ r := by
  have hl := bytesOf_length s
  obtain ⟨t1, t2, _⟩ := bT s (a : Int) 0 hs (by omega) (by omega)
  obtain ⟨n1, n2, n3⟩ := bN 8 s (tkT s (a : Int) 0).2.1 (tkT s (a : Int) 0).2.2 hs (by omega) t2
  obtain ⟨b1, b2, b3⟩ := tb_bounds s hs (tkN 8 s (tkT s (a : Int) 0).2.1 (tkT s (a : Int) 0).2.2).1.toNat (tkN 8 s (tkT s (a : Int) 0).2.1 (tkT s (a : Int) 0).2.2).2.1 (tkN 8 s (tkT s (a : Int) 0).2.1 (tkT s (a : Int) 0).2.2).2.2 (by omega) n2
  have hb : (tb s (tkN 8 s (tkT s (a : Int) 0).2.1 (tkT s (a : Int) 0).2.2).1.toNat (tkN 8 s (tkT s (a : Int) 0).2.1 (tkT s (a : Int) 0).2.2).2.1 (tkN 8 s (tkT s (a : Int) 0).2.1 (tkT s (a : Int) 0).2.2).2.2).2.2 = 0 := h
  have hn : (tkN 8 s (tkT s (a : Int) 0).2.1 (tkT s (a : Int) 0).2.2).2.2 = 0 := by
    rcases Decidable.em ((tkN 8 s (tkT s (a : Int) 0).2.1 (tkT s (a : Int) 0).2.2).2.2 = 0) with h' | h'
    · exact h'
    · rw [(b3 h').2] at hb
      exact hb
  have ht : (tkT s (a : Int) 0).2.2 = 0 := by
    rcases Decidable.em ((tkT s (a : Int) 0).2.2 = 0) with h' | h'
    · exact h'
    · rw [(n3 h').2] at hn
      exact hn
  obtain ⟨u1, r1, u2⟩ := T_back s a ht
  obtain ⟨T, hT⟩ : ∃ T, tkT s (a : Int) 0 = T := ⟨_, rfl⟩
  rw [hT] at u1 u2 t2 ht
  have l1 := drop_le hl u2 ha
  rw [List.length_append] at l1
  obtain ⟨m, v1, v2, v3, r2, v4⟩ := N_back 8 s (a + (bbytes T.1).length) (by rw [← u1]; rw [hT, ht] at hn; exact hn)
  have l2 := drop_le hl v4 (by omega)
  rw [List.length_append] at l2
  obtain ⟨w1, w2, w3, r3, w4⟩ := B_back s hs m (a + (bbytes T.1).length + (wbytes m).length) (by omega) (by rw [hT, u1, ht, v2, v3, Int.toNat_natCast] at hb; rw [hT, u1, ht] at hn; rw [hn] at hb; exact hb)
  obtain ⟨B, hB⟩ : ∃ B, tb s m ((a + (bbytes T.1).length + (wbytes m).length : Nat) : Int) 0 = B := ⟨_, rfl⟩
  rw [hB] at w1 w2 w4
  have hN : tkN 8 s T.2.1 T.2.2 = ((m : Int), ((a + (bbytes T.1).length + (wbytes m).length : Nat) : Int), 0) := by
    rw [u1, ht]
    rw [hT, u1, ht] at hn
    exact Prod.ext v2 (Prod.ext v3 hn)
  have hp := tp_eq s (a : Int) 0 hT hN hB
  rw [hp]
  dsimp only
  have e0 : pb (⟨T.1, B.1⟩ : Pred) = bbytes T.1 ++ (wbytes m ++ B.1) := by simp [pb, w1]
  rw [e0]
  simp only [List.length_append]
  refine ⟨by rw [w2, w1]; congr 1; omega, by omega, r3, ?_⟩
  have d1 := drop_more u2
  have d2 := drop_more v4
  rw [u2, ← d1, v4, ← d2, w4]
  simp
theorem ts_back (s : ByteArray) (hs : s.size ≤ 140737488355328) : ∀ (n a : Nat), a ≤ s.size → (ts s n (a : Int) 0).2.2 = 0 → (ts s n (a : Int) 0).1.length = n ∧ (ts s n (a : Int) 0).2.1 = ((a + (pbs (ts s n (a : Int) 0).1).length : Nat) : Int) ∧ a + (pbs (ts s n (a : Int) 0).1).length ≤ s.size ∧ ∃ r, (bytesOf s).drop a = pbs (ts s n (a : Int) 0).1 ++ r
  | 0, a => fun ha _ => ⟨rfl, rfl, ha, _, rfl⟩
  | n + 1, a => fun ha h => by
    obtain ⟨b1, b2, _⟩ := tp_bounds s hs (a : Int) 0 (by omega) (by omega)
    obtain ⟨_, _, d⟩ := ts_bounds s hs n (tp s (a : Int) 0).2.1 (tp s (a : Int) 0).2.2 (by omega) b2
    have h' : (ts s n (tp s (a : Int) 0).2.1 (tp s (a : Int) 0).2.2).2.2 = 0 := h
    have hp : (tp s (a : Int) 0).2.2 = 0 := by
      rcases Decidable.em ((tp s (a : Int) 0).2.2 = 0) with h2 | h2
      · exact h2
      · rw [(d h2).2] at h'
        exact h'
    obtain ⟨u1, u2, r1, u3⟩ := tp_back s hs a ha hp
    obtain ⟨P, hP⟩ : ∃ P, tp s (a : Int) 0 = P := ⟨_, rfl⟩
    rw [hP] at u1 u2 u3 h' hp
    rw [u1, hp] at h'
    obtain ⟨i1, i2, i3, r2, i4⟩ := ts_back s hs n (a + (pb P.1).length) u2 h'
    have e : ts s (n + 1) (a : Int) 0 = (P.1 :: (ts s n ((a + (pb P.1).length : Nat) : Int) 0).1, (ts s n ((a + (pb P.1).length : Nat) : Int) 0).2) := by
      show ((tp s (a : Int) 0).1 :: (ts s n (tp s (a : Int) 0).2.1 (tp s (a : Int) 0).2.2).1, (ts s n (tp s (a : Int) 0).2.1 (tp s (a : Int) 0).2.2).2) = _
      rw [hP, u1, hp]
    rw [e]
    dsimp only
    rw [pbs_cons, List.length_append]
    refine ⟨by rw [List.length_cons, i1], by rw [i2]; congr 1; omega, by omega, r2, ?_⟩
    rw [u3, ← drop_more u3, i4]
    simp
theorem sget_back (s : ByteArray) (hs : s.size ≤ 140737488355328) (l : List Pred) (h : sget s = (l, 0)) : check l = 0 ∧ bytesOf s = sbytes l := by
  have hl := bytesOf_length s
  obtain ⟨n1, n2, n3⟩ := bN 64 s 0 0 hs (by omega) (by omega)
  obtain ⟨N, hN⟩ : ∃ N, tkN 64 s 0 0 = N := ⟨_, rfl⟩
  obtain ⟨R, hR⟩ : ∃ R, ts s N.1.toNat N.2.1 N.2.2 = R := ⟨_, rfl⟩
  rw [hN] at n1 n2
  obtain ⟨_, _, d⟩ := ts_bounds s hs N.1.toNat N.2.1 N.2.2 n1 n2
  rw [hR] at d
  rw [sget_eq s hN hR] at h
  unfold fin at h
  by_cases h0 : R.2.2 = 0
  · rw [if_pos h0] at h
    by_cases h1 : R.2.1 < (s.size : Int)
    · rw [if_pos h1] at h
      cases (congrArg Prod.snd h : (4 : Int) = 0)
    · rw [if_neg h1] at h
      by_cases h2 : check R.1 = 0
      · rw [if_pos h2] at h
        have hl1 : R.1 = l := congrArg Prod.fst h
        have hN0 : N.2.2 = 0 := by
          rcases Decidable.em (N.2.2 = 0) with h' | h'
          · exact h'
          · rw [(d h').2] at h0
            exact h0
        obtain ⟨m, v1, v2, v3, r, v4⟩ := N_back 64 s 0 (by show (tkN 64 s 0 0).2.2 = 0; rw [hN]; exact hN0)
        have v2' : N.1 = m := by rw [← hN]; exact v2
        have v3' : N.2.1 = ((0 + (wbytes m).length : Nat) : Int) := by rw [← hN]; exact v3
        have l1 := drop_le hl v4 (Nat.zero_le _)
        rw [List.length_append] at l1
        have hR' : ts s m ((0 + (wbytes m).length : Nat) : Int) 0 = R := by rw [← hR, v2', v3', hN0, Int.toNat_natCast]
        obtain ⟨i1, i2, i3, r2, i4⟩ := ts_back s hs m (0 + (wbytes m).length) (by omega) (by rw [hR']; exact h0)
        rw [hR'] at i1 i2 i3 i4
        refine ⟨by rw [← hl1]; exact h2, ?_⟩
        have hr2 : r2 = [] := by
          have := drop_le hl i4 (by omega)
          rw [List.length_append] at this
          apply List.length_eq_zero_iff.1
          omega
        rw [List.drop_zero] at v4
        have d1 := drop_more (l := bytesOf s) (a := 0) (by rw [List.drop_zero]; exact v4)
        rw [i4, hr2, List.append_nil] at d1
        rw [v4, ← d1, hl1] 
        rw [hl1] at i1
        unfold sbytes
        rw [i1]
      · rw [if_neg h2] at h
        exact absurd (congrArg Prod.snd h) h2
  · rw [if_neg h0] at h
    exact absurd (congrArg Prod.snd h) h0
theorem sget_none (s : ByteArray) (l : List Pred) (e : Int) (h : sget s = (l, e)) (he : e ≠ 0) : l = [] := by
  unfold sget at h
  generalize ts s (tkN 64 s 0 0).1.toNat (tkN 64 s 0 0).2.1 (tkN 64 s 0 0).2.2 = R at h
  unfold fin at h
  by_cases h0 : R.2.2 = 0
  · rw [if_pos h0] at h
    by_cases h1 : R.2.1 < (s.size : Int)
    · rw [if_pos h1] at h
      exact (congrArg Prod.fst h).symm
    · rw [if_neg h1] at h
      by_cases h2 : check R.1 = 0
      · rw [if_pos h2] at h
        exact absurd (congrArg Prod.snd h).symm he
      · rw [if_neg h2] at h
        exact (congrArg Prod.fst h).symm
  · rw [if_neg h0] at h
    exact (congrArg Prod.fst h).symm

/-! ### putting -/
theorem nameOk_size {s : ByteArray} (h : nameOk s = true) : s.size ≤ 32 := by
  unfold nameOk at h
  simp only [Bool.and_eq_true, decide_eq_true_eq] at h
  exact h.2
theorem typeOk_lt {a : List Int} (h : a.all typeOk = true) : ∀ x ∈ a, x = 1 ∨ x = 2 := fun x hx => by
  have := List.all_eq_true.1 h x hx
  simpa [typeOk] using this
theorem check_fine {l : List Pred} (h : check l = 0) : l.length ≤ 64 ∧ ∀ p ∈ l, Fine p ∧ ∀ x ∈ p.f1, x = 1 ∨ x = 2 := by
  obtain ⟨h1, h2⟩ := (check_zero l).1 h
  refine ⟨h1, fun p hp => ?_⟩
  obtain ⟨j, hj, e⟩ := List.getElem_of_mem hp
  obtain ⟨_, g2, g3, g4⟩ := h2 j hj
  rw [getD_eq l j hj, e] at g2 g3 g4
  have ht := typeOk_lt g4
  exact ⟨⟨nameOk_size g2, g3, fun x hx => by rcases ht x hx with h | h <;> omega⟩, ht⟩

theorem put_args (l : List Pred) (x20 x21 : Int) (a : List Int) (ha : ∀ x ∈ a, x = 1 ∨ x = 2) (hl : a.length ≤ 8) (V : List Int → List Int × Int) : ∀ (n j : Nat) (out : List Int), n + j = a.length → out.length + n ≤ 100000 →
    Ev (fun k => sigbin_Put.l0 k (out ++ a.drop j) l x20 (wrap64 (x21 + 1))) (V (out ++ a.drop j)) → Ev (fun k => sigbin_Put.l1 k out l x20 x21 a (a.length : Int) (j : Int)) (V (out ++ a.drop j))
  | 0, j, out => fun h ho hV => by
    have e : a.drop j = [] := List.drop_eq_nil_iff.2 (by omega)
    rw [e, List.append_nil] at hV ⊢
    refine Ev.step (f := fun k => sigbin_Put.l0 k out l x20 (wrap64 (x21 + 1))) (fun k => ?_) hV
    simp only [sigbin_Put.l1]
    rw [if_neg (by omega)]
  | n + 1, j, out => fun h ho hV => by
    have hj : j < a.length := by omega
    have hr : rd a (j : Int) = a[j] := by simp [rd, List.getD_eq_getElem?_getD, List.getElem?_eq_getElem hj]
    have hx := ha a[j] (List.getElem_mem hj)
    have hm : a[j] % 256 = a[j] := by rcases hx with hx | hx <;> rw [hx] <;> rfl
    have e1 : out ++ a.drop j = out ++ [a[j]] ++ a.drop (j + 1) := by rw [List.drop_eq_getElem_cons hj]; simp
    rw [e1] at hV ⊢
    have ih := put_args l x20 x21 a ha hl V n (j + 1) (out ++ [a[j]]) (by omega) (by simp only [List.length_append, List.length_cons, List.length_nil]; omega) hV
    refine Ev.step (f := fun k => sigbin_Put.l1 k (out ++ [a[j]]) l x20 x21 a (a.length : Int) ((j + 1 : Nat) : Int)) (fun k => ?_) ih
    simp only [sigbin_Put.l1]
    rw [if_pos (by omega), if_pos (by omega), if_pos (by omega), if_pos (by omega), hr, hm, w64 (by omega) (by omega)]
    rfl

theorem put_from (l : List Pred) (hl : l.length ≤ 64) (hf : ∀ p ∈ l, Fine p ∧ ∀ x ∈ p.f1, x = 1 ∨ x = 2) : ∀ (n i : Nat) (out : List Int), n + i = l.length → out.length ≤ 100 * (i + 1) →
    Ev (fun k => sigbin_Put.l0 k out l (l.length : Int) (i : Int)) (out ++ pbs (l.drop i), 0)
  | 0, i, out => fun h ho => by
    have e : l.drop i = [] := List.drop_eq_nil_iff.2 (by omega)
    rw [e, show pbs [] = [] from rfl, List.append_nil]
    refine Ev.step (f := fun _ => some (out, 0)) (fun k => ?_) (Ev.now _)
    simp only [sigbin_Put.l0]
    rw [if_neg (by omega)]
  | n + 1, i, out => fun h ho => by
    have hi : i < l.length := by omega
    have hd : l.drop i = l[i] :: l.drop (i + 1) := List.drop_eq_getElem_cons hi
    obtain ⟨p, hp⟩ : ∃ p, l[i] = p := ⟨_, rfl⟩
    rw [hp] at hd
    have hgp : l.getD i z106 = p := by rw [getD_eq l i hi, hp]
    obtain ⟨⟨f1, f2, f3⟩, f4⟩ := hf p (by rw [← hp]; exact List.getElem_mem hi)
    have hlen := pb_len ⟨f1, f2, f3⟩
    have e1 : out ++ pbs (l.drop i) = (out ++ bbytes p.f0 ++ wbytes p.f1.length ++ p.f1.drop 0) ++ pbs (l.drop (i + 1)) := by rw [hd, pbs_cons, pb, List.drop_zero]; simp
    have hlo : (out ++ bbytes p.f0 ++ wbytes p.f1.length ++ p.f1.drop 0).length ≤ 100 * (i + 1 + 1) := by
      have e2 : (out ++ bbytes p.f0 ++ wbytes p.f1.length ++ p.f1.drop 0).length = out.length + (pb p).length := by rw [List.drop_zero, pb]; simp only [List.length_append]; omega
      rw [e2]
      omega
    have ih := put_from l hl hf n (i + 1) _ (by omega) hlo
    rw [e1]
    have hb := put_bytes out p.f0 (by omega) (by omega)
    have hlb : (out ++ bbytes p.f0).length ≤ 100000 := by
      rw [pb, List.length_append] at hlen
      rw [List.length_append]
      omega
    have hw := MW.put_eq (out ++ bbytes p.f0) p.f1.length (by omega) (by omega)
    have hlw : (out ++ bbytes p.f0 ++ wbytes p.f1.length).length + p.f1.length ≤ 100000 := by
      simp only [pb, List.length_append] at hlen
      simp only [List.length_append]
      omega
    have hq := put_args l (l.length : Int) (i : Int) p.f1 f4 f2 (fun z => (z ++ pbs (l.drop (i + 1)), 0)) p.f1.length 0 (out ++ bbytes p.f0 ++ wbytes p.f1.length) (by omega) hlw (by rw [w64 (by omega) (by omega)]; exact ih)
    refine Ev.step (f := fun k => sigbin_Put.l1 k (out ++ bbytes p.f0 ++ wbytes p.f1.length) l (l.length : Int) (i : Int) p.f1 (p.f1.length : Int) ((0 : Nat) : Int)) (fun k => ?_) hq
    simp only [sigbin_Put.l0]
    rw [if_pos (by omega), if_pos (by omega), if_pos (by omega), rd_pred, hgp, hb]
    simp only [Option.bind_some]
    rw [wu64 (by omega) (by omega), hw]
    rfl

theorem put_ok (l : List Pred) (h : check l = 0) : Ev (fun k => sigbin_Put.f k l) (sbytes l, 0) := by
  obtain ⟨h1, h2⟩ := check_fine h
  unfold sigbin_Put.f
  refine Ev.bind (check_ev l (fun p hp => by have := (h2 p hp).1.1; omega)) ?_
  simp only [if_pos h]
  have hw := MW.put_eq [] l.length (by simp) (by omega)
  rw [wu64 (by omega) (by omega), hw]
  simp only [Option.bind_some, List.nil_append]
  have h10 := wbytes_le10 (m := l.length) (by omega)
  have := put_from l h1 h2 l.length 0 (wbytes l.length) (by omega) (by omega)
  exact this
theorem put_err (l : List Pred) (hs : Short l) (h : check l ≠ 0) : Ev (fun k => sigbin_Put.f k l) ([], check l) := by
  unfold sigbin_Put.f
  refine Ev.bind (check_ev l hs) ?_
  simp only [if_neg h]
  exact Ev.now _

theorem fixed11 : Ev (fun k => tachographlaw11_fixed.f k) true := by
  unfold tachographlaw11_fixed.f
  have hc : check [(⟨(⟨#[112]⟩ : ByteArray), (([1] : List Int))⟩ : Pred)] = 0 := by decide
  have w1 : wbytes 1 = [1] := by rw [wbytes]; rfl
  have hb : sbytes [(⟨(⟨#[112]⟩ : ByteArray), (([1] : List Int))⟩ : Pred)] = [1, 1, 112, 1, 1] := by
    show wbytes 1 ++ (((wbytes 1 ++ bytesOf ⟨#[112]⟩) ++ (wbytes 1 ++ [1])) ++ []) = _
    rw [w1]
    rfl
  refine Ev.bind (put_ok _ hc) ?_
  simp only [if_true, hb]
  refine Ev.congr (f := fun _ => some true) (fun k => ?_) (Ev.now _)
  rw [MW.toList_strOfNums]
  decide

/-! ### the same -/
theorem same_args (l : List Pred) (i : Nat) (hi : i < l.length) (hl : l.length < 9223372036854775807) (ha : (l.getD i z106).f1.length < 9223372036854775807) (v : Bool) (hv : Ev (fun k => tachographref09_Same.l0 k l l ((i + 1 : Nat) : Int)) v) : ∀ (n j : Nat), n + j = (l.getD i z106).f1.length →
    Ev (fun k => tachographref09_Same.l1 k l l (i : Int) (j : Int)) v
  | 0, j => fun h => by
    refine Ev.step (f := fun k => tachographref09_Same.l0 k l l ((i + 1 : Nat) : Int)) (fun k => ?_) hv
    simp only [tachographref09_Same.l1]
    rw [if_pos (by omega), if_pos (by omega), rd_pred, if_neg (by omega), w64 (by omega) (by omega)]
    rfl
  | n + 1, j => fun h => by
    have ih := same_args l i hi hl ha v hv n (j + 1) (by omega)
    refine Ev.step (f := fun k => tachographref09_Same.l1 k l l (i : Int) ((j + 1 : Nat) : Int)) (fun k => ?_) ih
    simp only [tachographref09_Same.l1]
    rw [if_pos (by omega), if_pos (by omega), rd_pred, if_pos (by omega), if_pos (by omega), if_pos (by omega), if_pos (by omega), if_pos trivial, w64 (by omega) (by omega)]
    rfl
theorem same_from (l : List Pred) (hl : l.length < 9223372036854775807) (ha : ∀ p ∈ l, p.f1.length < 9223372036854775807) : ∀ (n i : Nat), n + i = l.length → Ev (fun k => tachographref09_Same.l0 k l l (i : Int)) true
  | 0, i => fun h => by
    refine Ev.step (f := fun _ => some true) (fun k => ?_) (Ev.now _)
    simp only [tachographref09_Same.l0]
    rw [if_neg (by omega)]
  | n + 1, i => fun h => by
    have hi : i < l.length := by omega
    have ih := same_from l hl ha n (i + 1) (by omega)
    have hq := same_args l i hi hl (by rw [getD_eq l i hi]; exact ha _ (List.getElem_mem hi)) true ih (l.getD i z106).f1.length 0 (by omega)
    refine Ev.step (f := fun k => tachographref09_Same.j1 k l l (i : Int) false) (fun k => ?_) (Ev.step (f := fun k => tachographref09_Same.l1 k l l (i : Int) ((0 : Nat) : Int)) (fun k => ?_) hq)
    · simp only [tachographref09_Same.l0]
      rw [if_pos (by omega), if_pos (by omega), if_pos (by omega), if_pos trivial, bne_self_eq_false]
    · simp only [tachographref09_Same.j1, Bool.false_eq_true, if_false]
      rfl
theorem same_refl (l : List Pred) (hl : l.length < 9223372036854775807) (ha : ∀ p ∈ l, p.f1.length < 9223372036854775807) : Ev (fun k => tachographref09_Same.f k l l) true := by
  unfold tachographref09_Same.f
  refine Ev.congr (f := fun k => tachographref09_Same.l0 k l l ((0 : Nat) : Int)) (fun k => ?_) (same_from l hl ha l.length 0 (by omega))
  rw [if_pos rfl]
  rfl
end Go.Proofs.Ytjfklfmfeghjnab.MSigbin
