/- Plain laws on the document's answer for signatures' texts (layer 10): what it reads of any text, and what it makes of a signature. -/
import Derived.Test.YtmmfakdncjeoeacDoorMSigtext
import Derived.Test.YtmmfakdncjeoeacDoorPEx10
import Derived.Test.YtmmfakdncjeoeacDoorPEx11
import Derived.Test.YtmmfakdncjeoeacDoorPEx6
import Derived.Test.YtmmfakdncjeoeacDoorPEx8
import Derived.Test.YtmmfakdncjeoeacDoorPEx9
set_option linter.unusedVariables false
set_option linter.unusedSimpArgs false
namespace Go.Proofs.YtmmfakdncjeoeacDoor.MSigtext
open Go Go.RowKit Go.Proofs.YtmmfakdncjeoeacDoor.PE Go.Proofs.YtmmfakdncjeoeacDoor.MBase Go.Proofs.YtmmfakdncjeoeacDoor.MSig Go.Proofs.YtmmfakdncjeoeacDoor.MSplit Go.Proofs.YtmmfakdncjeoeacDoor.MSigline Go.Proofs.YtmmfakdncjeoeacDoorAid Go.Proofs.YtmmfakdncjeoeacDoorW.PrintWords Go.Proofs.YtmmfakdncjeoeacDoorW.PrintLast Go.Proofs.YtmmfakdncjeoeacDoorW.PrintMore

theorem app_list (s t : ByteArray) : (s ++ t).data.toList = s.data.toList ++ t.data.toList := by rw [ByteArray.data_append, Array.toList_append]
theorem rd_at (l : List Int) (i : Nat) (h : i < l.length) : rd l (i : Int) = l[i] := by
  unfold rd
  simp [List.getD_eq_getElem?_getD, List.getElem?_eq_getElem h]
theorem bt_at (s : ByteArray) (pre : List UInt8) (c : UInt8) (r : List UInt8) (h : s.data.toList = pre ++ c :: r) : bt s (pre.length : Int) = (c.toNat : Int) ∧ pre.length < s.size := by
  have hl := size_list s
  rw [h] at hl
  simp only [List.length_append, List.length_cons] at hl
  refine ⟨?_, by omega⟩
  unfold bt
  rw [dif_pos (show (pre.length : Int).toNat < s.size by rw [Int.toNat_natCast]; omega)]
  simp only [Int.toNat_natCast]
  have e : s[pre.length]'(by omega) = s.data.toList[pre.length]'(by rw [h]; simp) := rfl
  rw [e]
  simp only [h]
  rw [List.getElem_append_right (Nat.le_refl _)]
  simp
theorem byte_eq (c : UInt8) (n : Nat) (hn : n < 256) : ((c.toNat : Int) = (n : Int)) ↔ c = UInt8.ofNat n := by
  refine ⟨fun h => ?_, fun h => by rw [h]; simp; omega⟩
  apply UInt8.toNat_inj.1
  simp
  omega

/-! ### a line -/
def tailL (a : List Int) : List UInt8 := (a.map (fun t => 44 :: wordL t)).flatten
theorem tailL_cons (t : Int) (a : List Int) : tailL (t :: a) = 44 :: (wordL t ++ tailL a) := by simp [tailL]
theorem argsL_tail : ∀ (a : List Int) (t : Int), argsL (t :: a) = wordL t ++ tailL a
  | [], t => by rw [argsL_one]; simp [tailL]
  | u :: a, t => by rw [argsL_cons, argsL_tail a u, tailL_cons]
theorem wordL_len {t : Int} (h : t = 1 ∨ t = 2) : (wordL t).length ≤ 6 := by rcases h with rfl | rfl <;> decide
theorem tailL_len : ∀ {a : List Int}, T12 a → (tailL a).length ≤ 7 * a.length
  | [], _ => by simp [tailL]
  | t :: a, h => by
    have h1 := wordL_len (h t List.mem_cons_self)
    have h2 := tailL_len (a := a) (fun x hx => h x (List.mem_cons_of_mem _ hx))
    rw [tailL_cons, List.length_cons, List.length_append, List.length_cons]
    omega
theorem argsL_len {a : List Int} (h : T12 a) : (argsL a).length ≤ 7 * a.length := by
  cases a with
  | nil => simp [argsL, Lib.join, List.intercalate]
  | cons t a =>
    have h1 := wordL_len (h t List.mem_cons_self)
    have h2 := tailL_len (a := a) (fun x hx => h x (List.mem_cons_of_mem _ hx))
    rw [argsL_tail, List.length_append, List.length_cons]
    omega
theorem rline_from (nm : ByteArray) (a : List Int) (ha : T12 a) (hl : a.length ≤ 10000) : ∀ (d i : Nat) (x : ByteArray), d + i = a.length → 0 < i → x.size + 7 * d ≤ 9000000000000000000 →
    Ev (fun k => tachographref10_Line.l0 k x (i : Int) nm a) (mkB (x.data.toList ++ (tailL (a.drop i) ++ [41])))
  | 0, i, x => fun hd hi hx => by
    have e : x ++ (⟨#[41]⟩ : ByteArray) = mkB (x.data.toList ++ (tailL (a.drop i) ++ [41])) := ba_eq (by rw [app_list, List.drop_eq_nil_of_le (by omega)]; rfl)
    refine Ev.step (f := fun _ => some (x ++ (⟨#[41]⟩ : ByteArray))) (fun k => ?_) (by rw [e]; exact Ev.now _)
    simp only [tachographref10_Line.l0]
    rw [if_neg (by omega), if_pos (by omega)]
  | d + 1, i, x => fun hd hi hx => by
    have hil : i < a.length := by omega
    have ht := ha _ (List.getElem_mem hil)
    rw [List.drop_eq_getElem_cons hil, tailL_cons]
    have s1 : (x ++ (⟨#[44]⟩ : ByteArray)).size = x.size + 1 := by rw [ByteArray.size_append]; rfl
    rcases ht with h1 | h1
    · have s2 : ((x ++ (⟨#[44]⟩ : ByteArray)) ++ (⟨#[105, 110, 116]⟩ : ByteArray)).size = x.size + 4 := by rw [ByteArray.size_append, s1]; rfl
      have ih := rline_from nm a ha hl d (i + 1) ((x ++ (⟨#[44]⟩ : ByteArray)) ++ (⟨#[105, 110, 116]⟩ : ByteArray)) (by omega) (by omega) (by omega)
      have e : ((x ++ (⟨#[44]⟩ : ByteArray)) ++ (⟨#[105, 110, 116]⟩ : ByteArray)).data.toList ++ (tailL (a.drop (i + 1)) ++ [41]) = x.data.toList ++ ((44 :: (wordL a[i] ++ tailL (a.drop (i + 1)))) ++ [41]) := by
        rw [app_list, app_list, h1]
        simp [wordL]
      rw [e] at ih
      refine Ev.step (f := fun k => tachographref10_Line.l0 k ((x ++ (⟨#[44]⟩ : ByteArray)) ++ (⟨#[105, 110, 116]⟩ : ByteArray)) ((i + 1 : Nat) : Int) nm a) (fun k => ?_) ih
      simp only [tachographref10_Line.l0]
      rw [if_pos (by omega), if_pos (by omega), if_pos (by omega), if_pos (by omega), rd_at a i hil, if_pos h1, if_pos (by omega), w64 (by omega) (by omega)]
      rfl
    · have s2 : ((x ++ (⟨#[44]⟩ : ByteArray)) ++ (⟨#[115, 116, 114, 105, 110, 103]⟩ : ByteArray)).size = x.size + 7 := by rw [ByteArray.size_append, s1]; rfl
      have ih := rline_from nm a ha hl d (i + 1) ((x ++ (⟨#[44]⟩ : ByteArray)) ++ (⟨#[115, 116, 114, 105, 110, 103]⟩ : ByteArray)) (by omega) (by omega) (by omega)
      have e : ((x ++ (⟨#[44]⟩ : ByteArray)) ++ (⟨#[115, 116, 114, 105, 110, 103]⟩ : ByteArray)).data.toList ++ (tailL (a.drop (i + 1)) ++ [41]) = x.data.toList ++ ((44 :: (wordL a[i] ++ tailL (a.drop (i + 1)))) ++ [41]) := by
        rw [app_list, app_list, h1]
        simp [wordL]
      rw [e] at ih
      refine Ev.step (f := fun k => tachographref10_Line.l0 k ((x ++ (⟨#[44]⟩ : ByteArray)) ++ (⟨#[115, 116, 114, 105, 110, 103]⟩ : ByteArray)) ((i + 1 : Nat) : Int) nm a) (fun k => ?_) ih
      simp only [tachographref10_Line.l0]
      rw [if_pos (by omega), if_pos (by omega), if_pos (by omega), if_pos (by omega), rd_at a i hil, if_neg (by omega), if_pos (by omega), w64 (by omega) (by omega)]
      rfl
theorem rline_ev (nm : ByteArray) (a : List Int) (ha : T12 a) (hl : a.length ≤ 10000) (hn : nm.size ≤ 8000000000000000000) : Ev (fun k => tachographref10_Line.f k nm a) (mkB (lineL nm.data.toList a)) := by
  unfold tachographref10_Line.f
  have s0 : (nm ++ (⟨#[40]⟩ : ByteArray)).size = nm.size + 1 := by rw [ByteArray.size_append]; rfl
  refine Ev.congr (f := fun k => tachographref10_Line.l0 k (nm ++ (⟨#[40]⟩ : ByteArray)) 0 nm a) (fun k => by rw [if_pos (by omega)]) ?_
  cases a with
  | nil =>
    have e : (nm ++ (⟨#[40]⟩ : ByteArray)) ++ (⟨#[41]⟩ : ByteArray) = mkB (lineL nm.data.toList []) := ba_eq (by rw [app_list, app_list, mk_list]; simp [lineL, argsL_nil])
    refine Ev.step (f := fun _ => some ((nm ++ (⟨#[40]⟩ : ByteArray)) ++ (⟨#[41]⟩ : ByteArray))) (fun k => ?_) (by rw [e]; exact Ev.now _)
    simp only [tachographref10_Line.l0]
    rw [if_neg (by simp), if_pos (by omega)]
  | cons t a =>
    have ht := ha t List.mem_cons_self
    rw [List.length_cons] at hl
    rcases ht with h1 | h1
    · have s2 : ((nm ++ (⟨#[40]⟩ : ByteArray)) ++ (⟨#[105, 110, 116]⟩ : ByteArray)).size = nm.size + 4 := by rw [ByteArray.size_append, s0]; rfl
      have ih := rline_from nm (t :: a) ha (by simpa using hl) a.length 1 ((nm ++ (⟨#[40]⟩ : ByteArray)) ++ (⟨#[105, 110, 116]⟩ : ByteArray)) (by simp) (by omega) (by omega)
      have e : ((nm ++ (⟨#[40]⟩ : ByteArray)) ++ (⟨#[105, 110, 116]⟩ : ByteArray)).data.toList ++ (tailL ((t :: a).drop 1) ++ [41]) = lineL nm.data.toList (t :: a) := by
        rw [app_list, app_list]
        unfold lineL
        rw [argsL_tail, h1]
        simp [wordL]
      rw [e] at ih
      refine Ev.step (f := fun k => tachographref10_Line.l0 k ((nm ++ (⟨#[40]⟩ : ByteArray)) ++ (⟨#[105, 110, 116]⟩ : ByteArray)) ((1 : Nat) : Int) nm (t :: a)) (fun k => ?_) ih
      simp only [tachographref10_Line.l0]
      rw [if_pos (by rw [List.length_cons]; omega), if_neg (by omega), if_pos (by omega), if_pos (by simpa [rd] using h1), if_pos (by omega), show wrap64 ((0 : Int) + 1) = ((1 : Nat) : Int) from w64 (by omega) (by omega)]
    · have s2 : ((nm ++ (⟨#[40]⟩ : ByteArray)) ++ (⟨#[115, 116, 114, 105, 110, 103]⟩ : ByteArray)).size = nm.size + 7 := by rw [ByteArray.size_append, s0]; rfl
      have ih := rline_from nm (t :: a) ha (by simpa using hl) a.length 1 ((nm ++ (⟨#[40]⟩ : ByteArray)) ++ (⟨#[115, 116, 114, 105, 110, 103]⟩ : ByteArray)) (by simp) (by omega) (by omega)
      have e : ((nm ++ (⟨#[40]⟩ : ByteArray)) ++ (⟨#[115, 116, 114, 105, 110, 103]⟩ : ByteArray)).data.toList ++ (tailL ((t :: a).drop 1) ++ [41]) = lineL nm.data.toList (t :: a) := by
        rw [app_list, app_list]
        unfold lineL
        rw [argsL_tail, h1]
        simp [wordL]
      rw [e] at ih
      refine Ev.step (f := fun k => tachographref10_Line.l0 k ((nm ++ (⟨#[40]⟩ : ByteArray)) ++ (⟨#[115, 116, 114, 105, 110, 103]⟩ : ByteArray)) ((1 : Nat) : Int) nm (t :: a)) (fun k => ?_) ih
      simp only [tachographref10_Line.l0]
      have hr0 : rd (t :: a) 0 = t := by simp [rd]
      rw [if_pos (by rw [List.length_cons]; omega), if_neg (by omega), if_pos (by omega), if_neg (by rw [hr0]; omega), if_pos (by omega), show wrap64 ((0 : Int) + 1) = ((1 : Nat) : Int) from w64 (by omega) (by omega)]

/-! ### a line is read -/
def scan : List UInt8 → List UInt8 → List Int → List Int
  | _, [], acc => acc
  | w, c :: r, acc => if c = 44 ∨ c = 41 then scan [] r (acc ++ (typeL w).toList) else scan (w ++ [c]) r acc
theorem scan_t12 : ∀ (r w : List UInt8) (acc : List Int), T12 acc → T12 (scan w r acc)
  | [], w, acc => fun h => h
  | c :: r, w, acc => fun h => by
    simp only [scan]
    split
    · refine scan_t12 r [] _ (fun t ht => ?_)
      rcases List.mem_append.1 ht with ht | ht
      · exact h t ht
      · rw [Option.mem_toList] at ht
        exact (typeL_back ht).1
    · exact scan_t12 r _ acc h
theorem scan_len : ∀ (r w : List UInt8) (acc : List Int), (scan w r acc).length ≤ acc.length + r.length
  | [], w, acc => Nat.le_refl _
  | c :: r, w, acc => by
    simp only [scan]
    split
    · have := scan_len r [] (acc ++ (typeL w).toList)
      rw [List.length_append] at this
      have h1 : (typeL w).toList.length ≤ 1 := by cases typeL w <;> simp
      rw [List.length_cons]
      omega
    · have := scan_len r (w ++ [c]) acc
      rw [List.length_cons]
      omega
theorem scan_word : ∀ (x w : List UInt8) (c : UInt8) (r : List UInt8) (acc : List Int), (44 : UInt8) ∉ x → (41 : UInt8) ∉ x → (c = 44 ∨ c = 41) → scan w (x ++ c :: r) acc = scan [] r (acc ++ (typeL (w ++ x)).toList)
  | [], w, c, r, acc => fun _ _ hc => by simp only [List.nil_append, scan]; rw [if_pos hc, List.append_nil]
  | b :: x, w, c, r, acc => fun h1 h2 hc => by
    have hb : ¬ (b = 44 ∨ b = 41) := fun e => e.elim (fun e => h1 (by rw [e]; exact List.mem_cons_self)) (fun e => h2 (by rw [e]; exact List.mem_cons_self))
    rw [List.cons_append]
    simp only [scan]
    rw [if_neg hb, scan_word x (w ++ [b]) c r acc (fun e => h1 (List.mem_cons_of_mem _ e)) (fun e => h2 (List.mem_cons_of_mem _ e)) hc, List.append_assoc]
    rfl
theorem scan_args : ∀ (a acc : List Int), T12 a → a ≠ [] → scan [] (argsL a ++ [41]) acc = acc ++ a
  | [], acc, _, h => absurd rfl h
  | [t], acc, ha, _ => by
    have hw := word_no (ha t List.mem_cons_self)
    rw [argsL_one, scan_word (wordL t) [] 41 [] acc hw.1 hw.2.1 (.inr rfl), List.nil_append, typeL_word (ha t List.mem_cons_self)]
    rfl
  | t :: u :: a, acc, ha, _ => by
    have hw := word_no (ha t List.mem_cons_self)
    rw [argsL_cons, List.append_assoc, List.cons_append, scan_word (wordL t) [] 44 _ acc hw.1 hw.2.1 (.inl rfl), List.nil_append, typeL_word (ha t List.mem_cons_self),
      scan_args (u :: a) _ (fun x hx => ha x (List.mem_cons_of_mem _ hx)) (by simp)]
    simp
theorem scan_line {a : List Int} (ha : T12 a) : scan [] (argsL a ++ [41]) [] = a := by
  by_cases h : a = []
  · subst h; rfl
  · rw [scan_args a [] ha h]; rfl

theorem rfin (s nm : ByteArray) (a : List Int) (ha : T12 a) (hl : a.length ≤ 10000) (hn : nm.size ≤ 3000) : Ev (fun k => (tachographref09_Name.f k nm).bind fun t182 => (if t182 = true then ((tachographref10_Line.f k nm a).bind fun t183 => (some (nm, a, (t183.toList == s.toList)))) else (some (nm, a, false)))) (nm, a, nameOk nm && (lineL nm.data.toList a == s.data.toList)) := by
  refine Ev.bind (rname_ev nm (by omega)) ?_
  cases hb : nameOk nm with
  | false =>
    simp only [Bool.false_eq_true, if_false, Bool.false_and]
    exact Ev.now _
  | true =>
    simp only [if_true, Bool.true_and]
    refine Ev.bind (rline_ev nm a ha hl (by omega)) ?_
    simp only [toList_eq, mk_list]
    exact Ev.now _
theorem rpred2 (s nm : ByteArray) (hs : s.size ≤ 3000) (hn : nm.size ≤ 3000) : ∀ (r w pre : List UInt8) (acc : List Int), s.data.toList = pre ++ (w ++ r) → T12 acc → acc.length + r.length ≤ 6000 →
    Ev (fun k => tachographref10_Pred.l0 k s (pre.length : Int) ((pre.length + w.length : Nat) : Int) nm acc) (nm, scan w r acc, nameOk nm && (lineL nm.data.toList (scan w r acc) == s.data.toList))
  | [], w, pre, acc => fun h ha hl => by
    have hsl := size_list s
    rw [h, List.append_nil, List.length_append] at hsl
    refine Ev.step (f := fun k => (tachographref09_Name.f k nm).bind fun t182 => (if t182 = true then ((tachographref10_Line.f k nm acc).bind fun t183 => (some (nm, acc, (t183.toList == s.toList)))) else (some (nm, acc, false)))) (fun k => ?_) (rfin s nm acc ha (by simp only [List.length_nil] at hl; omega) hn)
    simp only [tachographref10_Pred.l0]
    rw [if_neg (by omega)]
  | c :: r, w, pre, acc => fun h ha hl => by
    have hsl := size_list s
    rw [h, List.length_append, List.length_append, List.length_cons] at hsl
    rw [List.length_cons] at hl
    obtain ⟨hb, hlt⟩ := bt_at s (pre ++ w) c r (by rw [h, List.append_assoc])
    rw [List.length_append] at hb hlt
    have hex : s.extract (pre.length : Int).toNat (((pre.length + w.length : Nat) : Int)).toNat = mkB w := ba_eq (by
      rw [ext_list, mk_list, Int.toNat_natCast, Int.toNat_natCast, h, List.drop_left, Nat.add_sub_cancel_left, List.take_left])
    have h44 : ((c.toNat : Int) = 44) ↔ c = 44 := byte_eq c 44 (by omega)
    have h41 : ((c.toNat : Int) = 41) ↔ c = 41 := byte_eq c 41 (by omega)
    have hj2t : (c = 44 ∨ c = 41) → Ev (fun k => tachographref10_Pred.j2 k s (pre.length : Int) ((pre.length + w.length : Nat) : Int) true nm acc) (nm, scan w (c :: r) acc, nameOk nm && (lineL nm.data.toList (scan w (c :: r) acc) == s.data.toList)) := by
      intro hc
      have e : scan w (c :: r) acc = scan [] r (acc ++ (typeL w).toList) := by simp only [scan]; rw [if_pos hc]
      rw [e]
      have hta : T12 (acc ++ (typeL w).toList) := fun t ht => by
        rcases List.mem_append.1 ht with ht | ht
        · exact ha t ht
        · rw [Option.mem_toList] at ht
          exact (typeL_back ht).1
      have h1 : (typeL w).toList.length ≤ 1 := by cases typeL w <;> simp
      have ih := rpred2 s nm hs hn r [] (pre ++ (w ++ [c])) (acc ++ (typeL w).toList) (by rw [h]; simp) hta (by rw [List.length_append]; omega)
      have e2 : (pre ++ (w ++ [c])).length = pre.length + w.length + 1 := by simp; omega
      rw [e2] at ih
      refine Ev.step (f := fun k => tachographref10_Pred.l0 k s ((pre.length + w.length + 1 : Nat) : Int) ((pre.length + w.length + 1 + ([] : List UInt8).length : Nat) : Int) nm (acc ++ (typeL w).toList)) (fun k => ?_) ih
      simp only [tachographref10_Pred.j2, if_true]
      rw [if_pos (by omega), if_pos (by omega), if_pos (by omega), hex, toList_eq, mk_list, w64 (by omega) (by omega)]
      unfold typeL
      by_cases w1 : w = [105, 110, 116]
      · rw [if_pos w1, if_pos (by omega), if_pos w1]
        rfl
      · rw [if_neg w1, if_neg w1]
        by_cases w2 : w = [115, 116, 114, 105, 110, 103]
        · rw [if_pos w2, if_pos (by omega), if_pos w2]
          rfl
        · rw [if_neg w2, if_neg w2]
          simp
    have hj2f : ¬ (c = 44 ∨ c = 41) → Ev (fun k => tachographref10_Pred.j2 k s (pre.length : Int) ((pre.length + w.length : Nat) : Int) false nm acc) (nm, scan w (c :: r) acc, nameOk nm && (lineL nm.data.toList (scan w (c :: r) acc) == s.data.toList)) := by
      intro hc
      have e : scan w (c :: r) acc = scan (w ++ [c]) r acc := by simp only [scan]; rw [if_neg hc]
      rw [e]
      have ih := rpred2 s nm hs hn r (w ++ [c]) pre acc (by rw [h]; simp) ha (by omega)
      refine Ev.step (f := fun k => tachographref10_Pred.l0 k s (pre.length : Int) ((pre.length + (w ++ [c]).length : Nat) : Int) nm acc) (fun k => ?_) ih
      simp only [tachographref10_Pred.j2, Bool.false_eq_true, if_false]
      rw [w64 (by omega) (by omega)]
      have e2 : (w ++ [c]).length = w.length + 1 := by simp
      rw [e2]
      rfl
    have hj2 : Ev (fun k => tachographref10_Pred.j2 k s (pre.length : Int) ((pre.length + w.length : Nat) : Int) (decide (c = 44 ∨ c = 41)) nm acc) (nm, scan w (c :: r) acc, nameOk nm && (lineL nm.data.toList (scan w (c :: r) acc) == s.data.toList)) := by
      by_cases hc : c = 44 ∨ c = 41
      · rw [decide_eq_true hc]; exact hj2t hc
      · rw [decide_eq_false hc]; exact hj2f hc
    refine Ev.step (f := fun k => tachographref10_Pred.j1 k s (pre.length : Int) ((pre.length + w.length : Nat) : Int) false nm acc) (fun k => ?_) (Ev.step (f := fun k => tachographref10_Pred.j2 k s (pre.length : Int) ((pre.length + w.length : Nat) : Int) (decide (c = 44 ∨ c = 41)) nm acc) (fun k => ?_) hj2)
    · simp only [tachographref10_Pred.l0]
      rw [if_pos (by omega), if_neg (by omega)]
    · simp only [tachographref10_Pred.j1, Bool.false_eq_true, if_false]
      rw [if_pos (by omega), if_pos (by omega), if_pos (by omega), hb]
      by_cases c1 : c = 44
      · rw [if_pos (h44.2 c1), decide_eq_true (Or.inl c1)]
      · rw [if_neg (fun e => c1 (h44.1 e))]
        congr 1
        by_cases c2 : c = 41
        · rw [decide_eq_true (Or.inr c2), h41.2 c2]
          rfl
        · rw [decide_eq_false (fun e => e.elim c1 c2)]
          exact beq_eq_false_iff_ne.2 (fun e => c2 (h41.1 e))
theorem rpred_no (s : ByteArray) (hs : s.size ≤ 3000) : ∀ (r pre : List UInt8), s.data.toList = pre ++ r → (40 : UInt8) ∉ r → Ev (fun k => tachographref10_Pred.l0 k s (-1) (pre.length : Int) (⟨#[]⟩ : ByteArray) []) ((⟨#[]⟩ : ByteArray), [], false)
  | [], pre => fun h hx => by
    have hsl := size_list s
    rw [h, List.append_nil] at hsl
    have hf := rfin s (⟨#[]⟩ : ByteArray) [] (fun t ht => (by cases ht)) (by simp) (by decide)
    have hn : nameOk (⟨#[]⟩ : ByteArray) = false := by decide
    rw [hn, Bool.false_and] at hf
    refine Ev.step (f := fun k => (tachographref09_Name.f k (⟨#[]⟩ : ByteArray)).bind fun t182 => (if t182 = true then ((tachographref10_Line.f k (⟨#[]⟩ : ByteArray) []).bind fun t183 => (some ((⟨#[]⟩ : ByteArray), [], (t183.toList == s.toList)))) else (some ((⟨#[]⟩ : ByteArray), [], false)))) (fun k => ?_) hf
    simp only [tachographref10_Pred.l0]
    rw [if_neg (by omega)]
  | c :: r, pre => fun h hx => by
    obtain ⟨hb, hlt⟩ := bt_at s pre c r h
    have h40 : ((c.toNat : Int) = 40) ↔ c = 40 := byte_eq c 40 (by omega)
    have hc : c ≠ 40 := fun e => hx (by rw [e]; exact List.mem_cons_self)
    have ih := rpred_no s hs r (pre ++ [c]) (by rw [h]; simp) (fun e => hx (List.mem_cons_of_mem _ e))
    rw [List.length_append, List.length_singleton] at ih
    refine Ev.step (f := fun k => tachographref10_Pred.j1 k s (-1) (pre.length : Int) false (⟨#[]⟩ : ByteArray) []) (fun k => ?_) (Ev.step (f := fun k => tachographref10_Pred.j2 k s (-1) (pre.length : Int) false (⟨#[]⟩ : ByteArray) []) (fun k => ?_) (Ev.step (f := fun k => tachographref10_Pred.l0 k s (-1) ((pre.length + 1 : Nat) : Int) (⟨#[]⟩ : ByteArray) []) (fun k => ?_) ih))
    · simp only [tachographref10_Pred.l0]
      rw [if_pos (by omega), if_pos (by omega), if_pos (by omega), hb]
      have : ((c.toNat : Int) == 40) = false := beq_eq_false_iff_ne.2 (fun e => hc (h40.1 e))
      rw [this]
    · simp only [tachographref10_Pred.j1, Bool.false_eq_true, if_false]
      rw [if_neg (by omega)]
    · simp only [tachographref10_Pred.j2, Bool.false_eq_true, if_false]
      rw [w64 (by omega) (by omega)]
      rfl
theorem rpred_yes (s : ByteArray) (hs : s.size ≤ 3000) (t : List UInt8) : ∀ (x pre : List UInt8), s.data.toList = pre ++ (x ++ 40 :: t) → (40 : UInt8) ∉ x →
    Ev (fun k => tachographref10_Pred.l0 k s (-1) (pre.length : Int) (⟨#[]⟩ : ByteArray) []) (mkB (pre ++ x), scan [] t [], nameOk (mkB (pre ++ x)) && (lineL (pre ++ x) (scan [] t []) == s.data.toList))
  | [], pre => fun h hx => by
    have hsl := size_list s
    rw [h] at hsl
    simp only [List.nil_append, List.length_append, List.length_cons] at hsl
    obtain ⟨hb, hlt⟩ := bt_at s pre 40 t h
    have hex : s.extract 0 (pre.length : Int).toNat = mkB (pre ++ []) := ba_eq (by
      rw [ext_list, mk_list, Int.toNat_natCast, h, List.drop_zero, List.append_nil]
      exact List.take_left)
    have ih := rpred2 s (mkB (pre ++ [])) hs (by rw [mkB_size, List.append_nil]; omega) t [] (pre ++ [40]) [] (by rw [h]; simp) (fun t ht => (by cases ht)) (by simp; omega)
    have e2 : (pre ++ [40]).length = pre.length + 1 := by simp
    rw [e2, mk_list] at ih
    refine Ev.step (f := fun k => tachographref10_Pred.j1 k s (-1) (pre.length : Int) true (⟨#[]⟩ : ByteArray) []) (fun k => ?_) (Ev.step (f := fun k => tachographref10_Pred.l0 k s ((pre.length + 1 : Nat) : Int) ((pre.length + 1 + ([] : List UInt8).length : Nat) : Int) (mkB (pre ++ [])) []) (fun k => ?_) ih)
    · simp only [tachographref10_Pred.l0]
      rw [if_pos (by omega), if_pos (by omega), if_pos (by omega), hb]
      rfl
    · simp only [tachographref10_Pred.j1, if_true]
      rw [if_pos (by omega), if_pos (by omega), hex, w64 (by omega) (by omega)]
      rfl
  | c :: x, pre => fun h hx => by
    obtain ⟨hb, hlt⟩ := bt_at s pre c (x ++ 40 :: t) h
    have h40 : ((c.toNat : Int) = 40) ↔ c = 40 := byte_eq c 40 (by omega)
    have hc : c ≠ 40 := fun e => hx (by rw [e]; exact List.mem_cons_self)
    have ih := rpred_yes s hs t x (pre ++ [c]) (by rw [h]; simp) (fun e => hx (List.mem_cons_of_mem _ e))
    rw [List.length_append, List.length_singleton, List.append_assoc] at ih
    refine Ev.step (f := fun k => tachographref10_Pred.j1 k s (-1) (pre.length : Int) false (⟨#[]⟩ : ByteArray) []) (fun k => ?_) (Ev.step (f := fun k => tachographref10_Pred.j2 k s (-1) (pre.length : Int) false (⟨#[]⟩ : ByteArray) []) (fun k => ?_) (Ev.step (f := fun k => tachographref10_Pred.l0 k s (-1) ((pre.length + 1 : Nat) : Int) (⟨#[]⟩ : ByteArray) []) (fun k => ?_) ih))
    · simp only [tachographref10_Pred.l0]
      rw [if_pos (by omega), if_pos (by omega), if_pos (by omega), hb]
      have : ((c.toNat : Int) == 40) = false := beq_eq_false_iff_ne.2 (fun e => hc (h40.1 e))
      rw [this]
    · simp only [tachographref10_Pred.j1, Bool.false_eq_true, if_false]
      rw [if_neg (by omega)]
    · simp only [tachographref10_Pred.j2, Bool.false_eq_true, if_false]
      rw [w64 (by omega) (by omega)]
      rfl
theorem rpred_ev (s : ByteArray) (hs : s.size ≤ 3000) : ∃ r : ByteArray × List Int × Bool, Ev (fun k => tachographref10_Pred.f k s) r ∧ (match predL s.data.toList with | some p => r = (p.f0, p.f1, true) | none => r.2.2 = false) := by
  rcases parts 40 s.data.toList with h | ⟨x, t, e, h⟩
  · refine ⟨_, rpred_no s hs s.data.toList [] rfl h, ?_⟩
    cases hp : predL s.data.toList with
    | none => rfl
    | some p =>
      exfalso
      obtain ⟨_, _, e⟩ := predL_back hp
      refine h ?_
      rw [e]
      unfold lineL
      simp
  · have hx := rpred_yes s hs t x [] (by rw [e]; rfl) h
    rw [List.nil_append] at hx
    refine ⟨_, hx, ?_⟩
    have hT := scan_t12 t [] [] (fun t ht => (by cases ht))
    cases hp : predL s.data.toList with
    | none =>
      simp only
      cases hb : (nameOk (mkB x) && (lineL x (scan [] t []) == s.data.toList)) with
      | false => rfl
      | true =>
        exfalso
        simp only [Bool.and_eq_true, beq_iff_eq] at hb
        have : LineOf s.data.toList ⟨mkB x, scan [] t []⟩ := ⟨hb.1, hT, hb.2.symm⟩
        rw [predL_line this] at hp
        cases hp
    | some p =>
      simp only
      obtain ⟨h1, h2, h3⟩ := predL_back hp
      have hcut : Lib.cut s.data.toList [40] = (p.f0.data.toList, argsL p.f1 ++ [41], true) := by rw [h3]; exact cut_in 40 _ _ (fun e => (name_mem h1 e).1 rfl)
      rw [e, cut_in 40 x t h] at hcut
      injection hcut with e1 e2
      injection e2 with e2 _
      rw [e1, e2, mkB_list, scan_line h2, h1, ← h3, beq_self_eq_true]
      rfl

/-! ### a text is read -/
theorem rend (s : ByteArray) (hs : s.size ≤ 3000) (n : Int) (out : List Pred) (v : List Pred × Int × Int × Int) : ∀ (x pre r : List UInt8), s.data.toList = pre ++ (x ++ r) → (10 : UInt8) ∉ x → (r = [] ∨ ∃ r', r = 10 :: r') →
    Ev (fun k => tachographref10_Parse.j2 k s n ((pre.length + x.length : Nat) : Int) out 0 0 0) v → Ev (fun k => tachographref10_Parse.l1 k s n (pre.length : Int) out 0 0 0) v
  | [], pre, r => fun h hx hr hv => by
    rcases hr with rfl | ⟨r', rfl⟩
    · have hsl := size_list s
      rw [h] at hsl
      simp only [List.append_nil] at hsl
      refine Ev.step (f := fun k => tachographref10_Parse.j2 k s n (pre.length : Int) out 0 0 0) (fun k => ?_) hv
      simp only [tachographref10_Parse.l1]
      rw [if_neg (by omega)]
    · obtain ⟨hb, hlt⟩ := bt_at s pre 10 r' h
      refine Ev.step (f := fun k => tachographref10_Parse.j2 k s n (pre.length : Int) out 0 0 0) (fun k => ?_) hv
      simp only [tachographref10_Parse.l1]
      rw [if_pos (by omega), if_pos (by omega), if_pos (by rw [hb]; rfl)]
  | c :: x, pre, r => fun h hx hr hv => by
    obtain ⟨hb, hlt⟩ := bt_at s pre c (x ++ r) h
    have h10 : ((c.toNat : Int) = 10) ↔ c = 10 := byte_eq c 10 (by omega)
    have hc : c ≠ 10 := fun e => hx (by rw [e]; exact List.mem_cons_self)
    have ih := rend s hs n out v x (pre ++ [c]) r (by rw [h]; simp) (fun e => hx (List.mem_cons_of_mem _ e)) hr (by
      have e : (pre ++ [c]).length + x.length = pre.length + (c :: x).length := by simp; omega
      rw [e]
      exact hv)
    rw [List.length_append, List.length_singleton] at ih
    refine Ev.step (f := fun k => tachographref10_Parse.l1 k s n ((pre.length + 1 : Nat) : Int) out 0 0 0) (fun k => ?_) ih
    simp only [tachographref10_Parse.l1]
    rw [if_pos (by omega), if_pos (by omega), if_neg (by rw [hb]; exact fun e => hc (h10.1 e)), w64 (by omega) (by omega)]
    rfl
theorem rparse_from : ∀ (m : Nat) (s : ByteArray) (out : List Pred) (n : Int), s.size ≤ m → s.size ≤ 3000 → out.length + m ≤ 100000 → 0 ≤ n → n + m ≤ 100000 → Ev (fun k => tachographref10_Parse.l0 k s n out 0 0 0) (parseL m out n s.data.toList)
  | 0, s, out, n => fun h1 _ _ _ _ => by
    refine Ev.step (f := fun _ => some (out, 0, 0, 0)) (fun k => ?_) (Ev.now _)
    simp only [tachographref10_Parse.l0]
    rw [if_neg (by omega)]
  | m + 1, s, out, n => fun h1 h2 h3 h4 h5 => by
    by_cases he : s.data.toList = []
    · have ep : parseL (m + 1) out n s.data.toList = (out, 0, 0, 0) := by simp only [parseL]; rw [if_pos he]
      have hz : s.size = 0 := by rw [← size_list, he]; rfl
      rw [ep]
      refine Ev.step (f := fun _ => some (out, 0, 0, 0)) (fun k => ?_) (Ev.now _)
      simp only [tachographref10_Parse.l0]
      rw [if_neg (by omega)]
    · have hpos : 0 < s.size := by
        rw [← size_list]
        exact List.length_pos_iff.2 he
      obtain ⟨x, r, ended, hcut, hl, hx, hr⟩ : ∃ (x r : List UInt8) (ended : Bool), Lib.cut s.data.toList [10] = (x, r, ended) ∧ s.data.toList = x ++ (if ended = true then 10 :: r else []) ∧ (10 : UInt8) ∉ x ∧ (ended = false → r = []) := by
        rcases parts 10 s.data.toList with h | ⟨x, r, e, h⟩
        · exact ⟨_, [], false, cut_out 10 _ h, by simp, h, fun _ => rfl⟩
        · exact ⟨x, r, true, by rw [e, cut_in 10 x r h], by rw [e]; simp, h, fun e => by cases e⟩
      have hsl := size_list s
      rw [hl, List.length_append] at hsl
      obtain ⟨p0, hp0, hpp⟩ := rpred_ev (mkB x) (by rw [mkB_size]; omega)
      rw [mk_list] at hpp
      have hfind := rfind_ev out p0.1 (by omega)
      have hex : s.extract 0 (x.length : Int).toNat = mkB x := ba_eq (by
        rw [ext_list, mk_list, Int.toNat_natCast, hl, List.drop_zero]
        exact List.take_left)
      refine Ev.step (f := fun k => tachographref10_Parse.l1 k s n (([] : List UInt8).length : Int) out 0 0 0) (fun k => ?_) (rend s (by omega) n out _ x [] (if ended = true then 10 :: r else []) (by rw [hl]; rfl) hx (by cases ended <;> simp) ?_)
      · simp only [tachographref10_Parse.l0]
        rw [if_pos (by omega)]
        rfl
      · have e0 : (([] : List UInt8).length + x.length) = x.length := by simp
        rw [e0]
        simp only [parseL]
        rw [if_neg he, hcut]
        simp only
        refine Ev.step (f := fun k => (tachographref10_Pred.f k (mkB x)).bind fun bt194 => (if bt194.2.2 = true then ((tachographref09_Find.f k out bt194.1).bind fun t206 => (if t206 ≥ 0 then ((tachographref10_bad.f 9 n 1).bind fun bt207 => (some (bt207.1, bt207.2.1, bt207.2.2.1, bt207.2.2.2))) else (if (bt194.2.1.length : Int) > 8 then (tachographref10_Parse.j3 k s n (x.length : Int) true out 0 0 0 bt194.1 bt194.2.1) else (tachographref10_Parse.j3 k s n (x.length : Int) (decide (n > 64)) out 0 0 0 bt194.1 bt194.2.1)))) else ((tachographref10_bad.f 4 n 1).bind fun bt200 => (some (bt200.1, bt200.2.1, bt200.2.2.1, bt200.2.2.2))))) (fun k => ?_) (Ev.bind hp0 ?_)
        · simp only [tachographref10_Parse.j2]
          rw [if_pos (by omega), if_pos (by omega), hex]
        · cases hp : predL x with
          | none =>
            rw [hp] at hpp
            simp only at hpp ⊢
            rw [hpp]
            simp only [Bool.false_eq_true, if_false]
            exact Ev.now _
          | some p =>
            rw [hp] at hpp
            simp only at hpp ⊢
            subst hpp
            simp only [if_true]
            refine Ev.bind hfind ?_
            by_cases hm : p.f0 ∈ names out
            · have hpl := (place_names out p.f0).2 hm
              rw [if_pos hm]
              simp only [if_pos hpl]
              refine Ev.congr (f := fun _ => some (([] : List Pred), (9 : Int), n, (1 : Int))) (fun k => ?_) (Ev.now _)
              rw [if_pos (by omega)]
              rfl
            · have hpl : ¬ place out p.f0 < out.length := fun e => hm ((place_names out p.f0).1 e)
              rw [if_neg hm]
              simp only [if_neg hpl]
              have hj : ∀ b : Bool, b = decide (p.f1.length > 8 ∨ n > 64) → Ev (fun k => tachographref10_Parse.j3 k s n (x.length : Int) b out 0 0 0 p.f0 p.f1) (if p.f1.length > 8 ∨ n > 64 then (([] : List Pred), (6 : Int), n, (1 : Int)) else if ended = true then parseL m (out ++ [p]) (n + 1) r else ([], 4, n, (x.length : Int) + 1)) := by
                intro b hb
                subst hb
                by_cases hq : p.f1.length > 8 ∨ n > 64
                · rw [if_pos hq, decide_eq_true hq]
                  refine Ev.step (f := fun _ => some (([] : List Pred), (6 : Int), n, (1 : Int))) (fun k => ?_) (Ev.now _)
                  simp only [tachographref10_Parse.j3, if_true]
                  rfl
                · rw [if_neg hq, decide_eq_false hq]
                  cases ended with
                  | false =>
                    simp only [Bool.false_eq_true, if_false, List.length_nil, Nat.add_zero] at hsl
                    refine Ev.step (f := fun _ => some (([] : List Pred), (4 : Int), n, (x.length : Int) + 1)) (fun k => ?_) (Ev.now _)
                    simp only [tachographref10_Parse.j3, Bool.false_eq_true, if_false]
                    rw [if_pos (by omega), w64 (by omega) (by omega)]
                    rfl
                  | true =>
                    simp only [if_true, List.length_cons] at hsl
                    have hrest : s.extract ((x.length : Int) + 1).toNat s.size = mkB r := ba_eq (by
                      have e1 : ((x.length : Int) + 1).toNat = (x ++ [10]).length := by rw [List.length_append, List.length_singleton]; omega
                      rw [ext_list, mk_list, e1, hl]
                      simp only [if_true]
                      have e2 : x ++ 10 :: r = (x ++ [10]) ++ r := by simp
                      rw [e2, List.drop_left]
                      exact List.take_of_length_le (by simp; omega))
                    have ih := rparse_from m (mkB r) (out ++ [p]) (n + 1) (by rw [mkB_size]; omega) (by rw [mkB_size]; omega) (by simp; omega) (by omega) (by omega)
                    refine Ev.step (f := fun k => tachographref10_Parse.l0 k (mkB r) (n + 1) (out ++ [p]) 0 0 0) (fun k => ?_) ih
                    simp only [tachographref10_Parse.j3, Bool.false_eq_true, if_false]
                    rw [if_neg (by omega), if_pos (by omega), w64 (x := (x.length : Int) + 1) (by omega) (by omega), if_pos (by omega), if_pos (by omega), hrest, w64 (by omega) (by omega)]
              by_cases h8 : (p.f1.length : Int) > 8
              · simp only [if_pos h8]
                refine Ev.congr (fun k => ?_) (hj true (decide_eq_true (.inl (by omega))).symm)
                rw [if_neg (by omega)]
              · simp only [if_neg h8]
                refine Ev.congr (fun k => ?_) (hj _ (show decide (n > 64) = _ by
                  rw [decide_eq_decide]
                  exact ⟨.inr, fun e => e.resolve_left (by omega)⟩))
                rw [if_neg (by omega)]
theorem rparse_ev (s : ByteArray) (hs : s.size ≤ 3000) : Ev (fun k => tachographref10_Parse.f k s) (parseL s.size [] 1 s.data.toList) := rparse_from s.size s [] 1 (Nat.le_refl _) hs (by simp; omega) (by omega) (by omega)

/-! ### a signature's text -/
theorem wordText_eq (t : Int) : wordText t = mkB (wordL t) := by
  unfold wordText wordL
  split
  · rfl
  · split <;> rfl
theorem line_from (nm : ByteArray) (hn : nm.size ≤ 1000000) (a : List Int) (ha : T12 a) (hl : a.length ≤ 10000) : ∀ (d i : Nat) (xs : List ByteArray), d + i = a.length → xs = (a.take i).map wordText → Ev (fun k => sigtext_line.l0 k xs a (a.length : Int) (i : Int) nm a) (mkB (lineL nm.data.toList a))
  | 0, i, xs => fun hd hx => by
    rw [List.take_of_length_le (by omega)] at hx
    have hxl : xs.length = a.length := by rw [hx, List.length_map]
    have hmap : xs.map (·.data.toList) = a.map wordL := by
      rw [hx, List.map_map]
      refine List.map_congr_left fun t _ => ?_
      simp only [Function.comp_apply, wordText_eq, mk_list]
    have hal := argsL_len ha
    have hj : strings_Join.f xs (⟨#[44]⟩ : ByteArray) = some (mkB (argsL a)) := by
      unfold strings_Join.f
      rw [hmap, hxl]
      have e : Lib.join (a.map wordL) (⟨#[44]⟩ : ByteArray).data.toList = argsL a := rfl
      rw [e, if_pos ⟨by omega, by omega⟩]
    have s1 : (nm ++ (⟨#[40]⟩ : ByteArray)).size = nm.size + 1 := by rw [ByteArray.size_append]; rfl
    have s2 : (mkB (argsL a)).size = (argsL a).length := rfl
    have s3 : ((nm ++ (⟨#[40]⟩ : ByteArray)) ++ mkB (argsL a)).size = nm.size + 1 + (argsL a).length := by rw [ByteArray.size_append, s1, s2]
    have e : ((nm ++ (⟨#[40]⟩ : ByteArray)) ++ mkB (argsL a)) ++ (⟨#[41]⟩ : ByteArray) = mkB (lineL nm.data.toList a) := ba_eq (by
      rw [app_list, app_list, app_list, mk_list, mk_list]
      unfold lineL
      simp)
    refine Ev.step (f := fun _ => some (((nm ++ (⟨#[40]⟩ : ByteArray)) ++ mkB (argsL a)) ++ (⟨#[41]⟩ : ByteArray))) (fun k => ?_) (by rw [e]; exact Ev.now _)
    simp only [sigtext_line.l0]
    rw [if_neg (by omega), if_pos (by omega), hj, Option.bind_some, if_pos (by omega), if_pos (by omega)]
  | d + 1, i, xs => fun hd hx => by
    have hi : i < a.length := by omega
    have ih := line_from nm hn a ha hl d (i + 1) (xs ++ [wordText a[i]]) (by omega) (by rw [hx, List.take_succ_eq_append_getElem hi, List.map_append]; rfl)
    have hxl : xs.length = i := by rw [hx, List.length_map, List.length_take]; omega
    refine Ev.step (f := fun k => sigtext_line.l0 k (xs ++ [wordText a[i]]) a (a.length : Int) ((i + 1 : Nat) : Int) nm a) (fun k => ?_) ih
    simp only [sigtext_line.l0]
    rw [if_pos (by omega), if_pos (by omega), if_pos (by omega), rd_at a i hi]
    unfold sigtext_word.f
    rw [Option.bind_some, if_pos (by omega), w64 (by omega) (by omega)]
    rfl
theorem line_ev (nm : ByteArray) (hn : nm.size ≤ 1000000) (a : List Int) (ha : T12 a) (hl : a.length ≤ 10000) : Ev (fun k => sigtext_line.f k nm a) (mkB (lineL nm.data.toList a)) := line_from nm hn a ha hl a.length 0 [] (by omega) rfl
theorem check_all {l : List Pred} (h : check l = 0) : l.length ≤ 64 ∧ ∀ (i : Nat) (hi : i < l.length), nameOk l[i].f0 = true ∧ T12 l[i].f1 ∧ l[i].f1.length ≤ 8 := by
  obtain ⟨h1, h2⟩ := (check_zero l).1 h
  refine ⟨h1, fun i hi => ?_⟩
  obtain ⟨_, g2, g3, g4⟩ := h2 i hi
  rw [getD_eq l i hi] at g2 g3 g4
  exact ⟨g2, (t12_all _).1 g4, g3⟩
theorem lineL_len (nm : List UInt8) {a : List Int} (ha : T12 a) : (lineL nm a).length ≤ nm.length + 2 + 7 * a.length := by
  have := argsL_len ha
  unfold lineL
  rw [List.length_append, List.length_cons, List.length_append, List.length_singleton]
  omega
theorem print_from (l : List Pred) (h : check l = 0) : ∀ (d i : Nat) (x : ByteArray), d + i = l.length → x.size + 100 * d ≤ 10000 → Ev (fun k => sigtext_Print.l0 k l (l.length : Int) (i : Int) x) (mkB (x.data.toList ++ textL (l.drop i)), 0)
  | 0, i, x => fun hd hx => by
    have e : x = mkB (x.data.toList ++ textL (l.drop i)) := ba_eq (by rw [mk_list, List.drop_eq_nil_of_le (by omega)]; simp [textL])
    refine Ev.step (f := fun _ => some (x, 0)) (fun k => ?_) (by rw [← e]; exact Ev.now _)
    simp only [sigtext_Print.l0]
    rw [if_neg (by omega)]
    rfl
  | d + 1, i, x => fun hd hx => by
    have hi : i < l.length := by omega
    obtain ⟨h1, h2⟩ := check_all h
    obtain ⟨g1, g2, g3⟩ := h2 i hi
    have hnp := name_pos g1
    have hll := lineL_len l[i].f0.data.toList g2
    rw [size_list] at hll
    have hline := line_ev l[i].f0 (by omega) l[i].f1 g2 (by omega)
    have s1 : (mkB (lineL l[i].f0.data.toList l[i].f1) ++ (⟨#[10]⟩ : ByteArray)).size = (lineL l[i].f0.data.toList l[i].f1).length + 1 := by rw [ByteArray.size_append]; rfl
    have ih := print_from l h d (i + 1) (x ++ (mkB (lineL l[i].f0.data.toList l[i].f1) ++ (⟨#[10]⟩ : ByteArray))) (by omega) (by rw [ByteArray.size_append, s1]; omega)
    have e : (x ++ (mkB (lineL l[i].f0.data.toList l[i].f1) ++ (⟨#[10]⟩ : ByteArray))).data.toList ++ textL (l.drop (i + 1)) = x.data.toList ++ textL (l.drop i) := by
      rw [app_list, app_list, mk_list, List.drop_eq_getElem_cons hi, textL_cons]
      simp
    rw [e] at ih
    refine Ev.step (f := fun k => (sigtext_line.f k l[i].f0 l[i].f1).bind fun t240 => (if t240.size + 1 ≤ 9223372036854775807 then ((strings_Builder_WriteString.f x (t240 ++ (⟨#[10]⟩ : ByteArray))).bind fun bt241 => (sigtext_Print.l0 k l (l.length : Int) ((i + 1 : Nat) : Int) bt241.2.2)) else (none))) (fun k => ?_) (Ev.bind hline ?_)
    · simp only [sigtext_Print.l0]
      rw [if_pos (by omega), if_pos (by omega), if_pos (by omega), w64 (by omega) (by omega), rd_pred, getD_eq l i hi]
      rfl
    · refine Ev.congr (fun k => ?_) ih
      rw [if_pos (by rw [mkB_size]; omega)]
      unfold strings_Builder_WriteString.f
      rw [if_pos (by rw [s1]; omega)]
      rfl
theorem print_ev (l : List Pred) (hs : Short l) : Ev (fun k => sigtext_Print.f k l) (if check l = 0 then (mkB (textL l), 0) else (⟨#[]⟩, check l)) := by
  unfold sigtext_Print.f
  refine Ev.bind (check_ev l hs) ?_
  by_cases h : check l = 0
  · simp only [if_pos h]
    have hp := print_from l h l.length 0 (⟨#[]⟩ : ByteArray) (by omega) (by have := (check_all h).1; show 0 + 100 * l.length ≤ 10000; omega)
    rw [List.drop_zero] at hp
    exact hp
  · simp only [if_neg h]
    exact Ev.now _
end Go.Proofs.YtmmfakdncjeoeacDoor.MSigtext
