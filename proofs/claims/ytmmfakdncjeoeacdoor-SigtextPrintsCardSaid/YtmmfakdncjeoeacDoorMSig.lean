/- Plain laws on signatures (layer 9): what makes a name, where a name is found, why a signature may not be. -/
import Derived.Test.YtmmfakdncjeoeacDoorMBase
import Derived.Test.YtmmfakdncjeoeacDoorMapSet
import Derived.Test.YtmmfakdncjeoeacDoorPEx10
import Derived.Test.YtmmfakdncjeoeacDoorPEx11
import Derived.Test.YtmmfakdncjeoeacDoorPEx12
import Derived.Test.YtmmfakdncjeoeacDoorPEx3
import Derived.Test.YtmmfakdncjeoeacDoorPEx4
import Derived.Test.YtmmfakdncjeoeacDoorPEx7
import Derived.Test.YtmmfakdncjeoeacDoorPEx9
namespace Go.Proofs.YtmmfakdncjeoeacDoor.MSig
open Go.RowKit Go.Proofs.YtmmfakdncjeoeacDoor.PE Go.Proofs.YtmmfakdncjeoeacDoor.MBase Go.Proofs.YtmmfakdncjeoeacDoorAid Go.Proofs.YtmmfakdncjeoeacDoorW.PrintWords Go.Proofs.YtmmfakdncjeoeacDoorW.PrintLast Go.Proofs.YtmmfakdncjeoeacDoorW.PrintMore

abbrev Pred := S41
theorem rd_pred (l : List Pred) (i : Nat) : rd_T41 l (i : Int) = l.getD i z41 := by simp [rd_T41]

/-! ### a name -/
def lett (c : Int) : Bool := (decide (65 ≤ c) && decide (c ≤ 90)) || (decide (97 ≤ c) && decide (c ≤ 122)) || decide (c = 95)
def digit (c : Int) : Bool := decide (48 ≤ c) && decide (c ≤ 57)
def letr (c : Int) (first : Bool) : Bool := lett c || (!first && digit c)

theorem letter_ev (c : Int) (b : Bool) : Ev (fun k => sig_letter.f k c b) (letr c b) := by
  refine ⟨3, fun k hk => ?_⟩
  obtain ⟨m, rfl⟩ : ∃ m, k = m + 3 := ⟨k - 3, by omega⟩
  unfold sig_letter.f
  simp only [sig_letter.j0, sig_letter.j1, letr, lett, digit]
  cases b <;> (repeat' split) <;> simp_all <;> omega

/-- Are all bytes from the i-th on letters (or digits, but for the first of all)? -/
def allFrom (s : ByteArray) : Nat → Nat → Bool
  | 0, _ => true
  | n + 1, i => letr (bt s i) (i == 0) && allFrom s n (i + 1)
def nameOk (s : ByteArray) : Bool := allFrom s s.size 0 && decide (1 ≤ s.size) && decide (s.size ≤ 32)

theorem name_from (s : ByteArray) (hs : s.size < 9223372036854775807) : ∀ (n i : Nat), n + i = s.size → Ev (fun k => sig_Name.l0 k s (s.size : Int) (i : Int)) (allFrom s n i && decide (1 ≤ s.size) && decide (s.size ≤ 32))
  | 0, i => fun h => by
    refine Ev.step (f := fun _ => some (allFrom s 0 i && decide (1 ≤ s.size) && decide (s.size ≤ 32))) (fun k => ?_) (Ev.now _)
    simp only [sig_Name.l0, allFrom]
    rw [if_neg (by omega)]
    by_cases h1 : (s.size : Int) ≥ 1
    · rw [if_pos h1]
      have h2 : 1 ≤ s.size := by omega
      simp [h2]
      omega
    · rw [if_neg h1]
      have h2 : ¬ 1 ≤ s.size := by omega
      simp [h2]
  | n + 1, i => fun h => by
    have ih := name_from s hs n (i + 1) (by omega)
    refine Ev.step (f := fun k => (sig_letter.f k (bt s (i : Int)) ((i : Int) == 0)).bind fun t => if t = true then sig_Name.l0 k s (s.size : Int) ((i + 1 : Nat) : Int) else some false) (fun k => ?_) ?_
    · simp only [sig_Name.l0]
      rw [if_pos (by omega), if_pos (by omega), if_pos (by omega), w64 (by omega) (by omega)]
      rfl
    · refine Ev.bind (letter_ev _ _) ?_
      have hb : (((i : Int) == 0) : Bool) = (i == 0) := by
        rw [Bool.eq_iff_iff, beq_iff_eq, beq_iff_eq]
        omega
      rw [hb]
      simp only [allFrom]
      by_cases hl : letr (bt s (i : Int)) (i == 0) = true
      · rw [hl]
        simpa using ih
      · rw [Bool.not_eq_true] at hl
        rw [hl]
        simpa using Ev.now false

theorem name_ev (s : ByteArray) (hs : s.size < 9223372036854775807) : Ev (fun k => sig_Name.f k s) (nameOk s) := by
  unfold sig_Name.f
  exact name_from s hs s.size 0 (by omega)

theorem in_ev (c a b : Int) : tachographref09_in.f c a b = some (decide (a ≤ c) && decide (c ≤ b)) := by
  unfold tachographref09_in.f
  by_cases h : c ≥ a
  · rw [if_pos h]
    have h' : a ≤ c := h
    simp [h']
  · rw [if_neg h]
    have h' : ¬ a ≤ c := h
    simp [h']

/-- .. of the reference: letters and digits. -/
def restFrom (s : ByteArray) : Nat → Nat → Bool
  | 0, _ => true
  | n + 1, i => letr (bt s i) false && restFrom s n (i + 1)

theorem rname_from (s : ByteArray) (hs : s.size < 9223372036854775807) : ∀ (n i : Nat), n + i = s.size → Ev (fun k => tachographref09_Name.l0 k s (i : Int)) (restFrom s n i)
  | 0, i => fun h => by
    refine Ev.step (f := fun _ => some (restFrom s 0 i)) (fun k => ?_) (Ev.now _)
    simp only [tachographref09_Name.l0, restFrom]
    rw [if_neg (by omega)]
  | n + 1, i => fun h => by
    have ih := rname_from s hs n (i + 1) (by omega)
    refine Ev.step (f := fun k => if letr (bt s (i : Int)) false = true then tachographref09_Name.l0 k s ((i + 1 : Nat) : Int) else some false) (fun k => ?_) ?_
    · simp only [tachographref09_Name.l0, in_ev, Option.bind_some]
      rw [if_pos (by omega), if_pos (by omega), w64 (by omega) (by omega)]
      have e : ((i : Int) + 1) = ((i + 1 : Nat) : Int) := by omega
      rw [e]
      simp only [letr, lett, digit]
      generalize bt s (i : Int) = c
      generalize tachographref09_Name.l0 k s ((i + 1 : Nat) : Int) = z
      by_cases h95 : c = 95
      · have hE : decide (c = 95) = true := decide_eq_true h95
        simp only [hE, if_pos h95, Bool.or_true, Bool.true_or, if_true, ite_self]
      · have hE : decide (c = 95) = false := decide_eq_false h95
        simp only [hE, if_neg h95, Bool.or_false, Bool.not_false, Bool.true_and]
        rcases Bool.eq_false_or_eq_true (decide ((65 : Int) ≤ c) && decide (c ≤ 90)) with hA | hA <;>
        rcases Bool.eq_false_or_eq_true (decide ((97 : Int) ≤ c) && decide (c ≤ 122)) with hB | hB <;>
        rcases Bool.eq_false_or_eq_true (decide ((48 : Int) ≤ c) && decide (c ≤ 57)) with hD | hD <;>
        simp only [hA, hB, hD, Bool.or_true, Bool.or_false, if_true, Bool.false_eq_true, if_false]
    · simp only [restFrom]
      by_cases hl : letr (bt s (i : Int)) false = true
      · rw [hl]
        simpa using ih
      · rw [Bool.not_eq_true] at hl
        rw [hl]
        simpa using Ev.now false

theorem rest_all (s : ByteArray) : ∀ (n i : Nat), 0 < i → allFrom s n i = restFrom s n i
  | 0, _ => fun _ => rfl
  | n + 1, i => fun h => by
    have h0 : (i == 0) = false := by simp; omega
    simp only [allFrom, restFrom, h0, rest_all s n (i + 1) (by omega)]

theorem lett_digit (c : Int) : lett c = true → digit c = true → False := by
  simp only [lett, digit, Bool.or_eq_true, Bool.and_eq_true, decide_eq_true_eq]
  omega

theorem empty_toList (s : ByteArray) : s.toList = ([] : List UInt8) ↔ s.size = 0 := by
  rw [toList_eq]
  constructor
  · intro h
    show s.data.size = 0
    rw [← Array.length_toList, h]
    rfl
  · intro h
    have h : s.data.size = 0 := h
    exact List.length_eq_zero_iff.1 (by rw [Array.length_toList]; exact h)

theorem rname_ev (s : ByteArray) (hs : s.size < 9223372036854775807) : Ev (fun k => tachographref09_Name.f k s) (nameOk s) := by
  unfold tachographref09_Name.f
  have j0t : Ev (fun k => tachographref09_Name.j0 k s true) false := Ev.step (f := fun _ => some false) (fun k => by simp only [tachographref09_Name.j0, if_true]) (Ev.now _)
  by_cases h0 : s.size = 0
  · refine Ev.congr (f := fun k => tachographref09_Name.j0 k s true) (fun k => by rw [if_pos ((empty_toList s).2 h0)]) ?_
    have : nameOk s = false := by simp [nameOk, h0]
    rw [this]
    exact j0t
  · by_cases h1 : s.size > 32
    · refine Ev.congr (f := fun k => tachographref09_Name.j0 k s true) (fun k => by rw [if_neg (fun h => h0 ((empty_toList s).1 h)), if_pos (by omega)]) ?_
      have : nameOk s = false := by
        have h2 : ¬ s.size ≤ 32 := by omega
        simp [nameOk, h2]
      rw [this]
      exact j0t
    · refine Ev.congr (f := fun k => tachographref09_Name.j0 k s (digit (bt s 0))) (fun k => ?_) ?_
      · rw [if_neg (fun h => h0 ((empty_toList s).1 h)), if_neg (by omega), if_pos (by omega), in_ev]
        rfl
      · obtain ⟨m, hm⟩ : ∃ m, s.size = m + 1 := ⟨s.size - 1, by omega⟩
        have hn : nameOk s = (letr (bt s 0) true && restFrom s m 1) := by
          have h2 : s.size ≤ 32 := by omega
          have h3 : 1 ≤ s.size := by omega
          unfold nameOk
          rw [hm, allFrom, rest_all s m 1 (by omega), ← hm]
          simp [h2, h3]
        rw [hn]
        by_cases hd : digit (bt s 0) = true
        · have : letr (bt s 0) true = false := by
            cases hl : lett (bt s 0)
            · simp [letr, hl]
            · exact (lett_digit _ hl hd).elim
          rw [hd, this]
          exact j0t
        · rw [Bool.not_eq_true] at hd
          rw [hd]
          refine Ev.step (f := fun k => tachographref09_Name.l0 k s ((0 : Nat) : Int)) (fun k => by simp only [tachographref09_Name.j0, Bool.false_eq_true, if_false]; rfl) ?_
          have hr := rname_from s hs s.size 0 (by omega)
          have : restFrom s s.size 0 = (letr (bt s 0) true && restFrom s m 1) := by
            rw [hm, restFrom]
            have : letr (bt s ((0 : Nat) : Int)) false = letr (bt s 0) true := by
              show letr (bt s 0) false = letr (bt s 0) true
              simp [letr, hd]
            rw [this]
          rw [← this]
          exact hr
/-! ### where a name is found -/
abbrev names (l : List Pred) : List ByteArray := l.map (·.f0)

theorem getD_eq (l : List Pred) (i : Nat) (h : i < l.length) : l.getD i z41 = l[i] := by simp [List.getD_eq_getElem?_getD, List.getElem?_eq_getElem h]
theorem names_getD (l : List Pred) (i : Nat) (h : i < l.length) : (names l)[i]? = some (l.getD i z41).f0 := by rw [getD_eq l i h, List.getElem?_map, List.getElem?_eq_getElem h]; rfl

/-- The first place of a name, or the list's length. -/
def place (l : List Pred) (nm : ByteArray) : Nat := (names l).idxOf nm
theorem place_le (l : List Pred) (nm : ByteArray) : place l nm ≤ l.length := by have := List.idxOf_le_length (a := nm) (l := names l); simpa [place] using this

theorem mem_take_succ (l : List Pred) (i : Nat) (h : i < l.length) (nm : ByteArray) : nm ∈ (names l).take (i + 1) ↔ nm ∈ (names l).take i ∨ (l.getD i z41).f0 = nm := by
  have := names_getD l i h
  rw [List.take_add_one, this, List.mem_append]
  constructor
  · rintro (h | h)
    · exact .inl h
    · right
      simpa using (List.mem_singleton.1 (by simpa using h)).symm
  · rintro (h | h)
    · exact .inl h
    · right
      rw [← h]
      exact List.mem_singleton.2 rfl

theorem place_lt (l : List Pred) (nm : ByteArray) (i : Nat) (hi : i ≤ l.length) : place l nm < i ↔ nm ∈ (names l).take i := by
  unfold place
  constructor
  · intro h
    have h1 : List.idxOf nm (names l) < (names l).length := by simp; omega
    rw [List.mem_take_iff_getElem]
    exact ⟨_, by omega, List.getElem_idxOf h1⟩
  · intro h
    obtain ⟨j, hj, e⟩ := List.mem_take_iff_getElem.1 h
    have hj' : j < (names l).length := by omega
    rcases Nat.lt_or_ge (List.idxOf nm (names l)) i with h' | h'
    · exact h'
    · exfalso
      have h2 := List.not_of_lt_findIdx (p := (· == nm)) (xs := names l) (i := j) (by show j < List.idxOf nm (names l); omega)
      rw [e] at h2
      simp at h2

theorem at_place (l : List Pred) (nm : ByteArray) (i : Nat) (hi : i < l.length) (h : nm ∉ (names l).take i) (he : (l.getD i z41).f0 = nm) : place l nm = i := by
  have h1 : ¬ place l nm < i := fun h' => h ((place_lt l nm i (by omega)).1 h')
  have h2 : place l nm < i + 1 := (place_lt l nm (i + 1) (by omega)).2 ((mem_take_succ l i hi nm).2 (.inr he))
  omega

theorem find_from (l : List Pred) (nm : ByteArray) (hl : l.length < 9223372036854775807) : ∀ (n i : Nat), n + i = l.length → nm ∉ (names l).take i →
    Ev (fun k => sig_Find.l0 k nm l (l.length : Int) (i : Int)) (if place l nm < l.length then ((place l nm : Int), true) else (0, false))
  | 0, i => fun h hn => by
    have hp : ¬ place l nm < l.length := fun h' => hn ((place_lt l nm i (by omega)).1 (by omega))
    rw [if_neg hp]
    refine Ev.step (f := fun _ => some ((0 : Int), false)) (fun k => ?_) (Ev.now _)
    simp only [sig_Find.l0]
    rw [if_neg (by omega)]
  | n + 1, i => fun h hn => by
    have hi : i < l.length := by omega
    refine Ev.step (f := fun k => if (l.getD i z41).f0 = nm then some ((i : Int), true) else sig_Find.l0 k nm l (l.length : Int) ((i + 1 : Nat) : Int)) (fun k => ?_) ?_
    · simp only [sig_Find.l0]
      rw [if_pos (by omega), if_pos (by omega), if_pos (by omega), w64 (by omega) (by omega), rd_pred]
      by_cases he : (l.getD i z41).f0 = nm
      · rw [if_pos he, if_pos (by rw [he]; exact beq_self_eq_true _)]
      · rw [if_neg he, if_neg (fun h' => he (toList_inj (eq_of_beq h')))]
        rfl
    · by_cases he : (l.getD i z41).f0 = nm
      · have hp := at_place l nm i hi hn he
        simp only [if_pos he]
        rw [hp, if_pos hi]
        exact Ev.now _
      · simp only [if_neg he]
        exact find_from l nm hl n (i + 1) (by omega) (fun h' => ((mem_take_succ l i hi nm).1 h').elim hn he)

theorem find_ev (l : List Pred) (nm : ByteArray) (hl : l.length < 9223372036854775807) : Ev (fun k => sig_Find.f k l nm) (if place l nm < l.length then ((place l nm : Int), true) else (0, false)) :=
  find_from l nm hl l.length 0 (by omega) (by simp)
theorem rfind_from (l : List Pred) (nm : ByteArray) (hl : l.length < 9223372036854775807) : ∀ (n i : Nat), n + i = l.length → nm ∉ (names l).take i →
    Ev (fun k => tachographref09_Find.l0 k l nm (i : Int)) (if place l nm < l.length then (place l nm : Int) else -1)
  | 0, i => fun h hn => by
    have hp : ¬ place l nm < l.length := fun h' => hn ((place_lt l nm i (by omega)).1 (by omega))
    rw [if_neg hp]
    refine Ev.step (f := fun _ => some (-1 : Int)) (fun k => ?_) (Ev.now _)
    simp only [tachographref09_Find.l0]
    rw [if_neg (by omega)]
  | n + 1, i => fun h hn => by
    have hi : i < l.length := by omega
    refine Ev.step (f := fun k => if (l.getD i z41).f0 = nm then some (i : Int) else tachographref09_Find.l0 k l nm ((i + 1 : Nat) : Int)) (fun k => ?_) ?_
    · simp only [tachographref09_Find.l0]
      rw [if_pos (by omega), if_pos (by omega), w64 (by omega) (by omega), rd_pred]
      by_cases he : (l.getD i z41).f0 = nm
      · rw [if_pos he, if_pos (by rw [he])]
      · rw [if_neg he, if_neg (fun h' => he (toList_inj h'))]
        rfl
    · by_cases he : (l.getD i z41).f0 = nm
      · have hp := at_place l nm i hi hn he
        simp only [if_pos he]
        rw [hp, if_pos hi]
        exact Ev.now _
      · simp only [if_neg he]
        exact rfind_from l nm hl n (i + 1) (by omega) (fun h' => ((mem_take_succ l i hi nm).1 h').elim hn he)

theorem rfind_ev (l : List Pred) (nm : ByteArray) (hl : l.length < 9223372036854775807) : Ev (fun k => tachographref09_Find.f k l nm) (if place l nm < l.length then (place l nm : Int) else -1) :=
  rfind_from l nm hl l.length 0 (by omega) (by simp)
/-! ### why a signature may not be -/
def typeOk (t : Int) : Bool := decide (t = 1) || decide (t = 2)
/-- The rest of the answer from the i-th predicate on. -/
def chk (l : List Pred) : Nat → Nat → Int
  | 0, _ => 0
  | n + 1, i => if (l.getD i z41).f0 ∈ (names l).take i ∨ nameOk (l.getD i z41).f0 = false then 9 else if (l.getD i z41).f1.length > 8 then 6 else if (l.getD i z41).f1.all typeOk = true then chk l n (i + 1) else 7
def check (l : List Pred) : Int := if l.length > 64 then 6 else chk l l.length 0

/-- Names that aren't too long for anything. -/
def Short (l : List Pred) : Prop := ∀ p ∈ l, p.f0.size < 9223372036854775807

theorem short_at {l : List Pred} (h : Short l) (i : Nat) (hi : i < l.length) : (l.getD i z41).f0.size < 9223372036854775807 := by
  rw [getD_eq l i hi]
  exact h _ (List.getElem_mem hi)

theorem types_from (l x14 : List Pred) (x3 : List ByteArray) (x15 x16 : Int) (a : List Int) (ha : a.length ≤ 8) (v : Int) (hv : Ev (fun k => sig_Check.l0 k x3 x14 x15 (wrap64 (x16 + 1))) v) : ∀ (n j : Nat), n + j = a.length →
    Ev (fun k => sig_Check.l1 k x3 x14 x15 x16 a (a.length : Int) (j : Int)) (if (a.drop j).all typeOk = true then v else 7)
  | 0, j => fun h => by
    have e : a.drop j = [] := List.drop_eq_nil_iff.2 (by omega)
    rw [e, List.all_nil, if_pos rfl]
    refine Ev.step (f := fun k => sig_Check.l0 k x3 x14 x15 (wrap64 (x16 + 1))) (fun k => ?_) hv
    simp only [sig_Check.l1]
    rw [if_neg (by omega)]
  | n + 1, j => fun h => by
    have hj : j < a.length := by omega
    have hr : rd a (j : Int) = a[j] := by simp [rd, List.getD_eq_getElem?_getD, List.getElem?_eq_getElem hj]
    rw [List.drop_eq_getElem_cons hj, List.all_cons]
    have ih := types_from l x14 x3 x15 x16 a ha v hv n (j + 1) (by omega)
    refine Ev.step (f := fun k => if typeOk a[j] = true then sig_Check.l1 k x3 x14 x15 x16 a (a.length : Int) ((j + 1 : Nat) : Int) else some 7) (fun k => ?_) ?_
    · simp only [sig_Check.l1]
      rw [if_pos (by omega), if_pos (by omega), if_pos (by omega), w64 (by omega) (by omega), hr]
      by_cases h1 : a[j] = 1
      · have : typeOk a[j] = true := by simp [typeOk, h1]
        rw [if_pos h1, if_pos this]
        rfl
      · by_cases h2 : a[j] = 2
        · have : typeOk a[j] = true := by simp [typeOk, h2]
          rw [if_neg h1, if_pos h2, if_pos this]
          rfl
        · have : ¬ typeOk a[j] = true := by simp [typeOk, h1, h2]
          rw [if_neg h1, if_neg h2, if_neg this]
    · by_cases h1 : typeOk a[j] = true
      · rw [h1]
        simpa using ih
      · rw [Bool.not_eq_true] at h1
        rw [h1]
        simpa using Ev.now (7 : Int)

theorem check_from (l : List Pred) (hl : l.length ≤ 64) (hs : Short l) : ∀ (n i : Nat), n + i = l.length → Ev (fun k => sig_Check.l0 k ((names l).take i) l (l.length : Int) (i : Int)) (chk l n i)
  | 0, i => fun h => by
    refine Ev.step (f := fun _ => some (chk l 0 i)) (fun k => ?_) (Ev.now _)
    simp only [sig_Check.l0, chk]
    rw [if_neg (by omega)]
  | n + 1, i => fun h => by
    have hi : i < l.length := by omega
    have ih := check_from l hl hs n (i + 1) (by omega)
    have hz := short_at hs i hi
    obtain ⟨p, hp⟩ : ∃ p, l.getD i z41 = p := ⟨_, rfl⟩
    rw [hp] at hz
    have htake : (names l).take (i + 1) = (names l).take i ++ [p.f0] := by rw [List.take_add_one, names_getD l i hi, hp]; rfl
    have hlen : ((names l).take i).length < 8796093022208 := by rw [List.length_take]; omega
    have hnine : Ev (fun k => sig_Check.j1 k ((names l).take i) l (l.length : Int) (i : Int) true p.f0 p.f1) 9 :=
      Ev.step (f := fun _ => some 9) (fun k => by simp only [sig_Check.j1, if_true]) (Ev.now _)
    have hgo : Ev (fun k => sig_Check.j1 k ((names l).take i) l (l.length : Int) (i : Int) false p.f0 p.f1) (if p.f1.length > 8 then 6 else if p.f1.all typeOk = true then chk l n (i + 1) else 7) := by
      by_cases h8 : p.f1.length > 8
      · rw [if_pos h8]
        refine Ev.step (f := fun _ => some 6) (fun k => ?_) (Ev.now _)
        simp only [sig_Check.j1, Bool.false_eq_true, if_false]
        rw [if_pos hlen, if_pos (by omega)]
      · rw [if_neg h8]
        have hv : Ev (fun k => sig_Check.l0 k ((names l).take i ++ [p.f0]) l (l.length : Int) (wrap64 ((i : Int) + 1))) (chk l n (i + 1)) := by
          rw [← htake, w64 (by omega) (by omega)]
          exact ih
        have ht := types_from l l ((names l).take i ++ [p.f0]) (l.length : Int) (i : Int) p.f1 (by omega) _ hv p.f1.length 0 (by omega)
        refine Ev.step (f := fun k => sig_Check.l1 k ((names l).take i ++ [p.f0]) l (l.length : Int) (i : Int) p.f1 (p.f1.length : Int) ((0 : Nat) : Int)) (fun k => ?_) ht
        simp only [sig_Check.j1, Bool.false_eq_true, if_false]
        rw [if_pos hlen, if_neg (by omega)]
        rfl
    simp only [chk, hp]
    by_cases hm : p.f0 ∈ (names l).take i
    · rw [if_pos (.inl hm)]
      refine Ev.step (f := fun k => sig_Check.j1 k ((names l).take i) l (l.length : Int) (i : Int) true p.f0 p.f1) (fun k => ?_) hnine
      simp only [sig_Check.l0]
      rw [if_pos (by omega), if_pos (by omega), if_pos (by omega), rd_pred, hp, if_pos (by omega), if_pos hm]
    · refine Ev.step (f := fun k => (sig_Name.f k p.f0).bind fun t => sig_Check.j1 k ((names l).take i) l (l.length : Int) (i : Int) (!t) p.f0 p.f1) (fun k => ?_) ?_
      · simp only [sig_Check.l0]
        rw [if_pos (by omega), if_pos (by omega), if_pos (by omega), rd_pred, hp, if_pos (by omega), if_neg hm]
      · refine Ev.bind (name_ev p.f0 hz) ?_
        cases hb : nameOk p.f0 with
        | true =>
          rw [if_neg (by simp [hm])]
          exact hgo
        | false =>
          rw [if_pos (.inr rfl)]
          exact hnine

theorem check_ev (l : List Pred) (hs : Short l) : Ev (fun k => sig_Check.f k l) (check l) := by
  unfold sig_Check.f check
  by_cases h : l.length > 64
  · rw [if_pos h]
    exact Ev.congr (f := fun _ => some 6) (fun k => by rw [if_pos (by omega)]) (Ev.now _)
  · rw [if_neg h]
    refine Ev.congr (f := fun k => sig_Check.l0 k ((names l).take 0) l (l.length : Int) ((0 : Nat) : Int)) (fun k => ?_) (check_from l (by omega) hs l.length 0 (by omega))
    rw [if_neg (by omega)]
    rfl

theorem rtypes_from (l : List Pred) (i : Nat) (hi : i < l.length) (hl : l.length ≤ 64) (ha : (l.getD i z41).f1.length ≤ 8) (v : Int) (hv : Ev (fun k => tachographref09_Check.l0 k l ((i + 1 : Nat) : Int)) v) : ∀ (n j : Nat), n + j = (l.getD i z41).f1.length →
    Ev (fun k => tachographref09_Check.l1 k l (i : Int) (j : Int)) (if ((l.getD i z41).f1.drop j).all typeOk = true then v else 7)
  | 0, j => fun h => by
    have e : (l.getD i z41).f1.drop j = [] := List.drop_eq_nil_iff.2 (by omega)
    rw [e, List.all_nil, if_pos rfl]
    refine Ev.step (f := fun k => tachographref09_Check.l0 k l ((i + 1 : Nat) : Int)) (fun k => ?_) hv
    simp only [tachographref09_Check.l1]
    rw [if_pos (by omega), if_pos (by omega), rd_pred, if_neg (by omega), w64 (by omega) (by omega)]
    rfl
  | n + 1, j => fun h => by
    have ih := rtypes_from l i hi hl ha v hv n (j + 1) (by omega)
    obtain ⟨a, hp⟩ : ∃ a, (l.getD i z41).f1 = a := ⟨_, rfl⟩
    rw [hp] at ha h ih ⊢
    have hj : j < a.length := by omega
    have hr : rd a (j : Int) = a[j] := by simp [rd, List.getD_eq_getElem?_getD, List.getElem?_eq_getElem hj]
    rw [List.drop_eq_getElem_cons hj, List.all_cons]
    refine Ev.step (f := fun k => if typeOk a[j] = true then tachographref09_Check.l1 k l (i : Int) ((j + 1 : Nat) : Int) else some 7) (fun k => ?_) ?_
    · simp only [tachographref09_Check.l1]
      rw [if_pos (by omega), if_pos (by omega), rd_pred, hp, if_pos (by omega), if_pos (by omega), w64 (by omega) (by omega), hr]
      by_cases h1 : a[j] < 1
      · have : ¬ typeOk a[j] = true := by simp [typeOk]; omega
        rw [if_pos h1, if_neg this]
      · by_cases h2 : a[j] > 2
        · have : ¬ typeOk a[j] = true := by simp [typeOk]; omega
          rw [if_neg h1, if_pos h2, if_neg this]
        · have : typeOk a[j] = true := by simp [typeOk]; omega
          rw [if_neg h1, if_neg h2, if_pos this]
          rfl
    · by_cases h1 : typeOk a[j] = true
      · rw [h1]
        simpa using ih
      · rw [Bool.not_eq_true] at h1
        rw [h1]
        simpa using Ev.now (7 : Int)

theorem rcheck_from (l : List Pred) (hl : l.length ≤ 64) (hs : Short l) : ∀ (n i : Nat), n + i = l.length → Ev (fun k => tachographref09_Check.l0 k l (i : Int)) (chk l n i)
  | 0, i => fun h => by
    refine Ev.step (f := fun _ => some (chk l 0 i)) (fun k => ?_) (Ev.now _)
    simp only [tachographref09_Check.l0, chk]
    rw [if_neg (by omega)]
  | n + 1, i => fun h => by
    have hi : i < l.length := by omega
    have ih := rcheck_from l hl hs n (i + 1) (by omega)
    have hz := short_at hs i hi
    have hty := rtypes_from l i hi hl
    obtain ⟨p, hp⟩ : ∃ p, l.getD i z41 = p := ⟨_, rfl⟩
    rw [hp] at hz hty
    have hnine : Ev (fun k => tachographref09_Check.j1 k l (i : Int) true) 9 :=
      Ev.step (f := fun _ => some 9) (fun k => by simp only [tachographref09_Check.j1, if_true]) (Ev.now _)
    have hgo : Ev (fun k => tachographref09_Check.j1 k l (i : Int) false) (if p.f1.length > 8 then 6 else if p.f1.all typeOk = true then chk l n (i + 1) else 7) := by
      by_cases h8 : p.f1.length > 8
      · rw [if_pos h8]
        refine Ev.step (f := fun _ => some 6) (fun k => ?_) (Ev.now _)
        simp only [tachographref09_Check.j1, Bool.false_eq_true, if_false]
        rw [if_pos (by omega), if_pos (by omega), rd_pred, hp, if_pos (by omega)]
      · rw [if_neg h8]
        refine Ev.step (f := fun k => tachographref09_Check.l1 k l (i : Int) ((0 : Nat) : Int)) (fun k => ?_) (hty (by omega) _ ih p.f1.length 0 (by omega))
        simp only [tachographref09_Check.j1, Bool.false_eq_true, if_false]
        rw [if_pos (by omega), if_pos (by omega), rd_pred, hp, if_neg (by omega)]
        rfl
    simp only [chk, hp]
    refine Ev.step (f := fun k => (tachographref09_Name.f k p.f0).bind fun t => if t = true then (tachographref09_Find.f k l p.f0).bind fun z => tachographref09_Check.j1 k l (i : Int) (decide (z < (i : Int))) else tachographref09_Check.j1 k l (i : Int) true) (fun k => ?_) ?_
    · simp only [tachographref09_Check.l0]
      rw [if_pos (by omega), if_pos (by omega), rd_pred, hp]
    · refine Ev.bind (rname_ev p.f0 hz) ?_
      cases hb : nameOk p.f0 with
      | false =>
        rw [if_pos (.inr rfl)]
        simpa using hnine
      | true =>
        simp only [if_true]
        refine Ev.bind (rfind_ev l p.f0 (by omega)) ?_
        have hin : place l p.f0 < l.length := by
          have := (place_lt l p.f0 (i + 1) (by omega)).2 ((mem_take_succ l i hi p.f0).2 (.inr (by rw [hp])))
          omega
        rw [if_pos hin]
        by_cases hm : p.f0 ∈ (names l).take i
        · have hlt := (place_lt l p.f0 i (by omega)).2 hm
          rw [if_pos (.inl hm), decide_eq_true (by omega)]
          exact hnine
        · have hge : ¬ place l p.f0 < i := fun h' => hm ((place_lt l p.f0 i (by omega)).1 h')
          rw [if_neg (by simp [hm]), decide_eq_false (by omega)]
          exact hgo

theorem rcheck_ev (l : List Pred) (hs : Short l) : Ev (fun k => tachographref09_Check.f k l) (check l) := by
  unfold tachographref09_Check.f check
  by_cases h : l.length > 64
  · rw [if_pos h]
    exact Ev.congr (f := fun _ => some 6) (fun k => by rw [if_pos (by omega)]) (Ev.now _)
  · rw [if_neg h]
    refine Ev.congr (f := fun k => tachographref09_Check.l0 k l ((0 : Nat) : Int)) (fun k => ?_) (rcheck_from l (by omega) hs l.length 0 (by omega))
    rw [if_neg (by omega)]
    rfl
/-- Nothing is wrong with the j-th predicate. -/
def Good (l : List Pred) (j : Nat) : Prop := (l.getD j z41).f0 ∉ (names l).take j ∧ nameOk (l.getD j z41).f0 = true ∧ (l.getD j z41).f1.length ≤ 8 ∧ (l.getD j z41).f1.all typeOk = true

theorem chk_good (l : List Pred) : ∀ (n i : Nat), n + i = l.length → (chk l n i = 0 ↔ ∀ j, i ≤ j → j < l.length → Good l j)
  | 0, i => fun h => ⟨fun _ j h1 h2 => absurd h2 (by omega), fun _ => rfl⟩
  | n + 1, i => fun h => by
    have ih := chk_good l n (i + 1) (by omega)
    have hi : i < l.length := by omega
    simp only [chk]
    constructor
    · intro h0 j h1 h2
      by_cases ha : (l.getD i z41).f0 ∈ (names l).take i ∨ nameOk (l.getD i z41).f0 = false
      · rw [if_pos ha] at h0
        exact absurd h0 (by decide)
      · rw [if_neg ha] at h0
        by_cases hb : (l.getD i z41).f1.length > 8
        · rw [if_pos hb] at h0
          exact absurd h0 (by decide)
        · rw [if_neg hb] at h0
          by_cases hc : (l.getD i z41).f1.all typeOk = true
          · rw [if_pos hc] at h0
            rcases Nat.lt_or_ge i j with hj | hj
            · exact ih.1 h0 j (by omega) h2
            · obtain rfl : i = j := by omega
              refine ⟨fun hm => ha (.inl hm), ?_, by omega, hc⟩
              cases hn : nameOk (l.getD i z41).f0 with
              | true => rfl
              | false => exact absurd (.inr hn) ha
          · rw [if_neg hc] at h0
            exact absurd h0 (by decide)
    · intro hg
      obtain ⟨g1, g2, g3, g4⟩ := hg i (Nat.le_refl _) hi
      rw [if_neg (by intro hh; rcases hh with hh | hh; exact g1 hh; rw [g2] at hh; cases hh), if_neg (by omega), if_pos g4]
      exact ih.2 (fun j h1 h2 => hg j (by omega) h2)

theorem check_zero (l : List Pred) : check l = 0 ↔ l.length ≤ 64 ∧ ∀ j, j < l.length → Good l j := by
  unfold check
  by_cases h : l.length > 64
  · rw [if_pos h]
    exact ⟨fun h' => absurd h' (by decide), fun h' => by omega⟩
  · rw [if_neg h, chk_good l l.length 0 (by omega)]
    exact ⟨fun h' => ⟨by omega, fun j hj => h' j (Nat.zero_le _) hj⟩, fun h' j _ hj => h'.2 j hj⟩

theorem check_take (l : List Pred) (m : Nat) (h : check l = 0) : check (l.take m) = 0 := by
  obtain ⟨h1, h2⟩ := (check_zero l).1 h
  refine (check_zero _).2 ⟨by rw [List.length_take]; omega, fun j hj => ?_⟩
  rw [List.length_take] at hj
  have hg := h2 j (by omega)
  have e1 : (l.take m).getD j z41 = l.getD j z41 := by
    rw [getD_eq _ j (by rw [List.length_take]; exact hj), getD_eq l j (by omega), List.getElem_take]
  have e2 : (names (l.take m)).take j = (names l).take j := by
    show ((l.take m).map (·.f0)).take j = _
    rw [List.map_take, List.take_take, Nat.min_eq_left (by omega)]
  unfold Good
  rw [e1, e2]
  exact hg

/-! ### more than is gone through -/
def great (l : List Pred) : Bool := l.any (fun p => decide (p.f1.length > 30) || decide (p.f0.size > 100)) || decide (l.length > 100)

theorem great_from (l : List Pred) (hl : l.length < 9223372036854775807) : ∀ (n i : Nat), n + i = l.length → Ev (fun k => tachographlaw09_Great.l0 k l l (l.length : Int) (i : Int)) ((l.drop i).any (fun p => decide (p.f1.length > 30) || decide (p.f0.size > 100)) || decide (l.length > 100))
  | 0, i => fun h => by
    have e : l.drop i = [] := List.drop_eq_nil_iff.2 (by omega)
    rw [e, List.any_nil, Bool.false_or]
    refine Ev.step (f := fun _ => some (decide (l.length > 100))) (fun k => ?_) (Ev.now _)
    simp only [tachographlaw09_Great.l0]
    rw [if_neg (by omega)]
    congr 1
    rw [decide_eq_decide]
    omega
  | n + 1, i => fun h => by
    have hi : i < l.length := by omega
    have ih := great_from l hl n (i + 1) (by omega)
    rw [List.drop_eq_getElem_cons hi, List.any_cons]
    refine Ev.step (f := fun k => if (l[i].f1.length > 30 ∨ l[i].f0.size > 100) then some true else tachographlaw09_Great.l0 k l l (l.length : Int) ((i + 1 : Nat) : Int)) (fun k => ?_) ?_
    · simp only [tachographlaw09_Great.l0]
      rw [if_pos (by omega), if_pos (by omega), if_pos (by omega), w64 (by omega) (by omega), rd_pred, getD_eq l i hi]
      by_cases h1 : l[i].f1.length > 30
      · rw [if_pos (by omega), if_pos (.inl h1)]
      · by_cases h2 : l[i].f0.size > 100
        · rw [if_neg (by omega), if_pos (by omega), if_pos (.inr h2)]
        · rw [if_neg (by omega), if_neg (by omega), if_neg (by omega)]
          rfl
    · by_cases h1 : l[i].f1.length > 30 ∨ l[i].f0.size > 100
      · have : (decide (l[i].f1.length > 30) || decide (l[i].f0.size > 100)) = true := by simpa using h1
        rw [this]
        simp only [if_pos h1]
        exact Ev.now _
      · have : (decide (l[i].f1.length > 30) || decide (l[i].f0.size > 100)) = false := by simpa using h1
        rw [this]
        simp only [if_neg h1]
        exact ih

theorem great_ev (l : List Pred) (hl : l.length < 9223372036854775807) : Ev (fun k => tachographlaw09_Great.f k l) (great l) := great_from l hl l.length 0 (by omega)

theorem great_short {l : List Pred} (h : great l = false) : Short l ∧ l.length ≤ 100 := by
  simp only [great, Bool.or_eq_false_iff, decide_eq_false_iff_not] at h
  refine ⟨fun p hp => ?_, by omega⟩
  have := List.any_eq_false.1 h.1 p hp
  simp at this
  omega
end Go.Proofs.YtmmfakdncjeoeacDoor.MSig
