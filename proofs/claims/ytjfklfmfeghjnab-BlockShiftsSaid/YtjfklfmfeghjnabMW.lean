/- Plain laws on a number's bytes (layer 1): what reading comes to, and that what was put is read. -/
import Derived.Test.YtjfklfmfeghjnabPKx4
import Derived.Laws.BitsAllLaws
import Derived.Lib.Zigzag
namespace Go.Proofs.Ytjfklfmfeghjnab.MW
open Go.RowKit Go.Proofs.Ytjfklfmfeghjnab.PK Go.Proofs.YtjfklfmfeghjnabW.PrintWords Go.Proofs.YtjfklfmfeghjnabW.PrintLast Go.Proofs.YtjfklfmfeghjnabW.PrintMore

/-- Bytes. -/
def Byt (l : List Int) : Prop := ∀ x ∈ l, 0 ≤ x ∧ x < 256

theorem Byt.nil : Byt [] := fun _ h => by cases h
theorem Byt.cons {c : Int} {l : List Int} (h : Byt (c :: l)) : (0 ≤ c ∧ c < 256) ∧ Byt l := ⟨h c (by simp), fun x hx => h x (by simp [hx])⟩
theorem Byt.mk {c : Int} {l : List Int} (h0 : 0 ≤ c) (h1 : c < 256) (h : Byt l) : Byt (c :: l) := fun x hx => by
  rcases List.mem_cons.1 hx with rfl | hx
  · exact ⟨h0, h1⟩
  · exact h x hx
theorem Byt.append {l m : List Int} (h : Byt l) (k : Byt m) : Byt (l ++ m) := fun x hx => by
  rcases List.mem_append.1 hx with hx | hx
  · exact h x hx
  · exact k x hx
theorem Byt.left {l m : List Int} (h : Byt (l ++ m)) : Byt l := fun x hx => h x (by simp [hx])
theorem Byt.right {l m : List Int} (h : Byt (l ++ m)) : Byt m := fun x hx => h x (by simp [hx])
theorem Byt.drop {l : List Int} (h : Byt l) (n : Nat) : Byt (l.drop n) := fun x hx => h x (List.mem_of_mem_drop hx)
theorem Byt.take {l : List Int} (h : Byt l) (n : Nat) : Byt (l.take n) := fun x hx => h x (List.mem_of_mem_take hx)
theorem byt_wf {l : List Int} (h : ∀ x ∈ l, (Lit.int .u8 x).wf = true) : Byt l := fun x hx => by
  have := h x hx
  have h2 : 0 ≤ x ∧ x ≤ 255 := by simpa [Lit.wf, IntKind.min, IntKind.max, IntKind.bits, IntKind.signed] using this
  omega

theorem byt_bytesOf (s : ByteArray) : Byt (bytesOf s) := fun x hx => by
  obtain ⟨b, _, rfl⟩ := List.mem_map.1 hx
  have := b.toNat_lt
  omega
theorem bytesOf_strOfNums {l : List Int} (h : Byt l) : bytesOf (strOfNums l) = l := by
  unfold bytesOf
  rw [strOfNums_data, List.map_map]
  conv => rhs; rw [← List.map_id l]
  refine List.map_congr_left fun x hx => ?_
  obtain ⟨h0, h1⟩ := h x hx
  obtain ⟨n, rfl⟩ := Int.eq_ofNat_of_zero_le h0
  simp
  omega
theorem strOfNums_bytesOf (s : ByteArray) : strOfNums (bytesOf s) = s := by
  have : (strOfNums (bytesOf s)).data.toList = s.data.toList := by
    rw [strOfNums_data, bytesOf, List.map_map]
    conv => rhs; rw [← List.map_id s.data.toList]
    refine List.map_congr_left fun x hx => ?_
    simp
  cases s with
  | mk d =>
    cases h : strOfNums (bytesOf ⟨d⟩) with
    | mk e =>
      rw [h] at this
      have : e = d := Array.toList_inj.1 this
      rw [this]
theorem strOfNums_inj {l m : List Int} (hl : Byt l) (hm : Byt m) (h : (strOfNums l).toList = (strOfNums m).toList) : l = m := by
  rw [← bytesOf_strOfNums hl, ← bytesOf_strOfNums hm]
  unfold bytesOf
  rw [show (strOfNums l).data.toList = (strOfNums m).data.toList from by simpa [ByteArray.toList_eq] using h]
theorem toList_strOfNums (l : List Int) : (strOfNums l).toList = l.map fun n => UInt8.ofNat n.toNat := by
  have h : (strOfNums l).toList = (strOfNums l).data.toList := by simp [ByteArray.toList_eq]
  rw [h, strOfNums_data]
theorem strOfNums_append (l m : List Int) : strOfNums (l ++ m) = strOfNums l ++ strOfNums m := by
  have h : (strOfNums (l ++ m)).data = (strOfNums l ++ strOfNums m).data := by
    rw [ByteArray.data_append]
    simp [strOfNums]
  cases h1 : strOfNums (l ++ m); cases h2 : strOfNums l ++ strOfNums m
  rw [h1, h2] at h
  simpa using h
theorem bytesOf_append (s t : ByteArray) : bytesOf (s ++ t) = bytesOf s ++ bytesOf t := by simp [bytesOf]
theorem wf_u64 {x : Int} (h : (Lit.int .u64 x).wf = true) : 0 ≤ x ∧ x < 18446744073709551616 := by
  have h2 : 0 ≤ x ∧ x ≤ 18446744073709551615 := by simpa [Lit.wf, IntKind.min, IntKind.max, IntKind.bits, IntKind.signed] using h
  omega
theorem wf_i64 {x : Int} (h : (Lit.int .i64 x).wf = true) : -9223372036854775808 ≤ x ∧ x < 9223372036854775808 := by
  have h2 : -9223372036854775808 ≤ x ∧ x ≤ 9223372036854775807 := by simpa [Lit.wf, IntKind.min, IntKind.max, IntKind.bits, IntKind.signed] using h
  omega

theorem w64 {x : Int} (h0 : -9223372036854775808 ≤ x) (h1 : x < 9223372036854775808) : wrap64 x = x := by unfold wrap64; omega
theorem wu64 {x : Int} (h0 : 0 ≤ x) (h1 : x < 18446744073709551616) : IntKind.u64.wrap x = x := by rw [IntKind.wrap_u64]; omega

/-! ### What the bytes of a number are -/
theorem wbytes_byt (m : Nat) : Byt (wbytes m) := by
  induction m using Nat.strongRecOn with
  | _ m ih =>
    rw [wbytes]
    split
    · exact Byt.mk (by omega) (by omega) Byt.nil
    · exact Byt.mk (by omega) (by omega) (ih _ (by omega))
theorem wbytes_ne (m : Nat) : wbytes m ≠ [] := by
  rw [wbytes]
  split <;> simp
theorem wbytes_pos (m : Nat) : 0 < (wbytes m).length := List.length_pos_iff.2 (wbytes_ne m)
theorem wbytes_le10 {m : Nat} (h : m < 18446744073709551616) : (wbytes m).length ≤ 10 := wbytes_len 9 m (by omega)

/-- Reading, as the code goes: from the front, i bytes having been read. -/
def wgo (i : Nat) (acc : Int) : List Int → Int × Int × Int
  | [] => (0, 0, 2)
  | c :: r => if i = 9 ∧ 1 < c then (0, 0, 3) else if 128 ≤ c then wgo (i + 1) (acc + c % 128 * 128 ^ i) r else if c = 0 ∧ 0 < i then (0, 0, 4) else (acc + c * 128 ^ i, i + 1, 0)
def wget (l : List Int) : Int × Int × Int := wgo 0 0 l

theorem pow7 (i : Nat) : (2 : Int) ^ (7 * i) = 128 ^ i := by rw [Int.pow_mul]; rfl
theorem shl7 (i : Nat) (hi : i ≤ 9) (c : Int) (h0 : 0 ≤ c) (h1 : c < 256) : shl .u64 (IntKind.u64.wrap (Go.bits .and .u8 c 127)) (wrap64 (7 * (i : Int))) = IntKind.u64.wrap (c % 128 * 128 ^ i) := by
  have e1 : Go.bits .and .u8 c 127 = c % 128 := by
    rw [u8_and c 127 h0 h1 (by omega) (by omega)]
    have : c.toNat &&& (127 : Int).toNat = c.toNat % 128 := nat_mask7 _
    rw [this]; omega
  have e2 : wrap64 (7 * (i : Int)) = 7 * i := by unfold wrap64; omega
  rw [e1, e2]
  unfold shl
  have e3 : min (7 * (i : Int)).toNat IntKind.u64.bits = 7 * i := by
    have : IntKind.u64.bits = 64 := rfl
    rw [this]; omega
  rw [e3, pow7]
  have e4 : IntKind.u64.wrap (c % 128) = c % 128 := by rw [IntKind.wrap_u64]; omega
  rw [e4]
theorem castP (e i : Nat) : ((e * 128 ^ i : Nat) : Int) = (e : Int) * 128 ^ i := by rw [Int.natCast_mul, Int.natCast_pow]; rfl
theorem pow_le9 (i : Nat) (hi : i ≤ 9) : 128 ^ i ≤ 9223372036854775808 := Nat.le_trans (Nat.pow_le_pow_right (by omega) hi) (by decide)
theorem pow_le8 (i : Nat) (hi : i ≤ 8) : 128 ^ i ≤ 72057594037927936 := Nat.le_trans (Nat.pow_le_pow_right (by omega) hi) (by decide)
theorem mul127 (c P : Int) (hc : 0 ≤ c ∧ c ≤ 127) (hP : 0 ≤ P) : 0 ≤ c * P ∧ c * P ≤ 127 * P := ⟨Int.mul_nonneg hc.1 hP, Int.mul_le_mul_of_nonneg_right hc.2 hP⟩
theorem powI (i : Nat) : 0 < (128 : Int) ^ i := Int.pow_pos (by omega)
theorem powI8 (i : Nat) (hi : i ≤ 8) : (128 : Int) ^ i ≤ 72057594037927936 := by
  have h := pow_le8 i hi
  have hc : ((128 ^ i : Nat) : Int) = 128 ^ i := Int.natCast_pow ..
  rw [← hc]
  exact Int.ofNat_le.2 h
theorem orAdd (i : Nat) (hi : i ≤ 9) (acc d : Int) (h0 : 0 ≤ acc) (h1 : acc < 128 ^ i) (hd : 0 ≤ d) (h2 : d * 128 ^ i < 18446744073709551616) :
    Go.bits .or .u64 acc (IntKind.u64.wrap (d * 128 ^ i)) = acc + d * 128 ^ i := by
  obtain ⟨a, rfl⟩ := Int.eq_ofNat_of_zero_le h0
  obtain ⟨e, rfl⟩ := Int.eq_ofNat_of_zero_le hd
  have hp := pow_le9 i hi
  have hc : ((128 ^ i : Nat) : Int) = 128 ^ i := Int.natCast_pow ..
  rw [← hc] at h1
  have h1' : a < 128 ^ i := Int.ofNat_lt.1 h1
  rw [← castP] at h2 ⊢
  have h2' : e * 128 ^ i < 18446744073709551616 := by omega
  have hw : IntKind.u64.wrap ((e * 128 ^ i : Nat) : Int) = ((e * 128 ^ i : Nat) : Int) := by
    rw [IntKind.wrap_u64]; omega
  rw [hw, u64_or_nat a _ (by omega) h2', Nat.or_comm, nat_join (7 * i) (e * 128 ^ i) a (by rw [Nat.pow_mul]; exact Nat.mul_mod_left _ _) (by rw [Nat.pow_mul]; exact h1')]
  omega

theorem rd_drop {l : List Int} {i : Nat} {c : Int} {r : List Int} (h : l.drop i = c :: r) : rd l (i : Int) = c ∧ i < l.length ∧ l.drop (i + 1) = r := by
  have hi : i < l.length := by
    rcases Nat.lt_or_ge i l.length with h' | h'
    · exact h'
    · rw [List.drop_of_length_le h'] at h; cases h
  have h2 := List.drop_eq_getElem_cons hi
  rw [h] at h2
  injection h2 with h3 h4
  refine ⟨?_, hi, h4.symm⟩
  unfold rd
  rw [Int.toNat_natCast, List.getD_eq_getElem?_getD, List.getElem?_eq_getElem hi, h3]
  rfl

theorem pw_pos (i : Nat) : 0 < 128 ^ i := Nat.pow_pos (by omega)
theorem wgo_put (rest : List Int) : ∀ (m i : Nat) (acc : Int), m * 128 ^ i < 18446744073709551616 → (m ≠ 0 ∨ i = 0) → wgo i acc (wbytes m ++ rest) = (acc + (m : Int) * 128 ^ i, (i : Int) + ((wbytes m).length : Nat), 0) := by
  intro m
  induction m using Nat.strongRecOn with
  | _ m ih =>
    intro i acc hb hne
    rw [wbytes]
    split
    · rename_i h
      simp only [List.cons_append, List.nil_append, wgo, List.length_cons, List.length_nil]
      rw [if_neg, if_neg (by omega), if_neg (by omega)]
      · congr 1
      · rintro ⟨rfl, h1⟩
        have : (128 : Nat) ^ 9 = 9223372036854775808 := by decide
        rw [this] at hb
        omega
    · rename_i h
      simp only [List.cons_append, wgo, List.length_cons]
      have e1 : (((m % 128 + 128 : Nat) : Int)) % 128 = ((m % 128 : Nat) : Int) := by omega
      rw [if_neg, if_pos (by omega), e1, ih (m / 128) (by omega) (i + 1) _ ?_ (by omega)]
      · have e2 : (acc + ((m % 128 : Nat) : Int) * 128 ^ i + ((m / 128 : Nat) : Int) * 128 ^ (i + 1)) = acc + (m : Int) * 128 ^ i := by
          rw [Int.pow_succ, Int.add_assoc, Int.mul_comm (128 ^ i) 128, ← Int.mul_assoc, ← Int.add_mul]
          congr 2
          omega
        rw [e2]
        congr 2
        omega
      · have h1 : m / 128 * 128 ^ (i + 1) = m / 128 * 128 * 128 ^ i := by rw [Nat.pow_succ, Nat.mul_comm (128 ^ i) 128, Nat.mul_assoc]
        rw [h1]
        exact Nat.lt_of_le_of_lt (Nat.mul_le_mul_right _ (Nat.div_mul_le_self m 128)) hb
      · rintro ⟨rfl, _⟩
        have : (128 : Nat) ^ 9 = 9223372036854775808 := by decide
        rw [this] at hb
        omega
theorem wget_put (m : Nat) (hm : m < 18446744073709551616) (rest : List Int) : wget (wbytes m ++ rest) = ((m : Int), (((wbytes m).length : Nat) : Int), 0) := by
  have := wgo_put rest m 0 0 (by simpa using hm) (.inr rfl)
  simpa [wget] using this
theorem wgo_cut : ∀ (m i : Nat) (acc : Int) (j : Nat), m * 128 ^ i < 18446744073709551616 → j < (wbytes m).length → wgo i acc ((wbytes m).take j) = (0, 0, 2) := by
  intro m
  induction m using Nat.strongRecOn with
  | _ m ih =>
    intro i acc j hb hj
    cases j with
    | zero => simp [wgo]
    | succ j =>
      rw [wbytes] at hj ⊢
      split at hj
      · simp at hj
      · rename_i h
        rw [dif_neg h]
        simp only [List.take_succ_cons, wgo]
        rw [if_neg, if_pos (by omega)]
        · refine ih (m / 128) (by omega) (i + 1) _ j ?_ (by simpa using hj)
          have h1 : m / 128 * 128 ^ (i + 1) = m / 128 * 128 * 128 ^ i := by rw [Nat.pow_succ, Nat.mul_comm (128 ^ i) 128, Nat.mul_assoc]
          rw [h1]
          exact Nat.lt_of_le_of_lt (Nat.mul_le_mul_right _ (Nat.div_mul_le_self m 128)) hb
        · rintro ⟨rfl, _⟩
          have : (128 : Nat) ^ 9 = 9223372036854775808 := by decide
          rw [this] at hb
          omega
theorem wget_cut (m : Nat) (hm : m < 18446744073709551616) (j : Nat) (hj : j < (wbytes m).length) : wget ((wbytes m).take j) = (0, 0, 2) := wgo_cut m 0 0 j (by simpa using hm) hj
theorem bnd (m d i : Nat) (hd : d < 128) (hi : i ≤ 8) (h : m * 128 ^ (i + 1) < 18446744073709551616) : (128 * m + d) * 128 ^ i < 18446744073709551616 := by
  have key : ∀ (P K : Nat), P * (128 * K) = 18446744073709551616 → m * (P * 128) < 18446744073709551616 → (128 * m + d) * P < 18446744073709551616 := by
    intro P K hP h
    have hP0 : 0 < P := by rcases Nat.eq_zero_or_pos P with e | e; (subst e; omega); exact e
    have h1 : P * (128 * m) < P * (128 * K) := by rw [hP]; rw [Nat.mul_comm P (128 * m), Nat.mul_comm 128 m, Nat.mul_assoc, Nat.mul_comm 128 P]; exact h
    have h2 := Nat.lt_of_mul_lt_mul_left h1
    have h3 : 128 * m + d < 128 * K := by omega
    rw [Nat.mul_comm, ← hP]
    exact Nat.mul_lt_mul_of_pos_left h3 hP0
  have hK : 128 ^ i * (128 * (128 ^ (8 - i) * 2)) = 18446744073709551616 := by
    have e : (18446744073709551616 : Nat) = 128 ^ 8 * (128 * 2) := by decide
    rw [e, ← Nat.mul_assoc 128 _ 2, ← Nat.mul_assoc, ← Nat.mul_assoc, Nat.mul_comm (128 ^ i) 128, Nat.mul_assoc 128 (128 ^ i), ← Nat.pow_add, show i + (8 - i) = 8 by omega, Nat.mul_comm 128 (128 ^ 8)]
  exact key (128 ^ i) _ hK (by rw [← Nat.pow_succ]; exact h)
theorem wgo_back (l : List Int) : ∀ (i : Nat) (acc n k : Int), Byt l → i ≤ 9 → wgo i acc l = (n, k, 0) →
    ∃ m : Nat, n = acc + (m : Int) * 128 ^ i ∧ k = (i : Int) + ((wbytes m).length : Nat) ∧ (wbytes m).length ≤ l.length ∧ wbytes m = l.take (wbytes m).length ∧ (m ≠ 0 ∨ i = 0) ∧ m * 128 ^ i < 18446744073709551616 := by
  induction l with
  | nil => intro i acc n k _ _ h; simp [wgo] at h
  | cons c r ih =>
    intro i acc n k hl hi h
    obtain ⟨hc, hr⟩ := hl.cons
    rw [wgo] at h
    split at h
    · simp at h
    · rename_i h9
      split at h
      · rename_i hge
        obtain ⟨m, h1, h2, h3, h4, h5, h6⟩ := ih (i + 1) _ n k hr (by omega) h
        have hm0 : m ≠ 0 := by omega
        have e0 : wbytes (128 * m + (c % 128).toNat) = c :: wbytes m := by
          rw [wbytes, dif_neg (by omega)]
          congr 1
          · omega
          · congr 1; omega
        refine ⟨128 * m + (c % 128).toNat, ?_, ?_, ?_, ?_, .inl (by omega), ?_⟩
        · rw [h1, Int.pow_succ, Int.mul_comm (128 ^ i) 128, ← Int.mul_assoc, Int.add_assoc, ← Int.add_mul]
          congr 2
          omega
        · rw [e0, h2]; simp only [List.length_cons]; omega
        · rw [e0]; simp only [List.length_cons]; omega
        · rw [e0]; simp only [List.length_cons, List.take_succ_cons]; rw [← h4]
        · have h8 : i ≤ 8 := by omega
          obtain ⟨d, hd, hdl⟩ : ∃ d, (c % 128).toNat = d ∧ d < 128 := ⟨_, rfl, by omega⟩
          rw [hd]
          clear ih h1 h2 h3 h4 h e0 hd hc hr hl hge h9 h5 hi
          exact bnd m d i hdl h8 h6
      · split at h
        · simp at h
        · simp only [Prod.mk.injEq] at h
          obtain ⟨h1, h2, -⟩ := h
          rename_i hlt hz
          have e0 : wbytes c.toNat = [c] := by rw [wbytes, dif_pos (by omega)]; congr 1; omega
          refine ⟨c.toNat, ?_, ?_, ?_, ?_, by omega, ?_⟩
          · rw [← h1]; congr 2; omega
          · rw [e0, ← h2]; rfl
          · rw [e0]; simp
          · rw [e0]; simp
          · by_cases h8 : i = 9
            · subst h8
              have : (128 : Nat) ^ 9 = 9223372036854775808 := by decide
              rw [this]; omega
            · have hp8 : 128 ^ i ≤ 72057594037927936 := Nat.le_trans (Nat.pow_le_pow_right (by omega) (show i ≤ 8 by omega)) (by decide)
              have h7 : c.toNat ≤ 127 := by omega
              exact Nat.lt_of_le_of_lt (Nat.mul_le_mul h7 hp8) (by omega)
/-- What is read, is the front. -/
theorem wget_back {l : List Int} (hl : Byt l) {n k : Int} (h : wget l = (n, k, 0)) : ∃ m : Nat, n = m ∧ m < 18446744073709551616 ∧ k = (((wbytes m).length : Nat) : Int) ∧ (wbytes m).length ≤ l.length ∧ wbytes m = l.take (wbytes m).length := by
  obtain ⟨m, h1, h2, h3, h4, _, h6⟩ := wgo_back l 0 0 n k hl (by omega) h
  exact ⟨m, by simpa using h1, by simpa using h6, by simpa using h2, h3, h4⟩
theorem wgo_err (l : List Int) : ∀ (i : Nat) (acc : Int), (∃ n k, wgo i acc l = (n, k, 0)) ∨ wgo i acc l = (0, 0, 2) ∨ wgo i acc l = (0, 0, 3) ∨ wgo i acc l = (0, 0, 4) := by
  induction l with
  | nil => intro i acc; simp [wgo]
  | cons c r ih =>
    intro i acc
    rw [wgo]
    split
    · simp
    · split
      · exact ih _ _
      · split
        · simp
        · exact .inl ⟨_, _, rfl⟩
theorem wget_err (l : List Int) : (∃ n k, wget l = (n, k, 0)) ∨ wget l = (0, 0, 2) ∨ wget l = (0, 0, 3) ∨ wget l = (0, 0, 4) := wgo_err l 0 0

theorem put_eq (l : List Int) (m : Nat) (hl : l.length ≤ 140737488355000) (hm : m < 18446744073709551616) : wire_Put.f l (m : Int) = some (l ++ wbytes m) := by
  unfold wire_Put.f
  rw [if_pos ⟨hl, by omega, by omega⟩, Int.toNat_natCast]
end Go.Proofs.Ytjfklfmfeghjnab.MW
