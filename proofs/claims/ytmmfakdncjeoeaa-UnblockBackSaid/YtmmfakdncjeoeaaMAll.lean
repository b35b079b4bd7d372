/- Small plain laws on bytes,texts and numbers,for every seat. -/
import Derived.Test.YtmmfakdncjeoeaaWWords
import Derived.Test.YtmmfakdncjeoeaaWMore
import Derived.Test.YtmmfakdncjeoeaaWLast
import Derived.Test.YtmmfakdncjeoeaaMapSet
import Derived.Test.YtmmfakdncjeoeaaPUx2
import Derived.Test.YtmmfakdncjeoeaaPUx3
import Derived.Test.YtmmfakdncjeoeaaPUx4
import Derived.Test.YtmmfakdncjeoeaaDict
import Derived.Test.YtmmfakdncjeoeaaPUx5
import Derived.Test.YtmmfakdncjeoeaaPUx7
import Derived.Laws.BitsAllLaws
import Derived.Lib.Zigzag
import Derived.Test.YtmmfakdncjeoeaaPUx8
import Derived.Test.YtmmfakdncjeoeaaPUx6
import Derived.Test.YtmmfakdncjeoeaaPUx11
import Derived.Test.YtmmfakdncjeoeaaPUx10
import Derived.Test.YtmmfakdncjeoeaaPUx9
import Derived.Test.YtmmfakdncjeoeaaPUx12
namespace Go.Proofs.Ytmmfakdncjeoeaa.MBase
open Go.RowKit Go.Proofs.YtmmfakdncjeoeaaW.PrintWords Go.Proofs.YtmmfakdncjeoeaaW.PrintLast Go.Proofs.YtmmfakdncjeoeaaW.PrintMore

def Byt (l : List Int) : Prop:=∀ x ∈ l,0 ≤ x ∧ x < 256
theorem Byt.nil : Byt []:=fun _ h => by cases h
theorem Byt.append {l m : List Int} (h : Byt l) (k : Byt m) : Byt (l ++ m):=fun x hx => by
 rcases List.mem_append.1 hx with hx | hx
 ·exact h x hx
 ·exact k x hx
theorem Byt.drop {l : List Int} (h : Byt l) (n : Nat) : Byt (l.drop n):=fun x hx => h x (List.mem_of_mem_drop hx)
theorem Byt.take {l : List Int} (h : Byt l) (n : Nat) : Byt (l.take n):=fun x hx => h x (List.mem_of_mem_take hx)
theorem byt_bytesOf (s : ByteArray) : Byt (bytesOf s):=fun x hx => by
 obtain ⟨b,_,rfl⟩:=List.mem_map.1 hx
 have:=b.toNat_lt
 omega
theorem bytesOf_strOfNums {l : List Int} (h : Byt l) : bytesOf (strOfNums l) = l:=by
 unfold bytesOf
 rw [strOfNums_data,List.map_map]
 conv => rhs;rw [← List.map_id l]
 refine List.map_congr_left fun x hx => ?_
 obtain ⟨h0,h1⟩:=h x hx
 obtain ⟨n,rfl⟩:=Int.eq_ofNat_of_zero_le h0
 simp
 omega
theorem ba_ext {s t : ByteArray} (h : s.data.toList = t.data.toList) : s = t:=by
 cases s with
 | mk d => cases t with
  | mk e =>
   have : d = e:=Array.toList_inj.1 h
   rw [this]
theorem strOfNums_bytesOf (s : ByteArray) : strOfNums (bytesOf s) = s:=by
 apply ba_ext
 rw [strOfNums_data,bytesOf,List.map_map]
 conv => rhs;rw [← List.map_id s.data.toList]
 refine List.map_congr_left fun x hx => ?_
 simp
theorem toList_eq (s : ByteArray) : s.toList = s.data.toList:=by simp [ByteArray.toList_eq]
theorem toList_strOfNums (l : List Int) : (strOfNums l).toList = l.map fun n => UInt8.ofNat n.toNat:=by rw [toList_eq,strOfNums_data]
theorem toList_inj {s t : ByteArray} (h : s.toList = t.toList) : s = t:=by rw [toList_eq,toList_eq] at h;exact ba_ext h
theorem w64 {x : Int} (h0 : -9223372036854775808 ≤ x) (h1 : x < 9223372036854775808) : wrap64 x = x:=by unfold wrap64;omega
theorem wu64 {x : Int} (h0 : 0 ≤ x) (h1 : x < 18446744073709551616) : IntKind.u64.wrap x = x:=by rw [IntKind.wrap_u64];omega
theorem wf_u64 {x : Int} (h : (Lit.int .u64 x).wf = true) : 0 ≤ x ∧ x < 18446744073709551616:=by
 simp [Lit.wf,IntKind.min,IntKind.max,IntKind.signed,IntKind.bits] at h
 omega
theorem wf_i64 {x : Int} (h : (Lit.int .i64 x).wf = true) : -9223372036854775808 ≤ x ∧ x < 9223372036854775808:=by
 simp [Lit.wf,IntKind.min,IntKind.max,IntKind.signed,IntKind.bits] at h
 omega
end Go.Proofs.Ytmmfakdncjeoeaa.MBase
-- NARROW
namespace Go.Proofs.Ytmmfakdncjeoeaa.MSig
open Go.RowKit Go.Proofs.Ytmmfakdncjeoeaa.PU Go.Proofs.Ytmmfakdncjeoeaa.MBase Go.Proofs.YtmmfakdncjeoeaaAid Go.Proofs.YtmmfakdncjeoeaaW.PrintWords Go.Proofs.YtmmfakdncjeoeaaW.PrintLast Go.Proofs.YtmmfakdncjeoeaaW.PrintMore

abbrev Pred:=S53
theorem rd_pred (l : List Pred) (i : Nat) : rd_T53 l (i : Int) = l.getD i z53:=by simp [rd_T53]

/-! ### a name -/
def lett (c : Int) : Bool:=(decide (65 ≤ c) && decide (c ≤ 90)) || (decide (97 ≤ c) && decide (c ≤ 122)) || decide (c = 95)
def digit (c : Int) : Bool:=decide (48 ≤ c) && decide (c ≤ 57)
def letr (c : Int) (first : Bool) : Bool:=lett c || (!first && digit c)

theorem letter_ev (c : Int) (b : Bool) : Ev (fun k => sig_letter.f k c b) (letr c b):=by
 refine ⟨3,fun k hk => ?_⟩
 obtain ⟨m,rfl⟩ : ∃ m,k = m + 3:=⟨k - 3,by omega⟩
 unfold sig_letter.f
 simp only [sig_letter.j0,sig_letter.j1,letr,lett,digit]
 cases b <;> (repeat' split) <;> simp_all <;> omega

def allFrom (s : ByteArray) : Nat → Nat → Bool
 | 0,_ => true
 | n + 1,i => letr (bt s i) (i == 0) && allFrom s n (i + 1)
def nameOk (s : ByteArray) : Bool:=allFrom s s.size 0 && decide (1 ≤ s.size) && decide (s.size ≤ 32)

theorem name_from (s : ByteArray) (hs : s.size < 9223372036854775807) : ∀ (n i : Nat),n + i = s.size → Ev (fun k => sig_Name.l0 k s (s.size : Int) (i : Int)) (allFrom s n i && decide (1 ≤ s.size) && decide (s.size ≤ 32))
 | 0,i => fun h => by
  refine Ev.step (f:=fun _ => some (allFrom s 0 i && decide (1 ≤ s.size) && decide (s.size ≤ 32))) (fun k => ?_) (Ev.now _)
  simp only [sig_Name.l0,allFrom]
  rw [if_neg (by omega)]
  by_cases h1 : (s.size : Int) ≥ 1
  ·rw [if_pos h1]
   have h2 : 1 ≤ s.size:=by omega
   simp [h2]
   omega
  ·rw [if_neg h1]
   have h2 : ¬ 1 ≤ s.size:=by omega
   simp [h2]
 | n + 1,i => fun h => by
  have ih:=name_from s hs n (i + 1) (by omega)
  refine Ev.step (f:=fun k => (sig_letter.f k (bt s (i : Int)) ((i : Int) == 0)).bind fun t => if t = true then sig_Name.l0 k s (s.size : Int) ((i + 1 : Nat) : Int) else some false) (fun k => ?_) ?_
  ·simp only [sig_Name.l0]
   rw [if_pos (by omega),if_pos (by omega),if_pos (by omega),w64 (by omega) (by omega)]
   rfl
  ·refine Ev.bind (letter_ev _ _) ?_
   have hb : (((i : Int) == 0) : Bool) = (i == 0):=by
    rw [Bool.eq_iff_iff,beq_iff_eq,beq_iff_eq]
    omega
   rw [hb]
   simp only [allFrom]
   by_cases hl : letr (bt s (i : Int)) (i == 0) = true
   ·rw [hl]
    simpa using ih
   ·rw [Bool.not_eq_true] at hl
    rw [hl]
    simpa using Ev.now false

theorem name_ev (s : ByteArray) (hs : s.size < 9223372036854775807) : Ev (fun k => sig_Name.f k s) (nameOk s):=by
 unfold sig_Name.f
 exact name_from s hs s.size 0 (by omega)

/-! ### where a name is found -/
abbrev names (l : List Pred) : List ByteArray:=l.map (·.f0)

theorem getD_eq (l : List Pred) (i : Nat) (h : i < l.length) : l.getD i z53 = l[i]:=by simp [List.getD_eq_getElem?_getD,List.getElem?_eq_getElem h]
theorem names_getD (l : List Pred) (i : Nat) (h : i < l.length) : (names l)[i]? = some (l.getD i z53).f0:=by rw [getD_eq l i h,List.getElem?_map,List.getElem?_eq_getElem h];rfl

def place (l : List Pred) (nm : ByteArray) : Nat:=(names l).idxOf nm
/-! ### why a signature may not be -/
def typeOk (t : Int) : Bool:=decide (t = 1) || decide (t = 2)
def chk (l : List Pred) : Nat → Nat → Int
 | 0,_ => 0
 | n + 1,i => if (l.getD i z53).f0 ∈ (names l).take i ∨ nameOk (l.getD i z53).f0 = false then 9 else if (l.getD i z53).f1.length > 8 then 6 else if (l.getD i z53).f1.all typeOk = true then chk l n (i + 1) else 7
def check (l : List Pred) : Int:=if l.length > 64 then 6 else chk l l.length 0

def Short (l : List Pred) : Prop:=∀ p ∈ l,p.f0.size < 9223372036854775807

theorem short_at {l : List Pred} (h : Short l) (i : Nat) (hi : i < l.length) : (l.getD i z53).f0.size < 9223372036854775807:=by
 rw [getD_eq l i hi]
 exact h _ (List.getElem_mem hi)

theorem types_from (l x14 : List Pred) (x3 : List ByteArray) (x15 x16 : Int) (a : List Int) (ha : a.length ≤ 8) (v : Int) (hv : Ev (fun k => sig_Check.l0 k x3 x14 x15 (wrap64 (x16 + 1))) v) : ∀ (n j : Nat),n + j = a.length →
  Ev (fun k => sig_Check.l1 k x3 x14 x15 x16 a (a.length : Int) (j : Int)) (if (a.drop j).all typeOk = true then v else 7)
 | 0,j => fun h => by
  have e : a.drop j = []:=List.drop_eq_nil_iff.2 (by omega)
  rw [e,List.all_nil,if_pos rfl]
  refine Ev.step (f:=fun k => sig_Check.l0 k x3 x14 x15 (wrap64 (x16 + 1))) (fun k => ?_) hv
  simp only [sig_Check.l1]
  rw [if_neg (by omega)]
 | n + 1,j => fun h => by
  have hj : j < a.length:=by omega
  have hr : rd a (j : Int) = a[j]:=by simp [rd,List.getD_eq_getElem?_getD,List.getElem?_eq_getElem hj]
  rw [List.drop_eq_getElem_cons hj,List.all_cons]
  have ih:=types_from l x14 x3 x15 x16 a ha v hv n (j + 1) (by omega)
  refine Ev.step (f:=fun k => if typeOk a[j] = true then sig_Check.l1 k x3 x14 x15 x16 a (a.length : Int) ((j + 1 : Nat) : Int) else some 7) (fun k => ?_) ?_
  ·simp only [sig_Check.l1]
   rw [if_pos (by omega),if_pos (by omega),if_pos (by omega),w64 (by omega) (by omega),hr]
   by_cases h1 : a[j] = 1
   ·have : typeOk a[j] = true:=by simp [typeOk,h1]
    rw [if_pos h1,if_pos this]
    rfl
   ·by_cases h2 : a[j] = 2
    ·have : typeOk a[j] = true:=by simp [typeOk,h2]
     rw [if_neg h1,if_pos h2,if_pos this]
     rfl
    ·have : ¬ typeOk a[j] = true:=by simp [typeOk,h1,h2]
     rw [if_neg h1,if_neg h2,if_neg this]
  ·by_cases h1 : typeOk a[j] = true
   ·rw [h1]
    simpa using ih
   ·rw [Bool.not_eq_true] at h1
    rw [h1]
    simpa using Ev.now (7 : Int)

theorem check_from (l : List Pred) (hl : l.length ≤ 64) (hs : Short l) : ∀ (n i : Nat),n + i = l.length → Ev (fun k => sig_Check.l0 k ((names l).take i) l (l.length : Int) (i : Int)) (chk l n i)
 | 0,i => fun h => by
  refine Ev.step (f:=fun _ => some (chk l 0 i)) (fun k => ?_) (Ev.now _)
  simp only [sig_Check.l0,chk]
  rw [if_neg (by omega)]
 | n + 1,i => fun h => by
  have hi : i < l.length:=by omega
  have ih:=check_from l hl hs n (i + 1) (by omega)
  have hz:=short_at hs i hi
  obtain ⟨p,hp⟩ : ∃ p,l.getD i z53 = p:=⟨_,rfl⟩
  rw [hp] at hz
  have htake : (names l).take (i + 1) = (names l).take i ++ [p.f0]:=by rw [List.take_add_one,names_getD l i hi,hp];rfl
  have hlen : ((names l).take i).length < 8796093022208:=by rw [List.length_take];omega
  have hnine : Ev (fun k => sig_Check.j1 k ((names l).take i) l (l.length : Int) (i : Int) true p.f0 p.f1) 9 :=
   Ev.step (f:=fun _ => some 9) (fun k => by simp only [sig_Check.j1,if_true]) (Ev.now _)
  have hgo : Ev (fun k => sig_Check.j1 k ((names l).take i) l (l.length : Int) (i : Int) false p.f0 p.f1) (if p.f1.length > 8 then 6 else if p.f1.all typeOk = true then chk l n (i + 1) else 7):=by
   by_cases h8 : p.f1.length > 8
   ·rw [if_pos h8]
    refine Ev.step (f:=fun _ => some 6) (fun k => ?_) (Ev.now _)
    simp only [sig_Check.j1,Bool.false_eq_true,if_false]
    rw [if_pos hlen,if_pos (by omega)]
   ·rw [if_neg h8]
    have hv : Ev (fun k => sig_Check.l0 k ((names l).take i ++ [p.f0]) l (l.length : Int) (wrap64 ((i : Int) + 1))) (chk l n (i + 1)):=by
     rw [← htake,w64 (by omega) (by omega)]
     exact ih
    have ht:=types_from l l ((names l).take i ++ [p.f0]) (l.length : Int) (i : Int) p.f1 (by omega) _ hv p.f1.length 0 (by omega)
    refine Ev.step (f:=fun k => sig_Check.l1 k ((names l).take i ++ [p.f0]) l (l.length : Int) (i : Int) p.f1 (p.f1.length : Int) ((0 : Nat) : Int)) (fun k => ?_) ht
    simp only [sig_Check.j1,Bool.false_eq_true,if_false]
    rw [if_pos hlen,if_neg (by omega)]
    rfl
  simp only [chk,hp]
  by_cases hm : p.f0 ∈ (names l).take i
  ·rw [if_pos (.inl hm)]
   refine Ev.step (f:=fun k => sig_Check.j1 k ((names l).take i) l (l.length : Int) (i : Int) true p.f0 p.f1) (fun k => ?_) hnine
   simp only [sig_Check.l0]
   rw [if_pos (by omega),if_pos (by omega),if_pos (by omega),rd_pred,hp,if_pos (by omega),if_pos hm]
  ·refine Ev.step (f:=fun k => (sig_Name.f k p.f0).bind fun t => sig_Check.j1 k ((names l).take i) l (l.length : Int) (i : Int) (!t) p.f0 p.f1) (fun k => ?_) ?_
   ·simp only [sig_Check.l0]
    rw [if_pos (by omega),if_pos (by omega),if_pos (by omega),rd_pred,hp,if_pos (by omega),if_neg hm]
   ·refine Ev.bind (name_ev p.f0 hz) ?_
    cases hb : nameOk p.f0 with
    | true =>
     rw [if_neg (by simp [hm])]
     exact hgo
    | false =>
     rw [if_pos (.inr rfl)]
     exact hnine

theorem check_ev (l : List Pred) (hs : Short l) : Ev (fun k => sig_Check.f k l) (check l):=by
 unfold sig_Check.f check
 by_cases h : l.length > 64
 ·rw [if_pos h]
  exact Ev.congr (f:=fun _ => some 6) (fun k => by rw [if_pos (by omega)]) (Ev.now _)
 ·rw [if_neg h]
  refine Ev.congr (f:=fun k => sig_Check.l0 k ((names l).take 0) l (l.length : Int) ((0 : Nat) : Int)) (fun k => ?_) (check_from l (by omega) hs l.length 0 (by omega))
  rw [if_neg (by omega)]
  rfl

def Good (l : List Pred) (j : Nat) : Prop:=(l.getD j z53).f0 ∉ (names l).take j ∧ nameOk (l.getD j z53).f0 = true ∧ (l.getD j z53).f1.length ≤ 8 ∧ (l.getD j z53).f1.all typeOk = true

theorem chk_good (l : List Pred) : ∀ (n i : Nat),n + i = l.length → (chk l n i = 0 ↔ ∀ j,i ≤ j → j < l.length → Good l j)
 | 0,i => fun h => ⟨fun _ j h1 h2 => absurd h2 (by omega),fun _ => rfl⟩
 | n + 1,i => fun h => by
  have ih:=chk_good l n (i + 1) (by omega)
  have hi : i < l.length:=by omega
  simp only [chk]
  constructor
  ·intro h0 j h1 h2
   by_cases ha : (l.getD i z53).f0 ∈ (names l).take i ∨ nameOk (l.getD i z53).f0 = false
   ·rw [if_pos ha] at h0
    exact absurd h0 (by decide)
   ·rw [if_neg ha] at h0
    by_cases hb : (l.getD i z53).f1.length > 8
    ·rw [if_pos hb] at h0
     exact absurd h0 (by decide)
    ·rw [if_neg hb] at h0
     by_cases hc : (l.getD i z53).f1.all typeOk = true
     ·rw [if_pos hc] at h0
      rcases Nat.lt_or_ge i j with hj | hj
      ·exact ih.1 h0 j (by omega) h2
      ·obtain rfl : i = j:=by omega
       refine ⟨fun hm => ha (.inl hm),?_,by omega,hc⟩
       cases hn : nameOk (l.getD i z53).f0 with
       | true => rfl
       | false => exact absurd (.inr hn) ha
     ·rw [if_neg hc] at h0
      exact absurd h0 (by decide)
  ·intro hg
   obtain ⟨g1,g2,g3,g4⟩:=hg i (Nat.le_refl _) hi
   rw [if_neg (by intro hh;rcases hh with hh | hh;exact g1 hh;rw [g2] at hh;cases hh),if_neg (by omega),if_pos g4]
   exact ih.2 (fun j h1 h2 => hg j (by omega) h2)

theorem check_zero (l : List Pred) : check l = 0 ↔ l.length ≤ 64 ∧ ∀ j,j < l.length → Good l j:=by
 unfold check
 by_cases h : l.length > 64
 ·rw [if_pos h]
  exact ⟨fun h' => absurd h' (by decide),fun h' => by omega⟩
 ·rw [if_neg h,chk_good l l.length 0 (by omega)]
  exact ⟨fun h' => ⟨by omega,fun j hj => h' j (Nat.zero_le _) hj⟩,fun h' j _ hj => h'.2 j hj⟩

/-! ### more than is gone through -/
def great (l : List Pred) : Bool:=l.any (fun p => decide (p.f1.length > 30) || decide (p.f0.size > 100)) || decide (l.length > 100)

theorem great_from (l : List Pred) (hl : l.length < 9223372036854775807) : ∀ (n i : Nat),n + i = l.length → Ev (fun k => tachographlaw09_Great.l0 k l l (l.length : Int) (i : Int)) ((l.drop i).any (fun p => decide (p.f1.length > 30) || decide (p.f0.size > 100)) || decide (l.length > 100))
 | 0,i => fun h => by
  have e : l.drop i = []:=List.drop_eq_nil_iff.2 (by omega)
  rw [e,List.any_nil,Bool.false_or]
  refine Ev.step (f:=fun _ => some (decide (l.length > 100))) (fun k => ?_) (Ev.now _)
  simp only [tachographlaw09_Great.l0]
  rw [if_neg (by omega)]
  congr 1
  rw [decide_eq_decide]
  omega
 | n + 1,i => fun h => by
  have hi : i < l.length:=by omega
  have ih:=great_from l hl n (i + 1) (by omega)
  rw [List.drop_eq_getElem_cons hi,List.any_cons]
  refine Ev.step (f:=fun k => if (l[i].f1.length > 30 ∨ l[i].f0.size > 100) then some true else tachographlaw09_Great.l0 k l l (l.length : Int) ((i + 1 : Nat) : Int)) (fun k => ?_) ?_
  ·simp only [tachographlaw09_Great.l0]
   rw [if_pos (by omega),if_pos (by omega),if_pos (by omega),w64 (by omega) (by omega),rd_pred,getD_eq l i hi]
   by_cases h1 : l[i].f1.length > 30
   ·rw [if_pos (by omega),if_pos (.inl h1)]
   ·by_cases h2 : l[i].f0.size > 100
    ·rw [if_neg (by omega),if_pos (by omega),if_pos (.inr h2)]
    ·rw [if_neg (by omega),if_neg (by omega),if_neg (by omega)]
     rfl
  ·by_cases h1 : l[i].f1.length > 30 ∨ l[i].f0.size > 100
   ·have : (decide (l[i].f1.length > 30) || decide (l[i].f0.size > 100)) = true:=by simpa using h1
    rw [this]
    simp only [if_pos h1]
    exact Ev.now _
   ·have : (decide (l[i].f1.length > 30) || decide (l[i].f0.size > 100)) = false:=by simpa using h1
    rw [this]
    simp only [if_neg h1]
    exact ih

theorem great_ev (l : List Pred) (hl : l.length < 9223372036854775807) : Ev (fun k => tachographlaw09_Great.f k l) (great l):=great_from l hl l.length 0 (by omega)

end Go.Proofs.Ytmmfakdncjeoeaa.MSig
-- NARROW
set_option linter.unusedVariables false
namespace Go.Proofs.Ytmmfakdncjeoeaa.MTrace
open Go.RowKit Go.Proofs.Ytmmfakdncjeoeaa.PU Go.Proofs.Ytmmfakdncjeoeaa.MSig Go.Proofs.Ytmmfakdncjeoeaa.MBase Go.Proofs.YtmmfakdncjeoeaaW.PrintWords Go.Proofs.YtmmfakdncjeoeaaW.PrintLast Go.Proofs.YtmmfakdncjeoeaaW.PrintMore

abbrev Arg:=S61
abbrev Event:=S59
abbrev Point:=S56
theorem rd_pt (l : List Point) (i : Nat) : rd_T56 l (i : Int) = l.getD i z56:=by simp [rd_T56]
theorem rd_e (l : List Event) (i : Nat) : rd_T59 l (i : Int) = l.getD i z59:=by simp [rd_T59]
theorem rd_a (l : List Arg) (i : Nat) : rd_T61 l (i : Int) = l.getD i z61:=by simp [rd_T61]

/-! ### an argument -/
def argb (t : Int) (a : Arg) : Bool:=(decide (t = 1) && (a.f2.toList != ([] : List UInt8))) || (decide (t = 2) && (a.f1 != 0))
def argc (t : Int) (a : Arg) : Int:=if a.f0 = t then (if argb t a = true then 1 else if (a.f2.size : Int) > 200 then 6 else 0) else 7
theorem arg_j1 (b : Bool) (a : Arg) : Ev (fun k => trace_arg.j1 k b a.f0 a.f1 a.f2) (if b = true then 1 else if (a.f2.size : Int) > 200 then 6 else 0):=by
 refine Ev.step (f:=fun _ => some (if b = true then 1 else if (a.f2.size : Int) > 200 then 6 else 0)) (fun k => ?_) (Ev.now _)
 simp only [trace_arg.j1]
 cases b
 ·by_cases h : (a.f2.size : Int) > 200
  ·simp [h]
  ·simp [h]
 ·rfl
theorem arg_j0 (t : Int) (b : Bool) (a : Arg) : Ev (fun k => trace_arg.j0 k t b a.f0 a.f1 a.f2) (if (b || (decide (t = 2) && (a.f1 != 0))) = true then 1 else if (a.f2.size : Int) > 200 then 6 else 0):=by
 cases b
 ·by_cases h : t = 2
  ·refine Ev.step (f:=fun k => trace_arg.j1 k (a.f1 != 0) a.f0 a.f1 a.f2) (fun k => by simp only [trace_arg.j0];rw [if_neg (by simp),if_pos h]) ?_
   have:=arg_j1 (a.f1 != 0) a
   rw [decide_eq_true h,Bool.true_and,Bool.false_or]
   exact this
  ·refine Ev.step (f:=fun k => trace_arg.j1 k false a.f0 a.f1 a.f2) (fun k => by simp only [trace_arg.j0];rw [if_neg (by simp),if_neg h]) ?_
   rw [decide_eq_false h,Bool.false_and,Bool.false_or]
   exact arg_j1 false a
 ·refine Ev.step (f:=fun k => trace_arg.j1 k true a.f0 a.f1 a.f2) (fun k => by simp only [trace_arg.j0,if_true]) ?_
  rw [Bool.true_or]
  exact arg_j1 true a
theorem arg_ev (t : Int) (a : Arg) : Ev (fun k => trace_arg.f k t a.f0 a.f1 a.f2) (argc t a):=by
 unfold trace_arg.f argc argb
 by_cases h : a.f0 = t
 ·simp only [if_pos h]
  by_cases h1 : t = 1
  ·simp only [h1,decide_true,Bool.true_and,if_true]
   have:=arg_j0 1 (a.f2.toList != ([] : List UInt8)) a
   exact this
  ·simp only [if_neg h1,decide_eq_false h1,Bool.false_and]
   exact arg_j0 t false a
 ·simp only [if_neg h]
  exact Ev.now _

/-! ### an event -/
def argsc (ts : List Int) (xs : List Arg) : Nat → Nat → Int
 | 0,_ => 0
 | n + 1,i => if argc (rd ts (i : Int)) (rd_T61 xs (i : Int)) = 0 then argsc ts xs n (i + 1) else argc (rd ts (i : Int)) (rd_T61 xs (i : Int))
def evc (sig : List Pred) (e : Event) : Int :=
 if e.f0 < 0 ∨ e.f0 ≥ (sig.length : Int) then 9 else if ((rd_T53 sig e.f0).f1.length : Int) = (e.f1.length : Int) then argsc (rd_T53 sig e.f0).f1 e.f1 e.f1.length 0 else 1
theorem args_from (ts : List Int) (p : Int) (xs : List Arg) (he : ts.length = xs.length) (hm : xs.length < 9223372036854775807) : ∀ (n i : Nat),n + i = xs.length → Ev (fun k => trace_Event.l0 k ts (ts.length : Int) (i : Int) p xs) (argsc ts xs n i)
 | 0,i => fun hn => by
  refine Ev.step (f:=fun _ => some 0) (fun k => ?_) (Ev.now _)
  simp only [trace_Event.l0]
  rw [if_neg (by omega)]
 | n + 1,i => fun hn => by
  have ih:=args_from ts p xs he hm n (i + 1) (by omega)
  refine Ev.step (f:=fun k => (trace_arg.f k (rd ts (i : Int)) ((rd_T61 xs (i : Int)).f0) ((rd_T61 xs (i : Int)).f1) ((rd_T61 xs (i : Int)).f2)).bind fun t115 => (if t115 = 0 then (trace_Event.l0 k ts (ts.length : Int) ((i + 1 : Nat) : Int) p xs) else (some t115))) (fun k => ?_) (Ev.bind (arg_ev _ _) ?_)
  ·simp only [trace_Event.l0]
   rw [if_pos (by omega),if_pos (by omega),if_pos (by omega),if_pos (by omega),w64 (by omega) (by omega)]
   rfl
  ·simp only [argsc]
   by_cases h : argc (rd ts (i : Int)) (rd_T61 xs (i : Int)) = 0
   ·simp only [if_pos h]
    exact ih
   ·simp only [if_neg h]
    exact Ev.now _
theorem event_ev (sig : List Pred) (e : Event) (hm : e.f1.length < 9223372036854775807) : Ev (fun k => trace_Event.f k sig e.f0 e.f1) (evc sig e):=by
 unfold trace_Event.f evc
 by_cases h1 : e.f0 < 0
 ·rw [if_pos (Or.inl h1)]
  simp only [if_pos h1]
  exact Ev.step (f:=fun _ => some 9) (fun k => by simp only [trace_Event.j0,if_true]) (Ev.now _)
 ·simp only [if_neg h1]
  by_cases h2 : e.f0 ≥ (sig.length : Int)
  ·rw [if_pos (Or.inr h2),decide_eq_true h2]
   exact Ev.step (f:=fun _ => some 9) (fun k => by simp only [trace_Event.j0,if_true]) (Ev.now _)
  ·rw [if_neg (by omega),decide_eq_false h2]
   by_cases h3 : ((rd_T53 sig e.f0).f1.length : Int) = (e.f1.length : Int)
   ·rw [if_pos h3]
    refine Ev.step (f:=fun k => trace_Event.l0 k (rd_T53 sig e.f0).f1 ((rd_T53 sig e.f0).f1.length : Int) 0 e.f0 e.f1) (fun k => ?_) (args_from _ e.f0 e.f1 (by omega) hm e.f1.length 0 (by omega))
    simp only [trace_Event.j0]
    rw [if_neg (by simp),if_pos (by omega),if_pos (by omega),if_pos h3]
   ·rw [if_neg h3]
    refine Ev.step (f:=fun _ => some 1) (fun k => ?_) (Ev.now _)
    simp only [trace_Event.j0]
    rw [if_neg (by simp),if_pos (by omega),if_pos (by omega),if_neg h3]
end Go.Proofs.Ytmmfakdncjeoeaa.MTrace
-- NARROW
set_option linter.unusedVariables false
namespace Go.Proofs.Ytmmfakdncjeoeaa.MTrace
open Go.RowKit Go.Proofs.Ytmmfakdncjeoeaa.PU Go.Proofs.Ytmmfakdncjeoeaa.MSig Go.Proofs.Ytmmfakdncjeoeaa.MBase Go.Proofs.YtmmfakdncjeoeaaW.PrintWords Go.Proofs.YtmmfakdncjeoeaaW.PrintLast Go.Proofs.YtmmfakdncjeoeaaW.PrintMore

def Fits (t : List Point) : Prop:=∀ i,i < t.length → 0 ≤ (rd_T56 t (i : Int)).f0 ∧ (rd_T56 t (i : Int)).f0 < 18446744073709551616 ∧ (rd_T56 t (i : Int)).f1.length < 9223372036854775807 ∧ ∀ j,j < (rd_T56 t (i : Int)).f1.length → (rd_T59 (rd_T56 t (i : Int)).f1 (j : Int)).f1.length < 9223372036854775807

def evsc (sig : List Pred) (es : List Event) : Nat → Nat → Int
 | 0,_ => 0
 | n + 1,i => if evc sig (rd_T59 es (i : Int)) = 0 then evsc sig es n (i + 1) else evc sig (rd_T59 es (i : Int))
def ptc (sig : List Pred) (p : Point) (ahead : Int) : Int:=if p.f0 < ahead then 8 else if (p.f1.length : Int) > 1024 then 6 else evsc sig p.f1 p.f1.length 0
def trc (sig : List Pred) (t : List Point) : Nat → Nat → Int → Int × Int
 | 0,_,_ => (0,0)
 | n + 1,i,ah => if ptc sig (rd_T56 t (i : Int)) ah = 0 then trc sig t n (i + 1) (rd_T56 t (i : Int)).f0 else (ptc sig (rd_T56 t (i : Int)) ah,(i : Int))
def tcheck (sig : List Pred) (t : List Point) : Int × Int:=if check sig = 0 then trc sig t t.length 0 0 else (check sig,0)

theorem events_from (sig : List Pred) (es : List Event) (hm : es.length < 9223372036854775807) (he : ∀ j,j < es.length → (rd_T59 es (j : Int)).f1.length < 9223372036854775807) : ∀ (n i : Nat),n + i = es.length →
  Ev (fun k => trace_point.l0 k sig es (es.length : Int) (i : Int)) (evsc sig es n i)
 | 0,i => fun hn => by
  refine Ev.step (f:=fun _ => some 0) (fun k => ?_) (Ev.now _)
  simp only [trace_point.l0]
  rw [if_neg (by omega)]
 | n + 1,i => fun hn => by
  have ih:=events_from sig es hm he n (i + 1) (by omega)
  refine Ev.step (f:=fun k => (trace_Event.f k sig ((rd_T59 es (i : Int)).f0) ((rd_T59 es (i : Int)).f1)).bind fun t119 => (if t119 = 0 then (trace_point.l0 k sig es (es.length : Int) ((i + 1 : Nat) : Int)) else (some t119))) (fun k => ?_) (Ev.bind (event_ev sig _ (he i (by omega))) ?_)
  ·simp only [trace_point.l0]
   rw [if_pos (by omega),if_pos (by omega),if_pos (by omega),w64 (by omega) (by omega)]
   rfl
  ·simp only [evsc]
   by_cases h : evc sig (rd_T59 es (i : Int)) = 0
   ·simp only [if_pos h]
    exact ih
   ·simp only [if_neg h]
    exact Ev.now _
theorem point_ev (sig : List Pred) (p : Point) (ah : Int) (hm : p.f1.length < 9223372036854775807) (he : ∀ j,j < p.f1.length → (rd_T59 p.f1 (j : Int)).f1.length < 9223372036854775807) : Ev (fun k => trace_point.f k sig p.f0 p.f1 ah) (ptc sig p ah):=by
 unfold trace_point.f ptc
 by_cases h1 : p.f0 < ah
 ·simp only [if_pos h1]
  exact Ev.now _
 ·simp only [if_neg h1]
  by_cases h2 : (p.f1.length : Int) > 1024
  ·simp only [if_pos h2]
   exact Ev.now _
  ·simp only [if_neg h2]
   exact events_from sig p.f1 hm he p.f1.length 0 (by omega)
theorem points_from (sig : List Pred) (t : List Point) (ht : Fits t) (hm : t.length < 9223372036854775807) : ∀ (n i : Nat) (ah : Int),n + i = t.length → Ev (fun k => trace_Check.l0 k sig ah t (t.length : Int) (i : Int)) (trc sig t n i ah)
 | 0,i,ah => fun hn => by
  refine Ev.step (f:=fun _ => some (0,0)) (fun k => ?_) (Ev.now _)
  simp only [trace_Check.l0]
  rw [if_neg (by omega)]
 | n + 1,i,ah => fun hn => by
  obtain ⟨_,_,h1,h2⟩:=ht i (by omega)
  have ih:=points_from sig t ht hm n (i + 1) (rd_T56 t (i : Int)).f0 (by omega)
  refine Ev.step (f:=fun k => (trace_point.f k sig ((rd_T56 t (i : Int)).f0) ((rd_T56 t (i : Int)).f1) ah).bind fun t123 => (if t123 = 0 then (trace_Check.l0 k sig ((rd_T56 t (i : Int)).f0) t (t.length : Int) ((i + 1 : Nat) : Int)) else (some (t123,(i : Int))))) (fun k => ?_) (Ev.bind (point_ev sig _ ah h1 h2) ?_)
  ·simp only [trace_Check.l0]
   rw [if_pos (by omega),if_pos (by omega),if_pos (by omega),w64 (by omega) (by omega)]
   rfl
  ·simp only [trc]
   by_cases h : ptc sig (rd_T56 t (i : Int)) ah = 0
   ·simp only [if_pos h]
    exact ih
   ·simp only [if_neg h]
    exact Ev.now _
theorem tcheck_ev (sig : List Pred) (hs : Short sig) (t : List Point) (ht : Fits t) (hm : t.length < 9223372036854775807) : Ev (fun k => trace_Check.f k sig t) (tcheck sig t):=by
 unfold trace_Check.f tcheck
 refine Ev.bind (check_ev sig hs) ?_
 by_cases h : check sig = 0
 ·simp only [if_pos h]
  exact points_from sig t ht hm t.length 0 0 (by omega)
 ·simp only [if_neg h]
  exact Ev.now _

/-! ### is it great? whatever the answer is -/
theorem great2 (m : Int) (t : List Point) (i : Nat) (es : List Event) (j : Nat) (hj : j < 9223372036854775806) (as_ : List Arg) (ha : as_.length < 9223372036854775807)
  (hv : ∀ n,∃ b,Ev (fun k => tachographlaw12_Great.l1 k m n t (t.length : Int) (i : Int) es (es.length : Int) ((j + 1 : Nat) : Int)) b) : ∀ (d q : Nat) (n : Int),d + q = as_.length → ∃ b,Ev (fun k => tachographlaw12_Great.l2 k m n t (t.length : Int) (i : Int) es (es.length : Int) (j : Int) as_ (as_.length : Int) (q : Int)) b
 | 0,q,n => fun hd => by
  obtain ⟨b,hb⟩:=hv n
  refine ⟨b,Ev.step (f:=fun k => tachographlaw12_Great.l1 k m n t (t.length : Int) (i : Int) es (es.length : Int) ((j + 1 : Nat) : Int)) (fun k => ?_) hb⟩
  simp only [tachographlaw12_Great.l2]
  rw [if_neg (by omega),w64 (by omega) (by omega)]
  rfl
 | d + 1,q,n => fun hd => by
  obtain ⟨b,hb⟩:=great2 m t i es j hj as_ ha hv d (q + 1) (wrap64 (n + (wrap64 ((((rd_T61 as_ (q : Int)).f2).size : Int) / 8)))) (by omega)
  refine ⟨b,Ev.step (f:=fun k => tachographlaw12_Great.l2 k m (wrap64 (n + (wrap64 ((((rd_T61 as_ (q : Int)).f2).size : Int) / 8)))) t (t.length : Int) (i : Int) es (es.length : Int) (j : Int) as_ (as_.length : Int) ((q + 1 : Nat) : Int)) (fun k => ?_) hb⟩
  simp only [tachographlaw12_Great.l2]
  rw [if_pos (by omega),if_pos (by omega),if_pos (by omega),w64 (x:=(q : Int) + 1) (by omega) (by omega)]
  rfl
theorem great1 (m : Int) (t : List Point) (i : Nat) (hi : i < 9223372036854775806) (es : List Event) (hm : es.length < 9223372036854775807) (he : ∀ j,j < es.length → (rd_T59 es (j : Int)).f1.length < 9223372036854775807)
  (hv : ∀ n,∃ b,Ev (fun k => tachographlaw12_Great.l0 k m n t (t.length : Int) ((i + 1 : Nat) : Int)) b) : ∀ (d j : Nat) (n : Int),d + j = es.length → ∃ b,Ev (fun k => tachographlaw12_Great.l1 k m n t (t.length : Int) (i : Int) es (es.length : Int) (j : Int)) b
 | 0,j,n => fun hd => by
  obtain ⟨b,hb⟩:=hv n
  refine ⟨b,Ev.step (f:=fun k => tachographlaw12_Great.l0 k m n t (t.length : Int) ((i + 1 : Nat) : Int)) (fun k => ?_) hb⟩
  simp only [tachographlaw12_Great.l1]
  rw [if_neg (by omega),w64 (by omega) (by omega)]
  rfl
 | d + 1,j,n => fun hd => by
  obtain ⟨b,hb⟩:=great2 m t i es j (by omega) (rd_T59 es (j : Int)).f1 (he j (by omega)) (fun n => great1 m t i hi es hm he hv d (j + 1) n (by omega)) _ 0 (wrap64 (n + (((rd_T59 es (j : Int)).f1).length : Int))) rfl
  refine ⟨b,Ev.step (f:=fun k => tachographlaw12_Great.l2 k m (wrap64 (n + (((rd_T59 es (j : Int)).f1).length : Int))) t (t.length : Int) (i : Int) es (es.length : Int) (j : Int) ((rd_T59 es (j : Int)).f1) (((rd_T59 es (j : Int)).f1).length : Int) 0) (fun k => ?_) hb⟩
  simp only [tachographlaw12_Great.l1]
  rw [if_pos (by omega),if_pos (by omega),if_pos (by omega)]
theorem great0 (m : Int) (t : List Point) (ht : Fits t) (hm : t.length < 9223372036854775807) : ∀ (d i : Nat) (n : Int),d + i = t.length → ∃ b,Ev (fun k => tachographlaw12_Great.l0 k m n t (t.length : Int) (i : Int)) b
 | 0,i,n => fun hd => by
  refine ⟨decide (n > m),Ev.step (f:=fun _ => some (decide (n > m))) (fun k => ?_) (Ev.now _)⟩
  simp only [tachographlaw12_Great.l0]
  rw [if_neg (by omega)]
 | d + 1,i,n => fun hd => by
  obtain ⟨_,_,h1,h2⟩:=ht i (by omega)
  by_cases hg : (wrap64 (n + (((rd_T56 t (i : Int)).f1).length : Int))) > m
  ·refine ⟨true,Ev.step (f:=fun _ => some true) (fun k => ?_) (Ev.now _)⟩
   simp only [tachographlaw12_Great.l0]
   rw [if_pos (by omega),if_pos (by omega),if_pos (by omega),if_pos hg]
  ·obtain ⟨b,hb⟩:=great1 m t i (by omega) (rd_T56 t (i : Int)).f1 h1 h2 (fun n => great0 m t ht hm d (i + 1) n (by omega)) _ 0 (wrap64 (n + (((rd_T56 t (i : Int)).f1).length : Int))) rfl
   refine ⟨b,Ev.step (f:=fun k => tachographlaw12_Great.l1 k m (wrap64 (n + (((rd_T56 t (i : Int)).f1).length : Int))) t (t.length : Int) (i : Int) ((rd_T56 t (i : Int)).f1) (((rd_T56 t (i : Int)).f1).length : Int) 0) (fun k => ?_) hb⟩
   simp only [tachographlaw12_Great.l0]
   rw [if_pos (by omega),if_pos (by omega),if_pos (by omega),if_neg hg]
theorem tgreat_ev (m : Int) (t : List Point) (ht : Fits t) (hm : t.length < 9223372036854775807) : ∃ b,Ev (fun k => tachographlaw12_Great.f k t m) b:=great0 m t ht hm t.length 0 _ (by omega)
end Go.Proofs.Ytmmfakdncjeoeaa.MTrace
-- NARROW
set_option linter.unusedVariables false
namespace Go.Proofs.Ytmmfakdncjeoeaa.MPts
open Go.RowKit Go.Proofs.Ytmmfakdncjeoeaa.PU Go.Proofs.Ytmmfakdncjeoeaa.MBase Go.Proofs.YtmmfakdncjeoeaaW.PrintWords Go.Proofs.YtmmfakdncjeoeaaW.PrintLast Go.Proofs.YtmmfakdncjeoeaaW.PrintMore

abbrev Argm:=S61
abbrev Evt:=S59
abbrev Pnt:=S56
theorem rd_pt (l : List Pnt) (i : Nat) : rd_T56 l (i : Int) = l.getD i z56:=by simp [rd_T56]
theorem rd_e (l : List Evt) (i : Nat) : rd_T59 l (i : Int) = l.getD i z59:=by simp [rd_T59]
theorem rd_a (l : List Argm) (i : Nat) : rd_T61 l (i : Int) = l.getD i z61:=by simp [rd_T61]
theorem at_pt (l : List Pnt) (i : Nat) (h : i < l.length) : rd_T56 l (i : Int) = l[i]:=by rw [rd_pt];simp [List.getD_eq_getElem?_getD,List.getElem?_eq_getElem h]
theorem at_e (l : List Evt) (i : Nat) (h : i < l.length) : rd_T59 l (i : Int) = l[i]:=by rw [rd_e];simp [List.getD_eq_getElem?_getD,List.getElem?_eq_getElem h]
theorem at_a (l : List Argm) (i : Nat) (h : i < l.length) : rd_T61 l (i : Int) = l[i]:=by rw [rd_a];simp [List.getD_eq_getElem?_getD,List.getElem?_eq_getElem h]
theorem at_i (l : List Int) (i : Nat) (h : i < l.length) : rd l (i : Int) = l[i]:=by simp [rd,List.getD_eq_getElem?_getD,List.getElem?_eq_getElem h]
def Fits (t : List Pnt) : Prop:=∀ i,i < t.length → 0 ≤ (rd_T56 t (i : Int)).f0 ∧ (rd_T56 t (i : Int)).f0 < 18446744073709551616 ∧ (rd_T56 t (i : Int)).f1.length < 9223372036854775807 ∧ ∀ j,j < (rd_T56 t (i : Int)).f1.length → (rd_T59 (rd_T56 t (i : Int)).f1 (j : Int)).f1.length < 9223372036854775807
def FitsA (xs : List Argm) : Prop:=∀ a ∈ xs,a.f2.size ≤ 140737488351232
def FitsE (es : List Evt) : Prop:=∀ e ∈ es,(-9223372036854775808 ≤ e.f0 ∧ e.f0 ≤ 9223372036854775807) ∧ e.f1.length < 8796093022208 ∧ FitsA e.f1
def FitsT (t : List Pnt) : Prop:=t.length < 8796093022208 ∧ ∀ p ∈ t,(0 ≤ p.f0 ∧ p.f0 < 18446744073709551616) ∧ p.f1.length < 8796093022208 ∧ FitsE p.f1
theorem FitsT.fits {t : List Pnt} (h : FitsT t) : Fits t:=by
 intro i hi
 rw [at_pt t i hi]
 obtain ⟨h1,h2,h3⟩:=h.2 _ (List.getElem_mem hi)
 refine ⟨h1.1,h1.2,by omega,fun j hj => ?_⟩
 rw [at_e _ j hj]
 have:=(h3 _ (List.getElem_mem hj)).2.1
 omega

/-! ### is it great? whatever the answer is -/
theorem great2 (m : Int) (t : List Pnt) (i : Nat) (es : List Evt) (j : Nat) (hj : j < 9223372036854775806) (as_ : List Argm) (ha : as_.length < 9223372036854775807)
  (hv : ∀ n,∃ b,Ev (fun k => tachographlaw12_Great.l1 k m n t (t.length : Int) (i : Int) es (es.length : Int) ((j + 1 : Nat) : Int)) b) : ∀ (d q : Nat) (n : Int),d + q = as_.length → ∃ b,Ev (fun k => tachographlaw12_Great.l2 k m n t (t.length : Int) (i : Int) es (es.length : Int) (j : Int) as_ (as_.length : Int) (q : Int)) b
 | 0,q,n => fun hd => by
  obtain ⟨b,hb⟩:=hv n
  refine ⟨b,Ev.step (f:=fun k => tachographlaw12_Great.l1 k m n t (t.length : Int) (i : Int) es (es.length : Int) ((j + 1 : Nat) : Int)) (fun k => ?_) hb⟩
  simp only [tachographlaw12_Great.l2]
  rw [if_neg (by omega),w64 (by omega) (by omega)]
  rfl
 | d + 1,q,n => fun hd => by
  obtain ⟨b,hb⟩:=great2 m t i es j hj as_ ha hv d (q + 1) (wrap64 (n + (wrap64 ((((rd_T61 as_ (q : Int)).f2).size : Int) / 8)))) (by omega)
  refine ⟨b,Ev.step (f:=fun k => tachographlaw12_Great.l2 k m (wrap64 (n + (wrap64 ((((rd_T61 as_ (q : Int)).f2).size : Int) / 8)))) t (t.length : Int) (i : Int) es (es.length : Int) (j : Int) as_ (as_.length : Int) ((q + 1 : Nat) : Int)) (fun k => ?_) hb⟩
  simp only [tachographlaw12_Great.l2]
  rw [if_pos (by omega),if_pos (by omega),if_pos (by omega),w64 (x:=(q : Int) + 1) (by omega) (by omega)]
  rfl
theorem great1 (m : Int) (t : List Pnt) (i : Nat) (hi : i < 9223372036854775806) (es : List Evt) (hm : es.length < 9223372036854775807) (he : ∀ j,j < es.length → (rd_T59 es (j : Int)).f1.length < 9223372036854775807)
  (hv : ∀ n,∃ b,Ev (fun k => tachographlaw12_Great.l0 k m n t (t.length : Int) ((i + 1 : Nat) : Int)) b) : ∀ (d j : Nat) (n : Int),d + j = es.length → ∃ b,Ev (fun k => tachographlaw12_Great.l1 k m n t (t.length : Int) (i : Int) es (es.length : Int) (j : Int)) b
 | 0,j,n => fun hd => by
  obtain ⟨b,hb⟩:=hv n
  refine ⟨b,Ev.step (f:=fun k => tachographlaw12_Great.l0 k m n t (t.length : Int) ((i + 1 : Nat) : Int)) (fun k => ?_) hb⟩
  simp only [tachographlaw12_Great.l1]
  rw [if_neg (by omega),w64 (by omega) (by omega)]
  rfl
 | d + 1,j,n => fun hd => by
  obtain ⟨b,hb⟩:=great2 m t i es j (by omega) (rd_T59 es (j : Int)).f1 (he j (by omega)) (fun n => great1 m t i hi es hm he hv d (j + 1) n (by omega)) _ 0 (wrap64 (n + (((rd_T59 es (j : Int)).f1).length : Int))) rfl
  refine ⟨b,Ev.step (f:=fun k => tachographlaw12_Great.l2 k m (wrap64 (n + (((rd_T59 es (j : Int)).f1).length : Int))) t (t.length : Int) (i : Int) es (es.length : Int) (j : Int) ((rd_T59 es (j : Int)).f1) (((rd_T59 es (j : Int)).f1).length : Int) 0) (fun k => ?_) hb⟩
  simp only [tachographlaw12_Great.l1]
  rw [if_pos (by omega),if_pos (by omega),if_pos (by omega)]
theorem great0 (m : Int) (t : List Pnt) (ht : Fits t) (hm : t.length < 9223372036854775807) : ∀ (d i : Nat) (n : Int),d + i = t.length → ∃ b,Ev (fun k => tachographlaw12_Great.l0 k m n t (t.length : Int) (i : Int)) b
 | 0,i,n => fun hd => by
  refine ⟨decide (n > m),Ev.step (f:=fun _ => some (decide (n > m))) (fun k => ?_) (Ev.now _)⟩
  simp only [tachographlaw12_Great.l0]
  rw [if_neg (by omega)]
 | d + 1,i,n => fun hd => by
  obtain ⟨_,_,h1,h2⟩:=ht i (by omega)
  by_cases hg : (wrap64 (n + (((rd_T56 t (i : Int)).f1).length : Int))) > m
  ·refine ⟨true,Ev.step (f:=fun _ => some true) (fun k => ?_) (Ev.now _)⟩
   simp only [tachographlaw12_Great.l0]
   rw [if_pos (by omega),if_pos (by omega),if_pos (by omega),if_pos hg]
  ·obtain ⟨b,hb⟩:=great1 m t i (by omega) (rd_T56 t (i : Int)).f1 h1 h2 (fun n => great0 m t ht hm d (i + 1) n (by omega)) _ 0 (wrap64 (n + (((rd_T56 t (i : Int)).f1).length : Int))) rfl
   refine ⟨b,Ev.step (f:=fun k => tachographlaw12_Great.l1 k m (wrap64 (n + (((rd_T56 t (i : Int)).f1).length : Int))) t (t.length : Int) (i : Int) ((rd_T56 t (i : Int)).f1) (((rd_T56 t (i : Int)).f1).length : Int) 0) (fun k => ?_) hb⟩
   simp only [tachographlaw12_Great.l0]
   rw [if_pos (by omega),if_pos (by omega),if_pos (by omega),if_neg hg]
theorem tgreat_ev (m : Int) (t : List Pnt) (ht : Fits t) (hm : t.length < 9223372036854775807) : ∃ b,Ev (fun k => tachographlaw12_Great.f k t m) b:=great0 m t ht hm t.length 0 _ (by omega)
end Go.Proofs.Ytmmfakdncjeoeaa.MPts
-- NARROW
set_option linter.unusedVariables false
namespace Go.Proofs.Ytmmfakdncjeoeaa.MPut
open Go.RowKit Go.Proofs.Ytmmfakdncjeoeaa.PU Go.Proofs.Ytmmfakdncjeoeaa.MBase Go.Proofs.YtmmfakdncjeoeaaAid Go.Proofs.YtmmfakdncjeoeaaW.PrintWords Go.Proofs.YtmmfakdncjeoeaaW.PrintLast Go.Proofs.YtmmfakdncjeoeaaW.PrintMore

theorem at_s (l : List ByteArray) (i : Nat) (h : i < l.length) : rdOf ByteArray.empty l (i : Int) = l[i]:=by simp [rdOf,List.getD_eq_getElem?_getD,List.getElem?_eq_getElem h]
def put {α : Type} [DecidableEq α] (l : List α) (s : α) : List α:=if s ∈ l then l else l ++ [s]
def puts {α : Type} [DecidableEq α] (l : List α) (xs : List α) : List α:=xs.foldl put l
section
variable {α : Type} [DecidableEq α]
theorem put_len (l : List α) (s : α) : (put l s).length ≤ l.length + 1:=by unfold put;split <;> simp
theorem puts_len : ∀ (xs l : List α),(puts l xs).length ≤ l.length + xs.length
 | [],l => by simp [puts]
 | x :: xs,l => by
  have h1:=put_len l x
  have h2:=puts_len xs (put l x)
  simp only [puts,List.foldl_cons,List.length_cons] at h2 ⊢
  omega
theorem mem_put {l : List α} {s x : α} : x ∈ put l s ↔ x ∈ l ∨ x = s:=by
 unfold put
 split
 ·rename_i h
  exact ⟨Or.inl,fun h' => h'.elim id (fun e => e ▸ h)⟩
 ·simp
theorem mem_puts {x : α} : ∀ (xs : List α) {l : List α},x ∈ puts l xs ↔ x ∈ l ∨ x ∈ xs
 | [],l => by simp [puts]
 | y :: xs,l => by
  have:=mem_puts (x:=x) xs (l:=put l y)
  simp only [puts,List.foldl_cons] at this ⊢
  rw [this,mem_put,List.mem_cons,or_assoc]
end
/-! ### the program -/
def putS (s : ByteArray) (x : ByteArray) : ByteArray:=if x ∈ ddec s then s else denc (ddec s ++ [x])
theorem ddec_putS (s x : ByteArray) : ddec (putS s x) = put (ddec s) x:=by
 unfold putS put
 split
 ·rfl
 ·exact ddec_enc _
def putsS (s : ByteArray) (xs : List ByteArray) : ByteArray:=xs.foldl putS s
theorem ddec_putsS : ∀ (xs : List ByteArray) (s : ByteArray),ddec (putsS s xs) = puts (ddec s) xs
 | [],s => rfl
 | x :: xs,s => by
  show ddec (putsS (putS s x) xs) = puts (put (ddec s) x) xs
  rw [ddec_putsS xs,ddec_putS]
theorem dput_eq (s x : ByteArray) (hx : x.size ≤ 140737488351232) (hl : (ddec s).length < 8796093022208) : ∃ n : Int,dict_Dict_Put.f s x = some (n,putS s x) ∧ n = (if x ∈ ddec s then ((ddec s).idxOf x : Int) else ((ddec s).length : Int)):=by
 unfold dict_Dict_Put.f putS
 rw [if_pos (by omega)]
 by_cases h : x ∈ ddec s
 ·exact ⟨_,by rw [if_pos h,if_pos h],by rw [if_pos h]⟩
 ·exact ⟨_,by rw [if_neg h,if_pos hl,if_neg h],by rw [if_neg h]⟩
theorem putsS_app (s : ByteArray) (a b : List ByteArray) : putsS s (a ++ b) = putsS (putsS s a) b:=List.foldl_append
/-! ### the reference -/
end Go.Proofs.Ytmmfakdncjeoeaa.MPut
-- NARROW
set_option linter.unusedVariables false
namespace Go.Proofs.Ytmmfakdncjeoeaa.MDict
open Go.RowKit Go.Proofs.Ytmmfakdncjeoeaa.PU Go.Proofs.Ytmmfakdncjeoeaa.MPts Go.Proofs.Ytmmfakdncjeoeaa.MPut Go.Proofs.Ytmmfakdncjeoeaa.MBase Go.Proofs.YtmmfakdncjeoeaaAid Go.Proofs.YtmmfakdncjeoeaaW.PrintWords Go.Proofs.YtmmfakdncjeoeaaW.PrintLast Go.Proofs.YtmmfakdncjeoeaaW.PrintMore

def strA (a : Argm) : Option ByteArray:=if a.f0 = 2 then some a.f2 else none
def strsE (e : Evt) : List ByteArray:=e.f1.filterMap strA
def strsP (p : Pnt) : List ByteArray:=p.f1.flatMap strsE
def strs (t : List Pnt) : List ByteArray:=t.flatMap strsP

theorem of2 (t : List Pnt) (i : Nat) (es : List Evt) (j : Nat) (hj : j < 9223372036854775806) (xs : List Argm) (hx : xs.length < 8796093022208) (hf : FitsA xs) (v : ByteArray) : ∀ (d q : Nat) (s : ByteArray),d + q = xs.length → (ddec s).length + ((xs.drop q).filterMap strA).length < 8796093022208 →
  Ev (fun k => dict_Of.l1 k t (t.length : Int) (i : Int) es (es.length : Int) ((j + 1 : Nat) : Int) (putsS s ((xs.drop q).filterMap strA))) v → Ev (fun k => dict_Of.l2 k t (t.length : Int) (i : Int) es (es.length : Int) (j : Int) xs (xs.length : Int) (q : Int) s) v
 | 0,q,s => fun hd hl hv => by
  rw [List.drop_eq_nil_of_le (by omega)] at hv
  refine Ev.step (f:=fun k => dict_Of.l1 k t (t.length : Int) (i : Int) es (es.length : Int) ((j + 1 : Nat) : Int) s) (fun k => ?_) hv
  simp only [dict_Of.l2]
  rw [if_neg (by omega),w64 (by omega) (by omega)]
  rfl
 | d + 1,q,s => fun hd hl hv => by
  rw [List.drop_eq_getElem_cons (by omega : q < xs.length)] at hl hv
  by_cases h2 : xs[q].f0 = 2
  ·have e1 : strA xs[q] = some xs[q].f2:=if_pos h2
   rw [List.filterMap_cons_some e1] at hl hv
   simp only [List.length_cons] at hl
   obtain ⟨n,hp,_⟩:=dput_eq s xs[q].f2 (hf _ (List.getElem_mem _)) (by omega)
   have h3:=put_len (ddec s) xs[q].f2
   have ih:=of2 t i es j hj xs hx hf v d (q + 1) (putS s xs[q].f2) (by omega) (by rw [ddec_putS];omega) hv
   refine Ev.step (f:=fun k => dict_Of.l2 k t (t.length : Int) (i : Int) es (es.length : Int) (j : Int) xs (xs.length : Int) ((q + 1 : Nat) : Int) (putS s xs[q].f2)) (fun k => ?_) ih
   simp only [dict_Of.l2]
   rw [if_pos (by omega),if_pos (by omega),if_pos (by omega),at_a xs q (by omega),if_pos h2,hp,Option.bind_some,w64 (x:=(q : Int) + 1) (by omega) (by omega)]
   rfl
  ·have e1 : strA xs[q] = none:=if_neg h2
   rw [List.filterMap_cons_none e1] at hl hv
   have ih:=of2 t i es j hj xs hx hf v d (q + 1) s (by omega) hl hv
   refine Ev.step (f:=fun k => dict_Of.l2 k t (t.length : Int) (i : Int) es (es.length : Int) (j : Int) xs (xs.length : Int) ((q + 1 : Nat) : Int) s) (fun k => ?_) ih
   simp only [dict_Of.l2]
   rw [if_pos (by omega),if_pos (by omega),if_pos (by omega),at_a xs q (by omega),if_neg h2,w64 (x:=(q : Int) + 1) (by omega) (by omega)]
   rfl
theorem of1 (t : List Pnt) (i : Nat) (hi : i < 9223372036854775806) (es : List Evt) (hm : es.length < 8796093022208) (hf : FitsE es) (v : ByteArray) : ∀ (d j : Nat) (s : ByteArray),d + j = es.length → (ddec s).length + ((es.drop j).flatMap strsE).length < 8796093022208 →
  Ev (fun k => dict_Of.l0 k t (t.length : Int) ((i + 1 : Nat) : Int) (putsS s ((es.drop j).flatMap strsE))) v → Ev (fun k => dict_Of.l1 k t (t.length : Int) (i : Int) es (es.length : Int) (j : Int) s) v
 | 0,j,s => fun hd hl hv => by
  rw [List.drop_eq_nil_of_le (by omega)] at hv
  refine Ev.step (f:=fun k => dict_Of.l0 k t (t.length : Int) ((i + 1 : Nat) : Int) s) (fun k => ?_) hv
  simp only [dict_Of.l1]
  rw [if_neg (by omega),w64 (by omega) (by omega)]
  rfl
 | d + 1,j,s => fun hd hl hv => by
  rw [List.drop_eq_getElem_cons (by omega : j < es.length),List.flatMap_cons] at hl hv
  rw [putsS_app] at hv
  rw [List.length_append] at hl
  obtain ⟨_,h2,h3⟩:=hf es[j] (List.getElem_mem _)
  have hln:=puts_len (strsE es[j]) (ddec s)
  have ih:=of1 t i hi es hm hf v d (j + 1) (putsS s (strsE es[j])) (by omega) (by rw [ddec_putsS];omega) hv
  refine Ev.step (f:=fun k => dict_Of.l2 k t (t.length : Int) (i : Int) es (es.length : Int) (j : Int) es[j].f1 (es[j].f1.length : Int) 0 s) (fun k => ?_) (of2 t i es j (by omega) es[j].f1 h2 h3 v _ 0 s rfl (by rw [List.drop_zero];have : (strsE es[j]).length = (es[j].f1.filterMap strA).length:=rfl;omega) ih)
  simp only [dict_Of.l1]
  rw [if_pos (by omega),if_pos (by omega),if_pos (by omega),at_e es j (by omega)]
theorem of0 (t : List Pnt) (ht : FitsT t) : ∀ (d i : Nat) (s : ByteArray),d + i = t.length → (ddec s).length + ((t.drop i).flatMap strsP).length < 8796093022208 → Ev (fun k => dict_Of.l0 k t (t.length : Int) (i : Int) s) (putsS s ((t.drop i).flatMap strsP))
 | 0,i,s => fun hd hl => by
  rw [List.drop_eq_nil_of_le (by omega)]
  refine Ev.step (f:=fun _ => some s) (fun k => ?_) (Ev.now _)
  simp only [dict_Of.l0]
  rw [if_neg (by omega)]
 | d + 1,i,s => fun hd hl => by
  rw [List.drop_eq_getElem_cons (by omega : i < t.length),List.flatMap_cons] at hl ⊢
  rw [putsS_app]
  rw [List.length_append] at hl
  obtain ⟨_,h2,h3⟩:=ht.2 t[i] (List.getElem_mem _)
  have hln:=puts_len (strsP t[i]) (ddec s)
  have ih:=of0 t ht d (i + 1) (putsS s (strsP t[i])) (by omega) (by rw [ddec_putsS];omega)
  have hlt:=ht.1
  refine Ev.step (f:=fun k => dict_Of.l1 k t (t.length : Int) (i : Int) t[i].f1 (t[i].f1.length : Int) 0 s) (fun k => ?_) (of1 t i (by omega) t[i].f1 h2 h3 _ _ 0 s rfl (by rw [List.drop_zero];have : (strsP t[i]).length = (t[i].f1.flatMap strsE).length:=rfl;omega) ih)
  simp only [dict_Of.l0]
  rw [if_pos (by omega),if_pos (by omega),if_pos (by omega),at_pt t i (by omega)]
theorem of_ev (t : List Pnt) (ht : FitsT t) (hl : (strs t).length < 8796093022208) : Ev (fun k => dict_Of.f k t) (putsS (denc []) (strs t)):=by
 unfold dict_Of.f
 simp only [dict_New.f,Option.bind_some]
 exact of0 t ht t.length 0 (denc []) (by omega) (by rw [ddec_enc,List.drop_zero];show 0 + (strs t).length < _;omega)
theorem of_dec (t : List Pnt) : ddec (putsS (denc []) (strs t)) = puts [] (strs t):=by rw [ddec_putsS,ddec_enc]

end Go.Proofs.Ytmmfakdncjeoeaa.MDict
-- NARROW
namespace Go.Proofs.Ytmmfakdncjeoeaa.MW
open Go.RowKit Go.Proofs.Ytmmfakdncjeoeaa.PU Go.Proofs.YtmmfakdncjeoeaaW.PrintWords Go.Proofs.YtmmfakdncjeoeaaW.PrintLast Go.Proofs.YtmmfakdncjeoeaaW.PrintMore

def Byt (l : List Int) : Prop:=∀ x ∈ l,0 ≤ x ∧ x < 256

theorem Byt.nil : Byt []:=fun _ h => by cases h
theorem Byt.cons {c : Int} {l : List Int} (h : Byt (c :: l)) : (0 ≤ c ∧ c < 256) ∧ Byt l:=⟨h c (by simp),fun x hx => h x (by simp [hx])⟩
theorem Byt.mk {c : Int} {l : List Int} (h0 : 0 ≤ c) (h1 : c < 256) (h : Byt l) : Byt (c :: l):=fun x hx => by
 rcases List.mem_cons.1 hx with rfl | hx
 ·exact ⟨h0,h1⟩
 ·exact h x hx
theorem Byt.append {l m : List Int} (h : Byt l) (k : Byt m) : Byt (l ++ m):=fun x hx => by
 rcases List.mem_append.1 hx with hx | hx
 ·exact h x hx
 ·exact k x hx
theorem Byt.left {l m : List Int} (h : Byt (l ++ m)) : Byt l:=fun x hx => h x (by simp [hx])
theorem Byt.drop {l : List Int} (h : Byt l) (n : Nat) : Byt (l.drop n):=fun x hx => h x (List.mem_of_mem_drop hx)
theorem Byt.take {l : List Int} (h : Byt l) (n : Nat) : Byt (l.take n):=fun x hx => h x (List.mem_of_mem_take hx)
theorem byt_bytesOf (s : ByteArray) : Byt (bytesOf s):=fun x hx => by
 obtain ⟨b,_,rfl⟩:=List.mem_map.1 hx
 have:=b.toNat_lt
 omega
theorem bytesOf_strOfNums {l : List Int} (h : Byt l) : bytesOf (strOfNums l) = l:=by
 unfold bytesOf
 rw [strOfNums_data,List.map_map]
 conv => rhs;rw [← List.map_id l]
 refine List.map_congr_left fun x hx => ?_
 obtain ⟨h0,h1⟩:=h x hx
 obtain ⟨n,rfl⟩:=Int.eq_ofNat_of_zero_le h0
 simp
 omega
theorem strOfNums_bytesOf (s : ByteArray) : strOfNums (bytesOf s) = s:=by
 have : (strOfNums (bytesOf s)).data.toList = s.data.toList:=by
  rw [strOfNums_data,bytesOf,List.map_map]
  conv => rhs;rw [← List.map_id s.data.toList]
  refine List.map_congr_left fun x hx => ?_
  simp
 cases s with
 | mk d =>
  cases h : strOfNums (bytesOf ⟨d⟩) with
  | mk e =>
   rw [h] at this
   have : e = d:=Array.toList_inj.1 this
   rw [this]
theorem strOfNums_inj {l m : List Int} (hl : Byt l) (hm : Byt m) (h : (strOfNums l).toList = (strOfNums m).toList) : l = m:=by
 rw [← bytesOf_strOfNums hl,← bytesOf_strOfNums hm]
 unfold bytesOf
 rw [show (strOfNums l).data.toList = (strOfNums m).data.toList from by simpa [ByteArray.toList_eq] using h]
theorem toList_strOfNums (l : List Int) : (strOfNums l).toList = l.map fun n => UInt8.ofNat n.toNat:=by
 have h : (strOfNums l).toList = (strOfNums l).data.toList:=by simp [ByteArray.toList_eq]
 rw [h,strOfNums_data]
theorem wf_u64 {x : Int} (h : (Lit.int .u64 x).wf = true) : 0 ≤ x ∧ x < 18446744073709551616:=by
 have h2 : 0 ≤ x ∧ x ≤ 18446744073709551615:=by simpa [Lit.wf,IntKind.min,IntKind.max,IntKind.bits,IntKind.signed] using h
 omega
theorem wf_i64 {x : Int} (h : (Lit.int .i64 x).wf = true) : -9223372036854775808 ≤ x ∧ x < 9223372036854775808:=by
 have h2 : -9223372036854775808 ≤ x ∧ x ≤ 9223372036854775807:=by simpa [Lit.wf,IntKind.min,IntKind.max,IntKind.bits,IntKind.signed] using h
 omega

theorem w64 {x : Int} (h0 : -9223372036854775808 ≤ x) (h1 : x < 9223372036854775808) : wrap64 x = x:=by unfold wrap64;omega
theorem wu64 {x : Int} (h0 : 0 ≤ x) (h1 : x < 18446744073709551616) : IntKind.u64.wrap x = x:=by rw [IntKind.wrap_u64];omega

/-! ### What the bytes of a number are -/
theorem wbytes_byt (m : Nat) : Byt (wbytes m):=by
 induction m using Nat.strongRecOn with
 | _ m ih =>
  rw [wbytes]
  split
  ·exact Byt.mk (by omega) (by omega) Byt.nil
  ·exact Byt.mk (by omega) (by omega) (ih _ (by omega))
theorem wbytes_ne (m : Nat) : wbytes m ≠ []:=by
 rw [wbytes]
 split <;> simp
theorem wbytes_pos (m : Nat) : 0 < (wbytes m).length:=List.length_pos_iff.2 (wbytes_ne m)
theorem wbytes_le10 {m : Nat} (h : m < 18446744073709551616) : (wbytes m).length ≤ 10:=wbytes_len 9 m (by omega)

def wgo (i : Nat) (acc : Int) : List Int → Int × Int × Int
 | [] => (0,0,2)
 | c :: r => if i = 9 ∧ 1 < c then (0,0,3) else if 128 ≤ c then wgo (i + 1) (acc + c % 128 * 128 ^ i) r else if c = 0 ∧ 0 < i then (0,0,4) else (acc + c * 128 ^ i,i + 1,0)
def wget (l : List Int) : Int × Int × Int:=wgo 0 0 l

theorem pow7 (i : Nat) : (2 : Int) ^ (7 * i) = 128 ^ i:=by rw [Int.pow_mul];rfl
theorem shl7 (i : Nat) (hi : i ≤ 9) (c : Int) (h0 : 0 ≤ c) (h1 : c < 256) : shl .u64 (IntKind.u64.wrap (Go.bits .and .u8 c 127)) (wrap64 (7 * (i : Int))) = IntKind.u64.wrap (c % 128 * 128 ^ i):=by
 have e1 : Go.bits .and .u8 c 127 = c % 128:=by
  rw [u8_and c 127 h0 h1 (by omega) (by omega)]
  have : c.toNat &&& (127 : Int).toNat = c.toNat % 128:=nat_mask7 _
  rw [this];omega
 have e2 : wrap64 (7 * (i : Int)) = 7 * i:=by unfold wrap64;omega
 rw [e1,e2]
 unfold shl
 have e3 : min (7 * (i : Int)).toNat IntKind.u64.bits = 7 * i:=by
  have : IntKind.u64.bits = 64:=rfl
  rw [this];omega
 rw [e3,pow7]
 have e4 : IntKind.u64.wrap (c % 128) = c % 128:=by rw [IntKind.wrap_u64];omega
 rw [e4]
theorem castP (e i : Nat) : ((e * 128 ^ i : Nat) : Int) = (e : Int) * 128 ^ i:=by rw [Int.natCast_mul,Int.natCast_pow];rfl
theorem pow_le9 (i : Nat) (hi : i ≤ 9) : 128 ^ i ≤ 9223372036854775808:=Nat.le_trans (Nat.pow_le_pow_right (by omega) hi) (by decide)
theorem orAdd (i : Nat) (hi : i ≤ 9) (acc d : Int) (h0 : 0 ≤ acc) (h1 : acc < 128 ^ i) (hd : 0 ≤ d) (h2 : d * 128 ^ i < 18446744073709551616) :
  Go.bits .or .u64 acc (IntKind.u64.wrap (d * 128 ^ i)) = acc + d * 128 ^ i:=by
 obtain ⟨a,rfl⟩:=Int.eq_ofNat_of_zero_le h0
 obtain ⟨e,rfl⟩:=Int.eq_ofNat_of_zero_le hd
 have hp:=pow_le9 i hi
 have hc : ((128 ^ i : Nat) : Int) = 128 ^ i:=Int.natCast_pow ..
 rw [← hc] at h1
 have h1' : a < 128 ^ i:=Int.ofNat_lt.1 h1
 rw [← castP] at h2 ⊢
 have h2' : e * 128 ^ i < 18446744073709551616:=by omega
 have hw : IntKind.u64.wrap ((e * 128 ^ i : Nat) : Int) = ((e * 128 ^ i : Nat) : Int):=by
  rw [IntKind.wrap_u64];omega
 rw [hw,u64_or_nat a _ (by omega) h2',Nat.or_comm,nat_join (7 * i) (e * 128 ^ i) a (by rw [Nat.pow_mul];exact Nat.mul_mod_left _ _) (by rw [Nat.pow_mul];exact h1')]
 omega

theorem rd_drop {l : List Int} {i : Nat} {c : Int} {r : List Int} (h : l.drop i = c :: r) : rd l (i : Int) = c ∧ i < l.length ∧ l.drop (i + 1) = r:=by
 have hi : i < l.length:=by
  rcases Nat.lt_or_ge i l.length with h' | h'
  ·exact h'
  ·rw [List.drop_of_length_le h'] at h;cases h
 have h2:=List.drop_eq_getElem_cons hi
 rw [h] at h2
 injection h2 with h3 h4
 refine ⟨?_,hi,h4.symm⟩
 unfold rd
 rw [Int.toNat_natCast,List.getD_eq_getElem?_getD,List.getElem?_eq_getElem hi,h3]
 rfl

theorem get_l0 (l : List Int) (hl : Byt l) (r : List Int) : ∀ (i : Nat) (acc : Int),i ≤ 9 → 0 ≤ acc → acc < 128 ^ i → l.drop i = r →
  Ev (fun k => wire_Get.l0 k acc l (l.length : Int) (i : Int)) (wgo i acc r):=by
 induction r with
 | nil =>
  intro i acc hi h0 h1 hd
  refine Ev.step (fun k => by simp only [wire_Get.l0];rw [if_neg (by have:=List.drop_eq_nil_iff.1 hd;omega)];rfl) (Ev.now _)
 | cons c r ih =>
  intro i acc hi h0 h1 hd
  obtain ⟨hrd,hil,hd'⟩:=rd_drop hd
  have hc : 0 ≤ c ∧ c < 256:=hl c (List.mem_of_mem_drop (by rw [hd];simp))
  have hw : 0 ≤ wrap64 (7 * (i : Int)):=by rw [w64 (by omega) (by omega)];omega
  have hw1 : wrap64 ((i : Int) + 1) = ((i + 1 : Nat) : Int):=by rw [w64 (by omega) (by omega)];omega
  have hp:=pow_le9 i hi
  have hcast : ((128 ^ i : Nat) : Int) = 128 ^ i:=Int.natCast_pow ..
  refine Ev.step (f:=fun k => wire_Get.j1 k (Go.bits .or .u64 acc (IntKind.u64.wrap (c % 128 * 128 ^ i))) i c l l.length i (decide (i = 9) && decide (1 < c))) (fun k => ?_) ?_
  ·simp only [wire_Get.l0]
   rw [if_pos (by omega),if_pos (by omega),if_pos (by omega),if_pos hw,hrd,shl7 i hi c hc.1 hc.2]
   by_cases h9 : i = 9
   ·rw [if_pos (by omega)];simp [h9]
   ·rw [if_neg (by omega)];simp [h9]
  ·by_cases hbad : i = 9 ∧ 1 < c
   ·have : wgo i acc (c :: r) = (0,0,3):=by rw [wgo,if_pos hbad]
    rw [this]
    refine Ev.step (f:=fun _ => some (0,0,3)) (fun k => ?_) (Ev.now _)
    simp only [wire_Get.j1]
    rw [if_pos (by simp [hbad])]
   ·have hb : (decide (i = 9) && decide (1 < c)) = false:=by
     simp only [Bool.and_eq_false_iff,decide_eq_false_iff_not]
     omega
    rw [hb]
    rw [wgo,if_neg hbad]
    have hsmall : c % 128 * 128 ^ i < 18446744073709551616:=by
     rw [← hcast]
     by_cases h9 : i = 9
     ·subst h9
      have : c % 128 = 0 ∨ c % 128 = 1:=by omega
      rcases this with e | e <;> rw [e] <;> omega
     ·have hp8 : 128 ^ i ≤ 72057594037927936:=Nat.le_trans (Nat.pow_le_pow_right (by omega) (show i ≤ 8 by omega)) (by decide)
      have : c % 128 ≤ 127:=by omega
      have:=Int.mul_le_mul_of_nonneg_right this (show (0 : Int) ≤ ((128 ^ i : Nat) : Int) by omega)
      omega
    rw [orAdd i hi acc (c % 128) h0 h1 (by omega) hsmall]
    by_cases hge : 128 ≤ c
    ·rw [if_pos hge]
     have hi8 : i + 1 ≤ 9:=by omega
     have hacc : acc + c % 128 * 128 ^ i < 128 ^ (i + 1):=by
      rw [Int.pow_succ,← hcast]
      have : c % 128 ≤ 127:=by omega
      have:=Int.mul_le_mul_of_nonneg_right this (show (0 : Int) ≤ ((128 ^ i : Nat) : Int) by omega)
      rw [← hcast] at h1
      omega
     have hnn : 0 ≤ acc + c % 128 * 128 ^ i:=by
      rw [← hcast]
      have:=Int.mul_nonneg (show (0 : Int) ≤ c % 128 by omega) (show (0 : Int) ≤ ((128 ^ i : Nat) : Int) by omega)
      omega
     refine Ev.step (f:=fun k => wire_Get.l0 k (acc + c % 128 * 128 ^ i) l (l.length : Int) ((i + 1 : Nat) : Int)) (fun k => ?_) (ih (i + 1) _ hi8 hnn hacc hd')
     simp only [wire_Get.j1]
     rw [if_neg (by simp),if_pos (by omega),hw1]
    ·rw [if_neg hge]
     have hcm : c % 128 = c:=by omega
     rw [hcm]
     by_cases hz : c = 0 ∧ 0 < i
     ·rw [if_pos hz]
      refine Ev.step (f:=fun _ => some (0,0,4)) (fun k => ?_) (Ev.now _)
      simp only [wire_Get.j1]
      rw [if_neg (by simp),if_neg (by omega),if_pos hz.1,if_pos (by omega)]
     ·rw [if_neg hz]
      refine Ev.step (f:=fun _ => some (acc + c * 128 ^ i,(i : Int) + 1,0)) (fun k => ?_) (Ev.now _)
      simp only [wire_Get.j1]
      rw [if_neg (by simp),if_neg (by omega),hw1]
      by_cases hc0 : c = 0
      ·rw [if_pos hc0,if_neg (by omega)];rfl
      ·rw [if_neg hc0];rfl

theorem get_ev (l : List Int) (hl : Byt l) : Ev (fun k => wire_Get.f k l) (wget l):=by
 have:=get_l0 l hl l 0 0 (by omega) (by omega) (by decide) rfl
 exact this

/-! ### What was put is read;cut off,it isn't;what is read was put so -/
theorem wgo_put (rest : List Int) : ∀ (m i : Nat) (acc : Int),m * 128 ^ i < 18446744073709551616 → (m ≠ 0 ∨ i = 0) → wgo i acc (wbytes m ++ rest) = (acc + (m : Int) * 128 ^ i,(i : Int) + ((wbytes m).length : Nat),0):=by
 intro m
 induction m using Nat.strongRecOn with
 | _ m ih =>
  intro i acc hb hne
  rw [wbytes]
  split
  ·rename_i h
   simp only [List.cons_append,List.nil_append,wgo,List.length_cons,List.length_nil]
   rw [if_neg,if_neg (by omega),if_neg (by omega)]
   ·congr 1
   ·rintro ⟨rfl,h1⟩
    have : (128 : Nat) ^ 9 = 9223372036854775808:=by decide
    rw [this] at hb
    omega
  ·rename_i h
   simp only [List.cons_append,wgo,List.length_cons]
   have e1 : (((m % 128 + 128 : Nat) : Int)) % 128 = ((m % 128 : Nat) : Int):=by omega
   rw [if_neg,if_pos (by omega),e1,ih (m / 128) (by omega) (i + 1) _ ?_ (by omega)]
   ·have e2 : (acc + ((m % 128 : Nat) : Int) * 128 ^ i + ((m / 128 : Nat) : Int) * 128 ^ (i + 1)) = acc + (m : Int) * 128 ^ i:=by
     rw [Int.pow_succ,Int.add_assoc,Int.mul_comm (128 ^ i) 128,← Int.mul_assoc,← Int.add_mul]
     congr 2
     omega
    rw [e2]
    congr 2
    omega
   ·have h1 : m / 128 * 128 ^ (i + 1) = m / 128 * 128 * 128 ^ i:=by rw [Nat.pow_succ,Nat.mul_comm (128 ^ i) 128,Nat.mul_assoc]
    rw [h1]
    exact Nat.lt_of_le_of_lt (Nat.mul_le_mul_right _ (Nat.div_mul_le_self m 128)) hb
   ·rintro ⟨rfl,_⟩
    have : (128 : Nat) ^ 9 = 9223372036854775808:=by decide
    rw [this] at hb
    omega
theorem wget_put (m : Nat) (hm : m < 18446744073709551616) (rest : List Int) : wget (wbytes m ++ rest) = ((m : Int),(((wbytes m).length : Nat) : Int),0):=by
 have:=wgo_put rest m 0 0 (by simpa using hm) (.inr rfl)
 simpa [wget] using this
theorem bnd (m d i : Nat) (hd : d < 128) (hi : i ≤ 8) (h : m * 128 ^ (i + 1) < 18446744073709551616) : (128 * m + d) * 128 ^ i < 18446744073709551616:=by
 have key : ∀ (P K : Nat),P * (128 * K) = 18446744073709551616 → m * (P * 128) < 18446744073709551616 → (128 * m + d) * P < 18446744073709551616:=by
  intro P K hP h
  have hP0 : 0 < P:=by rcases Nat.eq_zero_or_pos P with e | e;(subst e;omega);exact e
  have h1 : P * (128 * m) < P * (128 * K):=by rw [hP];rw [Nat.mul_comm P (128 * m),Nat.mul_comm 128 m,Nat.mul_assoc,Nat.mul_comm 128 P];exact h
  have h2:=Nat.lt_of_mul_lt_mul_left h1
  have h3 : 128 * m + d < 128 * K:=by omega
  rw [Nat.mul_comm,← hP]
  exact Nat.mul_lt_mul_of_pos_left h3 hP0
 have hK : 128 ^ i * (128 * (128 ^ (8 - i) * 2)) = 18446744073709551616:=by
  have e : (18446744073709551616 : Nat) = 128 ^ 8 * (128 * 2):=by decide
  rw [e,← Nat.mul_assoc 128 _ 2,← Nat.mul_assoc,← Nat.mul_assoc,Nat.mul_comm (128 ^ i) 128,Nat.mul_assoc 128 (128 ^ i),← Nat.pow_add,show i + (8 - i) = 8 by omega,Nat.mul_comm 128 (128 ^ 8)]
 exact key (128 ^ i) _ hK (by rw [← Nat.pow_succ];exact h)
theorem wgo_back (l : List Int) : ∀ (i : Nat) (acc n k : Int),Byt l → i ≤ 9 → wgo i acc l = (n,k,0) →
  ∃ m : Nat,n = acc + (m : Int) * 128 ^ i ∧ k = (i : Int) + ((wbytes m).length : Nat) ∧ (wbytes m).length ≤ l.length ∧ wbytes m = l.take (wbytes m).length ∧ (m ≠ 0 ∨ i = 0) ∧ m * 128 ^ i < 18446744073709551616:=by
 induction l with
 | nil => intro i acc n k _ _ h;simp [wgo] at h
 | cons c r ih =>
  intro i acc n k hl hi h
  obtain ⟨hc,hr⟩:=hl.cons
  rw [wgo] at h
  split at h
  ·simp at h
  ·rename_i h9
   split at h
   ·rename_i hge
    obtain ⟨m,h1,h2,h3,h4,h5,h6⟩:=ih (i + 1) _ n k hr (by omega) h
    have hm0 : m ≠ 0:=by omega
    have e0 : wbytes (128 * m + (c % 128).toNat) = c :: wbytes m:=by
     rw [wbytes,dif_neg (by omega)]
     congr 1
     ·omega
     ·congr 1;omega
    refine ⟨128 * m + (c % 128).toNat,?_,?_,?_,?_,.inl (by omega),?_⟩
    ·rw [h1,Int.pow_succ,Int.mul_comm (128 ^ i) 128,← Int.mul_assoc,Int.add_assoc,← Int.add_mul]
     congr 2
     omega
    ·rw [e0,h2];simp only [List.length_cons];omega
    ·rw [e0];simp only [List.length_cons];omega
    ·rw [e0];simp only [List.length_cons,List.take_succ_cons];rw [← h4]
    ·have h8 : i ≤ 8:=by omega
     obtain ⟨d,hd,hdl⟩ : ∃ d,(c % 128).toNat = d ∧ d < 128:=⟨_,rfl,by omega⟩
     rw [hd]
     clear ih h1 h2 h3 h4 h e0 hd hc hr hl hge h9 h5 hi
     exact bnd m d i hdl h8 h6
   ·split at h
    ·simp at h
    ·simp only [Prod.mk.injEq] at h
     obtain ⟨h1,h2,-⟩:=h
     rename_i hlt hz
     have e0 : wbytes c.toNat = [c]:=by rw [wbytes,dif_pos (by omega)];congr 1;omega
     refine ⟨c.toNat,?_,?_,?_,?_,by omega,?_⟩
     ·rw [← h1];congr 2;omega
     ·rw [e0,← h2];rfl
     ·rw [e0];simp
     ·rw [e0];simp
     ·by_cases h8 : i = 9
      ·subst h8
       have : (128 : Nat) ^ 9 = 9223372036854775808:=by decide
       rw [this];omega
      ·have hp8 : 128 ^ i ≤ 72057594037927936:=Nat.le_trans (Nat.pow_le_pow_right (by omega) (show i ≤ 8 by omega)) (by decide)
       have h7 : c.toNat ≤ 127:=by omega
       exact Nat.lt_of_le_of_lt (Nat.mul_le_mul h7 hp8) (by omega)
theorem wget_back {l : List Int} (hl : Byt l) {n k : Int} (h : wget l = (n,k,0)) : ∃ m : Nat,n = m ∧ m < 18446744073709551616 ∧ k = (((wbytes m).length : Nat) : Int) ∧ (wbytes m).length ≤ l.length ∧ wbytes m = l.take (wbytes m).length:=by
 obtain ⟨m,h1,h2,h3,h4,_,h6⟩:=wgo_back l 0 0 n k hl (by omega) h
 exact ⟨m,by simpa using h1,by simpa using h6,by simpa using h2,h3,h4⟩
theorem put_eq (l : List Int) (m : Nat) (hl : l.length ≤ 140737488355000) (hm : m < 18446744073709551616) : wire_Put.f l (m : Int) = some (l ++ wbytes m):=by
 unfold wire_Put.f
 rw [if_pos ⟨hl,by omega,by omega⟩,Int.toNat_natCast]
end Go.Proofs.Ytmmfakdncjeoeaa.MW
-- NARROW
namespace Go.Proofs.Ytmmfakdncjeoeaa.MBlob
open Go.RowKit Go.Proofs.Ytmmfakdncjeoeaa.PU Go.Proofs.Ytmmfakdncjeoeaa.MW Go.Proofs.YtmmfakdncjeoeaaW.PrintWords Go.Proofs.YtmmfakdncjeoeaaW.PrintLast Go.Proofs.YtmmfakdncjeoeaaW.PrintMore

def nobytes : ByteArray:=⟨#[]⟩

def bget (l : List Int) (most : Int) : ByteArray × Int × Int :=
 if (wget l).2.2 = 0 then
  if (wget l).1 > (if most < 0 then 0 else most) then (nobytes,0,6)
  else if (wget l).1 > (l.length : Int) - (wget l).2.1 then (nobytes,0,2)
  else (strOfNums ((l.drop (wget l).2.1.toNat).take (wget l).1.toNat),(wget l).2.1 + (wget l).1,0)
 else (nobytes,0,(wget l).2.2)

def bbytes (s : ByteArray) : List Int:=wbytes s.size ++ bytesOf s

theorem nobytes_toList : nobytes.toList = ([] : List UInt8):=toList_strOfNums []

theorem mx0 (a : Int) : mx a 0 = if a < 0 then 0 else a:=rfl

theorem get_ev (l : List Int) (hl : Byt l) (hlen : l.length ≤ 140737488355328) (most : Int) (hm : -9223372036854775808 ≤ most ∧ most < 9223372036854775808) : Ev (fun k => blob_Get.f k l most) (bget l most):=by
 have hg:=MW.get_ev l hl
 refine Ev.congr (fun k => by unfold blob_Get.f;rfl) (Ev.bind hg ?_)
 refine Ev.congr (f:=fun _ => some (bget l most)) (fun k => ?_) (Ev.now _)
 unfold bget
 by_cases h0 : (wget l).2.2 = 0
 ·rw [if_pos h0,if_pos h0]
  obtain ⟨n,p,e,hq⟩ : ∃ n p e,wget l = (n,p,e):=⟨_,_,_,rfl⟩
  rw [hq] at h0 ⊢
  dsimp only at h0 ⊢
  subst h0
  obtain ⟨m,rfl,hm64,rfl,hle,_⟩:=wget_back hl hq
  have hp10:=wbytes_le10 hm64
  rw [mx0,wu64 (x:=if most < 0 then 0 else most) (by split <;> omega) (by split <;> omega)]
  by_cases h1 : (m : Int) > (if most < 0 then 0 else most)
  ·rw [if_pos h1,if_pos h1];rfl
  ·rw [if_neg h1,if_neg h1,w64 (x:=(l.length : Int) - ((wbytes m).length : Nat)) (by omega) (by omega),wu64 (by omega) (by omega)]
   by_cases h2 : (m : Int) > (l.length : Int) - ((wbytes m).length : Nat)
   ·rw [if_pos h2,if_pos h2];rfl
   ·rw [if_neg h2,if_neg h2,w64 (x:=(m : Int)) (by omega) (by omega),w64 (by omega) (by omega),if_pos (by omega),if_pos (by omega),if_pos (by omega)]
    congr 3
    rw [List.drop_take]
    congr 1
    omega
 ·rw [if_neg h0,if_neg h0];rfl
theorem bbytes_len (s : ByteArray) : (bbytes s).length = (wbytes s.size).length + s.size:=by unfold bbytes;rw [List.length_append,bytesOf_length]
theorem byt_bbytes (s : ByteArray) : Byt (bbytes s):=(wbytes_byt _).append (byt_bytesOf s)
theorem put_bytes (l : List Int) (s : ByteArray) (hl : l.length ≤ 100000000000000) (hs : s.size ≤ 10000000000) : blob_Put.f l s = some (l ++ bbytes s):=by
 have h10:=wbytes_le10 (m:=s.size) (by omega)
 unfold blob_Put.f
 rw [wu64 (by omega) (by omega),put_eq l s.size (by omega) (by omega),Option.bind_some,if_pos (by rw [List.length_append];omega)]
 unfold bbytes
 rw [List.append_assoc]

theorem bget_put (s : ByteArray) (hs : s.size ≤ 10000000000) (rest : List Int) (most : Int) : bget (bbytes s ++ rest) most = if (s.size : Int) > (if most < 0 then 0 else most) then (nobytes,0,6) else (s,(((bbytes s).length : Nat) : Int),0):=by
 have hl : bbytes s ++ rest = wbytes s.size ++ (bytesOf s ++ rest):=by unfold bbytes;rw [List.append_assoc]
 have hb:=bytesOf_length s
 unfold bget
 rw [hl,wget_put s.size (by omega)]
 dsimp only
 rw [if_pos rfl]
 by_cases h : (s.size : Int) > (if most < 0 then 0 else most)
 ·rw [if_pos h,if_pos h]
 ·rw [if_neg h,if_neg h,if_neg (by rw [List.length_append,List.length_append,hb];omega)]
  rw [Int.toNat_natCast,Int.toNat_natCast,List.drop_left,List.take_append_of_le_length (by omega),List.take_of_length_le (by omega),strOfNums_bytesOf,bbytes_len]
  simp

theorem bget_back {l : List Int} (hl : Byt l) {most : Int} {t : ByteArray} {n : Int} (h : bget l most = (t,n,0)) : n = (((bbytes t).length : Nat) : Int) ∧ (bbytes t).length ≤ l.length ∧ l.take (bbytes t).length = bbytes t ∧ (t.size : Int) ≤ (if most < 0 then 0 else most):=by
 unfold bget at h
 generalize (if most < 0 then 0 else most) = M at h ⊢
 split at h
 ·rename_i h0
  obtain ⟨a,p,e,hq⟩ : ∃ n p e,wget l = (n,p,e):=⟨_,_,_,rfl⟩
  rw [hq] at h h0
  dsimp only at h h0
  subst h0
  obtain ⟨m,rfl,hm64,rfl,hle,htk⟩:=wget_back hl hq
  split at h
  ·exact absurd h (by simp)
  ·rename_i h1
   split at h
   ·exact absurd h (by simp)
   ·rename_i h2
    obtain ⟨ht,hn,_⟩:=Prod.mk.injEq _ _ _ _ ▸ h |>.imp id (fun h => by simpa using h)
    have hsz : t.size = m:=by
     rw [← ht,strOfNums_size,List.length_take,List.length_drop]
     simp only [Int.toNat_natCast]
     omega
    have hbt : bytesOf t = (l.drop (wbytes m).length).take m:=by
     rw [← ht]
     simp only [Int.toNat_natCast]
     exact bytesOf_strOfNums ((hl.drop _).take _)
    have hlen : (bbytes t).length = (wbytes m).length + m:=by rw [bbytes_len,hsz]
    refine ⟨by rw [hlen];omega,by omega,?_,by omega⟩
    rw [hlen,List.take_add,← htk,← hbt]
    unfold bbytes
    rw [hsz]
 ·rename_i h0
  exact absurd (congrArg (fun x => x.2.2) h) h0

end Go.Proofs.Ytmmfakdncjeoeaa.MBlob
-- NARROW
namespace Go.Proofs.Ytmmfakdncjeoeaa.MFold
open Go.RowKit Go.Proofs.Ytmmfakdncjeoeaa.PU Go.Proofs.Ytmmfakdncjeoeaa.MW Go.Proofs.YtmmfakdncjeoeaaW.PrintWords Go.Proofs.YtmmfakdncjeoeaaW.PrintLast Go.Proofs.YtmmfakdncjeoeaaW.PrintMore

/-! ### Folded numbers -/
def foldN (x : Int) : Int:=if 0 ≤ x then 2 * x else -2 * x - 1
def unfoldN (n : Int) : Int:=if n % 2 = 0 then n / 2 else -(n / 2) - 1
theorem foldN_range {x : Int} (h0 : -9223372036854775808 ≤ x) (h1 : x < 9223372036854775808) : 0 ≤ foldN x ∧ foldN x < 18446744073709551616:=by unfold foldN;split <;> omega
theorem unfoldN_range {n : Int} (h0 : 0 ≤ n) (h1 : n < 18446744073709551616) : -9223372036854775808 ≤ unfoldN n ∧ unfoldN n < 9223372036854775808:=by unfold unfoldN;split <;> omega
theorem unfold_fold (x : Int) : unfoldN (foldN x) = x:=by
 unfold unfoldN foldN
 by_cases h : 0 ≤ x
 ·rw [if_pos h,if_pos (by omega)];omega
 ·rw [if_neg h,if_neg (by omega)];omega
theorem fold_eq {x : Int} (h0 : -9223372036854775808 ≤ x) (h1 : x < 9223372036854775808) : wire_Fold.f x = some (foldN x):=by
 unfold wire_Fold.f foldN
 congr 1
 by_cases h : 0 ≤ x
 ·rw [if_pos h]
  have e1 : IntKind.u64.wrap (x / 9223372036854775808) = ((0 : Nat) : Int):=by rw [IntKind.wrap_u64];omega
  have e2 : IntKind.u64.wrap (IntKind.u64.wrap x * 2) = (((2 * x).toNat : Nat) : Int):=by rw [IntKind.wrap_u64,IntKind.wrap_u64];omega
  rw [e1,e2,u64_xor_nat _ _ (by omega) (by omega),Nat.xor_zero]
  omega
 ·rw [if_neg h]
  have e1 : IntKind.u64.wrap (x / 9223372036854775808) = ((2 ^ 64 - 1 : Nat) : Int):=by rw [IntKind.wrap_u64];omega
  have e2 : IntKind.u64.wrap (IntKind.u64.wrap x * 2) = (((2 * x + 18446744073709551616).toNat : Nat) : Int):=by rw [IntKind.wrap_u64,IntKind.wrap_u64];omega
  rw [e1,e2,u64_xor_nat _ _ (by omega) (by omega),Nat.xor_comm,Lib.xor_ones64 _ (by omega)]
  omega
theorem unfold_eq {n : Int} (h0 : 0 ≤ n) (h1 : n < 18446744073709551616) : wire_Unfold.f n = some (unfoldN n):=by
 unfold wire_Unfold.f unfoldN
 congr 1
 have e1 : Go.bits .and .u64 n 1 = n % 2:=Lib.u64_and1 n h0 h1
 have e2 : wrap64 (n / 2) = (((n / 2).toNat : Nat) : Int):=by rw [w64 (by omega) (by omega)];omega
 rw [e1,e2,w64 (x:=n % 2) (by omega) (by omega),w64 (x:=-(n % 2)) (by omega) (by omega)]
 by_cases h : n % 2 = 0
 ·rw [if_pos h,h]
  show IntKind.i64.wrap ((BitVec.ofInt 64 _ ^^^ BitVec.ofInt 64 (-0)).toNat : Int) = _
  rw [show (BitVec.ofInt 64 (-0)) = 0#64 by decide,BitVec.xor_zero,BitVec.ofInt_natCast,BitVec.toNat_ofNat,Nat.mod_eq_of_lt (by omega),IntKind.wrap_i64]
  omega
 ·rw [if_neg h,show -(n % 2) = -1 by omega]
  have hx : Go.bits .xor .i64 (((n / 2).toNat : Nat) : Int) (-1) = Go.bits .xor .i64 (-1) (((n / 2).toNat : Nat) : Int):=by
   show IntKind.i64.wrap ((BitVec.ofInt 64 _ ^^^ BitVec.ofInt 64 _).toNat : Int) = IntKind.i64.wrap ((BitVec.ofInt 64 _ ^^^ BitVec.ofInt 64 _).toNat : Int)
   rw [BitVec.xor_comm]
  rw [hx,Lib.i64_not _ (by omega)]
  omega
end Go.Proofs.Ytmmfakdncjeoeaa.MFold
-- NARROW
set_option linter.unusedVariables false
namespace Go.Proofs.Ytmmfakdncjeoeaa.MBlock
open Go.RowKit Go.Proofs.Ytmmfakdncjeoeaa.PU Go.Proofs.Ytmmfakdncjeoeaa.MPts Go.Proofs.Ytmmfakdncjeoeaa.MPut Go.Proofs.Ytmmfakdncjeoeaa.MDict Go.Proofs.Ytmmfakdncjeoeaa.MBase Go.Proofs.YtmmfakdncjeoeaaAid Go.Proofs.YtmmfakdncjeoeaaW.PrintWords Go.Proofs.YtmmfakdncjeoeaaW.PrintLast Go.Proofs.YtmmfakdncjeoeaaW.PrintMore

abbrev Pred:=S53
/-! ### what is of a signature -/
def OkA (a : Argm) : Prop:=(a.f0 = 1 ∧ a.f2 = MBlob.nobytes) ∨ (a.f0 = 2 ∧ a.f1 = 0 ∧ a.f2.size ≤ 200)
theorem argc_ok {t : Int} {a : Argm} (ht : t = 1 ∨ t = 2) (h : MTrace.argc t a = 0) : a.f0 = t ∧ OkA a:=by
 unfold MTrace.argc at h
 split at h
 ·rename_i h0
  split at h
  ·cases h
  ·rename_i hb
   split at h
   ·cases h
   ·rename_i hs
    refine ⟨h0,?_⟩
    rcases ht with rfl | rfl
    ·refine .inl ⟨h0,toList_inj ?_⟩
     simp [MTrace.argb] at hb
     rw [hb,MBlob.nobytes_toList]
    ·refine .inr ⟨h0,?_,by omega⟩
     simpa [MTrace.argb] using hb
 ·cases h
def OkE (sig : List Pred) (e : Evt) : Prop:=(0 ≤ e.f0 ∧ e.f0 < (sig.length : Int)) ∧ e.f1.length ≤ 8 ∧ e.f1.map (·.f0) = (rd_T53 sig e.f0).f1 ∧ ∀ a ∈ e.f1,OkA a
theorem argsc_ok (ts : List Int) (xs : List Argm) (he : ts.length = xs.length) (ht : ∀ x ∈ ts,x = 1 ∨ x = 2) : ∀ (n i : Nat),n + i = xs.length → MTrace.argsc ts xs n i = 0 → (xs.drop i).map (·.f0) = ts.drop i ∧ ∀ a ∈ xs.drop i,OkA a
 | 0,i => fun hn _ => by rw [List.drop_eq_nil_of_le (by omega),List.drop_eq_nil_of_le (by omega)];exact ⟨rfl,fun a ha => by cases ha⟩
 | n + 1,i => fun hn h => by
  simp only [MTrace.argsc] at h
  rw [at_a xs i (by omega),at_i ts i (by omega)] at h
  split at h
  ·rename_i h0
   obtain ⟨h1,h2⟩:=argc_ok (ht _ (List.getElem_mem (by omega))) h0
   obtain ⟨h3,h4⟩:=argsc_ok ts xs he ht n (i + 1) (by omega) h
   rw [List.drop_eq_getElem_cons (by omega : i < xs.length),List.drop_eq_getElem_cons (by omega : i < ts.length)]
   refine ⟨by rw [List.map_cons,h3,h1],fun a ha => ?_⟩
   rcases List.mem_cons.1 ha with rfl | ha
   ·exact h2
   ·exact h4 a ha
  ·rename_i h0
   exact absurd h h0
theorem good_at {sig : List Pred} (h : MSig.check sig = 0) {i : Int} (h0 : 0 ≤ i) (h1 : i < (sig.length : Int)) : (rd_T53 sig i).f1.length ≤ 8 ∧ ∀ x ∈ (rd_T53 sig i).f1,x = 1 ∨ x = 2:=by
 obtain ⟨n,rfl⟩:=Int.eq_ofNat_of_zero_le h0
 obtain ⟨_,_,h2,h3⟩:=((MSig.check_zero sig).1 h).2 n (by omega)
 rw [MSig.rd_pred]
 refine ⟨h2,fun x hx => ?_⟩
 have:=List.all_eq_true.1 h3 x hx
 simpa [MSig.typeOk] using this
theorem evc_ok {sig : List Pred} (hc : MSig.check sig = 0) {e : Evt} (h : MTrace.evc sig e = 0) : OkE sig e:=by
 unfold MTrace.evc at h
 split at h
 ·cases h
 ·rename_i h0
  split at h
  ·rename_i h1
   obtain ⟨g1,g2⟩:=good_at hc (i:=e.f0) (by omega) (by omega)
   obtain ⟨h2,h3⟩:=argsc_ok _ e.f1 (by omega) g2 e.f1.length 0 (by omega) h
   exact ⟨⟨by omega,by omega⟩,by omega,by simpa using h2,by simpa using h3⟩
  ·cases h
def OkP (sig : List Pred) (p : Pnt) : Prop:=p.f1.length ≤ 1024 ∧ ∀ e ∈ p.f1,OkE sig e
theorem evsc_ok {sig : List Pred} (hc : MSig.check sig = 0) (es : List Evt) : ∀ (n i : Nat),n + i = es.length → MTrace.evsc sig es n i = 0 → ∀ e ∈ es.drop i,OkE sig e
 | 0,i => fun hn _ => by rw [List.drop_eq_nil_of_le (by omega)];exact fun a ha => by cases ha
 | n + 1,i => fun hn h => by
  simp only [MTrace.evsc] at h
  rw [at_e es i (by omega)] at h
  split at h
  ·rename_i h0
   rw [List.drop_eq_getElem_cons (by omega : i < es.length)]
   intro e he
   rcases List.mem_cons.1 he with rfl | he
   ·exact evc_ok hc h0
   ·exact evsc_ok hc es n (i + 1) (by omega) h e he
  ·rename_i h0
   exact absurd h h0
def asc : Int → List Pnt → Prop
 | _,[] => True
 | a,p :: r => a ≤ p.f0 ∧ asc p.f0 r
theorem trc_ok {sig : List Pred} (hc : MSig.check sig = 0) (t : List Pnt) : ∀ (n i : Nat) (ah : Int),n + i = t.length → (MTrace.trc sig t n i ah).1 = 0 → (∀ p ∈ t.drop i,OkP sig p) ∧ asc ah (t.drop i)
 | 0,i,ah => fun hn _ => by rw [List.drop_eq_nil_of_le (by omega)];exact ⟨(fun a ha => by cases ha),trivial⟩
 | n + 1,i,ah => fun hn h => by
  simp only [MTrace.trc] at h
  rw [at_pt t i (by omega)] at h
  split at h
  ·rename_i h0
   obtain ⟨h1,h2⟩:=trc_ok hc t n (i + 1) _ (by omega) h
   rw [List.drop_eq_getElem_cons (by omega : i < t.length)]
   unfold MTrace.ptc at h0
   split at h0
   ·cases h0
   ·rename_i ha
    split at h0
    ·cases h0
    ·rename_i hm
     refine ⟨fun p hp => ?_,by omega,h2⟩
     rcases List.mem_cons.1 hp with rfl | hp
     ·exact ⟨by omega,by have:=evsc_ok hc _ _ 0 (by omega) h0;simpa using this⟩
     ·exact h1 p hp
  ·rename_i h0
   exact absurd h h0
theorem tcheck_ok {sig : List Pred} {t : List Pnt} (h : (MTrace.tcheck sig t).1 = 0) : MSig.check sig = 0 ∧ (∀ p ∈ t,OkP sig p) ∧ asc 0 t:=by
 unfold MTrace.tcheck at h
 split at h
 ·rename_i hc
  obtain ⟨h1,h2⟩:=trc_ok hc t t.length 0 0 (by omega) h
  exact ⟨hc,by simpa using h1,by simpa using h2⟩
 ·rename_i hc
  exact absurd h hc

/-! ### the payload -/
def argB (D : List ByteArray) (a : Argm) : List Int:=if a.f0 = 1 then wbytes (MFold.foldN a.f1).toNat else wbytes (D.idxOf a.f2)
def evB (D : List ByteArray) (e : Evt) : List Int:=wbytes e.f0.toNat ++ e.f1.flatMap (argB D)
def ptB (D : List ByteArray) (p : Pnt) : List Int:=wbytes p.f1.length ++ p.f1.flatMap (evB D)
def ptsB (D : List ByteArray) : Int → List Pnt → List Int
 | _,[] => []
 | a,p :: r => wbytes (IntKind.u64.wrap (p.f0 - a)).toNat ++ (ptB D p ++ ptsB D p.f0 r)
def dict (t : List Pnt) : List ByteArray:=puts [] (strs t)
def tailB (t : List Pnt) : List Int:=wbytes t.length ++ (wbytes (dict t).length ++ ((dict t).flatMap MBlob.bbytes ++ (match t with | [] => [] | p :: r => ptB (dict t) p ++ ptsB (dict t) p.f0 r)))
def pay (t : List Pnt) : List Int:=(match t with | [] => [] | p :: _ => wbytes p.f0.toNat) ++ tailB t

def ArgIn (D : List ByteArray) (a : Argm) : Prop:=OkA a ∧ (-9223372036854775808 ≤ a.f1 ∧ a.f1 ≤ 9223372036854775807) ∧ (a.f0 = 2 → a.f2 ∈ D)
theorem argB_len {D : List ByteArray} (hD : D.length < 9223372036854775808) {a : Argm} (h : ArgIn D a) : (argB D a).length ≤ 10:=by
 unfold argB
 split
 ·have:=MFold.foldN_range (x:=a.f1) h.2.1.1 (by have:=h.2.1.2;omega)
  exact MW.wbytes_le10 (by omega)
 ·have:=List.idxOf_le_length (a:=a.f2) (l:=D)
  exact MW.wbytes_le10 (by omega)
theorem flat_len {α : Type} {f : α → List Int} {c : Nat} : ∀ (l : List α),(∀ x ∈ l,(f x).length ≤ c) → (l.flatMap f).length ≤ c * l.length
 | [],_ => by simp
 | x :: l,h => by
  have h1:=h x List.mem_cons_self
  have h2:=flat_len l (fun y hy => h y (List.mem_cons_of_mem _ hy))
  rw [List.flatMap_cons,List.length_append,List.length_cons,Nat.mul_add]
  omega
theorem writer_eq {s : ByteArray} {a : Argm} (hD : (ddec s).length < 9223372036854775808) (h : ArgIn (ddec s) a) : ∃ n : Nat,n < 18446744073709551616 ∧ block_writers_1.f s a.f0 a.f1 a.f2 = some ((n : Int),s) ∧ argB (ddec s) a = wbytes n:=by
 obtain ⟨h1,h2,h3⟩:=h
 unfold block_writers_1.f argB
 rcases h1 with ⟨e0,_⟩ | ⟨e0,_,hs⟩
 ·rw [if_pos e0,if_pos e0,MFold.fold_eq h2.1 (by omega)]
  have:=MFold.foldN_range (x:=a.f1) h2.1 (by omega)
  exact ⟨(MFold.foldN a.f1).toNat,by omega,by rw [Option.bind_some,Int.toNat_of_nonneg this.1],rfl⟩
 ·have hx:=List.idxOf_le_length (a:=a.f2) (l:=ddec s)
  rw [if_neg (by omega),if_pos e0,if_pos (by omega),if_pos (h3 e0),if_neg (by omega),wu64 (by omega) (by omega)]
  exact ⟨_,by omega,rfl,rfl⟩
theorem pay3 (t : List Pnt) (i : Nat) (es : List Evt) (j : Nat) (hj : j < 9223372036854775806) (xs : List Argm) (s : ByteArray) (hD : (ddec s).length < 9223372036854775808) (hx : xs.length ≤ 8) (hA : ∀ a ∈ xs,ArgIn (ddec s) a) (v : List Int) : ∀ (d q : Nat) (out : List Int),d + q = xs.length → out.length + 10 * d ≤ 140737488355000 →
  Ev (fun k => block_payload.l2 k t (out ++ (xs.drop q).flatMap (argB (ddec s))) t (t.length : Int) (i : Int) es (es.length : Int) ((j + 1 : Nat) : Int) s) v → Ev (fun k => block_payload.l3 k t out t (t.length : Int) (i : Int) es (es.length : Int) (j : Int) xs (xs.length : Int) (q : Int) s) v
 | 0,q,out => fun hd hl hv => by
  rw [List.drop_eq_nil_of_le (by omega),List.flatMap_nil,List.append_nil] at hv
  refine Ev.step (f:=fun k => block_payload.l2 k t out t (t.length : Int) (i : Int) es (es.length : Int) ((j + 1 : Nat) : Int) s) (fun k => ?_) hv
  simp only [block_payload.l3]
  rw [if_neg (by omega),w64 (by omega) (by omega)]
  rfl
 | d + 1,q,out => fun hd hl hv => by
  have hq : q < xs.length:=by omega
  rw [List.drop_eq_getElem_cons hq,List.flatMap_cons,← List.append_assoc] at hv
  have ha:=hA _ (List.getElem_mem hq)
  obtain ⟨n,hn,hw,hb⟩:=writer_eq hD ha
  have hbl:=argB_len hD ha
  have ih:=pay3 t i es j hj xs s hD hx hA v d (q + 1) (out ++ argB (ddec s) xs[q]) (by omega) (by rw [List.length_append];omega) hv
  refine Ev.step (f:=fun k => block_payload.l3 k t (out ++ argB (ddec s) xs[q]) t (t.length : Int) (i : Int) es (es.length : Int) (j : Int) xs (xs.length : Int) ((q + 1 : Nat) : Int) s) (fun k => ?_) ih
  simp only [block_payload.l3]
  rw [if_pos (by omega),if_pos (by omega),if_pos (by omega),at_a xs q hq,hw,Option.bind_some,MW.put_eq out n (by omega) hn,Option.bind_some,w64 (by omega) (by omega),hb]
  rfl
def EvIn (D : List ByteArray) (e : Evt) : Prop:=(0 ≤ e.f0 ∧ e.f0 < 9223372036854775808) ∧ e.f1.length ≤ 8 ∧ ∀ a ∈ e.f1,ArgIn D a
theorem evB_len {D : List ByteArray} (hD : D.length < 9223372036854775808) {e : Evt} (h : EvIn D e) : (evB D e).length ≤ 100:=by
 unfold evB
 have h1:=MW.wbytes_le10 (m:=e.f0.toNat) (by have:=h.1;omega)
 have h2:=flat_len (f:=argB D) (c:=10) e.f1 (fun a ha => argB_len hD (h.2.2 a ha))
 have h3:=h.2.1
 rw [List.length_append]
 omega
theorem pay2 (t : List Pnt) (i : Nat) (hi : i < 9223372036854775806) (es : List Evt) (hm : es.length < 9223372036854775807) (s : ByteArray) (hD : (ddec s).length < 9223372036854775808) (hE : ∀ e ∈ es,EvIn (ddec s) e) (v : List Int) : ∀ (d j : Nat) (out : List Int),d + j = es.length → out.length + 100 * d ≤ 140737488350000 →
  Ev (fun k => block_payload.l1 k t (out ++ (es.drop j).flatMap (evB (ddec s))) t (t.length : Int) ((i + 1 : Nat) : Int) s) v → Ev (fun k => block_payload.l2 k t out t (t.length : Int) (i : Int) es (es.length : Int) (j : Int) s) v
 | 0,j,out => fun hd hl hv => by
  rw [List.drop_eq_nil_of_le (by omega),List.flatMap_nil,List.append_nil] at hv
  refine Ev.step (f:=fun k => block_payload.l1 k t out t (t.length : Int) ((i + 1 : Nat) : Int) s) (fun k => ?_) hv
  simp only [block_payload.l2]
  rw [if_neg (by omega),w64 (by omega) (by omega)]
  rfl
 | d + 1,j,out => fun hd hl hv => by
  have hj : j < es.length:=by omega
  rw [List.drop_eq_getElem_cons hj,List.flatMap_cons,← List.append_assoc] at hv
  have he:=hE _ (List.getElem_mem hj)
  have hbl:=evB_len hD he
  have h1:=MW.wbytes_le10 (m:=es[j].f0.toNat) (by have:=he.1;omega)
  have ih:=pay2 t i hi es hm s hD hE v d (j + 1) (out ++ evB (ddec s) es[j]) (by omega) (by rw [List.length_append];omega) hv
  have h3:=pay3 t i es j (by omega) es[j].f1 s hD he.2.1 he.2.2 v es[j].f1.length 0 (out ++ wbytes es[j].f0.toNat) (by omega) (by rw [List.length_append];have:=he.2.1;omega) (by rw [List.drop_zero,List.append_assoc];exact ih)
  refine Ev.step (f:=fun k => block_payload.l3 k t (out ++ wbytes es[j].f0.toNat) t (t.length : Int) (i : Int) es (es.length : Int) (j : Int) es[j].f1 (es[j].f1.length : Int) 0 s) (fun k => ?_) h3
  have hp:=MW.put_eq out es[j].f0.toNat (by omega) (by have:=he.1;omega)
  rw [Int.toNat_of_nonneg he.1.1] at hp
  simp only [block_payload.l2]
  rw [if_pos (by omega),if_pos (by omega),if_pos (by omega),at_e es j hj,wu64 (by have:=he.1;omega) (by have:=he.1;omega),hp,Option.bind_some]
def PtIn (D : List ByteArray) (p : Pnt) : Prop:=(0 ≤ p.f0 ∧ p.f0 < 18446744073709551616) ∧ p.f1.length ≤ 1024 ∧ ∀ e ∈ p.f1,EvIn D e
theorem ptB_len {D : List ByteArray} (hD : D.length < 9223372036854775808) {p : Pnt} (h : PtIn D p) : (ptB D p).length ≤ 102500:=by
 unfold ptB
 have h1:=MW.wbytes_le10 (m:=p.f1.length) (by have:=h.2.1;omega)
 have h2:=flat_len (f:=evB D) (c:=100) p.f1 (fun e he => evB_len hD (h.2.2 e he))
 have h3:=h.2.1
 rw [List.length_append]
 omega
theorem payj (t : List Pnt) (i : Nat) (hi : i < 9223372036854775806) (p : Pnt) (s : ByteArray) (hD : (ddec s).length < 9223372036854775808) (hp : PtIn (ddec s) p) (v out : List Int) (hl : out.length ≤ 140737480000000) (hv : Ev (fun k => block_payload.l1 k t (out ++ ptB (ddec s) p) t (t.length : Int) ((i + 1 : Nat) : Int) s) v) :
  Ev (fun k => block_payload.j2 k t out t (t.length : Int) (i : Int) s p.f0 p.f1) v:=by
 have h1:=MW.wbytes_le10 (m:=p.f1.length) (by have:=hp.2.1;omega)
 have h3:=hp.2.1
 have h2:=pay2 t i hi p.f1 (by omega) s hD hp.2.2 v p.f1.length 0 (out ++ wbytes p.f1.length) (by omega) (by rw [List.length_append];omega) (by rw [List.drop_zero,List.append_assoc];exact hv)
 refine Ev.step (f:=fun k => block_payload.l2 k t (out ++ wbytes p.f1.length) t (t.length : Int) (i : Int) p.f1 (p.f1.length : Int) 0 s) (fun k => ?_) h2
 simp only [block_payload.j2]
 rw [wu64 (by omega) (by omega),MW.put_eq out p.f1.length (by omega) (by omega),Option.bind_some]
def restB (D : List ByteArray) (t : List Pnt) (i : Nat) : List Int:=if h : 0 < i ∧ i ≤ t.length then ptsB D (t[i - 1]'(by omega)).f0 (t.drop i) else (match t.drop i with | [] => [] | p :: r => ptB D p ++ ptsB D p.f0 r)
theorem pay1 (t : List Pnt) (ht : t.length ≤ 1024) (s : ByteArray) (hD : (ddec s).length < 9223372036854775808) (hP : ∀ p ∈ t,PtIn (ddec s) p) : ∀ (d i : Nat) (out : List Int),d + i = t.length → 0 < i → out.length + 110000 * d ≤ 140737000000000 →
  Ev (fun k => block_payload.l1 k t out t (t.length : Int) (i : Int) s) (out ++ restB (ddec s) t i)
 | 0,i,out => fun hd hi hl => by
  have e : restB (ddec s) t i = []:=by unfold restB;rw [dif_pos ⟨hi,by omega⟩,List.drop_eq_nil_of_le (by omega)];rfl
  rw [e,List.append_nil]
  refine Ev.step (f:=fun _ => some out) (fun k => ?_) (Ev.now _)
  simp only [block_payload.l1]
  rw [if_neg (by omega)]
 | d + 1,i,out => fun hd hi hl => by
  have hit : i < t.length:=by omega
  have hp:=hP _ (List.getElem_mem hit)
  have hpl:=ptB_len hD hp
  have e : restB (ddec s) t i = wbytes (IntKind.u64.wrap (t[i].f0 - (t[i - 1]'(by omega)).f0)).toNat ++ (ptB (ddec s) t[i] ++ restB (ddec s) t (i + 1)):=by
   unfold restB
   rw [dif_pos ⟨hi,by omega⟩,dif_pos ⟨by omega,by omega⟩,List.drop_eq_getElem_cons hit]
   rfl
  have hw : 0 ≤ IntKind.u64.wrap (t[i].f0 - (t[i - 1]'(by omega)).f0) ∧ IntKind.u64.wrap (t[i].f0 - (t[i - 1]'(by omega)).f0) < 18446744073709551616:=by rw [IntKind.wrap_u64];omega
  have h1:=MW.wbytes_le10 (m:=(IntKind.u64.wrap (t[i].f0 - (t[i - 1]'(by omega)).f0)).toNat) (by omega)
  have ih:=pay1 t ht s hD hP d (i + 1) ((out ++ wbytes (IntKind.u64.wrap (t[i].f0 - (t[i - 1]'(by omega)).f0)).toNat) ++ ptB (ddec s) t[i]) (by omega) (by omega) (by rw [List.length_append,List.length_append];omega)
  rw [e,← List.append_assoc,← List.append_assoc]
  have hj:=payj t i (by omega) t[i] s hD hp _ (out ++ wbytes (IntKind.u64.wrap (t[i].f0 - (t[i - 1]'(by omega)).f0)).toNat) (by rw [List.length_append];omega) ih
  refine Ev.step (f:=fun k => block_payload.j2 k t (out ++ wbytes (IntKind.u64.wrap (t[i].f0 - (t[i - 1]'(by omega)).f0)).toNat) t (t.length : Int) (i : Int) s t[i].f0 t[i].f1) (fun k => ?_) hj
  have hpt:=MW.put_eq out (IntKind.u64.wrap (t[i].f0 - (t[i - 1]'(by omega)).f0)).toNat (by omega) (by omega)
  rw [Int.toNat_of_nonneg hw.1] at hpt
  have e1 : wrap64 ((i : Int) - 1) = ((i - 1 : Nat) : Int):=by rw [w64 (by omega) (by omega)];omega
  simp only [block_payload.l1]
  rw [if_pos (by omega),if_pos (by omega),if_pos (by omega),if_pos (by omega),e1,if_pos (by omega),if_pos (by omega),at_pt t i hit,at_pt t (i - 1) (by omega),hpt,Option.bind_some]
theorem pay0 (t : List Pnt) (s : ByteArray) (hz : ∀ x ∈ ddec s,x.size ≤ 200) (hD : (ddec s).length < 1000000000) (v : List Int) : ∀ (d i : Nat) (out : List Int),d + i = (ddec s).length → out.length + 300 * d ≤ 100000000000000 →
  Ev (fun k => block_payload.l1 k t (out ++ ((ddec s).drop i).flatMap MBlob.bbytes) t (t.length : Int) 0 s) v → Ev (fun k => block_payload.l0 k t out (ddec s) ((ddec s).length : Int) (i : Int) s) v
 | 0,i,out => fun hd hl hv => by
  rw [List.drop_eq_nil_of_le (by omega),List.flatMap_nil,List.append_nil] at hv
  refine Ev.step (f:=fun k => block_payload.l1 k t out t (t.length : Int) 0 s) (fun k => ?_) hv
  simp only [block_payload.l0]
  rw [if_neg (by omega)]
 | d + 1,i,out => fun hd hl hv => by
  have hi : i < (ddec s).length:=by omega
  rw [List.drop_eq_getElem_cons hi,List.flatMap_cons,← List.append_assoc] at hv
  have hsz:=hz _ (List.getElem_mem hi)
  have h1:=MW.wbytes_le10 (m:=((ddec s)[i]).size) (by omega)
  have hbl:=MBlob.bbytes_len (ddec s)[i]
  have ih:=pay0 t s hz hD v d (i + 1) (out ++ MBlob.bbytes (ddec s)[i]) (by omega) (by rw [List.length_append];omega) hv
  refine Ev.step (f:=fun k => block_payload.l0 k t (out ++ MBlob.bbytes (ddec s)[i]) (ddec s) ((ddec s).length : Int) ((i + 1 : Nat) : Int) s) (fun k => ?_) ih
  simp only [block_payload.l0]
  rw [if_pos (by omega),if_pos (by omega),if_pos (by omega),at_s _ i hi,MBlob.put_bytes out _ (by omega) (by omega),Option.bind_some,w64 (by omega) (by omega)]
  rfl
theorem strs_ok {t : List Pnt} {sig : List Pred} (hP : ∀ p ∈ t,OkP sig p) : ∀ x ∈ strs t,x.size ≤ 200:=by
 intro x hx
 obtain ⟨p,hp,hx⟩:=List.mem_flatMap.1 hx
 obtain ⟨e,he,hx⟩:=List.mem_flatMap.1 hx
 obtain ⟨a,ha,hx⟩:=List.mem_filterMap.1 hx
 unfold strA at hx
 split at hx
 ·obtain rfl:=Option.some.inj hx
  rename_i h2
  rcases ((hP p hp).2 e he).2.2.2 a ha with h | h
  ·omega
  ·exact h.2.2
 ·cases hx
theorem flat_le {α β : Type} {f : α → List β} {c : Nat} : ∀ (l : List α),(∀ x ∈ l,(f x).length ≤ c) → (l.flatMap f).length ≤ c * l.length
 | [],_ => by simp
 | x :: l,h => by
  have h1:=h x List.mem_cons_self
  have h2:=flat_le l (fun y hy => h y (List.mem_cons_of_mem _ hy))
  rw [List.flatMap_cons,List.length_append,List.length_cons,Nat.mul_add]
  omega
theorem strs_len {t : List Pnt} {sig : List Pred} (hP : ∀ p ∈ t,OkP sig p) (ht : t.length ≤ 1024) : (strs t).length ≤ 8388608:=by
 have h1:=flat_le (f:=strsP) (c:=8192) t (fun p hp => by
  have h2:=flat_le (f:=strsE) (c:=8) p.f1 (fun e he => by
   have h3:=((hP p hp).2 e he).2.1
   have h4:=List.length_filterMap_le strA e.f1
   unfold strsE
   omega)
  have h5:=(hP p hp).1
  unfold strsP
  omega)
 unfold strs
 omega
theorem pt_in {t : List Pnt} {sig : List Pred} (hsig : sig.length ≤ 64) (hf : FitsT t) (hn : ∀ p ∈ t,∀ e ∈ p.f1,∀ a ∈ e.f1,-9223372036854775808 ≤ a.f1 ∧ a.f1 ≤ 9223372036854775807) (hP : ∀ p ∈ t,OkP sig p) : ∀ p ∈ t,PtIn (dict t) p:=by
 intro p hp
 obtain ⟨h0,_,_⟩:=hf.2 p hp
 obtain ⟨h1,h2⟩:=hP p hp
 refine ⟨h0,h1,fun e he => ?_⟩
 obtain ⟨h3,h4,_,h5⟩:=h2 e he
 refine ⟨⟨h3.1,by omega⟩,h4,fun a ha => ⟨h5 a ha,hn p hp e he a ha,fun h6 => ?_⟩⟩
 unfold dict
 rw [mem_puts]
 refine .inr (List.mem_flatMap.2 ⟨p,hp,List.mem_flatMap.2 ⟨e,he,List.mem_filterMap.2 ⟨a,ha,?_⟩⟩⟩)
 exact if_pos h6
theorem payload_ev (t : List Pnt) (sig : List Pred) (hsig : sig.length ≤ 64) (hf : FitsT t) (hn : ∀ p ∈ t,∀ e ∈ p.f1,∀ a ∈ e.f1,-9223372036854775808 ≤ a.f1 ∧ a.f1 ≤ 9223372036854775807) (h0 : 0 < t.length) (ht : t.length ≤ 1024) (hP : ∀ p ∈ t,OkP sig p) : Ev (fun k => block_payload.f k t) (pay t):=by
 have hln:=strs_len hP ht
 have hd:=of_dec t
 have hpl:=puts_len (strs t) []
 simp only [List.length_nil,Nat.zero_add] at hpl
 have hdl : (dict t).length ≤ 8388608:=by unfold dict;omega
 have hD : ddec (putsS (denc []) (strs t)) = dict t:=hd
 have hall : dict_Dict_All.f (putsS (denc []) (strs t)) = some (dict t,putsS (denc []) (strs t)):=by unfold dict_Dict_All.f;rw [hD,if_pos (by omega)]
 have hin:=pt_in hsig hf hn hP
 have hp0:=hin _ (List.getElem_mem h0)
 have w1:=MW.wbytes_le10 (m:=t[0].f0.toNat) (by have:=hp0.1;omega)
 have w2:=MW.wbytes_le10 (m:=t.length) (by omega)
 have w3:=MW.wbytes_le10 (m:=(dict t).length) (by omega)
 have hdb:=flat_le (f:=MBlob.bbytes) (c:=210) (dict t) (fun x hx => by
  have h1 : x.size ≤ 200:=strs_ok hP x (((mem_puts _).1 hx).resolve_left (by simp))
  have h2:=MW.wbytes_le10 (m:=x.size) (by omega)
  rw [MBlob.bbytes_len]
  omega)
 have hpb:=ptB_len (D:=dict t) (by omega) hp0
 have hr:=pay1 t ht (putsS (denc []) (strs t)) (by rw [hD];omega) (by rw [hD];exact hin) (t.length - 1) 1 (((((wbytes t[0].f0.toNat ++ wbytes t.length) ++ wbytes (dict t).length) ++ (dict t).flatMap MBlob.bbytes)) ++ ptB (dict t) t[0]) (by omega) (by omega) (by simp only [List.length_append];omega)
 rw [hD] at hr
 have e : pay t = (((((wbytes t[0].f0.toNat ++ wbytes t.length) ++ wbytes (dict t).length) ++ (dict t).flatMap MBlob.bbytes)) ++ ptB (dict t) t[0]) ++ restB (dict t) t 1:=by
  obtain ⟨p,r,rfl⟩ : ∃ p r,t = p :: r:=by
   cases t with
   | nil => simp at h0
   | cons p r => exact ⟨p,r,rfl⟩
  unfold pay tailB restB
  rw [dif_pos ⟨by omega,by simp⟩]
  simp [List.append_assoc]
 rw [e]
 have h1 : Ev (fun k => block_payload.l1 k t ((((wbytes t[0].f0.toNat ++ wbytes t.length) ++ wbytes (dict t).length) ++ (dict t).flatMap MBlob.bbytes)) t (t.length : Int) 0 (putsS (denc []) (strs t))) ((((((wbytes t[0].f0.toNat ++ wbytes t.length) ++ wbytes (dict t).length) ++ (dict t).flatMap MBlob.bbytes)) ++ ptB (dict t) t[0]) ++ restB (dict t) t 1):=by
  have hj:=payj t 0 (by omega) t[0] (putsS (denc []) (strs t)) (by rw [hD];omega) (by rw [hD];exact hp0) _ ((((wbytes t[0].f0.toNat ++ wbytes t.length) ++ wbytes (dict t).length) ++ (dict t).flatMap MBlob.bbytes)) (by simp only [List.length_append];omega) (by rw [hD];exact hr)
  refine Ev.step (f:=fun k => block_payload.j2 k t ((((wbytes t[0].f0.toNat ++ wbytes t.length) ++ wbytes (dict t).length) ++ (dict t).flatMap MBlob.bbytes)) t (t.length : Int) 0 (putsS (denc []) (strs t)) t[0].f0 t[0].f1) (fun k => ?_) hj
  simp only [block_payload.l1]
  have e0 : rd_T56 t 0 = t[0]:=at_pt t 0 h0
  rw [if_pos (by omega),if_pos (by omega),if_pos (by omega),if_neg (by omega),e0]
 have h2:=pay0 t (putsS (denc []) (strs t)) (by rw [hD];intro x hx;exact strs_ok hP x (((mem_puts _).1 hx).resolve_left (by simp))) (by rw [hD];omega) _ (dict t).length 0 ((wbytes t[0].f0.toNat ++ wbytes t.length) ++ wbytes (dict t).length) (by rw [hD];omega) (by simp only [List.length_append];omega) (by rw [hD,List.drop_zero];exact h1)
 unfold block_payload.f
 refine Ev.bind (of_ev t hf (by omega)) ?_
 rw [hD] at h2
 have e0 : rd_T56 t 0 = t[0]:=at_pt t 0 h0
 have q1:=MW.put_eq [] t[0].f0.toNat (by simp) (by have:=hp0.1;omega)
 rw [Int.toNat_of_nonneg hp0.1.1] at q1
 refine Ev.congr (fun k => ?_) h2
 simp only [hall,Option.bind_some]
 rw [if_pos (by omega),e0,q1]
 simp only [Option.bind_some,List.nil_append]
 rw [wu64 (x:=(t.length : Int)) (by omega) (by omega),MW.put_eq _ t.length (by omega) (by omega)]
 simp only [Option.bind_some]
 rw [wu64 (x:=((dict t).length : Int)) (by omega) (by omega),MW.put_eq _ (dict t).length (by rw [List.length_append];omega) (by omega)]
 rfl

/-! ### the calls -/
def bput (sig : List Pred) (t : List Pnt) : List Int × Int :=
 if t.length = 0 then ([],1) else if (MTrace.tcheck sig t).1 = 0 then (if t.length > 1024 then ([],6) else if (pay t).length > 4096 then ([],6) else (pay t,0)) else ([],(MTrace.tcheck sig t).1)
def FitsN (t : List Pnt) : Prop:=FitsT t ∧ ∀ p ∈ t,∀ e ∈ p.f1,∀ a ∈ e.f1,-9223372036854775808 ≤ a.f1 ∧ a.f1 ≤ 9223372036854775807
theorem sig64 {sig : List Pred} (h : MSig.check sig = 0) : sig.length ≤ 64:=by
 unfold MSig.check at h
 split at h
 ·cases h
 ·omega
theorem bput_ev (sig : List Pred) (hs : MSig.Short sig) (t : List Pnt) (hf : FitsN t) : Ev (fun k => block_Put.f k sig t) (bput sig t):=by
 have hfit : MTrace.Fits t:=hf.1.fits
 have hlt:=hf.1.1
 unfold block_Put.f bput
 by_cases h0 : t.length = 0
 ·rw [if_pos h0]
  refine Ev.congr (f:=fun _ => some ([],1)) (fun k => ?_) (Ev.now _)
  unfold block_whole.f
  rw [if_pos (by omega)]
  rfl
 ·rw [if_neg h0]
  have hck:=MTrace.tcheck_ev sig hs t hfit (by omega)
  by_cases hc : (MTrace.tcheck sig t).1 = 0
  ·rw [if_pos hc]
   obtain ⟨k1,k2,k3⟩:=tcheck_ok hc
   by_cases hl : t.length > 1024
   ·rw [if_pos hl]
    refine Ev.bind (a:=([],6)) ?_ (Ev.congr (f:=fun _ => some ([],6)) (fun k => rfl) (Ev.now _))
    unfold block_whole.f
    refine Ev.congr (fun k => by rw [if_neg (by omega)]) (Ev.bind hck ?_)
    refine Ev.congr (f:=fun _ => some ([],6)) (fun k => ?_) (Ev.now _)
    rw [if_pos hc,if_pos (by omega)]
   ·rw [if_neg hl]
    have hpay:=payload_ev t sig (sig64 k1) hf.1 hf.2 (by omega) (by omega) k2
    refine Ev.bind (a:=(pay t,0)) ?_ ?_
    ·unfold block_whole.f
     refine Ev.congr (fun k => by rw [if_neg (by omega)]) (Ev.bind hck ?_)
     refine Ev.congr (f:=fun k => (block_payload.f k t).bind fun x => some (x,0)) (fun k => ?_) (Ev.bind hpay (Ev.now _))
     rw [if_pos hc,if_neg (by omega)]
    ·simp only [if_true]
     by_cases hb : (pay t).length > 4096
     ·rw [if_pos hb]
      exact Ev.congr (f:=fun _ => some ([],6)) (fun k => by rw [if_pos (by omega)]) (Ev.now _)
     ·rw [if_neg hb]
      exact Ev.congr (f:=fun _ => some (pay t,0)) (fun k => by rw [if_neg (by omega)]) (Ev.now _)
  ·rw [if_neg hc]
   refine Ev.bind (a:=([],(MTrace.tcheck sig t).1)) ?_ (Ev.congr (f:=fun _ => some ([],(MTrace.tcheck sig t).1)) (fun k => by rw [if_neg hc]) (Ev.now _))
   unfold block_whole.f
   refine Ev.congr (fun k => by rw [if_neg (by omega)]) (Ev.bind hck ?_)
   refine Ev.congr (f:=fun _ => some ([],(MTrace.tcheck sig t).1)) (fun k => ?_) (Ev.now _)
   rw [if_neg hc]
end Go.Proofs.Ytmmfakdncjeoeaa.MBlock
-- NARROW
set_option linter.unusedVariables false
namespace Go.Proofs.Ytmmfakdncjeoeaa.MCursor
open Go.RowKit Go.Proofs.Ytmmfakdncjeoeaa.PU Go.Proofs.Ytmmfakdncjeoeaa.MW Go.Proofs.Ytmmfakdncjeoeaa.MBlob Go.Proofs.YtmmfakdncjeoeaaW.PrintWords Go.Proofs.YtmmfakdncjeoeaaW.PrintLast Go.Proofs.YtmmfakdncjeoeaaW.PrintMore Go.Proofs.YtmmfakdncjeoeaaAid

def tk {τ : Type} (none_ : τ) (G : List Int → τ × Int × Int) (s : ByteArray) (at_ e : Int) : τ × Int × Int :=
 if e = 0 then (if (G ((bytesOf s).drop at_.toNat)).2.2 = 0 then ((G ((bytesOf s).drop at_.toNat)).1,at_ + (G ((bytesOf s).drop at_.toNat)).2.1,0) else (none_,at_,(G ((bytesOf s).drop at_.toNat)).2.2)) else (none_,at_,e)

def Fits {τ : Type} (G : List Int → τ × Int × Int) : Prop:=∀ y,Byt y → y.length ≤ 140737488355328 → (G y).2.2 = 0 → 0 ≤ (G y).2.1 ∧ (G y).2.1 ≤ (y.length : Int)

theorem ext_end (s : ByteArray) (at_ : Int) (h0 : 0 ≤ at_) (h1 : at_ ≤ (s.size : Int)) : bytesOf (s.extract at_.toNat s.size) = (bytesOf s).drop at_.toNat:=by
 unfold bytesOf
 rw [ByteArray.data_extract,Array.toList_extract,List.map_take,List.map_drop,List.take_of_length_le]
 rw [List.length_drop,List.length_map,data_length]
 exact Nat.le_refl _

theorem take_ev {τ : Type} (none_ : τ) (s : ByteArray) (at_ e : Int) (hs : s.size ≤ 140737488355328) (h0 : 0 ≤ at_) (h1 : at_ ≤ (s.size : Int)) (get : Nat → List Int → Option (τ × Int × Int)) (G : List Int → τ × Int × Int)
  (hg : ∀ y,Byt y → y.length ≤ 140737488355328 → Ev (fun k => get k y) (G y)) (hG : Fits G) :
  Ev (fun k => cursor_take_out none_ s at_ e (get k)) ((tk none_ G s at_ e).1,s,(tk none_ G s at_ e).2.1,(tk none_ G s at_ e).2.2):=by
 by_cases he : e = 0
 ·subst he
  have hl:=bytesOf_length s
  have hx:=ext_end s at_ h0 h1
  have hxs : (s.extract at_.toNat s.size).size ≤ 9223372036854775807:=by rw [← bytesOf_length,hx,List.length_drop];omega
  have hy : ((bytesOf s).drop at_.toNat).length ≤ 140737488355328:=by rw [List.length_drop];omega
  have hev:=hg ((bytesOf s).drop at_.toNat) ((byt_bytesOf s).drop _) hy
  refine Ev.congr (fun k => by unfold cursor_take_out;rw [if_pos rfl,if_pos h0,if_pos h1,if_pos hxs,hx]) (Ev.bind hev ?_)
  unfold tk
  rw [if_pos rfl]
  by_cases h2 : (G ((bytesOf s).drop at_.toNat)).2.2 = 0
  ·have hb:=hG _ ((byt_bytesOf s).drop _) hy h2
   rw [List.length_drop] at hb
   refine Ev.congr (fun k => ?_) (Ev.now _)
   rw [if_pos h2,if_pos h2,w64 (by omega) (by omega)]
  ·refine Ev.congr (fun k => ?_) (Ev.now _)
   rw [if_neg h2,if_neg h2]
 ·unfold tk
  rw [if_neg he]
  refine Ev.congr (fun k => ?_) (Ev.now _)
  unfold cursor_take_out
  rw [if_neg he]

theorem tk_bounds {τ : Type} (none_ : τ) {G : List Int → τ × Int × Int} (hG : Fits G) (s : ByteArray) (at_ e : Int) (hs : s.size ≤ 140737488355328) (h0 : 0 ≤ at_) (h1 : at_ ≤ (s.size : Int)) :
  at_ ≤ (tk none_ G s at_ e).2.1 ∧ (tk none_ G s at_ e).2.1 ≤ (s.size : Int) ∧ (e ≠ 0 → (tk none_ G s at_ e).2.1 = at_ ∧ (tk none_ G s at_ e).2.2 = e):=by
 unfold tk
 by_cases he : e = 0
 ·rw [if_pos he]
  by_cases h2 : (G ((bytesOf s).drop at_.toNat)).2.2 = 0
  ·have hl:=bytesOf_length s
   have hb:=hG _ ((byt_bytesOf s).drop _) (by rw [List.length_drop];omega) h2
   rw [List.length_drop] at hb
   rw [if_pos h2]
   exact ⟨by dsimp only;omega,by dsimp only;omega,fun h => absurd he h⟩
  ·rw [if_neg h2]
   exact ⟨Int.le_refl _,h1,fun h => absurd he h⟩
 ·rw [if_neg he]
  exact ⟨Int.le_refl _,h1,fun _ => ⟨rfl,rfl⟩⟩

/-! ### a number -/
theorem wget_fits : Fits wget:=by
 intro y hy _ h
 obtain ⟨n,p,e,hq⟩ : ∃ n p e,wget y = (n,p,e):=⟨_,_,_,rfl⟩
 rw [hq] at h ⊢
 dsimp only at h
 subst h
 obtain ⟨m,_,_,rfl,hle,_⟩:=wget_back hy hq
 dsimp only
 omega
def gNum (most : Int) (y : List Int) : Int × Int × Int:=if (wget y).2.2 = 0 then (if (wget y).1 > most then ((wget y).1,(wget y).2.1,6) else wget y) else wget y
theorem gNum_fits (most : Int) : Fits (gNum most):=by
 intro y hy hl h
 unfold gNum at h ⊢
 by_cases h0 : (wget y).2.2 = 0
 ·rw [if_pos h0] at h ⊢
  by_cases h1 : (wget y).1 > most
  ·rw [if_pos h1] at h;exact absurd h (by simp)
  ·rw [if_neg h1];exact wget_fits y hy hl h0
 ·rw [if_neg h0] at h;exact absurd h h0
theorem gNum_ev (most : Int) (y : List Int) (hy : Byt y) : Ev (fun k => cursor_Cursor_Number_1.f k y most) (gNum most y):=by
 refine Ev.congr (fun k => by unfold cursor_Cursor_Number_1.f;rfl) (Ev.bind (MW.get_ev y hy) ?_)
 refine Ev.congr (f:=fun _ => some (gNum most y)) (fun k => ?_) (Ev.now _)
 unfold gNum
 by_cases h0 : (wget y).2.2 = 0
 ·rw [if_pos h0,if_pos h0]
  by_cases h1 : (wget y).1 > most
  ·rw [if_pos h1,if_pos h1]
  ·rw [if_neg h1,if_neg h1]
 ·rw [if_neg h0,if_neg h0]
theorem number_ev (s : ByteArray) (at_ e most : Int) (hs : s.size ≤ 140737488355328) (h0 : 0 ≤ at_) (h1 : at_ ≤ (s.size : Int)) : Ev (fun k => cursor_Cursor_Number.f k s at_ e most) ((tk 0 (gNum most) s at_ e).1,s,(tk 0 (gNum most) s at_ e).2.1,(tk 0 (gNum most) s at_ e).2.2) :=
 take_ev 0 s at_ e hs h0 h1 (fun k y => cursor_Cursor_Number_1.f k y most) (gNum most) (fun y hy _ => gNum_ev most y hy) (gNum_fits most)

/-! ### a signed one -/
theorem signed_ev (s : ByteArray) (at_ e : Int) (hs : s.size ≤ 140737488355328) (h0 : 0 ≤ at_) (h1 : at_ ≤ (s.size : Int)) (u : Int) (hu : wire_Unfold.f (tk 0 wget s at_ e).1 = some u) : Ev (fun k => cursor_Cursor_Signed.f k s at_ e) (u,s,(tk 0 wget s at_ e).2.1,(tk 0 wget s at_ e).2.2):=by
 refine Ev.congr (fun k => by unfold cursor_Cursor_Signed.f;rfl) (Ev.bind (take_ev 0 s at_ e hs h0 h1 (fun k y => wire_Get.f k y) wget (fun y hy _ => MW.get_ev y hy) wget_fits) ?_)
 refine Ev.congr (fun k => ?_) (Ev.now _)
 rw [hu,Option.bind_some]
/-! ### a text -/
theorem bget_fits (most : Int) : Fits (fun y => bget y most):=by
 intro y hy _ h
 dsimp only at h ⊢
 obtain ⟨t,n,e,hq⟩ : ∃ t n e,bget y most = (t,n,e):=⟨_,_,_,rfl⟩
 rw [hq] at h ⊢
 dsimp only at h
 subst h
 obtain ⟨rfl,hle,_⟩:=bget_back hy hq
 dsimp only
 omega
theorem gText_ev (most : Int) (hm : -9223372036854775808 ≤ most ∧ most < 9223372036854775808) (y : List Int) (hy : Byt y) (hl : y.length ≤ 140737488355328) : Ev (fun k => cursor_Cursor_Text_1.f k y most) (bget y most):=by
 refine Ev.congr (fun k => by unfold cursor_Cursor_Text_1.f;rfl) (Ev.bind (get_ev y hy hl most hm) ?_)
 exact Ev.now _
theorem text_ev (s : ByteArray) (at_ e most : Int) (hm : -9223372036854775808 ≤ most ∧ most < 9223372036854775808) (hs : s.size ≤ 140737488355328) (h0 : 0 ≤ at_) (h1 : at_ ≤ (s.size : Int)) : Ev (fun k => cursor_Cursor_Text.f k s at_ e most) ((tk nobytes (fun y => bget y most) s at_ e).1,s,(tk nobytes (fun y => bget y most) s at_ e).2.1,(tk nobytes (fun y => bget y most) s at_ e).2.2) :=
 take_ev nobytes s at_ e hs h0 h1 (fun k y => cursor_Cursor_Text_1.f k y most) (fun y => bget y most) (fun y hy hl => gText_ev most hm y hy hl) (bget_fits most)

/-! ### all read -/
theorem done_eq (s : ByteArray) (at_ e : Int) (hs : s.size ≤ 140737488355328) (h0 : 0 ≤ at_) (h1 : at_ ≤ (s.size : Int)) : cursor_Cursor_Done.f s at_ e = some (if at_ < (s.size : Int) ∧ e = 0 then (false,s,at_,4) else (e == 0,s,at_,e)):=by
 unfold cursor_Cursor_Done.f cursor_Cursor_Left.f cursor_Cursor_Stop.f
 simp only [Option.bind_some]
 rw [w64 (by omega) (by omega)]
 by_cases h2 : at_ < (s.size : Int)
 ·rw [if_pos (by omega)]
  by_cases h3 : e = 0
  ·rw [if_pos h3,if_pos ⟨h2,h3⟩];rfl
  ·rw [if_neg h3,if_neg (fun h => h3 h.2)];rfl
 ·rw [if_neg (by omega),if_neg (fun h => h2 h.1)]
theorem stop_eq (s : ByteArray) (at_ e n : Int) : cursor_Cursor_Stop.f s at_ e n = some (s,at_,if e = 0 then n else e):=by
 unfold cursor_Cursor_Stop.f
 by_cases h : e = 0
 ·rw [if_pos h,if_pos h]
 ·rw [if_neg h,if_neg h]
end Go.Proofs.Ytmmfakdncjeoeaa.MCursor
-- NARROW
set_option linter.unusedVariables false
namespace Go.Proofs.Ytmmfakdncjeoeaa.MUnblock
open Go.RowKit Go.Proofs.Ytmmfakdncjeoeaa.PU Go.Proofs.Ytmmfakdncjeoeaa.MPts Go.Proofs.Ytmmfakdncjeoeaa.MPut Go.Proofs.Ytmmfakdncjeoeaa.MBlock Go.Proofs.Ytmmfakdncjeoeaa.MBlob Go.Proofs.Ytmmfakdncjeoeaa.MCursor Go.Proofs.Ytmmfakdncjeoeaa.MBase Go.Proofs.YtmmfakdncjeoeaaAid Go.Proofs.YtmmfakdncjeoeaaW.PrintWords Go.Proofs.YtmmfakdncjeoeaaW.PrintLast Go.Proofs.YtmmfakdncjeoeaaW.PrintMore

abbrev In (s : ByteArray) (a : Int) : Prop:=0 ≤ a ∧ a ≤ (s.size : Int)
theorem num_val (s : ByteArray) (a e most : Int) (hm : 0 ≤ most) : 0 ≤ (tk (0 : Int) (gNum most) s a e).1 ∧ (tk (0 : Int) (gNum most) s a e).1 ≤ most:=by
 unfold tk
 by_cases he : e = 0
 ·rw [if_pos he]
  by_cases h : (gNum most ((bytesOf s).drop a.toNat)).2.2 = 0
  ·rw [if_pos h]
   have hy : MW.Byt ((bytesOf s).drop a.toNat):=(MW.byt_bytesOf s).drop _
   generalize (bytesOf s).drop a.toNat = y at h hy ⊢
   unfold gNum at h ⊢
   by_cases h1 : (MW.wget y).2.2 = 0
   ·rw [if_pos h1] at h ⊢
    by_cases h2 : (MW.wget y).1 > most
    ·rw [if_pos h2] at h
     exact absurd h (by intro h';cases h')
    ·rw [if_neg h2]
     obtain ⟨m,h3,_⟩:=MW.wget_back hy (n:=(MW.wget y).1) (k:=(MW.wget y).2.1) (by rw [← h1])
     dsimp only
     omega
   ·rw [if_neg h1] at h
    exact absurd h h1
  ·rw [if_neg h]
   exact ⟨Int.le_refl _,hm⟩
 ·rw [if_neg he]
  exact ⟨Int.le_refl _,hm⟩
theorem wget_val (s : ByteArray) (a e : Int) : 0 ≤ (tk (0 : Int) MW.wget s a e).1 ∧ (tk (0 : Int) MW.wget s a e).1 < 18446744073709551616:=by
 unfold tk
 by_cases he : e = 0
 ·rw [if_pos he]
  by_cases h : (MW.wget ((bytesOf s).drop a.toNat)).2.2 = 0
  ·rw [if_pos h]
   obtain ⟨m,h3,h4,_⟩:=MW.wget_back ((MW.byt_bytesOf s).drop a.toNat) (n:=(MW.wget ((bytesOf s).drop a.toNat)).1) (k:=(MW.wget ((bytesOf s).drop a.toNat)).2.1) (by rw [← h])
   dsimp only
   omega
  ·rw [if_neg h]
   exact ⟨Int.le_refl _,by dsimp only;omega⟩
 ·rw [if_neg he]
  exact ⟨Int.le_refl _,by dsimp only;omega⟩
theorem text_val (s : ByteArray) (a e : Int) (m : Nat) : (tk nobytes (fun y => bget y (m : Int)) s a e).1.size ≤ m:=by
 unfold tk
 by_cases he : e = 0
 ·rw [if_pos he]
  by_cases h : (bget ((bytesOf s).drop a.toNat) (m : Int)).2.2 = 0
  ·rw [if_pos h]
   obtain ⟨_,_,_,h4⟩:=bget_back ((MW.byt_bytesOf s).drop a.toNat) (most:=(m : Int)) (t:=(bget ((bytesOf s).drop a.toNat) (m : Int)).1) (n:=(bget ((bytesOf s).drop a.toNat) (m : Int)).2.1) (by rw [← h])
   rw [if_neg (by omega)] at h4
   dsimp only
   omega
  ·rw [if_neg h]
   exact Nat.zero_le _
 ·rw [if_neg he]
  exact Nat.zero_le _

section
variable (s : ByteArray) (hs : s.size ≤ 140737488355328)
include hs
theorem num_x (most a e : Int) (hm : 0 ≤ most) (h : In s a) : ∃ v a' e',Ev (fun k => cursor_Cursor_Number.f k s a e most) (v,s,a',e') ∧ (0 ≤ v ∧ v ≤ most) ∧ In s a':=by
 have hb:=tk_bounds (0 : Int) (gNum_fits most) s a e hs h.1 h.2
 exact ⟨_,_,_,number_ev s a e most hs h.1 h.2,num_val s a e most hm,by have:=h.1;omega,hb.2.1⟩
theorem any_x (a e : Int) (h : In s a) : ∃ v a' e',Ev (fun k => unblock_reader_any.f k s a e) (v,s,a',e') ∧ (0 ≤ v ∧ v < 18446744073709551616) ∧ In s a':=by
 obtain ⟨v,a',e',h1,h2,h3⟩:=num_x s hs 18446744073709551615 a e (by omega) h
 exact ⟨v,a',e',Ev.bind h1 (Ev.now _),⟨h2.1,by omega⟩,h3⟩
theorem count_x (most : Int) (hm : 0 ≤ most) (hm2 : most ≤ 1000000) (a e : Int) (h : In s a) : ∃ (v : Nat) (a' e' : Int),Ev (fun k => unblock_reader_count.f k s a e most) ((v : Int),s,a',e') ∧ (v : Int) ≤ most ∧ In s a':=by
 obtain ⟨v,a',e',h1,h2,h3⟩:=num_x s hs most a e hm h
 refine ⟨v.toNat,a',e',?_,by omega,h3⟩
 refine Ev.bind h1 (Ev.congr (f:=fun _ => some (((v.toNat : Nat) : Int),s,a',e')) (fun k => ?_) (Ev.now _))
 rw [w64 (by omega) (by omega)]
 simp only [Int.toNat_of_nonneg h2.1]
theorem signed_x (a e : Int) (h : In s a) : ∃ v a' e',Ev (fun k => cursor_Cursor_Signed.f k s a e) (v,s,a',e') ∧ (-9223372036854775808 ≤ v ∧ v < 9223372036854775808) ∧ In s a':=by
 have hb:=tk_bounds (0 : Int) wget_fits s a e hs h.1 h.2
 have hv:=wget_val s a e
 exact ⟨_,_,_,signed_ev s a e hs h.1 h.2 _ (MFold.unfold_eq hv.1 hv.2),MFold.unfoldN_range hv.1 hv.2,by have:=h.1;omega,hb.2.1⟩
theorem text_x (a e : Int) (h : In s a) : ∃ (v : ByteArray) (a' e' : Int),Ev (fun k => cursor_Cursor_Text.f k s a e 200) (v,s,a',e') ∧ v.size ≤ 200 ∧ In s a':=by
 have hb:=tk_bounds nobytes (bget_fits 200) s a e hs h.1 h.2
 exact ⟨_,_,_,text_ev s a e 200 (by omega) hs h.1 h.2,text_val s a e 200,by have:=h.1;omega,hb.2.1⟩

def ArgFit (g : Argm) : Prop:=(-9223372036854775808 ≤ g.f1 ∧ g.f1 ≤ 9223372036854775807) ∧ g.f2.size ≤ 140737488351232
theorem arg_x (t : Int) (D : List ByteArray) (hD : D.length ≤ 10000) (hz : ∀ x ∈ D,x.size ≤ 200) (a e : Int) (h : In s a) : ∃ (g : Argm) (a' e' : Int),Ev (fun k => unblock_reader_arg.f k s a e t D) (g.f0,g.f1,g.f2,s,a',e') ∧ ArgFit g ∧ In s a':=by
 unfold unblock_reader_arg.f
 by_cases ht : t = 1
 ·simp only [if_pos ht]
  obtain ⟨v,a',e',h1,h2,h3⟩:=signed_x s hs a e h
  exact ⟨⟨t,v,⟨#[]⟩⟩,a',e',Ev.bind h1 (Ev.now _),⟨⟨h2.1,by dsimp only;omega⟩,Nat.zero_le _⟩,h3⟩
 ·simp only [if_neg ht]
  obtain ⟨v,a',e',h1,h2,h3⟩:=any_x s hs a e h
  by_cases hv : v ≥ IntKind.u64.wrap (D.length : Int)
  ·refine ⟨⟨t,0,⟨#[]⟩⟩,a',(if e' = 0 then 10 else e'),Ev.bind h1 ?_,⟨by dsimp only;omega,Nat.zero_le _⟩,h3⟩
   simp only [if_pos hv,stop_eq]
   exact Ev.now _
  ·have hv2:=hv
   rw [wu64 (by omega) (by omega)] at hv2
   obtain ⟨n,rfl⟩:=Int.eq_ofNat_of_zero_le h2.1
   have hn : n < D.length:=by omega
   refine ⟨⟨t,0,D[n]⟩,a',e',Ev.bind h1 ?_,⟨by dsimp only;omega,by have:=hz _ (List.getElem_mem hn);dsimp only;omega⟩,h3⟩
   simp only [if_neg hv]
   rw [if_pos h2.1,if_pos (by omega),at_s D n hn]
   exact Ev.now _

def EvtFit (g : Evt) : Prop:=(-9223372036854775808 ≤ g.f0 ∧ g.f0 ≤ 9223372036854775807) ∧ g.f1.length ≤ 8 ∧ ∀ x ∈ g.f1,ArgFit x
theorem args_x (ts : List Int) (hts : ts.length ≤ 8) (id : Int) (D : List ByteArray) (hD : D.length ≤ 10000) (hz : ∀ x ∈ D,x.size ≤ 200) : ∀ (d i : Nat) (acc : List Argm) (a e : Int),d + i = ts.length → acc.length = i → (∀ x ∈ acc,ArgFit x) → In s a →
  ∃ (r : List Argm) (a' e' : Int),Ev (fun k => unblock_reader_event.l0 k D ts (ts.length : Int) (i : Int) s a e id acc) (id,r,s,a',e') ∧ r.length ≤ 8 ∧ (∀ x ∈ r,ArgFit x) ∧ In s a'
 | 0,i,acc,a,e => fun hd hl hx h => by
  refine ⟨acc,a,e,Ev.step (f:=fun _ => some (id,acc,s,a,e)) (fun k => ?_) (Ev.now _),by omega,hx,h⟩
  simp only [unblock_reader_event.l0]
  rw [if_neg (by omega)]
 | d + 1,i,acc,a,e => fun hd hl hx h => by
  obtain ⟨g,a1,e1,h1,h2,h3⟩:=arg_x s hs (rd ts (i : Int)) D hD hz a e h
  obtain ⟨r,a2,e2,h4,h5,h6,h7⟩:=args_x ts hts id D hD hz d (i + 1) (acc ++ [g]) a1 e1 (by omega) (by simp [hl]) (fun x hh => by
   rcases List.mem_append.1 hh with hh | hh
   ·exact hx x hh
   ·rw [List.mem_singleton] at hh;subst hh;exact h2) h3
  refine ⟨r,a2,e2,Ev.step (f:=fun k => (unblock_reader_arg.f k s a e (rd ts (i : Int)) D).bind fun bt => unblock_reader_event.l0 k D ts (ts.length : Int) ((i + 1 : Nat) : Int) bt.2.2.2.1 bt.2.2.2.2.1 bt.2.2.2.2.2 id (acc ++ [(⟨bt.1,bt.2.1,bt.2.2.1⟩ : Argm)])) (fun k => ?_) (Ev.bind h1 h4),h5,h6,h7⟩
  simp only [unblock_reader_event.l0]
  rw [if_pos (by omega),if_pos (by omega),if_pos (by omega),w64 (by omega) (by omega)]
  simp only [if_pos (show acc.length < 4398046511104 by omega)]
  rfl
theorem event_x (sig : List Pred) (hsig : sig.length ≤ 64) (hp : ∀ p ∈ sig,p.f1.length ≤ 8) (D : List ByteArray) (hD : D.length ≤ 10000) (hz : ∀ x ∈ D,x.size ≤ 200) (a e : Int) (h : In s a) : ∃ (g : Evt) (a' e' : Int),Ev (fun k => unblock_reader_event.f k s a e sig D) (g.f0,g.f1,s,a',e') ∧ EvtFit g ∧ In s a':=by
 obtain ⟨v,a1,e1,h1,h2,h3⟩:=any_x s hs a e h
 unfold unblock_reader_event.f
 by_cases hv : v ≥ IntKind.u64.wrap (sig.length : Int)
 ·refine ⟨⟨0,[]⟩,a1,(if e1 = 0 then 9 else e1),Ev.bind h1 ?_,⟨by dsimp only;omega,Nat.zero_le _,fun x hx => by cases hx⟩,h3⟩
  simp only [if_pos hv,stop_eq]
  exact Ev.now _
 ·have hv2:=hv
  rw [wu64 (by omega) (by omega)] at hv2
  obtain ⟨n,rfl⟩:=Int.eq_ofNat_of_zero_le h2.1
  have hn : n < sig.length:=by omega
  have e0 : rd_T53 sig (n : Int) = sig[n]:=by rw [MSig.rd_pred,MSig.getD_eq sig n hn]
  obtain ⟨r,a2,e2,h4,h5,h6,h7⟩:=args_x s hs sig[n].f1 (hp _ (List.getElem_mem hn)) (n : Int) D hD hz sig[n].f1.length 0 [] a1 e1 (by omega) rfl (fun x hx => by cases hx) h3
  refine ⟨⟨(n : Int),r⟩,a2,e2,Ev.bind h1 ?_,⟨by dsimp only;omega,h5,h6⟩,h7⟩
  simp only [if_neg hv,if_pos h2.1,if_pos (show (n : Int) < (sig.length : Int) by omega),e0]
  rw [w64 (x:=(n : Int)) (by omega) (by omega)]
  exact h4

def PtFit (p : Pnt) : Prop:=(0 ≤ p.f0 ∧ p.f0 < 18446744073709551616) ∧ p.f1.length ≤ 1024 ∧ ∀ x ∈ p.f1,EvtFit x
def PtsFit (t : List Pnt) : Prop:=t.length ≤ 1024 ∧ ∀ p ∈ t,PtFit p
abbrev Ends (f : Nat → Option (List Pnt × ByteArray × Int × Int)) : Prop:=∃ (r : List Pnt) (a' e' : Int),Ev f (r,s,a',e') ∧ PtsFit r ∧ In s a'
omit hs in
theorem Ends.step {f g : Nat → Option (List Pnt × ByteArray × Int × Int)} (h : ∀ k,f (k + 1) = g k) (k : Ends s g) : Ends s f:=by
 obtain ⟨r,a,e,h1,h2⟩:=k
 exact ⟨r,a,e,Ev.step h h1,h2⟩
omit hs in
theorem Ends.bind {α : Type} {g : Nat → Option α} {f : Nat → α → Option (List Pnt × ByteArray × Int × Int)} {x : α} (h : Ev g x) (k : Ends s (fun n => f n x)) : Ends s (fun n => (g n).bind (f n)):=by
 obtain ⟨r,a,e,h1,h2⟩:=k
 exact ⟨r,a,e,Ev.bind h h1,h2⟩
theorem evs_x (sig : List Pred) (hsig : sig.length ≤ 64) (hp : ∀ p ∈ sig,p.f1.length ≤ 8) (D : List ByteArray) (hD : D.length ≤ 10000) (hz : ∀ x ∈ D,x.size ≤ 200) (at_ : Int) (hat : 0 ≤ at_ ∧ at_ < 18446744073709551616) (pts : List Pnt) (np i : Nat) (hnp : np ≤ 1024) (hi : i < np) (hl : pts.length = i) (hfit : ∀ p ∈ pts,PtFit p) (ne : Nat) (hne : ne ≤ 1024)
  (hnext : ∀ (acc : List Pnt) (a e : Int),acc.length = i + 1 → (∀ p ∈ acc,PtFit p) → In s a → Ends s (fun k => unblock_reader_points.l1 k sig at_ acc (np : Int) ((i + 1 : Nat) : Int) D s a e)) : ∀ (d j : Nat) (acc : List Evt) (a e : Int),d + j = ne → acc.length = j → (∀ x ∈ acc,EvtFit x) → In s a →
  Ends s (fun k => unblock_reader_points.l2 k sig at_ pts (np : Int) (i : Int) (ne : Int) (j : Int) D s a e at_ acc)
 | 0,j,acc,a,e => fun hd hal hx h => by
  refine Ends.step s (g:=fun k => unblock_reader_points.l1 k sig at_ (pts ++ [(⟨at_,acc⟩ : Pnt)]) (np : Int) ((i + 1 : Nat) : Int) D s a e) (fun k => ?_) (hnext _ a e (by simp [hl]) (fun p hh => by
   rcases List.mem_append.1 hh with hh | hh
   ·exact hfit p hh
   ·rw [List.mem_singleton] at hh;subst hh;exact ⟨hat,by dsimp only;omega,hx⟩) h)
  simp only [unblock_reader_points.l2]
  rw [if_neg (by omega),if_pos (by omega),w64 (by omega) (by omega)]
  rfl
 | d + 1,j,acc,a,e => fun hd hal hx h => by
  obtain ⟨g,a1,e1,h1,h2,h3⟩:=event_x s hs sig hsig hp D hD hz a e h
  refine Ends.step s (g:=fun k => (unblock_reader_event.f k s a e sig D).bind fun bt268 => (if acc.length < 4398046511104 then ((cursor_Cursor_Err.f bt268.2.2.1 bt268.2.2.2.1 bt268.2.2.2.2).bind fun bt278 => (if bt278.1 = 0 then (unblock_reader_points.l2 k sig at_ pts (np : Int) (i : Int) (ne : Int) (wrap64 ((j : Int) + 1)) D bt278.2.1 bt278.2.2.1 bt278.2.2.2 at_ (acc ++ [(⟨bt268.1,bt268.2.1⟩ : Evt)])) else (some (pts,bt278.2.1,bt278.2.2.1,bt278.2.2.2)))) else (none))) (fun k => ?_) (Ends.bind s h1 ?_)
  ·simp only [unblock_reader_points.l2]
   rw [if_pos (by omega)]
  ·simp only [cursor_Cursor_Err.f,Option.bind_some]
   by_cases he : e1 = 0
   ·obtain ⟨r,a2,e2,h4,h5⟩:=evs_x sig hsig hp D hD hz at_ hat pts np i hnp hi hl hfit ne hne hnext d (j + 1) (acc ++ [g]) a1 e1 (by omega) (by simp [hal]) (fun x hh => by
     rcases List.mem_append.1 hh with hh | hh
     ·exact hx x hh
     ·rw [List.mem_singleton] at hh;subst hh;exact h2) h3
    refine ⟨r,a2,e2,Ev.congr (fun k => ?_) h4,h5⟩
    rw [if_pos (by omega),if_pos he,w64 (by omega) (by omega)]
    rfl
   ·refine ⟨pts,a1,e1,Ev.congr (f:=fun _ => some (pts,s,a1,e1)) (fun k => ?_) (Ev.now _),⟨by omega,hfit⟩,h3⟩
    rw [if_pos (by omega),if_neg he]
theorem j3_x (sig : List Pred) (hsig : sig.length ≤ 64) (hp : ∀ p ∈ sig,p.f1.length ≤ 8) (D : List ByteArray) (hD : D.length ≤ 10000) (hz : ∀ x ∈ D,x.size ≤ 200) (at_ : Int) (hat : 0 ≤ at_ ∧ at_ < 18446744073709551616) (pts : List Pnt) (np i : Nat) (hnp : np ≤ 1024) (hi : i < np) (hl : pts.length = i) (hfit : ∀ p ∈ pts,PtFit p)
  (hnext : ∀ (acc : List Pnt) (a e : Int),acc.length = i + 1 → (∀ p ∈ acc,PtFit p) → In s a → Ends s (fun k => unblock_reader_points.l1 k sig at_ acc (np : Int) ((i + 1 : Nat) : Int) D s a e)) (a e : Int) (h : In s a) :
  Ends s (fun k => unblock_reader_points.j3 k sig at_ pts (np : Int) (i : Int) D s a e):=by
 obtain ⟨ne,a1,e1,h1,h2,h3⟩:=count_x s hs 1024 (by omega) (by omega) a e h
 refine Ends.step s (g:=fun k => (unblock_reader_count.f k s a e 1024).bind fun bt261 => (unblock_reader_points.l2 k sig at_ pts (np : Int) (i : Int) bt261.1 0 D bt261.2.1 bt261.2.2.1 bt261.2.2.2 at_ ([] : List Evt))) (fun k => by simp only [unblock_reader_points.j3]) (Ends.bind s h1 ?_)
 exact evs_x s hs sig hsig hp D hD hz at_ hat pts np i hnp hi hl hfit ne (by omega) hnext ne 0 [] a1 e1 (by omega) rfl (fun x hx => by cases hx) h3
theorem pts_x (sig : List Pred) (hsig : sig.length ≤ 64) (hp : ∀ p ∈ sig,p.f1.length ≤ 8) (D : List ByteArray) (hD : D.length ≤ 10000) (hz : ∀ x ∈ D,x.size ≤ 200) (np : Nat) (hnp : np ≤ 1024) : ∀ (d i : Nat) (pts : List Pnt) (at_ a e : Int),d + i = np → (0 ≤ at_ ∧ at_ < 18446744073709551616) → pts.length = i → (∀ p ∈ pts,PtFit p) → In s a →
  Ends s (fun k => unblock_reader_points.l1 k sig at_ pts (np : Int) (i : Int) D s a e)
 | 0,i,pts,at_,a,e => fun hd hat hl hfit h => by
  refine ⟨pts,a,e,Ev.step (f:=fun _ => some (pts,s,a,e)) (fun k => ?_) (Ev.now _),⟨by omega,hfit⟩,h⟩
  simp only [unblock_reader_points.l1]
  rw [if_neg (by omega)]
 | d + 1,i,pts,at_,a,e => fun hd hat hl hfit h => by
  have next : ∀ (at2 : Int),(0 ≤ at2 ∧ at2 < 18446744073709551616) → ∀ (acc : List Pnt) (a e : Int),acc.length = i + 1 → (∀ p ∈ acc,PtFit p) → In s a → Ends s (fun k => unblock_reader_points.l1 k sig at2 acc (np : Int) ((i + 1 : Nat) : Int) D s a e) :=
   fun at2 h2 acc a e hal hf hin => pts_x sig hsig hp D hD hz np hnp d (i + 1) acc at2 a e (by omega) h2 hal hf hin
  by_cases h0 : i = 0
  ·refine Ends.step s (g:=fun k => unblock_reader_points.j3 k sig at_ pts (np : Int) (i : Int) D s a e) (fun k => ?_) (j3_x s hs sig hsig hp D hD hz at_ hat pts np i hnp (by omega) hl hfit (next at_ hat) a e h)
   simp only [unblock_reader_points.l1]
   rw [if_pos (by omega),if_neg (by omega)]
  ·obtain ⟨v,a1,e1,h1,h2,h3⟩:=any_x s hs a e h
   have hw : 0 ≤ IntKind.u64.wrap (at_ + v) ∧ IntKind.u64.wrap (at_ + v) < 18446744073709551616:=by rw [IntKind.wrap_u64];omega
   refine Ends.step s (g:=fun k => (unblock_reader_any.f k s a e).bind fun bt253 => (if bt253.1 > (IntKind.u64.wrap (18446744073709551615 - at_)) then ((cursor_Cursor_Stop.f bt253.2.1 bt253.2.2.1 bt253.2.2.2 8).bind fun bt257 => (unblock_reader_points.j3 k sig (IntKind.u64.wrap (at_ + bt253.1)) pts (np : Int) (i : Int) D bt257.1 bt257.2.1 bt257.2.2)) else (unblock_reader_points.j3 k sig (IntKind.u64.wrap (at_ + bt253.1)) pts (np : Int) (i : Int) D bt253.2.1 bt253.2.2.1 bt253.2.2.2))) (fun k => ?_) (Ends.bind s h1 ?_)
   ·simp only [unblock_reader_points.l1]
    rw [if_pos (by omega),if_pos (by omega)]
   ·by_cases hv : v > IntKind.u64.wrap (18446744073709551615 - at_)
    ·simp only [if_pos hv,stop_eq,Option.bind_some]
     exact j3_x s hs sig hsig hp D hD hz _ hw pts np i hnp (by omega) hl hfit (next _ hw) a1 _ h3
    ·simp only [if_neg hv]
     exact j3_x s hs sig hsig hp D hD hz _ hw pts np i hnp (by omega) hl hfit (next _ hw) a1 e1 h3
theorem texts_x (sig : List Pred) (hsig : sig.length ≤ 64) (hp : ∀ p ∈ sig,p.f1.length ≤ 8) (at_ : Int) (hat : 0 ≤ at_ ∧ at_ < 18446744073709551616) (np : Nat) (hnp : np ≤ 1024) (z : Int) (nd : Nat) (hnd : nd ≤ 4096) : ∀ (d i : Nat) (D : List ByteArray) (a e : Int),d + i = nd → D.length = i → (∀ x ∈ D,x.size ≤ 200) → In s a →
  Ends s (fun k => unblock_reader_points.l0 k sig at_ (np : Int) (nd : Int) (i : Int) s a e z D)
 | 0,i,D,a,e => fun hd hl hz h => by
  refine Ends.step s (g:=fun k => unblock_reader_points.l1 k sig at_ ([] : List Pnt) (np : Int) ((0 : Nat) : Int) D s a e) (fun k => ?_) (pts_x s hs sig hsig hp D (by omega) hz np hnp np 0 [] at_ a e (by omega) hat rfl (fun p hh => by cases hh) h)
  simp only [unblock_reader_points.l0]
  rw [if_neg (by omega)]
  rfl
 | d + 1,i,D,a,e => fun hd hl hz h => by
  obtain ⟨v,a1,e1,h1,h2,h3⟩:=text_x s hs a e h
  refine Ends.step s (g:=fun k => (cursor_Cursor_Text.f k s a e 200).bind fun bt246 => (unblock_reader_points.l0 k sig at_ (np : Int) (nd : Int) ((i + 1 : Nat) : Int) bt246.2.1 bt246.2.2.1 bt246.2.2.2 z (D ++ [bt246.1]))) (fun k => ?_) (Ends.bind s h1 (texts_x sig hsig hp at_ hat np hnp z nd hnd d (i + 1) (D ++ [v]) a1 e1 (by omega) (by simp [hl]) (fun x hh => by
   rcases List.mem_append.1 hh with hh | hh
   ·exact hz x hh
   ·rw [List.mem_singleton] at hh;subst hh;exact h2) h3))
  simp only [unblock_reader_points.l0]
  rw [if_pos (by omega),w64 (by omega) (by omega)]
  simp only [if_pos (show D.length < 8796093022208 by omega)]
  rfl
theorem points_x (sig : List Pred) (hsig : sig.length ≤ 64) (hp : ∀ p ∈ sig,p.f1.length ≤ 8) (a e : Int) (h : In s a) : Ends s (fun k => unblock_reader_points.f k s a e sig):=by
 obtain ⟨at_,a1,e1,h1,h2,h3⟩:=any_x s hs a e h
 obtain ⟨np,a2,e2,h4,h5,h6⟩:=count_x s hs 1024 (by omega) (by omega) a1 e1 h3
 have hj : ∀ e3,Ends s (fun k => unblock_reader_points.j0 k sig at_ (np : Int) s a2 e3 771177):=fun e3 => by
  obtain ⟨nd,a4,e4,h7,h8,h9⟩:=count_x s hs 4096 (by omega) (by omega) a2 e3 h6
  refine Ends.step s (g:=fun k => (unblock_reader_count.f k s a2 e3 4096).bind fun bt242 => (unblock_reader_points.l0 k sig at_ (np : Int) bt242.1 0 bt242.2.1 bt242.2.2.1 bt242.2.2.2 771177 ([] : List ByteArray))) (fun k => by simp only [unblock_reader_points.j0]) (Ends.bind s h7 ?_)
  exact texts_x s hs sig hsig hp at_ h2 np (by omega) 771177 nd (by omega) nd 0 [] a4 e4 (by omega) rfl (fun x hx => by cases hx) h9
 unfold unblock_reader_points.f
 refine Ends.bind s h1 (Ends.bind s h4 ?_)
 by_cases h0 : (np : Int) = 0
 ·simp only [if_pos h0,stop_eq,Option.bind_some]
  exact hj _
 ·simp only [if_neg h0]
  exact hj _
end
theorem PtsFit.fits {t : List Pnt} (h : PtsFit t) : FitsN t:=by
 refine ⟨⟨by have:=h.1;omega,fun p hp => ?_⟩,fun p hp e he a ha => (((h.2 p hp).2.2 e he).2.2 a ha).1⟩
 obtain ⟨h1,h2,h3⟩:=h.2 p hp
 refine ⟨h1,by omega,fun e he => ?_⟩
 obtain ⟨h4,h5,h6⟩:=h3 e he
 exact ⟨h4,by omega,fun a ha => (h6 a ha).2⟩
theorem bput_some {sig : List Pred} {t : List Pnt} (h : (bput sig t).2 = 0) : t.length ≠ 0 ∧ (bput sig t).1 = pay t ∧ (pay t).length ≤ 4096 ∧ t.length ≤ 1024 ∧ (MTrace.tcheck sig t).1 = 0:=by
 unfold bput at h ⊢
 split at h
 ·cases h
 ·rename_i h0
  rw [if_neg h0]
  split at h
  ·rename_i h1
   rw [if_pos h1]
   split at h
   ·cases h
   ·rename_i h2
    rw [if_neg h2]
    split at h
    ·cases h
    ·rename_i h3
     rw [if_neg h3]
     exact ⟨h0,rfl,by omega,by omega,h1⟩
  ·rename_i h1
   exact absurd h h1
theorem get_x (sig : List Pred) (hs : MSig.Short sig) (hl : sig.length < 9223372036854775807) (l : List Int) (hb : l.length ≤ 140737488355328) : ∃ (r : List Pnt) (c : Int),Ev (fun k => unblock_Get.f k sig l) (r,c) ∧ PtsFit r ∧ (c ≠ 0 → r = []) ∧ (c = 0 → (bput sig r).2 = 0 ∧ (strOfNums (pay r)).toList = (strOfNums l).toList):=by
 have hck:=MSig.check_ev sig hs
 have pf : PtsFit []:=⟨Nat.zero_le _,fun p hp => by cases hp⟩
 by_cases hc : MSig.check sig = 0
 ·obtain ⟨k1,k2⟩:=(MSig.check_zero sig).1 hc
  have hp : ∀ p ∈ sig,p.f1.length ≤ 8:=fun p hp => by
   obtain ⟨i,hi,rfl⟩:=List.mem_iff_getElem.1 hp
   have:=(k2 i hi).2.2.1
   rwa [MSig.getD_eq sig i hi] at this
  have hz : (strOfNums l).size ≤ 140737488355328:=by rw [strOfNums_size];exact hb
  obtain ⟨r,a,e,h1,h2,h3⟩:=points_x (strOfNums l) hz sig k1 hp 0 0 ⟨Int.le_refl _,by omega⟩
  have go : ∀ (r2 : List Pnt) (c : Int),Ev (fun k => (cursor_Cursor_Done.f (strOfNums l) a e).bind fun bt301 => (if bt301.1 = true then (if (l.length : Int) > 4096 then (some (([] : List Pnt),6)) else ((block_Put.f k sig r).bind fun bt305 => (if bt305.2 = 0 then (if (strOfNums bt305.1).toList = (strOfNums l).toList then (some (r,0)) else (some (([] : List Pnt),4))) else (some (([] : List Pnt),4))))) else ((cursor_Cursor_Err.f bt301.2.1 bt301.2.2.1 bt301.2.2.2).bind fun bt309 => (some (([] : List Pnt),bt309.1))))) (r2,c) → Ev (fun k => unblock_Get.f k sig l) (r2,c):=fun r2 c hh => by
   unfold unblock_Get.f
   refine Ev.bind hck ?_
   simp only [hc,if_true,cursor_New.f,Option.bind_some]
   exact Ev.bind h1 hh
  rw [done_eq _ _ _ hz h3.1 h3.2] at go
  by_cases h4 : a < ((strOfNums l).size : Int) ∧ e = 0
  ·refine ⟨[],4,go [] 4 (Ev.congr (f:=fun _ => some (([] : List Pnt),(4 : Int))) (fun k => ?_) (Ev.now _)),pf,fun _ => rfl,fun h => absurd h (by omega)⟩
   rw [if_pos h4,Option.bind_some,if_neg (by simp)]
   rfl
  ·by_cases h5 : e = 0
   ·by_cases h6 : (l.length : Int) > 4096
    ·refine ⟨[],6,go [] 6 (Ev.congr (f:=fun _ => some (([] : List Pnt),(6 : Int))) (fun k => ?_) (Ev.now _)),pf,fun _ => rfl,fun h => absurd h (by omega)⟩
     rw [if_neg h4,Option.bind_some,if_pos (by simp [h5]),if_pos h6]
    ·have hput:=bput_ev sig hs r h2.fits
     by_cases h7 : (bput sig r).2 = 0
     ·obtain ⟨_,g2,_⟩:=bput_some h7
      by_cases h8 : (strOfNums (pay r)).toList = (strOfNums l).toList
      ·refine ⟨r,0,go r 0 ?_,h2,fun h => absurd rfl h,fun _ => ⟨h7,h8⟩⟩
       refine Ev.congr (f:=fun k => (block_Put.f k sig r).bind fun bt305 => (if bt305.2 = 0 then (if (strOfNums bt305.1).toList = (strOfNums l).toList then (some (r,0)) else (some (([] : List Pnt),4))) else (some (([] : List Pnt),4)))) (fun k => by rw [if_neg h4,Option.bind_some,if_pos (by simp [h5]),if_neg h6]) (Ev.bind hput ?_)
       simp only [if_pos h7,g2,if_pos h8]
       exact Ev.now _
      ·refine ⟨[],4,go [] 4 ?_,pf,fun _ => rfl,fun h => absurd h (by omega)⟩
       refine Ev.congr (f:=fun k => (block_Put.f k sig r).bind fun bt305 => (if bt305.2 = 0 then (if (strOfNums bt305.1).toList = (strOfNums l).toList then (some (r,0)) else (some (([] : List Pnt),4))) else (some (([] : List Pnt),4)))) (fun k => by rw [if_neg h4,Option.bind_some,if_pos (by simp [h5]),if_neg h6]) (Ev.bind hput ?_)
       simp only [if_pos h7,g2,if_neg h8]
       exact Ev.now _
     ·refine ⟨[],4,go [] 4 ?_,pf,fun _ => rfl,fun h => absurd h (by omega)⟩
      refine Ev.congr (f:=fun k => (block_Put.f k sig r).bind fun bt305 => (if bt305.2 = 0 then (if (strOfNums bt305.1).toList = (strOfNums l).toList then (some (r,0)) else (some (([] : List Pnt),4))) else (some (([] : List Pnt),4)))) (fun k => by rw [if_neg h4,Option.bind_some,if_pos (by simp [h5]),if_neg h6]) (Ev.bind hput ?_)
      simp only [if_neg h7]
      exact Ev.now _
   ·refine ⟨[],e,go [] e (Ev.congr (f:=fun _ => some (([] : List Pnt),e)) (fun k => ?_) (Ev.now _)),pf,fun _ => rfl,fun h => absurd h h5⟩
    rw [if_neg h4,Option.bind_some,if_neg (by simp [h5])]
    rfl
 ·refine ⟨[],MSig.check sig,?_,pf,fun _ => rfl,fun h => absurd h hc⟩
  unfold unblock_Get.f
  refine Ev.bind hck ?_
  simp only [if_neg hc]
  exact Ev.now _
end Go.Proofs.Ytmmfakdncjeoeaa.MUnblock
-- NARROW
set_option linter.unusedVariables false
namespace Go.Proofs.Ytmmfakdncjeoeaa.MUnblock
open Go.RowKit Go.Proofs.Ytmmfakdncjeoeaa.PU Go.Proofs.Ytmmfakdncjeoeaa.MPts Go.Proofs.Ytmmfakdncjeoeaa.MPut Go.Proofs.Ytmmfakdncjeoeaa.MDict Go.Proofs.Ytmmfakdncjeoeaa.MBlock Go.Proofs.Ytmmfakdncjeoeaa.MBlob Go.Proofs.Ytmmfakdncjeoeaa.MCursor Go.Proofs.Ytmmfakdncjeoeaa.MBase Go.Proofs.YtmmfakdncjeoeaaAid Go.Proofs.YtmmfakdncjeoeaaW.PrintWords Go.Proofs.YtmmfakdncjeoeaaW.PrintLast Go.Proofs.YtmmfakdncjeoeaaW.PrintMore

theorem drop_more {l x r : List Int} {a : Nat} (h : l.drop a = x ++ r) : l.drop (a + x.length) = r:=by
 rw [← List.drop_drop,h,List.drop_left]
theorem drop_in {s : ByteArray} {x r : List Int} {a : Nat} (h : (bytesOf s).drop a = x ++ r) (hx : 0 < x.length) : In s (a : Int):=by
 have h1 : ((bytesOf s).drop a).length = x.length + r.length:=by rw [h,List.length_append]
 rw [List.length_drop,bytesOf_length] at h1
 omega
theorem N_put (most : Int) (s : ByteArray) (a m : Nat) (hm : m < 18446744073709551616) (hm2 : (m : Int) ≤ most) (rest : List Int) (h : (bytesOf s).drop a = wbytes m ++ rest) : tk (0 : Int) (gNum most) s (a : Int) 0 = ((m : Int),((a + (wbytes m).length : Nat) : Int),0):=by
 have hg : gNum most ((bytesOf s).drop ((a : Int)).toNat) = ((m : Int),(((wbytes m).length : Nat) : Int),0):=by
  rw [Int.toNat_natCast,h]
  unfold gNum
  rw [MW.wget_put m hm]
  dsimp only
  rw [if_pos rfl,if_neg (by omega)]
 unfold tk
 rw [if_pos rfl,hg]
 dsimp only
 rw [if_pos rfl,Int.natCast_add]
theorem W_put (s : ByteArray) (a m : Nat) (hm : m < 18446744073709551616) (rest : List Int) (h : (bytesOf s).drop a = wbytes m ++ rest) : tk (0 : Int) MW.wget s (a : Int) 0 = ((m : Int),((a + (wbytes m).length : Nat) : Int),0):=by
 have hg : MW.wget ((bytesOf s).drop ((a : Int)).toNat) = ((m : Int),(((wbytes m).length : Nat) : Int),0):=by
  rw [Int.toNat_natCast,h,MW.wget_put m hm]
 unfold tk
 rw [if_pos rfl,hg]
 dsimp only
 rw [if_pos rfl,Int.natCast_add]
theorem T_put (s : ByteArray) (a : Nat) (x : ByteArray) (hx : x.size ≤ 200) (rest : List Int) (h : (bytesOf s).drop a = bbytes x ++ rest) : tk nobytes (fun y => bget y 200) s (a : Int) 0 = (x,((a + (bbytes x).length : Nat) : Int),0):=by
 have hg : bget ((bytesOf s).drop ((a : Int)).toNat) 200 = (x,(((bbytes x).length : Nat) : Int),0):=by
  rw [Int.toNat_natCast,h,bget_put x (by omega),if_neg (by rw [if_neg (by omega)];omega)]
 unfold tk
 rw [if_pos rfl]
 simp only [hg,if_true]
 rw [Int.natCast_add]

theorem asc_at : ∀ (t : List Pnt) (a : Int),asc a t → ∀ (i : Nat) (h : i + 1 < t.length),(t[i]'(by omega)).f0 ≤ t[i + 1].f0
 | [],a => fun _ i h => by simp at h
 | [p],a => fun _ i h => by simp at h
 | p :: q :: r,a => fun ha i h => by
  cases i with
  | zero => exact ha.2.1
  | succ i => exact asc_at (q :: r) p.f0 ha.2 i (by simpa using h)
theorem restB_succ (D : List ByteArray) (t : List Pnt) (i : Nat) (h : i + 1 < t.length) : restB D t (i + 1) = wbytes (IntKind.u64.wrap (t[i + 1].f0 - t[i].f0)).toNat ++ (ptB D t[i + 1] ++ restB D t (i + 2)):=by
 unfold restB
 rw [dif_pos ⟨by omega,by omega⟩,dif_pos ⟨by omega,by omega⟩,List.drop_eq_getElem_cons h]
 rfl
theorem restB_end (D : List ByteArray) (t : List Pnt) (h : 0 < t.length) : restB D t t.length = []:=by
 unfold restB
 rw [dif_pos ⟨h,Nat.le_refl _⟩,List.drop_eq_nil_of_le (Nat.le_refl _)]
 rfl
section
variable (s : ByteArray) (hs : s.size ≤ 140737488355328)
include hs
theorem any_put (a m : Nat) (hm : m < 18446744073709551616) (rest : List Int) (h : (bytesOf s).drop a = wbytes m ++ rest) : Ev (fun k => unblock_reader_any.f k s (a : Int) 0) ((m : Int),s,((a + (wbytes m).length : Nat) : Int),0):=by
 have hin:=drop_in h (MW.wbytes_pos m)
 have:=number_ev s (a : Int) 0 18446744073709551615 hs hin.1 hin.2
 rw [N_put 18446744073709551615 s a m hm (by omega) rest h] at this
 exact Ev.bind this (Ev.now _)
theorem count_put (most : Int) (a m : Nat) (hm : m < 1000000) (hm2 : (m : Int) ≤ most) (rest : List Int) (h : (bytesOf s).drop a = wbytes m ++ rest) : Ev (fun k => unblock_reader_count.f k s (a : Int) 0 most) ((m : Int),s,((a + (wbytes m).length : Nat) : Int),0):=by
 have hin:=drop_in h (MW.wbytes_pos m)
 have:=number_ev s (a : Int) 0 most hs hin.1 hin.2
 rw [N_put most s a m (by omega) hm2 rest h] at this
 refine Ev.bind this (Ev.congr (f:=fun _ => some ((m : Int),s,((a + (wbytes m).length : Nat) : Int),0)) (fun k => ?_) (Ev.now _))
 rw [w64 (by omega) (by omega)]
theorem arg_put (D : List ByteArray) (hD : D.length ≤ 10000) (g : Argm) (hg : ArgIn D g) (a : Nat) (rest : List Int) (h : (bytesOf s).drop a = argB D g ++ rest) : Ev (fun k => unblock_reader_arg.f k s (a : Int) 0 g.f0 D) (g.f0,g.f1,g.f2,s,((a + (argB D g).length : Nat) : Int),0):=by
 obtain ⟨h1,h2,h3⟩:=hg
 unfold unblock_reader_arg.f
 rcases h1 with ⟨e0,e2⟩ | ⟨e0,e1,_⟩
 ·have hb : argB D g = wbytes (MFold.foldN g.f1).toNat:=by unfold argB;rw [if_pos e0]
  rw [hb] at h ⊢
  have hr:=MFold.foldN_range (x:=g.f1) h2.1 (by omega)
  have hin:=drop_in h (MW.wbytes_pos _)
  have ht:=W_put s a (MFold.foldN g.f1).toNat (by omega) rest h
  rw [Int.toNat_of_nonneg hr.1] at ht
  have hev:=signed_ev s (a : Int) 0 hs hin.1 hin.2 g.f1 (by rw [ht];dsimp only;rw [MFold.unfold_eq hr.1 hr.2,MFold.unfold_fold])
  rw [ht] at hev
  simp only [if_pos e0]
  rw [e2]
  exact Ev.bind hev (Ev.now _)
 ·have hb : argB D g = wbytes (D.idxOf g.f2):=by unfold argB;rw [if_neg (by omega)]
  rw [hb] at h ⊢
  have hlt : D.idxOf g.f2 < D.length:=List.idxOf_lt_length_iff.2 (h3 e0)
  have hev:=any_put s hs a (D.idxOf g.f2) (by omega) rest h
  simp only [if_neg (show ¬ g.f0 = 1 by omega)]
  refine Ev.bind hev ?_
  have hv : ¬ (((D.idxOf g.f2 : Nat) : Int) ≥ IntKind.u64.wrap (D.length : Int)):=by rw [wu64 (by omega) (by omega)];omega
  simp only [if_neg hv]
  rw [if_pos (by omega),if_pos (by omega),at_s D _ hlt,List.getElem_idxOf hlt,e1]
  exact Ev.now _
theorem args_put (D : List ByteArray) (hD : D.length ≤ 10000) (xs : List Argm) (hx : xs.length ≤ 8) (hA : ∀ x ∈ xs,ArgIn D x) (id : Int) (rest : List Int) : ∀ (d i a : Nat),d + i = xs.length → (bytesOf s).drop a = (xs.drop i).flatMap (argB D) ++ rest →
  Ev (fun k => unblock_reader_event.l0 k D (xs.map (·.f0)) ((xs.map (·.f0)).length : Int) (i : Int) s (a : Int) 0 id (xs.take i)) (id,xs,s,((a + ((xs.drop i).flatMap (argB D)).length : Nat) : Int),0)
 | 0,i,a => fun hd h => by
  rw [List.drop_eq_nil_of_le (by omega),List.take_of_length_le (by omega)]
  refine Ev.step (f:=fun _ => some (id,xs,s,(a : Int),0)) (fun k => ?_) (Ev.now _)
  simp only [unblock_reader_event.l0]
  rw [if_neg (by rw [List.length_map];omega)]
 | d + 1,i,a => fun hd h => by
  have hi : i < xs.length:=by omega
  rw [List.drop_eq_getElem_cons hi,List.flatMap_cons,List.append_assoc] at h
  have h1:=arg_put s hs D hD xs[i] (hA _ (List.getElem_mem hi)) a _ h
  have ih:=args_put D hD xs hx hA id rest d (i + 1) (a + (argB D xs[i]).length) (by omega) (drop_more h)
  rw [List.drop_eq_getElem_cons hi,List.flatMap_cons,List.length_append,← Nat.add_assoc]
  have e1 : rd (xs.map (·.f0)) (i : Int) = xs[i].f0:=by rw [at_i _ i (by rw [List.length_map];exact hi),List.getElem_map]
  refine Ev.step (f:=fun k => (unblock_reader_arg.f k s (a : Int) 0 xs[i].f0 D).bind fun bt => unblock_reader_event.l0 k D (xs.map (·.f0)) ((xs.map (·.f0)).length : Int) ((i + 1 : Nat) : Int) bt.2.2.2.1 bt.2.2.2.2.1 bt.2.2.2.2.2 id (xs.take i ++ [(⟨bt.1,bt.2.1,bt.2.2.1⟩ : Argm)])) (fun k => ?_) (Ev.bind h1 ?_)
  ·simp only [unblock_reader_event.l0]
   rw [if_pos (by rw [List.length_map];omega),if_pos (by omega),if_pos (by rw [List.length_map];omega),w64 (by omega) (by omega),e1]
   simp only [if_pos (show (xs.take i).length < 4398046511104 by rw [List.length_take];omega)]
   rfl
  ·rw [List.take_succ_eq_append_getElem hi] at ih
   exact ih
theorem event_put (sig : List Pred) (hsig : sig.length ≤ 64) (D : List ByteArray) (hD : D.length ≤ 10000) (g : Evt) (ho : OkE sig g) (hg : EvIn D g) (a : Nat) (rest : List Int) (h : (bytesOf s).drop a = evB D g ++ rest) : Ev (fun k => unblock_reader_event.f k s (a : Int) 0 sig D) (g.f0,g.f1,s,((a + (evB D g).length : Nat) : Int),0):=by
 obtain ⟨o1,o2,o3,_⟩:=ho
 unfold evB at h ⊢
 rw [List.append_assoc] at h
 have h1:=any_put s hs a g.f0.toNat (by omega) _ h
 rw [Int.toNat_of_nonneg o1.1] at h1
 have h2:=args_put s hs D hD g.f1 o2 hg.2.2 g.f0 rest g.f1.length 0 (a + (wbytes g.f0.toNat).length) (by omega) (drop_more h)
 rw [List.length_append,← Nat.add_assoc]
 unfold unblock_reader_event.f
 refine Ev.bind h1 ?_
 have hv : ¬ (g.f0 ≥ IntKind.u64.wrap (sig.length : Int)):=by rw [wu64 (by omega) (by omega)];omega
 simp only [if_neg hv,if_pos o1.1,if_pos o1.2]
 rw [w64 (x:=g.f0) (by omega) (by omega),← o3]
 exact h2
theorem evs_put (sig : List Pred) (hsig : sig.length ≤ 64) (D : List ByteArray) (hD : D.length ≤ 10000) (at_ : Int) (pts : List Pnt) (np i : Nat) (hi : i ≤ 1024) (hl : pts.length ≤ 1024) (es : List Evt) (hes : es.length ≤ 1024) (hE : ∀ e ∈ es,OkE sig e ∧ EvIn D e) (rest : List Int) (v : List Pnt × ByteArray × Int × Int) : ∀ (d j a : Nat),d + j = es.length → (bytesOf s).drop a = (es.drop j).flatMap (evB D) ++ rest →
  Ev (fun k => unblock_reader_points.l1 k sig at_ (pts ++ [(⟨at_,es⟩ : Pnt)]) (np : Int) ((i + 1 : Nat) : Int) D s ((a + ((es.drop j).flatMap (evB D)).length : Nat) : Int) 0) v →
  Ev (fun k => unblock_reader_points.l2 k sig at_ pts (np : Int) (i : Int) (es.length : Int) (j : Int) D s (a : Int) 0 at_ (es.take j)) v
 | 0,j,a => fun hd h hv => by
  rw [List.drop_eq_nil_of_le (by omega)] at hv
  rw [List.take_of_length_le (by omega)]
  refine Ev.step (f:=fun k => unblock_reader_points.l1 k sig at_ (pts ++ [(⟨at_,es⟩ : Pnt)]) (np : Int) ((i + 1 : Nat) : Int) D s (a : Int) 0) (fun k => ?_) hv
  simp only [unblock_reader_points.l2]
  rw [if_neg (by omega),if_pos (by omega),w64 (by omega) (by omega)]
  rfl
 | d + 1,j,a => fun hd h hv => by
  have hj : j < es.length:=by omega
  rw [List.drop_eq_getElem_cons hj,List.flatMap_cons,List.append_assoc] at h
  rw [List.drop_eq_getElem_cons hj,List.flatMap_cons,List.length_append,← Nat.add_assoc] at hv
  obtain ⟨o1,o2⟩:=hE _ (List.getElem_mem hj)
  have h1:=event_put s hs sig hsig D hD es[j] o1 o2 a _ h
  have ih:=evs_put sig hsig D hD at_ pts np i hi hl es hes hE rest v d (j + 1) (a + (evB D es[j]).length) (by omega) (drop_more h) hv
  rw [List.take_succ_eq_append_getElem hj] at ih
  refine Ev.step (f:=fun k => (unblock_reader_event.f k s (a : Int) 0 sig D).bind fun bt268 => (if (es.take j).length < 4398046511104 then ((cursor_Cursor_Err.f bt268.2.2.1 bt268.2.2.2.1 bt268.2.2.2.2).bind fun bt278 => (if bt278.1 = 0 then (unblock_reader_points.l2 k sig at_ pts (np : Int) (i : Int) (es.length : Int) (wrap64 ((j : Int) + 1)) D bt278.2.1 bt278.2.2.1 bt278.2.2.2 at_ (es.take j ++ [(⟨bt268.1,bt268.2.1⟩ : Evt)])) else (some (pts,bt278.2.1,bt278.2.2.1,bt278.2.2.2)))) else (none))) (fun k => ?_) (Ev.bind h1 ?_)
  ·simp only [unblock_reader_points.l2]
   rw [if_pos (by omega)]
  ·simp only [cursor_Cursor_Err.f,Option.bind_some]
   refine Ev.congr (fun k => ?_) ih
   rw [if_pos (by rw [List.length_take];omega),if_pos trivial,w64 (by omega) (by omega)]
   rfl
theorem j3_put (sig : List Pred) (hsig : sig.length ≤ 64) (D : List ByteArray) (hD : D.length ≤ 10000) (pts : List Pnt) (np i : Nat) (hi : i ≤ 1024) (hl : pts.length ≤ 1024) (p : Pnt) (hp : OkP sig p) (hq : PtIn D p) (rest : List Int) (v : List Pnt × ByteArray × Int × Int) (a : Nat) (h : (bytesOf s).drop a = ptB D p ++ rest)
  (hv : Ev (fun k => unblock_reader_points.l1 k sig p.f0 (pts ++ [p]) (np : Int) ((i + 1 : Nat) : Int) D s ((a + (ptB D p).length : Nat) : Int) 0) v) :
  Ev (fun k => unblock_reader_points.j3 k sig p.f0 pts (np : Int) (i : Int) D s (a : Int) 0) v:=by
 unfold ptB at h hv
 rw [List.append_assoc] at h
 rw [List.length_append,← Nat.add_assoc] at hv
 have hp1:=hp.1
 have h1:=count_put s hs 1024 a p.f1.length (by omega) (by omega) _ h
 have h2:=evs_put s hs sig hsig D hD p.f0 pts np i hi hl p.f1 hp.1 (fun e he => ⟨hp.2 e he,hq.2.2 e he⟩) rest v p.f1.length 0 (a + (wbytes p.f1.length).length) (by omega) (drop_more h) hv
 refine Ev.step (f:=fun k => (unblock_reader_count.f k s (a : Int) 0 1024).bind fun bt261 => (unblock_reader_points.l2 k sig p.f0 pts (np : Int) (i : Int) bt261.1 0 D bt261.2.1 bt261.2.2.1 bt261.2.2.2 p.f0 ([] : List Evt))) (fun k => by simp only [unblock_reader_points.j3]) (Ev.bind h1 h2)
theorem pts_put (sig : List Pred) (hsig : sig.length ≤ 64) (D : List ByteArray) (hD : D.length ≤ 10000) (t : List Pnt) (ht : t.length ≤ 1024) (hP : ∀ p ∈ t,OkP sig p) (hQ : ∀ p ∈ t,PtIn D p) (ha : asc 0 t) (rest : List Int) : ∀ (d i a : Nat) (h : d + (i + 1) = t.length),(bytesOf s).drop a = restB D t (i + 1) ++ rest →
  Ev (fun k => unblock_reader_points.l1 k sig (t[i]'(by omega)).f0 (t.take (i + 1)) (t.length : Int) ((i + 1 : Nat) : Int) D s (a : Int) 0) (t,s,((a + (restB D t (i + 1)).length : Nat) : Int),0)
 | 0,i,a => fun hd h => by
  have e : i + 1 = t.length:=by omega
  rw [e,restB_end D t (by omega),List.take_of_length_le (Nat.le_refl _)]
  refine Ev.step (f:=fun _ => some (t,s,(a : Int),0)) (fun k => ?_) (Ev.now _)
  simp only [unblock_reader_points.l1]
  rw [if_neg (by omega)]
 | d + 1,i,a => fun hd h => by
  have hi : i + 1 < t.length:=by omega
  have hle:=asc_at t 0 ha i hi
  obtain ⟨q1,_,_⟩:=hQ _ (List.getElem_mem (show i < t.length by omega))
  have hq:=hQ _ (List.getElem_mem hi)
  have q2:=hq.1
  rw [restB_succ D t i hi,List.append_assoc,List.append_assoc] at h
  have hw : IntKind.u64.wrap (t[i + 1].f0 - t[i].f0) = t[i + 1].f0 - t[i].f0:=by rw [IntKind.wrap_u64];omega
  rw [hw] at h
  have h1:=any_put s hs a (t[i + 1].f0 - t[i].f0).toNat (by omega) _ h
  rw [Int.toNat_of_nonneg (by omega)] at h1
  have h2:=drop_more h
  have h3:=drop_more h2
  have ih:=pts_put sig hsig D hD t ht hP hQ ha rest d (i + 1) (a + (wbytes (t[i + 1].f0 - t[i].f0).toNat).length + (ptB D t[i + 1]).length) (by omega) h3
  rw [List.take_succ_eq_append_getElem hi] at ih
  have h4:=j3_put s hs sig hsig D hD (t.take (i + 1)) t.length (i + 1) (by omega) (by rw [List.length_take];omega) t[i + 1] (hP _ (List.getElem_mem hi)) hq (restB D t (i + 2) ++ rest) _ (a + (wbytes (t[i + 1].f0 - t[i].f0).toNat).length) h2 ih
  rw [restB_succ D t i hi,hw,List.length_append,List.length_append,← Nat.add_assoc,← Nat.add_assoc]
  refine Ev.step (f:=fun k => (unblock_reader_any.f k s (a : Int) 0).bind fun bt253 => (if bt253.1 > (IntKind.u64.wrap (18446744073709551615 - t[i].f0)) then ((cursor_Cursor_Stop.f bt253.2.1 bt253.2.2.1 bt253.2.2.2 8).bind fun bt257 => (unblock_reader_points.j3 k sig (IntKind.u64.wrap (t[i].f0 + bt253.1)) (t.take (i + 1)) (t.length : Int) ((i + 1 : Nat) : Int) D bt257.1 bt257.2.1 bt257.2.2)) else (unblock_reader_points.j3 k sig (IntKind.u64.wrap (t[i].f0 + bt253.1)) (t.take (i + 1)) (t.length : Int) ((i + 1 : Nat) : Int) D bt253.2.1 bt253.2.2.1 bt253.2.2.2))) (fun k => ?_) (Ev.bind h1 ?_)
  ·simp only [unblock_reader_points.l1]
   rw [if_pos (by omega),if_pos (by omega)]
  ·have hv : ¬ (t[i + 1].f0 - t[i].f0 > IntKind.u64.wrap (18446744073709551615 - t[i].f0)):=by rw [IntKind.wrap_u64];omega
   have he : IntKind.u64.wrap (t[i].f0 + (t[i + 1].f0 - t[i].f0)) = t[i + 1].f0:=by rw [IntKind.wrap_u64];omega
   simp only [if_neg hv,he]
   exact h4
theorem texts_put (sig : List Pred) (at_ : Int) (np : Nat) (z : Int) (D : List ByteArray) (hD : D.length ≤ 10000) (hz : ∀ x ∈ D,x.size ≤ 200) (rest : List Int) (v : List Pnt × ByteArray × Int × Int) : ∀ (d i a : Nat),d + i = D.length → (bytesOf s).drop a = (D.drop i).flatMap bbytes ++ rest →
  Ev (fun k => unblock_reader_points.l1 k sig at_ ([] : List Pnt) (np : Int) 0 D s ((a + ((D.drop i).flatMap bbytes).length : Nat) : Int) 0) v →
  Ev (fun k => unblock_reader_points.l0 k sig at_ (np : Int) (D.length : Int) (i : Int) s (a : Int) 0 z (D.take i)) v
 | 0,i,a => fun hd h hv => by
  rw [List.drop_eq_nil_of_le (by omega)] at hv
  rw [List.take_of_length_le (by omega)]
  refine Ev.step (f:=fun k => unblock_reader_points.l1 k sig at_ ([] : List Pnt) (np : Int) 0 D s (a : Int) 0) (fun k => ?_) hv
  simp only [unblock_reader_points.l0]
  rw [if_neg (by omega)]
 | d + 1,i,a => fun hd h hv => by
  have hi : i < D.length:=by omega
  rw [List.drop_eq_getElem_cons hi,List.flatMap_cons,List.append_assoc] at h
  rw [List.drop_eq_getElem_cons hi,List.flatMap_cons,List.length_append,← Nat.add_assoc] at hv
  have hin:=drop_in h (by unfold bbytes;rw [List.length_append];have:=MW.wbytes_pos (D[i]).size;omega)
  have h1:=text_ev s (a : Int) 0 200 (by omega) hs hin.1 hin.2
  rw [T_put s a D[i] (hz _ (List.getElem_mem hi)) _ h] at h1
  have ih:=texts_put sig at_ np z D hD hz rest v d (i + 1) (a + (bbytes D[i]).length) (by omega) (drop_more h) hv
  rw [List.take_succ_eq_append_getElem hi] at ih
  refine Ev.step (f:=fun k => (cursor_Cursor_Text.f k s (a : Int) 0 200).bind fun bt246 => (unblock_reader_points.l0 k sig at_ (np : Int) (D.length : Int) ((i + 1 : Nat) : Int) bt246.2.1 bt246.2.2.1 bt246.2.2.2 z (D.take i ++ [bt246.1]))) (fun k => ?_) (Ev.bind h1 ih)
  simp only [unblock_reader_points.l0]
  rw [if_pos (by omega),w64 (by omega) (by omega)]
  simp only [if_pos (show (D.take i).length < 8796093022208 by rw [List.length_take];omega)]
  rfl
theorem points_put (sig : List Pred) (t : List Pnt) (hf : FitsN t) (hb : (bput sig t).2 = 0) (rest : List Int) (h : bytesOf s = pay t ++ rest) : Ev (fun k => unblock_reader_points.f k s 0 0 sig) (t,s,(((pay t).length : Nat) : Int),0):=by
 obtain ⟨b0,_,b2,b3,b4⟩:=bput_some hb
 obtain ⟨c1,c2,c3⟩:=tcheck_ok b4
 have hsig:=sig64 c1
 have hQ:=pt_in hsig hf.1 hf.2 c2
 obtain ⟨p,r,rfl⟩ : ∃ p r,t = p :: r:=by
  cases t with
  | nil => exact absurd rfl b0
  | cons p r => exact ⟨p,r,rfl⟩
 generalize hD : dict (p :: r) = D at hQ
 have hz : ∀ x ∈ D,x.size ≤ 200:=fun x hx => by
  rw [← hD] at hx
  exact strs_ok c2 x (((mem_puts _).1 hx).resolve_left (by simp))
 have hpay : pay (p :: r) = wbytes p.f0.toNat ++ (wbytes (p :: r).length ++ (wbytes D.length ++ (D.flatMap bbytes ++ (ptB D p ++ restB D (p :: r) 1)))):=by
  unfold pay tailB
  rw [hD]
  unfold restB
  rw [dif_pos ⟨by omega,by simp⟩]
  rfl
 have hDl : D.length ≤ 4096:=by
  have hge : ∀ l : List ByteArray,l.length ≤ (l.flatMap bbytes).length:=by
   intro l
   induction l with
   | nil => simp
   | cons x l ih =>
    have:=MW.wbytes_pos x.size
    rw [List.flatMap_cons,List.length_append,List.length_cons,bbytes_len]
    omega
  have h1:=hge D
  rw [hpay] at b2
  simp only [List.length_append] at b2
  omega
 have hp0:=hQ p List.mem_cons_self
 rw [hpay,List.append_assoc,List.append_assoc,List.append_assoc,List.append_assoc,List.append_assoc] at h
 have d0 : (bytesOf s).drop 0 = _:=h
 have e1:=any_put s hs 0 p.f0.toNat (by have:=hp0.1;omega) _ d0
 rw [Int.toNat_of_nonneg hp0.1.1] at e1
 have d1:=drop_more d0
 have e2:=count_put s hs 1024 _ (p :: r).length (by omega) (by omega) _ d1
 have d2:=drop_more d1
 have e3:=count_put s hs 4096 _ D.length (by omega) (by omega) _ d2
 have d3:=drop_more d2
 have d4:=drop_more d3
 have d5:=drop_more d4
 have q1:=pts_put s hs sig hsig D (by omega) (p :: r) b3 c2 hQ c3 rest r.length 0 _ (by simp) d5
 have q2:=j3_put s hs sig hsig D (by omega) [] (p :: r).length 0 (by omega) (by simp) p (c2 p List.mem_cons_self) hp0 _ _ _ d4 q1
 have q3 : Ev (fun k => unblock_reader_points.l1 k sig p.f0 ([] : List Pnt) ((p :: r).length : Int) 0 D s _ 0) _:=Ev.step (f:=fun k => unblock_reader_points.j3 k sig p.f0 ([] : List Pnt) ((p :: r).length : Int) ((0 : Nat) : Int) D s _ 0) (fun k => by
  simp only [unblock_reader_points.l1]
  rw [if_pos (by simp),if_neg (by omega)]
  rfl) q2
 have q4:=texts_put s hs sig p.f0 (p :: r).length 771177 D (by omega) hz _ _ D.length 0 _ (by omega) d3 q3
 have hlen : (pay (p :: r)).length = 0 + (wbytes p.f0.toNat).length + (wbytes (p :: r).length).length + (wbytes D.length).length + (D.flatMap bbytes).length + (ptB D p).length + (restB D (p :: r) 1).length:=by
  rw [hpay]
  simp only [List.length_append]
  omega
 rw [hlen]
 unfold unblock_reader_points.f
 refine Ev.bind e1 (Ev.bind e2 ?_)
 simp only [if_neg (show ¬ (((p :: r).length : Nat) : Int) = 0 by simp;omega)]
 exact Ev.step (f:=fun k => (unblock_reader_count.f k s _ 0 4096).bind fun bt242 => (unblock_reader_points.l0 k sig p.f0 ((p :: r).length : Int) bt242.1 0 bt242.2.1 bt242.2.2.1 bt242.2.2.2 771177 ([] : List ByteArray))) (fun k => by simp only [unblock_reader_points.j0]) (Ev.bind e3 q4)
end
end Go.Proofs.Ytmmfakdncjeoeaa.MUnblock
-- NARROW
set_option linter.unusedVariables false
namespace Go.Proofs.Ytmmfakdncjeoeaa.MSamePts
open Go.RowKit Go.Proofs.Ytmmfakdncjeoeaa.PU Go.Proofs.Ytmmfakdncjeoeaa.MPts Go.Proofs.Ytmmfakdncjeoeaa.MBase Go.Proofs.YtmmfakdncjeoeaaW.PrintWords Go.Proofs.YtmmfakdncjeoeaaW.PrintLast Go.Proofs.YtmmfakdncjeoeaaW.PrintMore

abbrev KA:=Int × Int × List UInt8
instance deqA : DecidableEq KA:=inferInstance
abbrev KE:=Int × List KA
instance deqLA : DecidableEq (List KA):=@instDecidableEqList KA deqA
instance deqE : DecidableEq KE:=@instDecidableEqProd Int (List KA) inferInstance deqLA
instance deqLE : DecidableEq (List KE):=@instDecidableEqList KE deqE
abbrev KP:=Int × List KE
instance deqP : DecidableEq KP:=@instDecidableEqProd Int (List KE) inferInstance deqLE
def ka (a : Argm) : KA:=(a.f0,a.f1,a.f2.toList)
def ke (e : Evt) : KE:=(e.f0,e.f1.map ka)
def kp (p : Pnt) : KP:=(p.f0,p.f1.map ke)
def same {α β : Type} [DecidableEq β] (κ : α → β) (l m : List α) : Bool:=decide (l.map κ = m.map κ)
section
variable {α β : Type} [DecidableEq β] (κ : α → β)
theorem same_cons (x y : α) (l m : List α) : same κ (x :: l) (y :: m) = (decide (κ x = κ y) && same κ l m):=by
 unfold same
 by_cases c : κ x = κ y
 ·simp [c]
 ·simp [c]
theorem same_self (l : List α) : same κ l l = true:=by simp [same]
theorem same_len {l m : List α} (h : l.length ≠ m.length) : same κ l m = false:=decide_eq_false (fun e => h (by simpa using congrArg List.length e))
theorem loop_same (l m : List α) (he : l.length = m.length) (L : Nat → Int → Option Bool) (E : Nat → α → α → Option Bool) (v : Bool) (hend : Ev (fun k => L k (l.length : Int)) v)
  (hstep : ∀ k i (h1 : i < l.length) (h2 : i < m.length),L (k + 1) (i : Int) = (E k l[i] m[i]).bind fun t => if t = true then L k ((i + 1 : Nat) : Int) else some false)
  (hE : ∀ i (h1 : i < l.length) (h2 : i < m.length),Ev (fun k => E k l[i] m[i]) (decide (κ l[i] = κ m[i]))) :
  ∀ n i,n + i = l.length → Ev (fun k => L k (i : Int)) (same κ (l.drop i) (m.drop i) && v):=by
 intro n
 induction n with
 | zero =>
  intro i h
  rw [List.drop_eq_nil_of_le (by omega),List.drop_eq_nil_of_le (by omega),same_self,Bool.true_and,show i = l.length by omega]
  exact hend
 | succ n ih =>
  intro i h
  have h1 : i < l.length:=by omega
  have h2 : i < m.length:=by omega
  have r:=ih (i + 1) (by omega)
  rw [List.drop_eq_getElem_cons h1,List.drop_eq_getElem_cons h2,same_cons]
  refine Ev.step (f:=fun k => (E k l[i] m[i]).bind fun t => if t = true then L k ((i + 1 : Nat) : Int) else some false) (fun k => hstep k i h1 h2) ?_
  refine Ev.bind (hE i h1 h2) ?_
  by_cases c : κ l[i] = κ m[i]
  ·simp only [decide_eq_true c,if_true,Bool.true_and]
   exact r
  ·simp only [decide_eq_false c,Bool.false_eq_true,if_false,Bool.false_and]
   exact Ev.now _
end
theorem rdP (l : List Pnt) (i : Nat) (h : i < l.length) : rd_T56 l (i : Int) = l[i]:=by rw [rd_pt];simp [List.getD_eq_getElem?_getD,List.getElem?_eq_getElem h]
theorem rdE (l : List Evt) (i : Nat) (h : i < l.length) : rd_T59 l (i : Int) = l[i]:=by rw [rd_e];simp [List.getD_eq_getElem?_getD,List.getElem?_eq_getElem h]
theorem rdA (l : List Argm) (i : Nat) (h : i < l.length) : rd_T61 l (i : Int) = l[i]:=by rw [rd_a];simp [List.getD_eq_getElem?_getD,List.getElem?_eq_getElem h]
theorem ka_eq (a b : Argm) : (!(a.f0 == b.f0) || (!(a.f1 == b.f1) || !(a.f2.toList == b.f2.toList))) = !(decide (ka a = ka b)):=by
 by_cases h0 : a.f0 = b.f0 <;> by_cases h1 : a.f1 = b.f1 <;> by_cases h2 : a.f2.toList = b.f2.toList <;> simp [ka,h0,h1,h2]
theorem ke_eq (x y : Evt) : decide (ke x = ke y) = (decide (x.f0 = y.f0) && same ka x.f1 y.f1):=by
 unfold same ke
 by_cases h : x.f0 = y.f0 <;> simp [h]
theorem kp_eq (x y : Pnt) : decide (kp x = kp y) = (decide (x.f0 = y.f0) && same ke x.f1 y.f1):=by
 unfold same kp
 by_cases h : x.f0 = y.f0 <;> simp [h]
def FitA (l : List Evt) : Prop:=∀ e ∈ l,e.f1.length < 9223372036854775807
def FitE (l : List Pnt) : Prop:=∀ p ∈ l,p.f1.length < 9223372036854775807 ∧ FitA p.f1
theorem revt_ev (x y : Evt) (hx : x.f1.length < 9223372036854775807) : Ev (fun k => tachographref12_event.f k x.f0 x.f1 y.f0 y.f1) (decide (ke x = ke y)):=by
 unfold tachographref12_event.f
 rw [ke_eq]
 have jt : Ev (fun k => tachographref12_event.j0 k true x.f0 x.f1 y.f0 y.f1) false:=Ev.step (f:=fun _ => some false) (fun k => by simp only [tachographref12_event.j0,if_true]) (Ev.now _)
 by_cases c : x.f0 = y.f0
 ·simp only [if_pos c,decide_eq_true c,Bool.true_and]
  by_cases he : x.f1.length = y.f1.length
  ·rw [show ((x.f1.length : Int) != (y.f1.length : Int)) = false from by simp [he]]
   have r:=loop_same ka x.f1 y.f1 he (fun k i => tachographref12_event.l0 k i x.f0 x.f1 y.f0 y.f1) (fun _ a b => some (decide (ka a = ka b))) true
    (Ev.step (f:=fun _ => some true) (fun k => by simp only [tachographref12_event.l0];rw [if_neg (by omega)]) (Ev.now _))
    (fun k i h1 h2 => by
     simp only [tachographref12_event.l0]
     rw [if_pos (by omega),if_pos (by omega),if_pos (by omega),rdA _ i h1,rdA _ i h2,ka_eq,w64 (x:=(i : Int) + 1) (by omega) (by omega),Option.bind_some]
     by_cases c : ka x.f1[i] = ka y.f1[i]
     ·simp [c]
     ·simp [c])
    (fun _ _ _ => Ev.now _) x.f1.length 0 (by omega)
   rw [List.drop_zero,List.drop_zero,Bool.and_true] at r
   exact Ev.step (f:=fun k => tachographref12_event.l0 k ((0 : Nat) : Int) x.f0 x.f1 y.f0 y.f1) (fun k => by simp only [tachographref12_event.j0,Bool.false_eq_true,if_false];rfl) r
  ·rw [show ((x.f1.length : Int) != (y.f1.length : Int)) = true from by simp;omega,same_len ka he]
   exact jt
 ·simp only [if_neg c,decide_eq_false c,Bool.false_and]
  exact jt
theorem rsame_ev (l m : List Pnt) (hl : l.length < 9223372036854775807) (hf : FitE l) : Ev (fun k => tachographref12_Same.f k l m) (same kp l m):=by
 unfold tachographref12_Same.f
 by_cases he : l.length = m.length
 ·refine Ev.congr (f:=fun k => tachographref12_Same.l0 k l m ((0 : Nat) : Int)) (fun k => by rw [if_pos (by omega)];rfl) ?_
  have key : ∀ n i,n + i = l.length → Ev (fun k => tachographref12_Same.l0 k l m (i : Int)) (same kp (l.drop i) (m.drop i)):=by
   intro n
   induction n with
   | zero =>
    intro i h
    rw [List.drop_eq_nil_of_le (by omega),List.drop_eq_nil_of_le (by omega),same_self]
    exact Ev.step (f:=fun _ => some true) (fun k => by simp only [tachographref12_Same.l0];rw [if_neg (by omega)]) (Ev.now _)
   | succ n ih =>
    intro i h
    have h1 : i < l.length:=by omega
    have h2 : i < m.length:=by omega
    have r:=ih (i + 1) (by omega)
    obtain ⟨f1,f2⟩:=hf _ (List.getElem_mem h1)
    have jt : Ev (fun k => tachographref12_Same.j1 k l m (i : Int) true) false:=Ev.step (f:=fun _ => some false) (fun k => by simp only [tachographref12_Same.j1,if_true]) (Ev.now _)
    rw [List.drop_eq_getElem_cons h1,List.drop_eq_getElem_cons h2,same_cons,kp_eq]
    by_cases c : l[i].f0 = m[i].f0
    ·rw [decide_eq_true c,Bool.true_and]
     refine Ev.step (f:=fun k => tachographref12_Same.j1 k l m (i : Int) ((l[i].f1.length : Int) != (m[i].f1.length : Int))) (fun k => by
      simp only [tachographref12_Same.l0]
      rw [if_pos (by omega),if_pos (by omega),if_pos (by omega),rdP l i h1,rdP m i h2,if_pos c]) ?_
     by_cases he1 : l[i].f1.length = m[i].f1.length
     ·rw [show ((l[i].f1.length : Int) != (m[i].f1.length : Int)) = false from by simp [he1]]
      have q:=loop_same ke l[i].f1 m[i].f1 he1 (fun k j => tachographref12_Same.l1 k l m (i : Int) j) (fun k x y => tachographref12_event.f k x.f0 x.f1 y.f0 y.f1) (same kp (l.drop (i + 1)) (m.drop (i + 1)))
       (Ev.step (f:=fun k => tachographref12_Same.l0 k l m ((i + 1 : Nat) : Int)) (fun k => by
        simp only [tachographref12_Same.l1]
        rw [if_pos (by omega),if_pos (by omega),rdP l i h1,if_neg (by omega),w64 (by omega) (by omega)]
        rfl) r)
       (fun k j g1 g2 => by
        simp only [tachographref12_Same.l1]
        rw [if_pos (by omega),if_pos (by omega),rdP l i h1,rdP m i h2,if_pos (by omega),if_pos (by omega),if_pos (by omega),if_pos (by omega),rdE _ j g1,rdE _ j g2,w64 (x:=(j : Int) + 1) (by omega) (by omega)]
        rfl)
       (fun j g1 _ => revt_ev _ _ (f2 _ (List.getElem_mem g1))) l[i].f1.length 0 (by omega)
      rw [List.drop_zero,List.drop_zero] at q
      exact Ev.step (f:=fun k => tachographref12_Same.l1 k l m (i : Int) ((0 : Nat) : Int)) (fun k => by simp only [tachographref12_Same.j1,Bool.false_eq_true,if_false];rfl) q
     ·rw [show ((l[i].f1.length : Int) != (m[i].f1.length : Int)) = true from by simp;omega,same_len ke he1,Bool.false_and]
      exact jt
    ·rw [decide_eq_false c,Bool.false_and,Bool.false_and]
     exact Ev.step (f:=fun k => tachographref12_Same.j1 k l m (i : Int) true) (fun k => by
      simp only [tachographref12_Same.l0]
      rw [if_pos (by omega),if_pos (by omega),if_pos (by omega),rdP l i h1,rdP m i h2,if_neg c]) jt
  have r:=key l.length 0 (by omega)
  rw [List.drop_zero,List.drop_zero] at r
  exact r
 ·rw [same_len kp he]
  exact Ev.congr (f:=fun _ => some false) (fun k => by rw [if_neg (by omega)]) (Ev.now _)
end Go.Proofs.Ytmmfakdncjeoeaa.MSamePts
-- NARROW
