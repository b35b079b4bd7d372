/- Plain laws on quotes (layer 20): what a text's quote is, what is read of a text, in the program and in the reference. -/
import Derived.Test.YtjfklfmfeghjnacMBase
import Derived.Test.YtjfklfmfeghjnacPLx12
import Derived.Test.YtjfklfmfeghjnacPLx13
import Derived.Test.YtjfklfmfeghjnacPLx14
import Derived.Test.YtjfklfmfeghjnacPLx4
import Derived.Test.YtjfklfmfeghjnacPLx5
import Derived.Test.YtjfklfmfeghjnacPLx6
set_option linter.unusedVariables false
namespace Go.Proofs.Ytjfklfmfeghjnac.MQuote
open Go.RowKit Go.Proofs.Ytjfklfmfeghjnac.PL Go.Proofs.Ytjfklfmfeghjnac.MBase Go.Proofs.YtjfklfmfeghjnacW.PrintWords Go.Proofs.YtjfklfmfeghjnacW.PrintLast Go.Proofs.YtjfklfmfeghjnacW.PrintMore

/-! ### what a quote is -/
def hx (n : Int) : Int := if n < 10 then 48 + n else 87 + n
def qb (c : Int) : List Int := if c = 10 then [92, 110] else if c < 32 ∨ c > 126 then [92, 120, hx (c / 16), hx (c % 16)] else if c = 34 ∨ c = 92 then [92, c] else [c]
def quo (l : List Int) : List Int := 34 :: (l.flatMap qb ++ [34])

abbrev HX : ByteArray := ⟨#[48, 49, 50, 51, 52, 53, 54, 55, 56, 57, 97, 98, 99, 100, 101, 102]⟩
theorem hex_one (n : Int) (h0 : 0 ≤ n) (h1 : n < 16) : HX.extract n.toNat (n + 1).toNat = strOfNums [hx n] := by
 obtain ⟨m, rfl⟩ := Int.eq_ofNat_of_zero_le h0
 have hm : m < 16 := by omega
 have key : ∀ k : Fin 16, (HX.extract k.1 (k.1 + 1)).data.toList = (strOfNums [hx (k.1 : Int)]).data.toList := by decide
 have := key ⟨m, hm⟩
 apply ba_ext
 simpa using this
set_option maxRecDepth 100000 in
theorem and15 (c : Int) (h0 : 0 ≤ c) (h1 : c < 256) : Go.bits .and .u8 c 15 = c % 16 := by
 obtain ⟨m, rfl⟩ := Int.eq_ofNat_of_zero_le h0
 have hm : m < 256 := by omega
 have key : ∀ k : Fin 256, Go.bits .and .u8 (k.1 : Int) 15 = (k.1 : Int) % 16 := by decide
 exact key ⟨m, hm⟩
theorem s_2 : (⟨#[92, 110]⟩ : ByteArray) = strOfNums [92, 110] := by apply ba_ext; decide
theorem s_x : (⟨#[92, 120]⟩ : ByteArray) = strOfNums [92, 120] := by apply ba_ext; decide
theorem s_q : (⟨#[34]⟩ : ByteArray) = strOfNums [34] := by apply ba_ext; decide
theorem s_b : (⟨#[92]⟩ : ByteArray) = strOfNums [92] := by apply ba_ext; decide
theorem s_0 : (⟨#[]⟩ : ByteArray) = strOfNums [] := by apply ba_ext; decide

theorem hx_byte (n : Int) (h0 : 0 ≤ n) (h1 : n < 16) : 48 ≤ hx n ∧ hx n ≤ 102 := by
 unfold hx
 split <;> omega
theorem qb_len (c : Int) : (qb c).length ≤ 4 := by
 unfold qb
 split
 ·simp
 ·split
  ·simp
  ·split <;> simp
theorem qb_byte (c : Int) (h : 0 ≤ c ∧ c < 256) : ∀ x ∈ qb c, 32 ≤ x ∧ x ≤ 126 := by
 have h1 := hx_byte (c / 16) (by omega) (by omega)
 have h2 := hx_byte (c % 16) (by omega) (by omega)
 unfold qb
 split
 ·intro x hx_
  simp only [List.mem_cons, List.not_mem_nil, or_false] at hx_
  omega
 ·split
  ·intro x hx_
   simp only [List.mem_cons, List.not_mem_nil, or_false] at hx_
   omega
  ·split
   ·intro x hx_
    simp only [List.mem_cons, List.not_mem_nil, or_false] at hx_
    omega
   ·intro x hx_
    simp only [List.mem_cons, List.not_mem_nil, or_false] at hx_
    omega
theorem quo_byte (l : List Int) (h : Byt l) : ∀ x ∈ quo l, 32 ≤ x ∧ x ≤ 126 := by
 intro x hx_
 rcases List.mem_cons.1 hx_ with rfl | hx_
 ·omega
 ·rcases List.mem_append.1 hx_ with hx_ | hx_
  ·obtain ⟨c, hc, hx_⟩ := List.mem_flatMap.1 hx_
   exact qb_byte c (h c hc) x hx_
  ·rw [List.mem_singleton.1 hx_]
   omega
theorem quo_byt (l : List Int) (h : Byt l) : Byt (quo l) := fun x hx_ => by have := quo_byte l h x hx_; omega
theorem flat_len : ∀ l : List Int, (l.flatMap qb).length ≤ 4 * l.length
 | [] => by simp
 | c :: l => by
  have := qb_len c
  have := flat_len l
  rw [List.flatMap_cons, List.length_append, List.length_cons]
  omega

theorem bt_drop (s : ByteArray) (i : Nat) (h : i < s.size) : (bytesOf s).drop i = bt s (i : Int) :: (bytesOf s).drop (i + 1) := by
 have hl := bytesOf_length s
 rw [List.drop_eq_getElem_cons (by omega)]
 congr 1
 have h1 := rd_bytesOf s i
 rw [← h1]
 simp [rd, List.getD_eq_getElem?_getD, List.getElem?_eq_getElem (show i < (bytesOf s).length by omega)]


/-! ### reading: a byte, or what stands for one -/
def dg (c : Int) : Int := if 48 ≤ c ∧ c ≤ 57 then c - 48 else if 97 ≤ c ∧ c ≤ 102 then c - 87 else if 65 ≤ c ∧ c ≤ 70 then c - 55 else -1
def esc : List Int → Int × Int × Int
 | [] => (0, 0, 2)
 | d :: r => if d = 34 ∨ d = 92 then (d, 2, 0) else if d = 110 then (10, 2, 0) else if d = 120 then (match r with
   | [] => (0, 0, 2)
   | x :: r => if dg x < 0 then (0, 0, 4) else match r with
    | [] => (0, 0, 2)
    | y :: _ => if dg y < 0 then (0, 0, 4) else (16 * dg x + dg y, 4, 0)) else (0, 0, 4)
def nx : List Int → Int × Int × Int
 | [] => (0, 0, 2)
 | c :: r => if c < 32 then (0, 0, 4) else if c = 92 then esc r else (c, 1, 0)

theorem dg_range (c : Int) : -1 ≤ dg c ∧ dg c ≤ 15 := by
 unfold dg
 (repeat' split) <;> omega
set_option maxRecDepth 100000 in
theorem index_dg (c : Int) (h0 : 0 ≤ c) (h1 : c < 256) : Lib.indexByte HX.data.toList (if 65 ≤ c ∧ c ≤ 70 then c + 32 else c).toNat.toUInt8 = dg c := by
 obtain ⟨m, rfl⟩ := Int.eq_ofNat_of_zero_le h0
 have hm : m < 256 := by omega
 have key : ∀ k : Fin 256, Lib.indexByte HX.data.toList (if 65 ≤ (k.1 : Int) ∧ (k.1 : Int) ≤ 70 then (k.1 : Int) + 32 else (k.1 : Int)).toNat.toUInt8 = dg (k.1 : Int) := by decide
 exact key ⟨m, hm⟩
theorem digit_eq (c : Int) (h0 : 0 ≤ c) (h1 : c < 256) : quote_digit.f c = some ((mx (dg c) 0) % 256, decide (dg c ≥ 0)) := by
 have h := index_dg c h0 h1
 unfold quote_digit.f strings_IndexByte.f
 simp only [Option.bind_some]
 by_cases h2 : c ≥ 65
 ·by_cases h3 : c ≤ 70
  ·rw [if_pos ⟨h2, h3⟩] at h
   rw [if_pos h2, if_pos h3, show (c + 32) % 256 = c + 32 by omega, h]
  ·rw [if_neg (fun h' => h3 h'.2)] at h
   rw [if_pos h2, if_neg h3, h]
 ·rw [if_neg (fun h' => h2 h'.1)] at h
  rw [if_neg h2, h]
set_option maxRecDepth 100000 in
theorem or_dg (a b : Int) (ha : 0 ≤ a ∧ a ≤ 15) (hb : 0 ≤ b ∧ b ≤ 15) : Go.bits .or .u8 ((a * 16) % 256) b = 16 * a + b := by
 obtain ⟨m, rfl⟩ := Int.eq_ofNat_of_zero_le ha.1
 obtain ⟨n, rfl⟩ := Int.eq_ofNat_of_zero_le hb.1
 have hm : m < 16 := by omega
 have hn : n < 16 := by omega
 have key : ∀ k l : Fin 16, Go.bits .or .u8 (((k.1 : Int) * 16) % 256) (l.1 : Int) = 16 * (k.1 : Int) + (l.1 : Int) := by decide
 exact key ⟨m, hm⟩ ⟨n, hn⟩

theorem bt_cons {s : ByteArray} {c : Int} {r : List Int} (h : bytesOf s = c :: r) : 0 < s.size ∧ bt s 0 = c := by
 have hl := bytesOf_length s
 have h0 : 0 < s.size := by rw [← hl, h]; simp
 refine ⟨h0, ?_⟩
 have := bt_drop s 0 h0
 rw [List.drop_zero, h] at this
 exact (List.cons.inj this).1.symm
theorem bt_get {s : ByteArray} {l r : List Int} {c : Int} (h : bytesOf s = l ++ c :: r) : bt s (l.length : Int) = c ∧ l.length < s.size := by
 have hl := bytesOf_length s
 have hlt : l.length < s.size := by rw [← hl, h]; simp
 refine ⟨?_, hlt⟩
 have := bt_drop s l.length hlt
 rw [h, List.drop_left] at this
 exact (List.cons.inj this).1.symm

/-- What is behind a backslash, in the program. -/
theorem escape_ev (s : ByteArray) (r : List Int) (h : bytesOf s = 92 :: r) : Ev (fun k => quote_escape.f k s) (esc r) := by
 have hl := bytesOf_length s
 have hby := byt_bytesOf s
 unfold quote_escape.f
 cases r with
 | nil =>
  have : s.size = 1 := by rw [← hl, h]; rfl
  exact Ev.congr (f := fun _ => some (0, 0, 2)) (fun k => by rw [if_pos (by omega)]) (Ev.now _)
 | cons d r =>
  obtain ⟨hd, hds⟩ := bt_get (s := s) (l := [92]) (c := d) (r := r) h
  have hd : bt s 1 = d := hd
  have hds : 1 < s.size := hds
  have j0 : ∀ b, (b = true ↔ d = 34 ∨ d = 92) → Ev (fun k => quote_escape.j0 k s d b) (esc (d :: r)) := by
   intro b hb
   by_cases h1 : d = 34 ∨ d = 92
   ·have hbt := hb.2 h1
    subst hbt
    refine Ev.step (f := fun _ => some (d, 2, 0)) (fun k => ?_) (by simp only [esc, if_pos h1]; exact Ev.now _)
    simp only [quote_escape.j0, if_true]
    rw [if_pos (by omega), hd]
   ·have hbf : b = false := by
     cases b with
     | false => rfl
     | true => exact absurd (hb.1 rfl) h1
    subst hbf
    by_cases h2 : d = 110
    ·refine Ev.step (f := fun _ => some (10, 2, 0)) (fun k => ?_) (by simp only [esc, if_neg h1, if_pos h2]; exact Ev.now _)
     simp only [quote_escape.j0, Bool.false_eq_true, if_false]
     rw [if_pos h2]
    ·by_cases h3 : d = 120
     ·refine Ev.step (f := fun k => quote_escape.l0 k s 0 2) (fun k => ?_) ?_
      ·simp only [quote_escape.j0, Bool.false_eq_true, if_false]
       rw [if_neg h2, if_pos h3]
      ·cases r with
       | nil =>
        have : s.size = 2 := by rw [← hl, h]; rfl
        refine Ev.step (f := fun _ => some (0, 0, 2)) (fun k => ?_) (by simp only [esc, if_neg h1, if_neg h2, if_pos h3]; exact Ev.now _)
        simp only [quote_escape.l0]
        rw [if_pos (by omega), if_pos (by omega)]
       | cons x r =>
        obtain ⟨hx, hxs⟩ := bt_get (s := s) (l := [92, d]) (c := x) (r := r) h
        have hx : bt s 2 = x := hx
        have hxs : 2 < s.size := hxs
        have hxr := bt_range s 2
        rw [hx] at hxr
        have hdx := dg_range x
        refine Ev.step (f := fun k => if decide (dg x ≥ 0) = true then quote_escape.l0 k s (Go.bits .or .u8 ((0 * 16) % 256) ((mx (dg x) 0) % 256)) 3 else some (0, 0, 4)) (fun k => ?_) ?_
        ·simp only [quote_escape.l0]
         rw [if_pos (by omega), if_neg (by omega), if_pos (by omega), if_pos (by omega), hx, digit_eq x (by omega) (by omega), show wrap64 ((2 : Int) + 1) = 3 from (w64 (by omega) (by omega)).trans rfl]
         rfl
        ·by_cases hn : dg x < 0
         ·have hf : decide (dg x ≥ 0) = false := decide_eq_false (by omega)
          simp only [hf, Bool.false_eq_true, if_false, esc, if_neg h1, if_neg h2, if_pos h3, if_pos hn]
          exact Ev.now _
         ·have ht : decide (dg x ≥ 0) = true := decide_eq_true (by omega)
          have hm : (mx (dg x) 0) % 256 = dg x := by unfold mx; rw [if_neg hn]; omega
          have ho : Go.bits .or .u8 ((0 * 16) % 256) (dg x) = dg x := by have := or_dg 0 (dg x) (by omega) (by omega); simpa using this
          simp only [ht, if_true, hm, ho]
          cases r with
          | nil =>
           have : s.size = 3 := by rw [← hl, h]; rfl
           refine Ev.step (f := fun _ => some (0, 0, 2)) (fun k => ?_) (by simp only [esc, if_neg h1, if_neg h2, if_pos h3, if_neg hn]; exact Ev.now _)
           simp only [quote_escape.l0]
           rw [if_pos (by omega), if_pos (by omega)]
          | cons y r =>
           obtain ⟨hy, hys⟩ := bt_get (s := s) (l := [92, d, x]) (c := y) (r := r) h
           have hy : bt s 3 = y := hy
           have hys : 3 < s.size := hys
           have hyr := bt_range s 3
           rw [hy] at hyr
           have hdy := dg_range y
           refine Ev.step (f := fun k => if decide (dg y ≥ 0) = true then quote_escape.l0 k s (Go.bits .or .u8 ((dg x * 16) % 256) ((mx (dg y) 0) % 256)) 4 else some (0, 0, 4)) (fun k => ?_) ?_
           ·simp only [quote_escape.l0]
            rw [if_pos (by omega), if_neg (by omega), if_pos (by omega), if_pos (by omega), hy, digit_eq y (by omega) (by omega), show wrap64 ((3 : Int) + 1) = 4 from (w64 (by omega) (by omega)).trans rfl]
            rfl
           ·by_cases hn2 : dg y < 0
            ·have hf : decide (dg y ≥ 0) = false := decide_eq_false (by omega)
             simp only [hf, Bool.false_eq_true, if_false, esc, if_neg h1, if_neg h2, if_pos h3, if_neg hn, if_pos hn2]
             exact Ev.now _
            ·have ht : decide (dg y ≥ 0) = true := decide_eq_true (by omega)
             have hm : (mx (dg y) 0) % 256 = dg y := by unfold mx; rw [if_neg hn2]; omega
             have ho := or_dg (dg x) (dg y) (by omega) (by omega)
             simp only [ht, if_true, hm, ho, esc, if_neg h1, if_neg h2, if_pos h3, if_neg hn, if_neg hn2]
             refine Ev.step (f := fun _ => some (16 * dg x + dg y, 4, 0)) (fun k => ?_) (Ev.now _)
             simp only [quote_escape.l0]
             rw [if_neg (by omega)]
     ·refine Ev.step (f := fun _ => some (0, 0, 4)) (fun k => ?_) (by simp only [esc, if_neg h1, if_neg h2, if_neg h3]; exact Ev.now _)
      simp only [quote_escape.j0, Bool.false_eq_true, if_false]
      rw [if_neg h2, if_neg h3]
  by_cases h4 : d = 34
  ·refine Ev.congr (f := fun k => quote_escape.j0 k s d (d == 34)) (fun k => ?_) (j0 _ ⟨fun h' => .inl (beq_iff_eq.1 h'), fun _ => beq_iff_eq.2 h4⟩)
   rw [if_neg (by omega), if_pos (by omega), hd, if_pos h4]
  ·refine Ev.congr (f := fun k => quote_escape.j0 k s d (d == 92)) (fun k => ?_) (j0 _ ⟨fun h' => .inr (beq_iff_eq.1 h'), fun h' => beq_iff_eq.2 (h'.resolve_left h4)⟩)
   rw [if_neg (by omega), if_pos (by omega), hd, if_neg h4]

/-! .. in the reference -/
set_option maxRecDepth 100000 in
theorem rdigit_ev (c : Int) (h0 : 0 ≤ c) (h1 : c < 256) : Ev (fun k => tachographref20_digit.f k c) (dg c) := by
 obtain ⟨m, rfl⟩ := Int.eq_ofNat_of_zero_le h0
 have hm : m < 256 := by omega
 have key : ∀ k : Fin 256, tachographref20_digit.f 3 (k.1 : Int) = some (dg (k.1 : Int)) := by decide
 exact Ev.of (fun k => tachographref20_digit.mono _ k) (key ⟨m, hm⟩)

theorem next_ev (s : ByteArray) (c : Int) (r : List Int) (h : bytesOf s = c :: r) : Ev (fun k => tachographref20_next.f k s) (nx (c :: r)) := by
 have hl := bytesOf_length s
 obtain ⟨h0, hc⟩ := bt_cons h
 unfold tachographref20_next.f
 by_cases a1 : c < 32
 ·refine Ev.congr (f := fun _ => some (0, 0, 4)) (fun k => by rw [if_pos (by omega), hc, if_pos a1]) ?_
  simp only [nx, if_pos a1]
  exact Ev.now _
 ·by_cases a2 : c = 92
  ·simp only [nx, if_neg a1, if_pos a2]
   cases r with
   | nil =>
    have : s.size = 1 := by rw [← hl, h]; rfl
    exact Ev.congr (f := fun _ => some (0, 0, 2)) (fun k => by rw [if_pos (by omega), hc, if_neg a1, if_pos a2, if_pos (by omega)]) (Ev.now _)
   | cons d r =>
    obtain ⟨hd, hds⟩ := bt_get (s := s) (l := [c]) (c := d) (r := r) h
    have hd : bt s 1 = d := hd
    have hds : 1 < s.size := hds
    have j0 : ∀ b, (b = true ↔ d = 34 ∨ d = 92) → Ev (fun k => tachographref20_next.j0 k s b) (esc (d :: r)) := by
     intro b hb
     by_cases h1 : d = 34 ∨ d = 92
     ·have hbt := hb.2 h1
      subst hbt
      refine Ev.step (f := fun _ => some (d, 2, 0)) (fun k => ?_) (by simp only [esc, if_pos h1]; exact Ev.now _)
      simp only [tachographref20_next.j0, if_true]
      rw [if_pos (by omega), hd]
     ·have hbf : b = false := by
       cases b with
       | false => rfl
       | true => exact absurd (hb.1 rfl) h1
      subst hbf
      by_cases h2 : d = 110
      ·refine Ev.step (f := fun _ => some (10, 2, 0)) (fun k => ?_) (by simp only [esc, if_neg h1, if_pos h2]; exact Ev.now _)
       simp only [tachographref20_next.j0, Bool.false_eq_true, if_false]
       rw [if_pos (by omega), hd, if_pos h2]
      ·by_cases h3 : d = 120
       ·cases r with
        | nil =>
         have : s.size = 2 := by rw [← hl, h]; rfl
         refine Ev.step (f := fun _ => some (0, 0, 2)) (fun k => ?_) (by simp only [esc, if_neg h1, if_neg h2, if_pos h3]; exact Ev.now _)
         simp only [tachographref20_next.j0, Bool.false_eq_true, if_false]
         rw [if_pos (by omega), hd, if_neg h2, if_pos h3, if_pos (by omega)]
        | cons x r =>
         obtain ⟨hx, hxs⟩ := bt_get (s := s) (l := [c, d]) (c := x) (r := r) h
         have hx : bt s 2 = x := hx
         have hxs : 2 < s.size := hxs
         have hxr := bt_range s 2
         rw [hx] at hxr
         have hdx := dg_range x
         refine Ev.step (f := fun k => (tachographref20_digit.f k x).bind fun t160 => (if t160 < 0 then (some (0, 0, 4)) else (if (s.size : Int) = 3 then (some (0, 0, 2)) else (if 3 < (s.size : Int) then ((tachographref20_digit.f k (bt s 3)).bind fun t161 => (if t161 < 0 then (some (0, 0, 4)) else (some ((wrap64 ((wrap64 (16 * t160)) + t161)) % 256, 4, 0)))) else (none))))) (fun k => ?_) ?_
         ·simp only [tachographref20_next.j0, Bool.false_eq_true, if_false]
          rw [if_pos (by omega), hd, if_neg h2, if_pos h3, if_neg (by omega), if_pos (by omega), hx]
         ·refine Ev.bind (rdigit_ev x (by omega) (by omega)) ?_
          by_cases hn : dg x < 0
          ·simp only [esc, if_neg h1, if_neg h2, if_pos h3, if_pos hn]
           exact Ev.now _
          ·cases r with
           | nil =>
            have h3s : (s.size : Int) = 3 := by rw [← hl, h]; rfl
            simp only [esc, if_neg h1, if_neg h2, if_pos h3, if_neg hn, if_pos h3s]
            exact Ev.now _
           | cons y r =>
            obtain ⟨hy, hys⟩ := bt_get (s := s) (l := [c, d, x]) (c := y) (r := r) h
            have hy : bt s 3 = y := hy
            have hys : 3 < s.size := hys
            have hyr := bt_range s 3
            rw [hy] at hyr
            have hdy := dg_range y
            have hne3 : ¬ (s.size : Int) = 3 := by omega
            have hlt3 : 3 < (s.size : Int) := by omega
            simp only [if_neg hn, if_neg hne3, if_pos hlt3, hy]
            refine Ev.bind (rdigit_ev y (by omega) (by omega)) ?_
            by_cases hn2 : dg y < 0
            ·simp only [esc, if_neg h1, if_neg h2, if_pos h3, if_neg hn, if_pos hn2]
             exact Ev.now _
            ·simp only [esc, if_neg h1, if_neg h2, if_pos h3, if_neg hn, if_neg hn2]
             have hw1 : wrap64 (16 * dg x) = 16 * dg x := w64 (by omega) (by omega)
             have hw2 : wrap64 (16 * dg x + dg y) = 16 * dg x + dg y := w64 (by omega) (by omega)
             have hm : (16 * dg x + dg y) % 256 = 16 * dg x + dg y := by omega
             rw [hw1, hw2, hm]
             exact Ev.now _
       ·refine Ev.step (f := fun _ => some (0, 0, 4)) (fun k => ?_) (by simp only [esc, if_neg h1, if_neg h2, if_neg h3]; exact Ev.now _)
        simp only [tachographref20_next.j0, Bool.false_eq_true, if_false]
        rw [if_pos (by omega), hd, if_neg h2, if_neg h3]
    by_cases h4 : d = 34
    ·refine Ev.congr (f := fun k => tachographref20_next.j0 k s true) (fun k => ?_) (j0 _ ⟨fun _ => .inl h4, fun _ => rfl⟩)
     rw [if_pos (by omega), hc, if_neg a1, if_pos a2, if_neg (by omega), if_pos (by omega), hd, if_pos h4]
    ·refine Ev.congr (f := fun k => tachographref20_next.j0 k s (d == 92)) (fun k => ?_) (j0 _ ⟨fun h' => .inr (beq_iff_eq.1 h'), fun h' => beq_iff_eq.2 (h'.resolve_left h4)⟩)
     rw [if_pos (by omega), hc, if_neg a1, if_pos a2, if_neg (by omega), if_pos (by omega), hd, if_neg h4]
  ·simp only [nx, if_neg a1, if_neg a2]
   exact Ev.congr (f := fun _ => some (c, 1, 0)) (fun k => by rw [if_pos (by omega), hc, if_neg a1, if_neg a2]) (Ev.now _)

/-! ### reading a quote -/
theorem esc_fits (r : List Int) (h : (esc r).2.2 = 0) : 2 ≤ (esc r).2.1 ∧ (esc r).2.1 ≤ (r.length : Int) + 1 ∧ (Byt r → 0 ≤ (esc r).1 ∧ (esc r).1 < 256) := by
 cases r with
 | nil => simp [esc] at h
 | cons d r =>
  by_cases h1 : d = 34 ∨ d = 92
  ·simp only [esc, if_pos h1, List.length_cons]
   exact ⟨by omega, by omega, fun hb => by omega⟩
  ·by_cases h2 : d = 110
   ·simp only [esc, if_neg h1, if_pos h2, List.length_cons]
    exact ⟨by omega, by omega, fun hb => by omega⟩
   ·by_cases h3 : d = 120
    ·cases r with
     | nil => simp [esc, if_neg h1, if_neg h2, if_pos h3] at h
     | cons x r =>
      have hx := dg_range x
      by_cases hn : dg x < 0
      ·simp only [esc, if_neg h1, if_neg h2, if_pos h3, if_pos hn] at h
       cases h
      ·cases r with
       | nil =>
        simp only [esc, if_neg h1, if_neg h2, if_pos h3, if_neg hn] at h
        cases h
       | cons y r =>
        have hy := dg_range y
        by_cases hn2 : dg y < 0
        ·simp only [esc, if_neg h1, if_neg h2, if_pos h3, if_neg hn, if_pos hn2] at h
         cases h
        ·simp only [esc, if_neg h1, if_neg h2, if_pos h3, if_neg hn, if_neg hn2, List.length_cons]
         exact ⟨by omega, by omega, fun hb => by omega⟩
    ·simp only [esc, if_neg h1, if_neg h2, if_neg h3] at h
     cases h
theorem nx_fits (c : Int) (r : List Int) (h : (nx (c :: r)).2.2 = 0) : 1 ≤ (nx (c :: r)).2.1 ∧ (nx (c :: r)).2.1 ≤ (r.length : Int) + 1 ∧ (Byt (c :: r) → 0 ≤ (nx (c :: r)).1 ∧ (nx (c :: r)).1 < 256) := by
 by_cases a1 : c < 32
 ·simp only [nx, if_pos a1] at h
  cases h
 ·by_cases a2 : c = 92
  ·simp only [nx, if_neg a1, if_pos a2] at h ⊢
   obtain ⟨e1, e2, e3⟩ := esc_fits r h
   exact ⟨by omega, e2, fun hb => e3 (fun x hx => hb x (List.mem_cons_of_mem _ hx))⟩
  ·simp only [nx, if_neg a1, if_neg a2]
   exact ⟨by omega, by omega, fun hb => hb c List.mem_cons_self⟩

/-- What is read behind a place: the text's bytes, the place behind it, the error. -/
def gq : Nat → List Int → List Int → Int → List Int × Int × Int
 | 0, _, _, _ => ([], 0, 2)
 | n + 1, [], _, _ => ([], 0, 2)
 | n + 1, c :: r, out, a => if c = 34 then (if out.length > 200 then ([], 0, 6) else (out, a + 1, 0)) else if (nx (c :: r)).2.2 = 0 then gq n ((c :: r).drop (nx (c :: r)).2.1.toNat) (out ++ [(nx (c :: r)).1]) (a + (nx (c :: r)).2.1) else ([], 0, (nx (c :: r)).2.2)
def qget (s : ByteArray) : List Int × Int × Int := match bytesOf s with
 | [] => ([], 0, 2)
 | c :: r => if c = 34 then gq (r.length + 1) r [] 1 else ([], 0, 4)
def qval (z : List Int × Int × Int) : ByteArray × Int × Int := (strOfNums z.1, z.2.1, z.2.2)

theorem ext_drop (s : ByteArray) (i : Nat) (h : i ≤ s.size) : bytesOf (s.extract ((i : Int)).toNat s.size) = (bytesOf s).drop i := by
 have hl := bytesOf_length s
 rw [bytesOf_extract, Int.toNat_natCast, List.take_of_length_le (by omega)]

theorem gq_from (s : ByteArray) (hs : s.size ≤ 10000000000) : ∀ (n i : Nat) (out : List Int), s.size < n + i → 1 ≤ i → i ≤ s.size → out.length + 1 ≤ i → Byt out →
  Ev (fun k => quote_Get.l0 k s out (i : Int)) (qval (gq n ((bytesOf s).drop i) out (i : Int))) ∧ Ev (fun k => tachographref20_Get.l0 k s (strOfNums out) (i : Int)) (qval (gq n ((bytesOf s).drop i) out (i : Int)))
 | 0, i, out => fun h _ h1 _ _ => absurd h (by omega)
 | n + 1, i, out => fun h h0 h1 ho hb => by
  have hl := bytesOf_length s
  rcases Nat.lt_or_ge i s.size with hi | hi
  ·have hd := bt_drop s i hi
   have hr := bt_range s (i : Int)
   obtain ⟨c, hc⟩ : ∃ c, bt s (i : Int) = c := ⟨_, rfl⟩
   rw [hc] at hd hr
   obtain ⟨r, hrd⟩ : ∃ r, (bytesOf s).drop (i + 1) = r := ⟨_, rfl⟩
   rw [hrd] at hd
   have hex := ext_drop s i (by omega)
   rw [hd] at hex
   have hby : Byt (c :: r) := by rw [← hd]; exact (byt_bytesOf s).drop _
   have hrl : r.length = s.size - (i + 1) := by rw [← hrd, List.length_drop, hl]
   have hsz : ((strOfNums out).size : Int) = out.length := by rw [strOfNums_size]
   rw [hd]
   by_cases hq : c = 34
   ·by_cases hlong : out.length > 200
    ·simp only [gq, if_pos hq, if_pos hlong, qval]
     constructor
     ·refine Ev.step (f := fun k => quote_Get.j2 k s out (i : Int) c 1 true) (fun k => ?_) (Ev.step (f := fun _ => some (⟨#[]⟩, 0, 6)) (fun k => ?_) ?_)
      ·simp only [quote_Get.l0]
       rw [if_pos (by omega), if_pos (by omega), hc, if_pos hq, decide_eq_true (by omega)]
      ·simp only [quote_Get.j2, if_true]
      ·rw [← s_0]; exact Ev.now _
     ·refine Ev.step (f := fun k => tachographref20_Get.j1 k s (strOfNums out) (i : Int) false) (fun k => ?_) (Ev.step (f := fun _ => some (⟨#[]⟩, 0, 6)) (fun k => ?_) ?_)
      ·simp only [tachographref20_Get.l0]
       rw [if_pos (by omega), if_pos (by omega), hc, bne_eq_false_iff_eq.mpr hq]
      ·simp only [tachographref20_Get.j1, Bool.false_eq_true, if_false]
       rw [if_neg (by omega), if_pos (by omega)]
      ·rw [← s_0]; exact Ev.now _
    ·simp only [gq, if_pos hq, if_neg hlong, qval]
     constructor
     ·refine Ev.step (f := fun k => quote_Get.j2 k s out (i : Int) c 1 false) (fun k => ?_) (Ev.step (f := fun _ => some (strOfNums out, (i : Int) + 1, 0)) (fun k => ?_) (Ev.now _))
      ·simp only [quote_Get.l0]
       rw [if_pos (by omega), if_pos (by omega), hc, if_pos hq, decide_eq_false (by omega)]
      ·simp only [quote_Get.j2, Bool.false_eq_true, if_false]
       rw [if_pos hq, w64 (by omega) (by omega)]
     ·refine Ev.step (f := fun k => tachographref20_Get.j1 k s (strOfNums out) (i : Int) false) (fun k => ?_) (Ev.step (f := fun _ => some (strOfNums out, (i : Int) + 1, 0)) (fun k => ?_) (Ev.now _))
      ·simp only [tachographref20_Get.l0]
       rw [if_pos (by omega), if_pos (by omega), hc, bne_eq_false_iff_eq.mpr hq]
      ·simp only [tachographref20_Get.j1, Bool.false_eq_true, if_false]
       rw [if_neg (by omega), if_neg (by omega), w64 (by omega) (by omega)]
   ·have hne := next_ev (s.extract ((i : Int)).toNat s.size) c r hex
    obtain ⟨z, hz⟩ : ∃ z, nx (c :: r) = z := ⟨_, rfl⟩
    rw [hz] at hne
    have hstep : ∀ k, quote_Get.l0 (k + 1 + 1) s out (i : Int) = quote_Get.j2 (k + 1) s out (i : Int) c 1 false := fun k => by
     simp only [quote_Get.l0]
     rw [if_pos (by omega), if_pos (by omega), hc, if_neg hq]
    have hrstep : Ev (fun k => tachographref20_Get.j1 k s (strOfNums out) (i : Int) true) (qval (gq (n + 1) (c :: r) out (i : Int))) → Ev (fun k => tachographref20_Get.l0 k s (strOfNums out) (i : Int)) (qval (gq (n + 1) (c :: r) out (i : Int))) := fun hj => by
     refine Ev.step (f := fun k => tachographref20_Get.j1 k s (strOfNums out) (i : Int) true) (fun k => ?_) hj
     simp only [tachographref20_Get.l0]
     rw [if_pos (by omega), if_pos (by omega), hc, bne_iff_ne.mpr hq]
    have hpstep : Ev (fun k => quote_Get.j2 k s out (i : Int) c 1 false) (qval (gq (n + 1) (c :: r) out (i : Int))) → Ev (fun k => quote_Get.l0 k s out (i : Int)) (qval (gq (n + 1) (c :: r) out (i : Int))) := fun hj => by
     refine Ev.step (f := fun k => quote_Get.j2 k s out (i : Int) c 1 false) (fun k => ?_) hj
     simp only [quote_Get.l0]
     rw [if_pos (by omega), if_pos (by omega), hc, if_neg hq]
    by_cases hz0 : z.2.2 = 0
    ·obtain ⟨f1, f2, f3⟩ := nx_fits c r (by rw [hz]; exact hz0)
     rw [hz] at f1 f2 f3
     have f4 := f3 hby
     obtain ⟨m, hm⟩ : ∃ m : Nat, z.2.1 = m := ⟨z.2.1.toNat, by omega⟩
     have hdr : (c :: r).drop m = (bytesOf s).drop (i + m) := by rw [← List.drop_drop, hd]
     have ih := gq_from s hs n (i + m) (out ++ [z.1]) (by omega) (by omega) (by omega) (by simp only [List.length_append, List.length_cons, List.length_nil]; omega) (hb.append (fun x hx => by rw [List.mem_singleton.1 hx]; exact f4))
     have hg : gq (n + 1) (c :: r) out (i : Int) = gq n ((bytesOf s).drop (i + m)) (out ++ [z.1]) ((i + m : Nat) : Int) := by
      simp only [gq, if_neg hq, hz, if_pos hz0]
      rw [hm, Int.toNat_natCast, hdr, Int.natCast_add]
     constructor
     ·refine hpstep ?_
      rw [hg]
      by_cases a2 : c = 92
      ·have he := escape_ev (s.extract ((i : Int)).toNat s.size) r (by rw [hex, a2])
       have hzz : esc r = z := by
        rw [← hz]
        simp only [nx, if_neg (show ¬ c < 32 by omega), if_pos a2]
       rw [hzz] at he
       refine Ev.step (f := fun k => (quote_escape.f k (s.extract ((i : Int)).toNat s.size)).bind fun b => if b.2.2 = 0 then (if out.length < 140737488355328 then quote_Get.l0 k s (out ++ [b.1]) (wrap64 ((i : Int) + b.2.1)) else none) else some (⟨#[]⟩, 0, b.2.2)) (fun k => ?_) ?_
       ·simp only [quote_Get.j2, Bool.false_eq_true, if_false]
        rw [if_neg hq, if_neg (by omega), if_pos a2, if_pos (by omega), if_pos (by omega)]
       ·refine Ev.bind he ?_
        have hw : wrap64 ((i : Int) + z.2.1) = ((i + m : Nat) : Int) := by rw [w64 (by omega) (by omega)]; omega
        have hlt : out.length < 140737488355328 := by omega
        simp only [if_pos hz0, if_pos hlt, hw]
        exact ih.1
      ·have a1 : ¬ c < 32 := fun a1 => by
        simp only [nx, if_pos a1] at hz
        rw [← hz] at hz0
        cases hz0
       have hzz : z = (c, 1, 0) := by rw [← hz]; simp only [nx, if_neg a1, if_neg a2]
       have hm1 : m = 1 := by rw [hzz] at hm; have : (1 : Int) = m := hm; omega
       subst hm1
       refine Ev.step (f := fun k => quote_Get.l0 k s (out ++ [z.1]) ((i + 1 : Nat) : Int)) (fun k => ?_) ih.1
       simp only [quote_Get.j2, Bool.false_eq_true, if_false]
       rw [if_neg hq, if_neg a1, if_neg a2, if_pos (by omega), w64 (by omega) (by omega), hzz]
       rfl
     ·refine hrstep ?_
      rw [hg]
      refine Ev.step (f := fun k => (tachographref20_next.f k (s.extract ((i : Int)).toNat s.size)).bind fun b => if b.2.2 = 0 then (if (strOfNums out).size + (strOfNums [b.1]).size ≤ 9223372036854775807 then tachographref20_Get.l0 k s (strOfNums out ++ strOfNums [b.1]) (wrap64 ((i : Int) + b.2.1)) else none) else some (⟨#[]⟩, 0, b.2.2)) (fun k => ?_) ?_
      ·simp only [tachographref20_Get.j1, if_true, Option.bind_some]
       rw [if_pos (by omega), if_pos (by omega)]
      ·refine Ev.bind hne ?_
       have hw : wrap64 ((i : Int) + z.2.1) = ((i + m : Nat) : Int) := by rw [w64 (by omega) (by omega)]; omega
       have hlt : (strOfNums out).size + (strOfNums [z.1]).size ≤ 9223372036854775807 := by rw [strOfNums_size, strOfNums_size]; simp only [List.length_cons, List.length_nil]; omega
       simp only [if_pos hz0, if_pos hlt, hw, ← strOfNums_append]
       exact ih.2
    ·have hg : gq (n + 1) (c :: r) out (i : Int) = ([], 0, z.2.2) := by simp only [gq, if_neg hq, hz, if_neg hz0]
     rw [hg] at hpstep hrstep ⊢
     constructor
     ·refine hpstep ?_
      by_cases a1 : c < 32
      ·have hzz : z = (0, 0, 4) := by rw [← hz]; simp only [nx, if_pos a1]
       refine Ev.step (f := fun _ => some (⟨#[]⟩, 0, 4)) (fun k => ?_) (by rw [hzz]; show Ev _ (strOfNums [], 0, 4); rw [← s_0]; exact Ev.now _)
       simp only [quote_Get.j2, Bool.false_eq_true, if_false]
       rw [if_neg hq, if_pos a1]
      ·by_cases a2 : c = 92
       ·have he := escape_ev (s.extract ((i : Int)).toNat s.size) r (by rw [hex, a2])
        have hzz : esc r = z := by
         rw [← hz]
         simp only [nx, if_neg a1, if_pos a2]
        rw [hzz] at he
        refine Ev.step (f := fun k => (quote_escape.f k (s.extract ((i : Int)).toNat s.size)).bind fun b => if b.2.2 = 0 then (if out.length < 140737488355328 then quote_Get.l0 k s (out ++ [b.1]) (wrap64 ((i : Int) + b.2.1)) else none) else some (⟨#[]⟩, 0, b.2.2)) (fun k => ?_) ?_
        ·simp only [quote_Get.j2, Bool.false_eq_true, if_false]
         rw [if_neg hq, if_neg a1, if_pos a2, if_pos (by omega), if_pos (by omega)]
        ·refine Ev.bind he ?_
         simp only [if_neg hz0]
         show Ev _ (strOfNums [], 0, z.2.2)
         rw [← s_0]
         exact Ev.now _
       ·exfalso
        rw [← hz] at hz0
        simp only [nx, if_neg a1, if_neg a2] at hz0
        exact hz0 trivial
     ·refine hrstep ?_
      refine Ev.step (f := fun k => (tachographref20_next.f k (s.extract ((i : Int)).toNat s.size)).bind fun b => if b.2.2 = 0 then (if (strOfNums out).size + (strOfNums [b.1]).size ≤ 9223372036854775807 then tachographref20_Get.l0 k s (strOfNums out ++ strOfNums [b.1]) (wrap64 ((i : Int) + b.2.1)) else none) else some (⟨#[]⟩, 0, b.2.2)) (fun k => ?_) ?_
      ·simp only [tachographref20_Get.j1, if_true, Option.bind_some]
       rw [if_pos (by omega), if_pos (by omega)]
      ·refine Ev.bind hne ?_
       simp only [if_neg hz0]
       show Ev _ (strOfNums [], 0, z.2.2)
       rw [← s_0]
       exact Ev.now _
  ·have e : (bytesOf s).drop i = [] := List.drop_eq_nil_iff.2 (by omega)
   rw [e]
   constructor
   ·refine Ev.step (f := fun _ => some (⟨#[]⟩, 0, 2)) (fun k => ?_) (by show Ev _ (strOfNums [], 0, 2); rw [← s_0]; exact Ev.now _)
    simp only [quote_Get.l0]
    rw [if_neg (by omega)]
   ·refine Ev.step (f := fun k => tachographref20_Get.j1 k s (strOfNums out) (i : Int) false) (fun k => ?_) (Ev.step (f := fun _ => some (⟨#[]⟩, 0, 2)) (fun k => ?_) (by show Ev _ (strOfNums [], 0, 2); rw [← s_0]; exact Ev.now _))
    ·simp only [tachographref20_Get.l0]
     rw [if_neg (by omega)]
    ·simp only [tachographref20_Get.j1, Bool.false_eq_true, if_false]
     rw [if_pos (by omega)]

theorem nil_toList (s : ByteArray) (h : bytesOf s = []) : s.toList = ([] : List UInt8) := by
 have hl := bytesOf_length s
 rw [h] at hl
 rw [toList_eq]
 exact List.length_eq_zero_iff.1 (by rw [Array.length_toList]; exact hl.symm)
theorem cons_toList (s : ByteArray) {c : Int} {r : List Int} (h : bytesOf s = c :: r) : ¬ s.toList = ([] : List UInt8) := fun h' => by
 rw [toList_eq] at h'
 unfold bytesOf at h
 rw [h'] at h
 cases h
theorem get_ev (s : ByteArray) (hs : s.size ≤ 10000000000) : Ev (fun k => quote_Get.f k s) (qval (qget s)) ∧ Ev (fun k => tachographref20_Get.f k s) (qval (qget s)) := by
 have hl := bytesOf_length s
 unfold quote_Get.f tachographref20_Get.f qget
 cases hb : bytesOf s with
 | nil =>
  have hn := nil_toList s hb
  have h0 : s.size = 0 := by rw [← hl, hb]; rfl
  constructor
  ·refine Ev.congr (f := fun k => quote_Get.j0 k s false) (fun k => by rw [if_pos hn]) (Ev.step (f := fun k => quote_Get.l0 k s [] 1) (fun k => ?_) (Ev.step (f := fun _ => some (⟨#[]⟩, 0, 2)) (fun k => ?_) (by show Ev _ (strOfNums [], 0, 2); rw [← s_0]; exact Ev.now _)))
   ·simp only [quote_Get.j0, Bool.false_eq_true, if_false]
   ·simp only [quote_Get.l0]
    rw [if_neg (by omega)]
  ·exact Ev.congr (f := fun _ => some (⟨#[]⟩, 0, 2)) (fun k => by rw [if_pos hn]) (by show Ev _ (strOfNums [], 0, 2); rw [← s_0]; exact Ev.now _)
 | cons c r =>
  have hn := cons_toList s hb
  obtain ⟨h0, hc⟩ := bt_cons hb
  have hrl : r.length + 1 = s.size := by rw [← hl, hb]; rfl
  by_cases hq : c = 34
  ·have h := gq_from s hs (r.length + 1) 1 [] (by omega) (by omega) (by omega) (by simp) Byt.nil
   have hd : (bytesOf s).drop 1 = r := by rw [hb]; rfl
   rw [hd] at h
   simp only [if_pos hq]
   constructor
   ·refine Ev.congr (f := fun k => quote_Get.j0 k s false) (fun k => ?_) (Ev.step (f := fun k => quote_Get.l0 k s [] ((1 : Nat) : Int)) (fun k => ?_) h.1)
    ·rw [if_neg hn, if_pos (by omega), hc, bne_eq_false_iff_eq.mpr hq]
    ·simp only [quote_Get.j0, Bool.false_eq_true, if_false]
     rfl
   ·refine Ev.congr (f := fun k => tachographref20_Get.l0 k s (strOfNums []) ((1 : Nat) : Int)) (fun k => ?_) h.2
    rw [if_neg hn, if_pos (by omega), hc, if_pos hq, s_0]
    rfl
  ·simp only [if_neg hq]
   constructor
   ·refine Ev.congr (f := fun k => quote_Get.j0 k s true) (fun k => ?_) (Ev.step (f := fun _ => some (⟨#[]⟩, 0, 4)) (fun k => ?_) (by show Ev _ (strOfNums [], 0, 4); rw [← s_0]; exact Ev.now _))
    ·rw [if_neg hn, if_pos (by omega), hc, bne_iff_ne.mpr hq]
    ·simp only [quote_Get.j0, if_true]
   ·exact Ev.congr (f := fun _ => some (⟨#[]⟩, 0, 4)) (fun k => by rw [if_neg hn, if_pos (by omega), hc, if_neg hq]) (by show Ev _ (strOfNums [], 0, 4); rw [← s_0]; exact Ev.now _)

/-! ### what was quoted is read -/
theorem dg_hx (n : Int) (h0 : 0 ≤ n) (h1 : n < 16) : dg (hx n) = n := by
 unfold dg hx
 (repeat' split) <;> omega
theorem nx_qb (c : Int) (hc : 0 ≤ c ∧ c < 256) (rest : List Int) : nx (qb c ++ rest) = (c, ((qb c).length : Int), 0) ∧ ∃ d r, qb c = d :: r ∧ d ≠ 34 := by
 unfold qb
 by_cases h10 : c = 10
 ·rw [if_pos h10]
  refine ⟨?_, _, _, rfl, by decide⟩
  rw [h10]
  rfl
 ·rw [if_neg h10]
  by_cases h2 : c < 32 ∨ c > 126
  ·rw [if_pos h2]
   refine ⟨?_, _, _, rfl, by decide⟩
   have d1 := dg_hx (c / 16) (by omega) (by omega)
   have d2 := dg_hx (c % 16) (by omega) (by omega)
   show esc (120 :: hx (c / 16) :: hx (c % 16) :: rest) = _
   simp only [esc, d1, d2]
   rw [if_neg (by omega), if_neg (by omega), if_pos trivial, if_neg (by omega), if_neg (by omega), show 16 * (c / 16) + c % 16 = c by omega]
   rfl
  ·rw [if_neg h2]
   by_cases h3 : c = 34 ∨ c = 92
   ·rw [if_pos h3]
    refine ⟨?_, _, _, rfl, by decide⟩
    show esc (c :: rest) = _
    simp only [esc, if_pos h3]
    rfl
   ·rw [if_neg h3]
    refine ⟨?_, _, _, rfl, by omega⟩
    show nx (c :: rest) = _
    simp only [nx]
    rw [if_neg (by omega), if_neg (by omega)]
    rfl
theorem gq_quo (rest : List Int) : ∀ (l : List Int) (n : Nat) (out : List Int) (a : Int), Byt l → l.length < n → gq n (l.flatMap qb ++ 34 :: rest) out a = if (out ++ l).length > 200 then ([], 0, 6) else (out ++ l, a + ((l.flatMap qb).length : Int) + 1, 0)
 | [], 0, out, a => fun _ h => absurd h (by simp)
 | [], n + 1, out, a => fun hb h => by
  simp only [List.flatMap_nil, List.nil_append, gq, if_true, List.append_nil, List.length_nil]
  rw [show a + ((0 : Nat) : Int) + 1 = a + 1 by omega]
 | c :: l, 0, out, a => fun _ h => absurd h (by simp)
 | c :: l, n + 1, out, a => fun hb h => by
  have hc := hb c List.mem_cons_self
  have hb' : Byt l := fun x hx => hb x (List.mem_cons_of_mem _ hx)
  obtain ⟨h1, d, r, h2, h3⟩ := nx_qb c hc (l.flatMap qb ++ 34 :: rest)
  have ih := gq_quo rest l n (out ++ [c]) (a + ((qb c).length : Int)) hb' (by rw [List.length_cons] at h; omega)
  have e : (c :: l).flatMap qb ++ 34 :: rest = d :: (r ++ (l.flatMap qb ++ 34 :: rest)) := by rw [List.flatMap_cons, h2]; simp
  have e2 : d :: (r ++ (l.flatMap qb ++ 34 :: rest)) = qb c ++ (l.flatMap qb ++ 34 :: rest) := by rw [h2]; rfl
  rw [e]
  simp only [gq, if_neg h3]
  rw [e2, h1]
  dsimp only
  rw [if_pos rfl, Int.toNat_natCast, List.drop_left, ih]
  have e3 : out ++ [c] ++ l = out ++ c :: l := by simp
  have e4 : (qb c ++ l.flatMap qb).length = (qb c).length + (l.flatMap qb).length := List.length_append
  rw [e3, List.flatMap_cons, e4, show a + ((qb c).length : Int) + ((l.flatMap qb).length : Int) + 1 = a + (((qb c).length + (l.flatMap qb).length : Nat) : Int) + 1 by omega]
theorem qget_quo (l rest : List Int) (hl : Byt l) (hr : Byt rest) : qget (strOfNums (quo l ++ rest)) = if l.length > 200 then ([], 0, 6) else (l, ((quo l).length : Int), 0) := by
 have hb : bytesOf (strOfNums (quo l ++ rest)) = 34 :: (l.flatMap qb ++ 34 :: rest) := by
  rw [bytesOf_strOfNums ((quo_byt l hl).append hr)]
  simp [quo]
 unfold qget
 rw [hb]
 simp only [if_true]
 have hlen : l.length ≤ (l.flatMap qb).length := by
  clear hb hr rest
  induction l with
  | nil => simp
  | cons c l ih =>
   have h1 := ih (fun x hx => hl x (List.mem_cons_of_mem _ hx))
   obtain ⟨_, d, r, h2, _⟩ := nx_qb c (hl c List.mem_cons_self) []
   rw [List.flatMap_cons, List.length_append, List.length_cons, h2, List.length_cons]
   omega
 rw [gq_quo rest l _ [] 1 hl (by rw [List.length_append]; omega)]
 simp only [List.nil_append, quo, List.length_cons, List.length_append, List.length_nil]
 rw [show (1 : Int) + ((l.flatMap qb).length : Int) + 1 = (((l.flatMap qb).length + (0 + 1) + 1 : Nat) : Int) by omega]

/-! ### what is read fits -/
theorem gq_fits : ∀ (n : Nat) (l out : List Int) (a : Int), Byt l → Byt out → (gq n l out a).2.2 = 0 → Byt (gq n l out a).1 ∧ (gq n l out a).1.length ≤ 200 ∧ (gq n l out a).2.1 ≤ a + (l.length : Int)
 | 0, l, out, a => fun _ _ h => by simp [gq] at h
 | n + 1, [], out, a => fun _ _ h => by simp [gq] at h
 | n + 1, c :: r, out, a => fun hl ho h => by
  simp only [gq] at h ⊢
  by_cases hq : c = 34
  ·simp only [if_pos hq] at h ⊢
   by_cases h2 : out.length > 200
   ·rw [if_pos h2] at h
    cases h
   ·rw [if_neg h2]
    exact ⟨ho, by dsimp only; omega, by dsimp only; rw [List.length_cons]; omega⟩
  ·simp only [if_neg hq] at h ⊢
   by_cases hz : (nx (c :: r)).2.2 = 0
   ·rw [if_pos hz] at h ⊢
    obtain ⟨f1, f2, f3⟩ := nx_fits c r hz
    obtain ⟨g1, g2, g3⟩ := gq_fits n _ _ _ (hl.drop _) (ho.append (fun x hx => by rw [List.mem_singleton.1 hx]; exact f3 hl)) h
    refine ⟨g1, g2, ?_⟩
    rw [List.length_drop] at g3
    rw [List.length_cons] at g3 ⊢
    omega
   ·rw [if_neg hz] at h
    exact absurd h hz
theorem gq_none : ∀ (n : Nat) (l out : List Int) (a : Int), (gq n l out a).2.2 ≠ 0 → (gq n l out a).1 = []
 | 0, l, out, a => fun _ => rfl
 | n + 1, [], out, a => fun _ => rfl
 | n + 1, c :: r, out, a => fun h => by
  simp only [gq] at h ⊢
  by_cases hq : c = 34
  ·simp only [if_pos hq] at h ⊢
   by_cases h2 : out.length > 200
   ·rw [if_pos h2]
   ·rw [if_neg h2] at h
    exact absurd rfl h
  ·simp only [if_neg hq] at h ⊢
   by_cases hz : (nx (c :: r)).2.2 = 0
   ·rw [if_pos hz] at h ⊢
    exact gq_none n _ _ _ h
   ·rw [if_neg hz]
theorem qget_fits (s : ByteArray) : Byt (qget s).1 ∧ (qget s).1.length ≤ 200 ∧ ((qget s).2.2 = 0 → (qget s).2.1 ≤ (s.size : Int)) := by
 have hl := bytesOf_length s
 have hby := byt_bytesOf s
 unfold qget
 cases hb : bytesOf s with
 | nil => exact ⟨Byt.nil, by simp, fun h => by cases h⟩
 | cons c r =>
  rw [hb] at hby hl
  have hbr : Byt r := fun x hx => hby x (List.mem_cons_of_mem _ hx)
  by_cases hq : c = 34
  ·simp only [if_pos hq]
   by_cases h0 : (gq (r.length + 1) r [] 1).2.2 = 0
   ·obtain ⟨g1, g2, g3⟩ := gq_fits _ _ _ _ hbr Byt.nil h0
    exact ⟨g1, g2, fun _ => by rw [List.length_cons] at hl; omega⟩
   ·rw [gq_none _ _ _ _ h0]
    exact ⟨Byt.nil, by simp, fun h => absurd h h0⟩
  ·simp only [if_neg hq]
   exact ⟨Byt.nil, by simp, fun h => by cases h⟩
end Go.Proofs.Ytjfklfmfeghjnac.MQuote
