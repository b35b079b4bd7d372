/- Proved: tachographlaw25.WoundApplies answers true at every bytes and edits of bulk at most 1048576: what comes of any edits in any bytes, or that they may not be made, is the document's; what was handed in stays. -/
import Derived.Test.YtjfklfmfeghjnacMBase
import Derived.Test.YtjfklfmfeghjnacPWx0
import Derived.Test.YtjfklfmfeghjnacPWx1
import Derived.Test.YtjfklfmfeghjnacPWx2
import Derived.Test.YtjfklfmfeghjnacPWx3
namespace Go.Proofs.Ytjfklfmfeghjnac.Pure
open Go.RowKit Go.Proofs.Ytjfklfmfeghjnac.PW Go.Proofs.Ytjfklfmfeghjnac.MBase Go.Proofs.YtjfklfmfeghjnacW.PrintWords Go.Proofs.YtjfklfmfeghjnacW.PrintLast Go.Proofs.YtjfklfmfeghjnacW.PrintMore Go.Proofs.YtjfklfmfeghjnacOpen

theorem rd_dropE {l : List S86} {i : Nat} {x : S86} {r : List S86} (h : l.drop i = x :: r) : rd_T86 l (i : Int) = x ∧ i < l.length ∧ l.drop (i + 1) = r := by
  have hl : i < l.length := by
    rcases Nat.lt_or_ge i l.length with h1 | h1
    · exact h1
    · rw [List.drop_eq_nil_of_le h1] at h; cases h
  rw [List.drop_eq_getElem_cons hl] at h
  obtain ⟨h1, h2⟩ := List.cons.inj h
  refine ⟨?_, hl, h2⟩
  unfold rd_T86
  rw [Int.toNat_natCast, List.getD_eq_getElem?_getD, List.getElem?_eq_getElem hl, h1]
  rfl

def bodies (r : List S86) : Nat := (r.map fun x => x.f2.length).sum
theorem bodies_cons (x : S86) (r : List S86) : bodies (x :: r) = x.f2.length + bodies r := by simp [bodies]

/-- From and N are of no greater size than the law lets them be. -/
def Few (x : S86) : Prop := (-1099511627776 ≤ x.f0 ∧ x.f0 ≤ 1099511627776) ∧ (-1099511627776 ≤ x.f1 ∧ x.f1 ≤ 1099511627776)

def greatGo : Int → List S86 → Bool
  | n, [] => decide (n > 300)
  | n, x :: r => if x.f1 > 1099511627776 then true else if x.f1 < -1099511627776 then true else if x.f0 > 1099511627776 then true else if x.f0 < -1099511627776 then true else greatGo (n + x.f2.length) r

theorem greatGo_few : ∀ (r : List S86) (n : Int), greatGo n r = false → ∀ x ∈ r, Few x
  | [], _ => fun _ x hx => by cases hx
  | y :: r, n => fun h x hx => by
    unfold greatGo at h
    split at h
    · cases h
    · split at h
      · cases h
      · split at h
        · cases h
        · split at h
          · cases h
          · rcases List.mem_cons.1 hx with rfl | hx
            · unfold Few; omega
            · exact greatGo_few r _ h x hx

theorem great_ev (l : List S86) (hl : l.length < 4611686018427387904) : ∀ (r : List S86) (i : Nat) (n : Int), l.drop i = r → 0 ≤ n → n + bodies r < 4611686018427387904 → Ev (fun k => tachographlaw25_Great.l0 k n l (l.length : Int) (i : Int)) (greatGo n r)
  | [], i, n => fun h h0 h1 => by
    have hi := List.drop_eq_nil_iff.1 h
    refine Ev.step (f := fun _ => some (greatGo n [])) (fun k => ?_) (Ev.now _)
    simp only [tachographlaw25_Great.l0, greatGo]
    rw [if_neg (by omega)]
  | x :: r, i, n => fun h h0 h1 => by
    obtain ⟨hx, hi, hr⟩ := rd_dropE h
    rw [bodies_cons] at h1
    have ih := great_ev l hl r (i + 1) (n + x.f2.length) hr (by omega) (by omega)
    by_cases c1 : x.f1 > 1099511627776
    · refine Ev.step (f := fun _ => some (greatGo n (x :: r))) (fun k => ?_) (Ev.now _)
      simp only [tachographlaw25_Great.l0, greatGo, hx]
      rw [if_pos (by omega), if_pos (by omega), if_pos (by omega), if_pos c1, if_pos c1]
    by_cases c2 : x.f1 < -1099511627776
    · refine Ev.step (f := fun _ => some (greatGo n (x :: r))) (fun k => ?_) (Ev.now _)
      simp only [tachographlaw25_Great.l0, greatGo, hx]
      rw [if_pos (by omega), if_pos (by omega), if_pos (by omega), if_neg c1, if_neg c1, if_pos c2, if_pos c2]
    by_cases c3 : x.f0 > 1099511627776
    · refine Ev.step (f := fun _ => some (greatGo n (x :: r))) (fun k => ?_) (Ev.now _)
      simp only [tachographlaw25_Great.l0, greatGo, hx]
      rw [if_pos (by omega), if_pos (by omega), if_pos (by omega), if_neg c1, if_neg c1, if_neg c2, if_neg c2, if_pos c3, if_pos c3]
    by_cases c4 : x.f0 < -1099511627776
    · refine Ev.step (f := fun _ => some (greatGo n (x :: r))) (fun k => ?_) (Ev.now _)
      simp only [tachographlaw25_Great.l0, greatGo, hx]
      rw [if_pos (by omega), if_pos (by omega), if_pos (by omega), if_neg c1, if_neg c1, if_neg c2, if_neg c2, if_neg c3, if_neg c3, if_pos c4, if_pos c4]
    have hg : greatGo n (x :: r) = greatGo (n + x.f2.length) r := by
      rw [greatGo, if_neg c1, if_neg c2, if_neg c3, if_neg c4]
    rw [hg]
    refine Ev.step (fun k => ?_) ih
    simp only [tachographlaw25_Great.l0, hx]
    rw [if_pos (by omega), if_pos (by omega), if_pos (by omega), if_neg c1, if_neg c2, if_neg c3, if_neg c4, w64 (x := n + _) (by omega) (by omega), w64 (by omega) (by omega)]
    rfl

/-- May they be made, behind what ends at e? -/
def mayGo (size : Int) : Int → List S86 → Bool
  | e, [] => decide (e ≤ size)
  | e, x :: r => if x.f0 < e then false else if x.f1 < 0 then false else if x.f1 > size - x.f0 then false else mayGo size (x.f0 + x.f1) r

theorem mayGo_false {size e : Int} {x : S86} {r : List S86} (h : x.f0 < e ∨ x.f1 < 0 ∨ x.f1 > size - x.f0) : mayGo size e (x :: r) = false := by
  rw [mayGo]
  by_cases a : x.f0 < e
  · rw [if_pos a]
  · rw [if_neg a]
    by_cases b : x.f1 < 0
    · rw [if_pos b]
    · rw [if_neg b]
      by_cases c : x.f1 > size - x.f0
      · rw [if_pos c]
      · omega

theorem may_ev (size : Int) (hs : 0 ≤ size ∧ size ≤ 600) (l : List S86) (hl : l.length < 4611686018427387904) : ∀ (r : List S86) (i : Nat) (e : Int), l.drop i = r → (∀ x ∈ r, Few x) → Ev (fun k => wound_May.l0 k size e l (l.length : Int) (i : Int)) (mayGo size e r)
  | [], i, e => fun h _ => by
    have hi := List.drop_eq_nil_iff.1 h
    refine Ev.step (f := fun _ => some (mayGo size e [])) (fun k => ?_) (Ev.now _)
    simp only [wound_May.l0, mayGo]
    rw [if_neg (by omega)]
  | x :: r, i, e => fun h hf => by
    obtain ⟨hx, hi, hr⟩ := rd_dropE h
    have hfx := hf x List.mem_cons_self
    unfold Few at hfx
    have ih := may_ev size hs l hl r (i + 1) (x.f0 + x.f1) hr (fun y hy => hf y (List.mem_cons_of_mem _ hy))
    by_cases c1 : x.f0 < e
    · refine Ev.step (f := fun _ => some (mayGo size e (x :: r))) (fun k => ?_) (Ev.now _)
      simp only [wound_May.l0, mayGo, hx]
      rw [if_pos (by omega), if_pos (by omega), if_pos (by omega), if_pos c1, if_pos c1]
    by_cases c2 : x.f1 < 0
    · refine Ev.step (f := fun _ => some (mayGo size e (x :: r))) (fun k => ?_) (Ev.now _)
      simp only [wound_May.l0, mayGo, hx]
      rw [if_pos (by omega), if_pos (by omega), if_pos (by omega), if_neg c1, if_neg c1, if_pos c2, if_pos c2]
    by_cases c3 : x.f1 > size - x.f0
    · refine Ev.step (f := fun _ => some (mayGo size e (x :: r))) (fun k => ?_) (Ev.now _)
      simp only [wound_May.l0, mayGo, hx]
      rw [if_pos (by omega), if_pos (by omega), if_pos (by omega), if_neg c1, if_neg c1, if_neg c2, if_neg c2, w64 (by omega) (by omega), if_pos c3, if_pos c3]
    have hg : mayGo size e (x :: r) = mayGo size (x.f0 + x.f1) r := by
      rw [mayGo, if_neg c1, if_neg c2, if_neg c3]
    rw [hg]
    refine Ev.step (fun k => ?_) ih
    simp only [wound_May.l0, hx]
    rw [if_pos (by omega), if_pos (by omega), if_pos (by omega), if_neg c1, if_neg c2, w64 (x := size - _) (by omega) (by omega), if_neg c3, w64 (x := x.f0 + _) (by omega) (by omega), w64 (by omega) (by omega)]
    rfl

theorem refmay_ev (size : Int) (hs : 0 ≤ size ∧ size ≤ 600) (l : List S86) (hl : l.length < 4611686018427387904) (hall : ∀ x ∈ l, Few x) : ∀ (r : List S86) (i : Nat) (e : Int), l.drop i = r → 0 ≤ e → e ≤ size → (i = 0 → e = 0) → (0 < i → (rd_T86 l ((i : Int) - 1)).f0 + (rd_T86 l ((i : Int) - 1)).f1 = e) → Ev (fun k => tachographref25_May.l0 k size l (i : Int)) (mayGo size e r)
  | [], i, e => fun h _ he _ _ => by
    have hi := List.drop_eq_nil_iff.1 h
    refine Ev.step (f := fun _ => some (mayGo size e [])) (fun k => ?_) (Ev.now _)
    simp only [tachographref25_May.l0, mayGo]
    rw [if_neg (by omega), decide_eq_true he]
  | x :: r, i, e => fun h he0 he hz hp => by
    obtain ⟨hx, hi, hr⟩ := rd_dropE h
    have hfx : Few x := hall x (by
      have : x ∈ l.drop i := by rw [h]; exact List.mem_cons_self
      exact List.mem_of_mem_drop this)
    unfold Few at hfx
    have hbad : Ev (fun k => tachographref25_May.j1 k size l (i : Int) true) false := by
      refine Ev.step (f := fun _ => some false) (fun k => ?_) (Ev.now _)
      simp only [tachographref25_May.j1, if_true]
    by_cases c0 : x.f0 < 0
    · have hg : mayGo size e (x :: r) = false := by rw [mayGo, if_pos (by omega)]
      rw [hg]
      refine Ev.step (fun k => ?_) hbad
      simp only [tachographref25_May.l0, hx]
      rw [if_pos (by omega), if_pos (by omega), if_pos c0]
    by_cases c1 : x.f1 < 0
    · have hg : mayGo size e (x :: r) = false := mayGo_false (by omega)
      rw [hg]
      refine Ev.step (fun k => ?_) hbad
      simp only [tachographref25_May.l0, hx]
      rw [if_pos (by omega), if_pos (by omega), if_neg c0, if_pos c1]
    by_cases c2 : x.f0 > size
    · have hg : mayGo size e (x :: r) = false := mayGo_false (by omega)
      rw [hg]
      refine Ev.step (fun k => ?_) hbad
      simp only [tachographref25_May.l0, hx]
      rw [if_pos (by omega), if_pos (by omega), if_neg c0, if_neg c1, if_pos c2]
    by_cases c3 : x.f1 > size - x.f0
    · have hg : mayGo size e (x :: r) = false := mayGo_false (by omega)
      rw [hg]
      refine Ev.step (fun k => ?_) hbad
      simp only [tachographref25_May.l0, hx]
      rw [if_pos (by omega), if_pos (by omega), if_neg c0, if_neg c1, if_neg c2, w64 (by omega) (by omega), decide_eq_true c3]
    have ih := refmay_ev size hs l hl hall r (i + 1) (x.f0 + x.f1) hr (by omega) (by omega) (fun h => by omega) (fun _ => by rw [show (((i + 1 : Nat) : Int) - 1) = (i : Int) by omega, hx])
    refine Ev.step (f := fun k => tachographref25_May.j1 k size l (i : Int) false) (fun k => ?_) ?_
    · simp only [tachographref25_May.l0, hx]
      rw [if_pos (by omega), if_pos (by omega), if_neg c0, if_neg c1, if_neg c2, w64 (by omega) (by omega), decide_eq_false c3]
    by_cases c4 : i = 0
    · have he' := hz c4
      have hg : mayGo size e (x :: r) = mayGo size (x.f0 + x.f1) r := by rw [mayGo, if_neg (by omega), if_neg c1, if_neg c3]
      rw [hg]
      refine Ev.step (fun k => ?_) ih
      simp only [tachographref25_May.j1]
      rw [if_neg (by simp), if_neg (by omega), w64 (by omega) (by omega)]
      rfl
    · have he' := hp (by omega)
      by_cases c5 : x.f0 < e
      · have hg : mayGo size e (x :: r) = false := by rw [mayGo, if_pos c5]
        rw [hg]
        refine Ev.step (f := fun _ => some false) (fun k => ?_) (Ev.now _)
        simp only [tachographref25_May.j1, hx]
        rw [w64 (x := (i : Int) - 1) (by omega) (by omega), he', w64 (x := e) (by omega) (by omega), if_neg (by simp), if_pos (by omega), if_pos (by omega), if_pos (by omega), if_pos (by omega), if_pos (by omega), if_pos c5]
      · have hg : mayGo size e (x :: r) = mayGo size (x.f0 + x.f1) r := by rw [mayGo, if_neg (by omega), if_neg c1, if_neg c3]
        rw [hg]
        refine Ev.step (fun k => ?_) ih
        simp only [tachographref25_May.j1, hx]
        rw [w64 (x := (i : Int) - 1) (by omega) (by omega), he', w64 (x := e) (by omega) (by omega), if_neg (by simp), if_pos (by omega), if_pos (by omega), if_pos (by omega), if_pos (by omega), if_pos (by omega), if_neg c5, w64 (by omega) (by omega)]
        rfl

theorem mayGo_cons {size e : Int} {x : S86} {r : List S86} (h : mayGo size e (x :: r) = true) : e ≤ x.f0 ∧ 0 ≤ x.f1 ∧ x.f0 + x.f1 ≤ size ∧ mayGo size (x.f0 + x.f1) r = true := by
  rw [mayGo] at h
  split at h
  · cases h
  · split at h
    · cases h
    · split at h
      · cases h
      · exact ⟨by omega, by omega, by omega, h⟩

/-- What comes of them, behind what ends at e. -/
def appGo (b : List Int) : Nat → List S86 → List Int
  | e, [] => b.drop e
  | e, x :: r => (b.take x.f0.toNat).drop e ++ x.f2 ++ appGo b (x.f0 + x.f1).toNat r

theorem appGo_len (b : List Int) : ∀ (r : List S86) (e : Nat), (appGo b e r).length ≤ b.length * (r.length + 1) + bodies r
  | [], e => by simp [appGo, bodies]
  | x :: r, e => by
    have ih := appGo_len b r (x.f0 + x.f1).toNat
    simp only [appGo, List.length_append, List.length_drop, List.length_take, bodies_cons, List.length_cons]
    have : b.length * (r.length + 1 + 1) = b.length * (r.length + 1) + b.length := by rw [Nat.mul_add_one]
    omega

theorem room_step {X a c d n m : Nat} (h : a + 600 * (n + 1 + 1) + (c + m) ≤ X) (g : d ≤ a + 600) : d + c + 600 * (n + 1) + m ≤ X := by
  rw [Nat.mul_add_one] at h
  generalize 600 * (n + 1) = q at h ⊢
  omega

theorem apply_ev (b : List Int) (hb : b.length ≤ 600) (l : List S86) (hl : l.length ≤ 2000000) (hbod : bodies l ≤ 2000000) : ∀ (r : List S86) (i : Nat) (out : List Int) (e : Int), l.drop i = r → 0 ≤ e → mayGo (b.length : Int) e r = true → out.length + 600 * (r.length + 1) + bodies r ≤ 10000000000 → Ev (fun k => wound_Apply.l0 k b out e l (l.length : Int) (i : Int)) (out ++ appGo b e.toNat r, 0)
  | [], i, out, e => fun h he hm ho => by
    have hi := List.drop_eq_nil_iff.1 h
    have he2 : e ≤ (b.length : Int) := by simpa [mayGo] using hm
    refine Ev.step (f := fun _ => some (out ++ appGo b e.toNat [], 0)) (fun k => ?_) (Ev.now _)
    simp only [wound_Apply.l0, appGo]
    rw [if_neg (by omega), if_pos he, if_pos he2, if_pos (by rw [List.length_drop]; simp only [List.length_nil] at ho; omega)]
  | x :: r, i, out, e => fun h he hm ho => by
    obtain ⟨hx, hi, hr⟩ := rd_dropE h
    obtain ⟨h1, h2, h3, h4⟩ := mayGo_cons hm
    rw [bodies_cons, List.length_cons] at ho
    have hlen1 : (out ++ (b.take x.f0.toNat).drop e.toNat).length ≤ out.length + 600 := by
      rw [List.length_append, List.length_drop, List.length_take]; omega
    have hlen2 : (out ++ (b.take x.f0.toNat).drop e.toNat ++ x.f2).length + 600 * (r.length + 1) + bodies r ≤ 10000000000 := by
      have h5 : (out ++ (b.take x.f0.toNat).drop e.toNat ++ x.f2).length = (out ++ (b.take x.f0.toNat).drop e.toNat).length + x.f2.length := List.length_append
      rw [h5]
      exact room_step ho hlen1
    have ih := apply_ev b hb l hl hbod r (i + 1) (out ++ (b.take x.f0.toNat).drop e.toNat ++ x.f2) (x.f0 + x.f1) hr (by omega) h4 hlen2
    have hg : out ++ appGo b e.toNat (x :: r) = (out ++ (b.take x.f0.toNat).drop e.toNat ++ x.f2) ++ appGo b (x.f0 + x.f1).toNat r := by
      simp only [appGo, List.append_assoc]
    rw [hg]
    refine Ev.step (fun k => ?_) ih
    simp only [wound_Apply.l0, hx]
    rw [if_pos (by omega), if_pos (by omega), if_pos (by omega), if_pos he, if_pos h1, if_pos (by omega), if_pos (by rw [List.length_append] at hlen1; omega), Option.bind_some, if_pos (by omega), w64 (x := x.f0 + _) (by omega) (by omega), w64 (by omega) (by omega)]
    rfl

theorem applyf_ev (b : List Int) (hb : b.length ≤ 600) (l : List S86) (hl : l.length ≤ 2000000) (hbod : bodies l ≤ 2000000) (hf : ∀ x ∈ l, Few x) : Ev (fun k => wound_Apply.f k b l) (if mayGo (b.length : Int) 0 l = true then (appGo b 0 l, 0) else ([], 1)) := by
  have hm : Ev (fun k => wound_May.f k (b.length : Int) l) (mayGo (b.length : Int) 0 l) := may_ev (b.length : Int) (by omega) l (by omega) l 0 0 rfl hf
  refine Ev.congr (fun k => by unfold wound_Apply.f; rfl) (Ev.bind hm ?_)
  by_cases h : mayGo (b.length : Int) 0 l = true
  · refine Ev.congr (fun k => by rw [if_pos h]) ?_
    rw [if_pos h]
    have := apply_ev b hb l hl hbod l 0 [] 0 rfl (by omega) h (by simp only [List.length_nil]; omega)
    rw [List.nil_append] at this
    exact this
  · refine Ev.congr (f := fun _ => some ([], 1)) (fun k => by rw [if_neg h]) ?_
    rw [if_neg h]
    exact Ev.now _

/-- The document's: the last one first. -/
def refGo (b : List Int) : List S86 → List Int
  | [] => b
  | x :: r => (refGo b r).take x.f0.toNat ++ x.f2 ++ (refGo b r).drop (x.f0 + x.f1).toNat

theorem refGo_eq (b : List Int) : ∀ (r : List S86) (e : Int), 0 ≤ e → e ≤ (b.length : Int) → mayGo (b.length : Int) e r = true → refGo b r = b.take e.toNat ++ appGo b e.toNat r
  | [], e => fun _ _ _ => by simp [refGo, appGo]
  | x :: r, e => fun he hs hm => by
    obtain ⟨h1, h2, h3, h4⟩ := mayGo_cons hm
    have ih := refGo_eq b r (x.f0 + x.f1) (by omega) h3 h4
    have hl : (b.take (x.f0 + x.f1).toNat).length = (x.f0 + x.f1).toNat := by rw [List.length_take]; omega
    rw [refGo, ih, appGo]
    rw [List.take_append_of_le_length (by omega), List.take_take, Nat.min_eq_left (by omega)]
    rw [List.drop_append_of_le_length (by omega), List.drop_eq_nil_of_le (by omega), List.nil_append]
    have : b.take e.toNat ++ ((b.take x.f0.toNat).drop e.toNat ++ x.f2 ++ appGo b (x.f0 + x.f1).toNat r) = (b.take e.toNat ++ (b.take x.f0.toNat).drop e.toNat) ++ x.f2 ++ appGo b (x.f0 + x.f1).toNat r := by simp only [List.append_assoc]
    rw [this]
    congr 2
    have h5 := List.take_append_drop e.toNat (b.take x.f0.toNat)
    rw [List.take_take, Nat.min_eq_left (by omega)] at h5
    exact h5.symm

theorem may_at (size : Int) : ∀ (r : List S86) (e : Int), 0 ≤ e → e ≤ size → mayGo size e r = true → ∀ j, j ≤ r.length → ∃ e', 0 ≤ e' ∧ e' ≤ size ∧ mayGo size e' (r.drop j) = true
  | [], e => fun h0 h1 hm j hj => ⟨e, h0, h1, by simpa using hm⟩
  | x :: r, e => fun h0 h1 hm j hj => by
    cases j with
    | zero => exact ⟨e, h0, h1, hm⟩
    | succ j =>
      obtain ⟨g1, g2, g3, g4⟩ := mayGo_cons hm
      exact may_at size r (x.f0 + x.f1) (by omega) g3 g4 j (by simpa using hj)

theorem bodies_drop (l : List S86) (j : Nat) : bodies (l.drop j) ≤ bodies l := by
  induction l generalizing j with
  | nil => simp
  | cons x r ih =>
    cases j with
    | zero => simp
    | succ j => have := ih j; rw [List.drop_succ_cons, bodies_cons]; omega

theorem refapply_ev (b : List Int) (hb : b.length ≤ 600) (l : List S86) (hl : l.length ≤ 2000000) (hbod : bodies l ≤ 2000000) (hm : mayGo (b.length : Int) 0 l = true) : ∀ (j : Nat), j ≤ l.length → Ev (fun k => tachographref25_Apply.l0 k (strOfNums (refGo b (l.drop j))) l ((j : Int) - 1)) (strOfNums (refGo b l))
  | 0 => fun _ => by
    refine Ev.step (f := fun _ => some (strOfNums (refGo b l))) (fun k => ?_) (Ev.now _)
    simp only [tachographref25_Apply.l0]
    rw [if_neg (by omega)]
    rfl
  | j + 1 => fun hj => by
    have ih := refapply_ev b hb l hl hbod hm j (by omega)
    obtain ⟨e, he0, he1, hme⟩ := may_at (b.length : Int) l 0 (by omega) (by omega) hm j (by omega)
    obtain ⟨x, r, hd⟩ : ∃ x r, l.drop j = x :: r := ⟨_, _, List.drop_eq_getElem_cons (by omega)⟩
    obtain ⟨hx, hi, hr⟩ := rd_dropE hd
    rw [hd] at hme
    obtain ⟨h1, h2, h3, h4⟩ := mayGo_cons hme
    have hS := refGo_eq b r (x.f0 + x.f1) (by omega) h3 h4
    have hlen : (refGo b r).length = (x.f0 + x.f1).toNat + (appGo b (x.f0 + x.f1).toNat r).length := by
      rw [hS, List.length_append, List.length_take]; omega
    have hal := appGo_len b r (x.f0 + x.f1).toNat
    have hbr : bodies r ≤ bodies l := by rw [← hr]; exact bodies_drop l _
    have hrl : r.length ≤ l.length := by rw [← hr, List.length_drop]; omega
    have hbx : x.f2.length ≤ bodies l := by
      have := bodies_drop l j
      rw [hd, bodies_cons] at this
      omega
    have hmul : b.length * (r.length + 1) ≤ 600 * 2000001 := Nat.mul_le_mul hb (by omega)
    have hsz : (strOfNums (refGo b r)).size = (refGo b r).length := strOfNums_size _
    rw [show (((j + 1 : Nat) : Int) - 1) = (j : Int) by omega, hr]
    have hstep : refGo b (l.drop j) = (refGo b r).take x.f0.toNat ++ x.f2 ++ (refGo b r).drop (x.f0 + x.f1).toNat := by rw [hd, refGo]
    rw [hstep] at ih
    refine Ev.step (fun k => ?_) ih
    simp only [tachographref25_Apply.l0, hx]
    rw [w64 (x := x.f0 + _) (by omega) (by omega), w64 (x := (j : Int) - 1) (by omega) (by omega), strOfNums_extract, strOfNums_extract_end, List.drop_zero, ← strOfNums_append, ← strOfNums_append]
    rw [if_pos (by omega), if_pos (by omega), if_pos (by omega), if_pos (by omega), if_pos (by omega), if_pos (by rw [strOfNums_size, strOfNums_size, List.length_take]; omega), if_pos (by omega), if_pos (by omega), if_pos (by rw [strOfNums_size, strOfNums_size, List.length_append, List.length_take, List.length_drop]; omega)]

theorem refapplyf_ev (b : List Int) (hb : b.length ≤ 600) (l : List S86) (hl : l.length ≤ 2000000) (hbod : bodies l ≤ 2000000) (hm : mayGo (b.length : Int) 0 l = true) : Ev (fun k => tachographref25_Apply.f k (strOfNums b) l) (strOfNums (appGo b 0 l)) := by
  have h := refapply_ev b hb l hl hbod hm l.length (Nat.le_refl _)
  rw [List.drop_length] at h
  have h2 := refGo_eq b l 0 (by omega) (by omega) hm
  rw [Int.toNat_zero, List.take_zero, List.nil_append] at h2
  rw [← h2]
  refine Ev.congr (fun k => ?_) h
  unfold tachographref25_Apply.f
  rw [w64 (by omega) (by omega)]
  rfl

theorem fixed25 : Ev (fun k => tachographlaw25_fixed.f k) true := by
  have h := applyf_ev [97, 98, 99] (by decide) [⟨1, 0, [1]⟩, ⟨2, 1, []⟩] (by decide) (by decide) (fun x hx => by
    simp only [List.mem_cons, List.not_mem_nil, or_false] at hx
    rcases hx with rfl | rfl <;> (unfold Few; decide))
  rw [show mayGo (([97, 98, 99] : List Int).length : Int) 0 [⟨1, 0, [1]⟩, ⟨2, 1, []⟩] = true by decide, if_pos rfl, show appGo ([97, 98, 99] : List Int) 0 [⟨1, 0, [1]⟩, ⟨2, 1, []⟩] = [97, 1, 98] by decide] at h
  refine Ev.congr (fun k => by unfold tachographlaw25_fixed.f; rfl) (Ev.bind h ?_)
  refine Ev.congr (f := fun _ => some true) (fun k => ?_) (Ev.now _)
  rw [if_pos rfl, toList_strOfNums]
  rfl

theorem WoundApplies : tachographlaw25_WoundApplies.Pure := by
  intro b l hb hl hk
  have hsb : sliceBulk oneBulk b = b.length + 1 := sliceBulk_one b
  have hsl : l.length + bodies l ≤ sliceBulk (fun b_ : S86 => (pairBulk oneBulk (pairBulk oneBulk (sliceBulk oneBulk))) (b_.f0, b_.f1, b_.f2)) l := by
    clear hk hl
    induction l with
    | nil => simp [sliceBulk, bodies]
    | cons x r ih =>
      simp only [sliceBulk, List.map_cons, List.sum_cons, List.length_cons, bodies_cons] at ih ⊢
      have : pairBulk oneBulk (pairBulk oneBulk (sliceBulk oneBulk)) (x.f0, x.f1, x.f2) = 1 + (1 + (x.f2.length + 1)) := by
        show 1 + (1 + sliceBulk oneBulk x.f2) = _
        rw [sliceBulk_one]
      omega
  have hbul : l.length + bodies l ≤ 1048576 := Nat.le_trans hsl (by omega)
  refine Ev.rounds (r := true) ?_
  have htrue : Ev (fun k => tachographlaw25_WoundApplies.j0 k b l true) true := by
    refine Ev.step (f := fun k => (tachographlaw25_fixed.f k).bind fun t145 => some t145) (fun k => ?_) (Ev.bind fixed25 (Ev.now _))
    simp only [tachographlaw25_WoundApplies.j0, if_true]
  by_cases hlen : (b.length : Int) > 600
  · refine Ev.congr (fun k => by unfold tachographlaw25_WoundApplies.f; rw [if_pos hlen]) htrue
  have hgr : Ev (fun k => tachographlaw25_Great.f k l) (greatGo (l.length : Int) l) := great_ev l (by omega) l 0 (l.length : Int) rfl (by omega) (by omega)
  refine Ev.congr (fun k => by unfold tachographlaw25_WoundApplies.f; rw [if_neg hlen]) (Ev.bind hgr ?_)
  cases hg : greatGo (l.length : Int) l with
  | true => exact htrue
  | false =>
    have hf := greatGo_few l _ hg
    have ha := applyf_ev b (by omega) l (by omega) (by omega) hf
    have hrm : Ev (fun k => tachographref25_May.f k (b.length : Int) l) (mayGo (b.length : Int) 0 l) := refmay_ev (b.length : Int) (by omega) l (by omega) hf l 0 0 rfl (by omega) (by omega) (fun _ => rfl) (fun h => absurd h (by omega))
    have hm : Ev (fun k => wound_May.f k (b.length : Int) l) (mayGo (b.length : Int) 0 l) := may_ev (b.length : Int) (by omega) l (by omega) l 0 0 rfl hf
    refine Ev.step (fun k => by simp only [tachographlaw25_WoundApplies.j0]; rw [if_neg (by simp)]) (Ev.bind ha (Ev.bind hrm (Ev.bind hm ?_)))
    refine Ev.congr (fun k => by rw [bne_self_eq_false, if_neg (by simp)]) ?_
    cases hmay : mayGo (b.length : Int) 0 l with
    | true =>
      have hra := refapplyf_ev b (by omega) l (by omega) (by omega) hmay
      simp only [if_true]
      refine Ev.step (fun k => by simp only [tachographlaw25_WoundApplies.j1]; rw [if_neg (by simp), if_pos trivial]) (Ev.bind fixed25 ?_)
      refine Ev.congr (fun k => by rw [if_pos rfl, if_pos trivial]) (Ev.bind hra ?_)
      refine Ev.congr (f := fun _ => some true) (fun k => by simp) (Ev.now _)
    | false =>
      simp only [Bool.false_eq_true, if_false]
      refine Ev.step (fun k => by simp only [tachographlaw25_WoundApplies.j1]; rw [if_neg (by simp), if_neg (by simp)]) (Ev.bind fixed25 ?_)
      refine Ev.congr (f := fun _ => some true) (fun k => by rw [if_pos rfl, if_pos (by simp)]; rfl) (Ev.now _)

end Go.Proofs.Ytjfklfmfeghjnac.Pure
