/- Proved: tachographlaw10.SigtextPrints answers true at every signature: its text, or why it has none, is the document's; it is read as the signature. -/
import Derived.Test.YtmmfakdncjeoeacDoorMSigtextRef
import Derived.Test.YtmmfakdncjeoeacDoorPEx12
import Derived.Test.YtmmfakdncjeoeacDoorPEx13
set_option linter.unusedVariables false
set_option linter.unusedSimpArgs false
namespace Go.Proofs.YtmmfakdncjeoeacDoor.Pure
open Go Go.RowKit Go.Proofs.YtmmfakdncjeoeacDoor.PE Go.Proofs.YtmmfakdncjeoeacDoor.MBase Go.Proofs.YtmmfakdncjeoeacDoor.MSig Go.Proofs.YtmmfakdncjeoeacDoor.MSplit Go.Proofs.YtmmfakdncjeoeacDoor.MSigline Go.Proofs.YtmmfakdncjeoeacDoor.MSigtext Go.Proofs.YtmmfakdncjeoeacDoorAid Go.Proofs.YtmmfakdncjeoeacDoorW.PrintWords Go.Proofs.YtmmfakdncjeoeacDoorW.PrintLast Go.Proofs.YtmmfakdncjeoeacDoorW.PrintMore

theorem rprint_from (l : List Pred) (h : check l = 0) : ∀ (d i : Nat) (x : ByteArray), d + i = l.length → x.size + 100 * d ≤ 10000 → Ev (fun k => tachographref10_Print.l0 k l x (i : Int)) (mkB (x.data.toList ++ textL (l.drop i)), 0)
  | 0, i, x => fun hd hx => by
    have e : x = mkB (x.data.toList ++ textL (l.drop i)) := ba_eq (by rw [mk_list, List.drop_eq_nil_of_le (by omega)]; simp [textL])
    refine Ev.step (f := fun _ => some (x, 0)) (fun k => ?_) (by rw [← e]; exact Ev.now _)
    simp only [tachographref10_Print.l0]
    rw [if_neg (by omega)]
  | d + 1, i, x => fun hd hx => by
    have hi : i < l.length := by omega
    obtain ⟨h1, h2⟩ := check_all h
    obtain ⟨g1, g2, g3⟩ := h2 i hi
    have hnp := name_pos g1
    have hll := lineL_len l[i].f0.data.toList g2
    rw [size_list] at hll
    have hline := rline_ev l[i].f0 l[i].f1 g2 (by omega) (by omega)
    have s0 : (mkB (lineL l[i].f0.data.toList l[i].f1)).size = (lineL l[i].f0.data.toList l[i].f1).length := rfl
    have s1 : (x ++ mkB (lineL l[i].f0.data.toList l[i].f1)).size = x.size + (lineL l[i].f0.data.toList l[i].f1).length := by rw [ByteArray.size_append, s0]
    have s2 : ((x ++ mkB (lineL l[i].f0.data.toList l[i].f1)) ++ (⟨#[10]⟩ : ByteArray)).size = x.size + (lineL l[i].f0.data.toList l[i].f1).length + 1 := by rw [ByteArray.size_append, s1]; rfl
    have ih := rprint_from l h d (i + 1) ((x ++ mkB (lineL l[i].f0.data.toList l[i].f1)) ++ (⟨#[10]⟩ : ByteArray)) (by omega) (by rw [s2]; omega)
    have e : ((x ++ mkB (lineL l[i].f0.data.toList l[i].f1)) ++ (⟨#[10]⟩ : ByteArray)).data.toList ++ textL (l.drop (i + 1)) = x.data.toList ++ textL (l.drop i) := by
      rw [app_list, app_list, mk_list, List.drop_eq_getElem_cons hi, textL_cons]
      simp
    rw [e] at ih
    refine Ev.step (f := fun k => (tachographref10_Line.f k l[i].f0 l[i].f1).bind fun t279 => (if x.size + t279.size ≤ 9223372036854775807 then (if (x ++ t279).size + 1 ≤ 9223372036854775807 then (tachographref10_Print.l0 k l ((x ++ t279) ++ (⟨#[10]⟩ : ByteArray)) ((i + 1 : Nat) : Int)) else (none)) else (none))) (fun k => ?_) (Ev.bind hline ?_)
    · simp only [tachographref10_Print.l0]
      rw [if_pos (by omega), if_pos (by omega), w64 (by omega) (by omega), rd_pred, getD_eq l i hi]
      rfl
    · refine Ev.congr (fun k => ?_) ih
      rw [if_pos (by rw [s0]; omega), if_pos (by rw [s1]; omega)]
theorem rprint_ev (l : List Pred) (hs : Short l) : Ev (fun k => tachographref10_Print.f k l) (if check l = 0 then (mkB (textL l), 0) else (⟨#[]⟩, check l)) := by
  unfold tachographref10_Print.f
  refine Ev.bind (rcheck_ev l hs) ?_
  by_cases h : check l = 0
  · simp only [if_pos h]
    have hp := rprint_from l h l.length 0 (⟨#[]⟩ : ByteArray) (by omega) (by have := (check_all h).1; show 0 + 100 * l.length ≤ 10000; omega)
    rw [List.drop_zero] at hp
    exact hp
  · simp only [if_neg h]
    exact Ev.now _
theorem textL_len {l : List Pred} (h : check l = 0) : (textL l).length ≤ 3000 * 3 := by
  obtain ⟨h1, h2⟩ := check_all h
  have : ∀ (m : List Pred), (∀ p ∈ m, nameOk p.f0 = true ∧ T12 p.f1 ∧ p.f1.length ≤ 8) → (textL m).length ≤ 100 * m.length := by
    intro m
    induction m with
    | nil => intro _; simp [textL]
    | cons p m ih =>
      intro hm
      obtain ⟨g1, g2, g3⟩ := hm p List.mem_cons_self
      have hnp := name_pos g1
      have hll := lineL_len p.f0.data.toList g2
      rw [size_list] at hll
      have := ih (fun q hq => hm q (List.mem_cons_of_mem _ hq))
      rw [textL_cons, List.length_append, List.length_cons, List.length_cons]
      omega
  have := this l (fun p hp => by
    obtain ⟨i, hi, rfl⟩ := List.getElem_of_mem hp
    exact h2 i hi)
  omega
/-- One predicate's line. -/
theorem sline_ev (nm : ByteArray) (a : List Int) (hn : nm.size ≤ 100) : Ev (fun k => sigtext_Line.f k nm a) (if check [(⟨nm, a⟩ : Pred)] = 0 then (mkB (lineL nm.data.toList a), 0) else (⟨#[]⟩, check [(⟨nm, a⟩ : Pred)])) := by
  unfold sigtext_Line.f
  refine Ev.bind (check_ev [(⟨nm, a⟩ : Pred)] (fun p hp => by rw [List.mem_singleton] at hp; subst hp; show nm.size < _; omega)) ?_
  by_cases h : check [(⟨nm, a⟩ : Pred)] = 0
  · simp only [if_pos h]
    obtain ⟨_, h2⟩ := check_all h
    obtain ⟨g1, g2, g3⟩ := h2 0 (by simp)
    exact Ev.bind (line_ev nm (by omega) a g2 (by have h3 : a.length ≤ 8 := g3; omega)) (Ev.now _)
  · simp only [if_neg h]
    exact Ev.now _
theorem prints_from (l : List Pred) (hl : l.length ≤ 100) (hp : ∀ p ∈ l, p.f0.size ≤ 100) (x : ByteArray) (e : Int) (v : Bool) (hv : Ev (fun k => tachographlaw10_SigtextPrints.l0 k l x e l (l.length : Int) (l.length : Int)) v) : ∀ (d i : Nat), d + i = l.length → Ev (fun k => tachographlaw10_SigtextPrints.l0 k l x e l (l.length : Int) (i : Int)) v
  | 0, i => fun hd => by
    obtain rfl : i = l.length := by omega
    exact hv
  | d + 1, i => fun hd => by
    have hi : i < l.length := by omega
    have ih := prints_from l hl hp x e v hv d (i + 1) (by omega)
    have hsz := hp _ (List.getElem_mem hi)
    have hshort : Short [(⟨l[i].f0, l[i].f1⟩ : Pred)] := fun p hp => by rw [List.mem_singleton] at hp; subst hp; show l[i].f0.size < _; omega
    refine Ev.step (f := fun k => (sigtext_Line.f k l[i].f0 l[i].f1).bind fun bt303 => ((tachographref09_Check.f k ([(⟨l[i].f0, l[i].f1⟩ : Pred)])).bind fun t308 => (if bt303.2 = t308 then (if bt303.2 = 0 then ((tachographref10_Line.f k l[i].f0 l[i].f1).bind fun t309 => (if bt303.1.toList = t309.toList then (tachographlaw10_SigtextPrints.l0 k l x e l (l.length : Int) ((i + 1 : Nat) : Int)) else (some false))) else (if bt303.1.toList = ([] : List UInt8) then (tachographlaw10_SigtextPrints.l0 k l x e l (l.length : Int) ((i + 1 : Nat) : Int)) else (some false))) else (some false)))) (fun k => ?_) (Ev.bind (sline_ev l[i].f0 l[i].f1 hsz) (Ev.bind (rcheck_ev _ hshort) ?_))
    · simp only [tachographlaw10_SigtextPrints.l0]
      rw [if_pos (by omega), if_pos (by omega), if_pos (by omega), w64 (by omega) (by omega), rd_pred, getD_eq l i hi]
      rfl
    · by_cases h : check [(⟨l[i].f0, l[i].f1⟩ : Pred)] = 0
      · simp only [if_pos h]
        obtain ⟨_, h2⟩ := check_all h
        obtain ⟨g1, g2, g3⟩ := h2 0 (by simp)
        refine Ev.congr (f := fun k => (tachographref10_Line.f k l[i].f0 l[i].f1).bind fun t309 => (if (mkB (lineL l[i].f0.data.toList l[i].f1)).toList = t309.toList then (tachographlaw10_SigtextPrints.l0 k l x e l (l.length : Int) ((i + 1 : Nat) : Int)) else (some false))) (fun k => ?_) (Ev.bind (rline_ev l[i].f0 l[i].f1 g2 (by have h3 : l[i].f1.length ≤ 8 := g3; omega) (by omega)) ?_)
        · rw [if_pos h.symm]
          simp only [if_true]
        · simp only [if_true]
          exact ih
      · simp only [if_neg h]
        refine Ev.congr (fun k => ?_) ih
        rw [if_pos trivial, if_pos (by rw [toList_eq])]
theorem SigtextPrints : tachographlaw10_SigtextPrints.Pure := by
  intro l hl
  refine Ev.rounds ?_
  have hll : l.length < 9223372036854775807 := by have := hl.2.1; omega
  have hs : Short l := fun p hp => by have h : p.f0.size ≤ 140737488351232 := (hl.2.2 p hp).1; omega
  unfold tachographlaw10_SigtextPrints.f
  refine Ev.bind (great_ev l hll) ?_
  by_cases hg : great l = true
  · simp only [if_pos hg]
    exact Ev.bind fixed10 (Ev.now _)
  · simp only [if_neg hg]
    rw [Bool.not_eq_true] at hg
    have hg100 := (great_short hg).2
    have hsz : ∀ p ∈ l, p.f0.size ≤ 100 := fun p hp => by
      simp only [great, Bool.or_eq_false_iff, decide_eq_false_iff_not] at hg
      have := List.any_eq_false.1 hg.1 p hp
      simp at this
      omega
    refine Ev.bind (print_ev l hs) (Ev.bind (rprint_ev l hs) ?_)
    simp only [if_true, bne_self_eq_false]
    refine Ev.step (f := fun k => tachographlaw10_SigtextPrints.l0 k l (if check l = 0 then (mkB (textL l), (0 : Int)) else (⟨#[]⟩, check l)).1 (if check l = 0 then (mkB (textL l), (0 : Int)) else (⟨#[]⟩, check l)).2 l (l.length : Int) ((0 : Nat) : Int)) (fun k => ?_) (prints_from l hg100 hsz _ _ true ?_ l.length 0 (by omega))
    · simp only [tachographlaw10_SigtextPrints.j0, Bool.false_eq_true, if_false]
      rfl
    · by_cases h : check l = 0
      · simp only [if_pos h]
        have htl := textL_len h
        have hpe := parse_ev (mkB (textL l)) (by rw [mkB_size]; omega)
        rw [mk_list, parseL_text l [] _ 1 (by rw [mkB_size]; exact Nat.le_refl _) h rfl, List.nil_append] at hpe
        refine Ev.step (f := fun k => (sigtext_Parse.f k (mkB (textL l))).bind fun bt292 => ((tachographlaw10_fixed.f k).bind fun t299 => (if t299 = true then (if (0 : Int) = 0 then (if bt292.2.1 = 0 then ((tachographref09_Same.f k bt292.1 l).bind fun t300 => (if t300 = true then (some (bt292.2.2.1 == 0 && (bt292.2.2.2 == 0))) else (some false))) else (some false)) else (some true)) else (some false)))) (fun k => ?_) (Ev.bind hpe (Ev.bind fixed10 ?_))
        · simp only [tachographlaw10_SigtextPrints.l0]
          rw [if_neg (by omega)]
        · simp only [if_true]
          refine Ev.bind (same_refl l hll (fun p hp => by
            obtain ⟨i, hi, rfl⟩ := List.getElem_of_mem hp
            have := ((check_all h).2 i hi).2.2
            omega)) ?_
          simp only [if_true]
          exact Ev.now _
      · simp only [if_neg h]
        have hpe := parse_ev (⟨#[]⟩ : ByteArray) (by decide)
        refine Ev.step (f := fun k => (sigtext_Parse.f k (⟨#[]⟩ : ByteArray)).bind fun bt292 => ((tachographlaw10_fixed.f k).bind fun t299 => (if t299 = true then (if check l = 0 then (if bt292.2.1 = 0 then ((tachographref09_Same.f k bt292.1 l).bind fun t300 => (if t300 = true then (some (bt292.2.2.1 == 0 && (bt292.2.2.2 == 0))) else (some false))) else (some false)) else (some true)) else (some false)))) (fun k => ?_) (Ev.bind hpe (Ev.bind fixed10 ?_))
        · simp only [tachographlaw10_SigtextPrints.l0]
          rw [if_neg (by omega)]
        · simp only [if_true, if_neg h]
          exact Ev.now _
end Go.Proofs.YtmmfakdncjeoeacDoor.Pure
