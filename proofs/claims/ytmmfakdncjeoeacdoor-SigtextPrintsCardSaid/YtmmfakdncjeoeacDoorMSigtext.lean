/- Plain laws on signatures' texts (layer 10): what is read of any text, and where an error is told. -/
import Derived.Test.YtmmfakdncjeoeacDoorMSigline
import Derived.Test.YtmmfakdncjeoeacDoorPEx3
import Derived.Test.YtmmfakdncjeoeacDoorPEx4
import Derived.Test.YtmmfakdncjeoeacDoorPEx5
set_option linter.unusedVariables false
set_option linter.unusedSimpArgs false
namespace Go.Proofs.YtmmfakdncjeoeacDoor.MSigtext
open Go Go.RowKit Go.Proofs.YtmmfakdncjeoeacDoor.PE Go.Proofs.YtmmfakdncjeoeacDoor.MBase Go.Proofs.YtmmfakdncjeoeacDoor.MSig Go.Proofs.YtmmfakdncjeoeacDoor.MSplit Go.Proofs.YtmmfakdncjeoeacDoor.MSigline Go.Proofs.YtmmfakdncjeoeacDoorAid Go.Proofs.YtmmfakdncjeoeacDoorW.PrintWords Go.Proofs.YtmmfakdncjeoeacDoorW.PrintLast Go.Proofs.YtmmfakdncjeoeacDoorW.PrintMore

theorem ext_list (s : ByteArray) (i j : Nat) : (s.extract i j).data.toList = (s.data.toList.drop i).take (j - i) := by
  rw [ByteArray.data_extract, Array.toList_extract]
theorem mk_list (l : List UInt8) : (mkB l).data.toList = l := rfl
theorem size_list (s : ByteArray) : s.data.toList.length = s.size := by rw [Array.length_toList]; rfl
theorem mkB_list (s : ByteArray) : mkB s.data.toList = s := by cases s; rfl
theorem mkB_size (l : List UInt8) : (mkB l).size = l.length := rfl
theorem ba_eq {s t : ByteArray} (h : s.data.toList = t.data.toList) : s = t := ba_ext h

theorem cutsuffix_eq (s : ByteArray) (hs : s.size < 9223372036854775807) : strings_CutSuffix.f s (⟨#[41]⟩ : ByteArray) = some (if s.data.toList.getLast? = some 41 then (mkB s.data.toList.dropLast, true) else (s, false)) := by
  unfold strings_CutSuffix.f stringslite_CutSuffix.f stringslite_HasSuffix.f
  have h1 : ((⟨#[41]⟩ : ByteArray).size : Int) = 1 := rfl
  rw [h1]
  have hl := size_list s
  by_cases h0 : s.size = 0
  · have e : s.data.toList = [] := List.length_eq_zero_iff.1 (by omega)
    rw [if_neg (by omega), e]
    simp
  · obtain ⟨d, x, e⟩ : ∃ d x, s.data.toList = d ++ [x] := by
      have hne : s.data.toList ≠ [] := fun e => by rw [e] at hl; simp at hl; omega
      exact ⟨_, _, (List.dropLast_concat_getLast hne).symm⟩
    have hd : d.length + 1 = s.size := by rw [← hl, e]; simp
    have hw : wrap64 ((s.size : Int) - 1) = (s.size : Int) - 1 := w64 (by omega) (by omega)
    have hn : ((s.size : Int) - 1).toNat = d.length := by omega
    rw [if_pos (by omega), hw, if_pos (by omega), if_pos (by omega), hn]
    simp only [Option.bind_some]
    have hlast : (s.extract d.length s.size).toList = [x] := by
      rw [toList_eq, ext_list, e, List.drop_left]
      exact List.take_of_length_le (by simp; omega)
    have hfirst : s.extract 0 d.length = mkB d := ba_eq (by
      rw [ext_list, mk_list, List.drop_zero, e]
      exact List.take_left)
    have h41 : (⟨#[41]⟩ : ByteArray).toList = [41] := by rw [toList_eq]
    have hg : s.data.toList.getLast? = some x := by rw [e]; simp
    have hdl : s.data.toList.dropLast = d := by rw [e]; simp
    rw [hlast, hg, h41, hdl]
    by_cases hc : x = 41
    · subst hc
      simp only [beq_self_eq_true, if_true]
      rw [if_pos (by omega), if_pos (by omega), hfirst]
      rfl
    · have hb : (([x] : List UInt8) == [41]) = false := beq_eq_false_iff_ne.2 (fun e => hc (by injection e))
      rw [hb, if_neg (fun e => hc (Option.some.inj e))]
      simp

theorem word_of (s : ByteArray) : wordOf s = (match typeL s.data.toList with | some t => (t, true) | none => (0, false)) := by
  unfold wordOf typeL
  rw [toList_eq]
  by_cases h1 : s.data.toList = [105, 110, 116]
  · rw [if_pos h1, if_pos h1]
  · rw [if_neg h1, if_neg h1]
    by_cases h2 : s.data.toList = [115, 116, 114, 105, 110, 103]
    · rw [if_pos h2, if_pos h2]
    · rw [if_neg h2, if_neg h2]
theorem rdOf_at (l : List ByteArray) (i : Nat) (h : i < l.length) : rdOf ByteArray.empty l (i : Int) = l[i] := by
  unfold rdOf
  simp [List.getD_eq_getElem?_getD, List.getElem?_eq_getElem h]
theorem split_list (s : ByteArray) : (Lib.splitB (⟨#[44]⟩ : ByteArray) 0 (Lib.countB s (⟨#[44]⟩ : ByteArray)) s).map (·.data.toList) = Lib.split s.data.toList [44] := Lib.splitB_data _ 0 _ s

/-- The words of a line, from the i-th on. -/
theorem types_from (ws : List ByteArray) (hw : ∀ w ∈ ws, w.size ≤ 10000) (hn : ws.length ≤ 11000) (nm : ByteArray) : ∀ (d i : Nat) (acc : List Int), d + i = ws.length → acc.length = i →
    ∃ r : ByteArray × List Int × Bool, Ev (fun k => sigtext_pred.l0 k ws (ws.length : Int) (i : Int) nm acc) r ∧ r.1 = nm ∧ match typesL ((ws.drop i).map (·.data.toList)) with | some a => r.2 = (acc ++ a, true) | none => r.2.2 = false
  | 0, i, acc => fun hd ha => by
    rw [List.drop_eq_nil_of_le (by omega)]
    refine ⟨(nm, acc, true), Ev.step (f := fun _ => some (nm, acc, true)) (fun k => ?_) (Ev.now _), rfl, by simp [typesL]⟩
    simp only [sigtext_pred.l0]
    rw [if_neg (by omega)]
  | d + 1, i, acc => fun hd ha => by
    have hi : i < ws.length := by omega
    have hsz := hw _ (List.getElem_mem hi)
    have hf : runtime_plainError_Error.f (rdOf ByteArray.empty ws (i : Int)) = some (wordOf ws[i]) := by
      unfold runtime_plainError_Error.f
      rw [rdOf_at ws i hi, if_pos (by unfold maxLen; omega)]
    have hstep : ∀ k, sigtext_pred.l0 (k + 1) ws (ws.length : Int) (i : Int) nm acc = if (wordOf ws[i]).2 = true then sigtext_pred.l0 k ws (ws.length : Int) ((i + 1 : Nat) : Int) nm (acc ++ [(wordOf ws[i]).1]) else some (nm, acc, false) := fun k => by
      simp only [sigtext_pred.l0]
      rw [if_pos (by omega), if_pos (by omega), if_pos (by omega), hf, Option.bind_some, if_pos (show acc.length < 17592186044416 by omega), w64 (by omega) (by omega)]
      rfl
    rw [List.drop_eq_getElem_cons hi, List.map_cons]
    cases ht : typeL ws[i].data.toList with
    | none =>
      have e : wordOf ws[i] = (0, false) := by rw [word_of, ht]
      refine ⟨(nm, acc, false), Ev.step (f := fun _ => some (nm, acc, false)) (fun k => ?_) (Ev.now _), rfl, by simp [typesL, ht]⟩
      rw [hstep, e]
      simp
    | some t =>
      have e : wordOf ws[i] = (t, true) := by rw [word_of, ht]
      obtain ⟨r, h1, h2, h3⟩ := types_from ws hw hn nm d (i + 1) (acc ++ [t]) (by omega) (by simp [ha])
      refine ⟨r, Ev.step (f := fun k => sigtext_pred.l0 k ws (ws.length : Int) ((i + 1 : Nat) : Int) nm (acc ++ [t])) (fun k => ?_) h1, h2, ?_⟩
      · rw [hstep, e]
        simp
      · simp only [typesL, ht]
        cases hr : typesL ((ws.drop (i + 1)).map (·.data.toList)) with
        | none => rw [hr] at h3; simpa using h3
        | some a => rw [hr] at h3; simpa using h3

theorem pred_ev (s : ByteArray) (hs : s.size ≤ 10000) : ∃ r : ByteArray × List Int × Bool, Ev (fun k => sigtext_pred.f k s) r ∧ (match predL s.data.toList with | some p => r = (p.f0, p.f1, true) | none => r.2.2 = false) := by
  have hcut : strings_Cut.f s (⟨#[40]⟩ : ByteArray) = some (mkB (Lib.cut s.data.toList [40]).1, mkB (Lib.cut s.data.toList [40]).2.1, (Lib.cut s.data.toList [40]).2.2) := by
    unfold strings_Cut.f
    rw [if_pos (by omega)]
  have hlen : (Lib.cut s.data.toList [40]).1.length ≤ 10000 ∧ (Lib.cut s.data.toList [40]).2.1.length ≤ 10000 := by
    have hl := size_list s
    rcases parts 40 s.data.toList with h | ⟨x, r, e, h⟩
    · rw [cut_out 40 _ h]
      exact ⟨by simpa using (by omega : s.data.toList.length ≤ 10000), by simp⟩
    · rw [e] at hl ⊢
      rw [cut_in 40 x r h]
      simp only [List.length_append, List.length_cons] at hl
      exact ⟨by simpa using (by omega : x.length ≤ 10000), by simpa using (by omega : r.length ≤ 10000)⟩
  unfold predL
  generalize Lib.cut s.data.toList [40] = c at hcut hlen
  obtain ⟨nm, rest, ok⟩ := c
  simp only at hcut hlen ⊢
  have hsuf := cutsuffix_eq (mkB rest) (by rw [mkB_size]; omega)
  rw [mk_list] at hsuf
  have hj : ∀ (x : ByteArray) (b : Bool), b = true → Ev (fun k => sigtext_pred.j0 k x b (mkB nm)) (mkB nm, [], false) := fun x b hb => by
    subst hb
    refine Ev.step (f := fun _ => some (mkB nm, [], false)) (fun k => ?_) (Ev.now _)
    simp only [sigtext_pred.j0, if_true]
  unfold sigtext_pred.f
  rw [hcut]
  simp only [Option.bind_some]
  rw [hsuf]
  simp only [Option.bind_some]
  cases ok with
  | false =>
    refine ⟨(mkB nm, [], false), ?_, ?_⟩
    · simp only [Bool.false_eq_true, if_false]
      exact hj _ true rfl
    · simp
  | true =>
    simp only [if_true]
    by_cases hl : rest.getLast? = some 41
    · simp only [if_pos hl, if_true]
      have hnm := name_ev (mkB nm) (by rw [mkB_size]; omega)
      cases hb : nameOk (mkB nm) with
      | false =>
        rw [hb] at hnm
        refine ⟨(mkB nm, [], false), Ev.bind hnm (hj _ _ rfl), ?_⟩
        simp
      | true =>
        rw [hb] at hnm
        simp only [hl, hb, and_self, if_true]
        by_cases hi : rest.dropLast = []
        · refine ⟨(mkB nm, [], true), Ev.bind hnm (Ev.step (f := fun _ => some (mkB nm, [], true)) (fun k => ?_) (Ev.now _)), ?_⟩
          · simp only [sigtext_pred.j0, Bool.not_true, Bool.false_eq_true, if_false]
            rw [if_pos (by rw [toList_eq, mk_list, hi])]
          · rw [if_pos hi]
        · have hdl : rest.dropLast.length ≤ 10000 := by rw [List.length_dropLast]; omega
          have hsp : strings_Split.f (mkB rest.dropLast) (⟨#[44]⟩ : ByteArray) = some (Lib.splitB (⟨#[44]⟩ : ByteArray) 0 (Lib.countB (mkB rest.dropLast) (⟨#[44]⟩ : ByteArray)) (mkB rest.dropLast)) := by
            unfold strings_Split.f
            rw [if_pos ⟨by rw [mkB_size]; omega, by decide⟩]
          have hdata := split_list (mkB rest.dropLast)
          rw [mk_list] at hdata
          have hcl := Lib.splitB_length_le (⟨#[44]⟩ : ByteArray) 0 (Lib.countB (mkB rest.dropLast) (⟨#[44]⟩ : ByteArray)) (mkB rest.dropLast)
          have hcb := Lib.countB_le (⟨#[44]⟩ : ByteArray) (by decide) _ (mkB rest.dropLast) (Nat.le_refl _)
          rw [mkB_size] at hcb
          generalize Lib.splitB (⟨#[44]⟩ : ByteArray) 0 (Lib.countB (mkB rest.dropLast) (⟨#[44]⟩ : ByteArray)) (mkB rest.dropLast) = ws at hsp hdata hcl
          have hw : ∀ w ∈ ws, w.size ≤ 10000 := fun w hw => by
            have hm : w.data.toList ∈ Lib.split rest.dropLast [44] := by rw [← hdata]; exact List.mem_map.2 ⟨w, hw, rfl⟩
            have hj := (join_split 44 _ rest.dropLast (Nat.le_refl _)).1
            have := piece_le _ [44] _ hm
            rw [hj] at this
            rw [← size_list]
            omega
          obtain ⟨r, h1, h2, h3⟩ := types_from ws hw (by omega) (mkB nm) ws.length 0 [] (by omega) rfl
          refine ⟨r, Ev.bind hnm (Ev.step (f := fun k => sigtext_pred.l0 k ws (ws.length : Int) ((0 : Nat) : Int) (mkB nm) []) (fun k => ?_) h1), ?_⟩
          · simp only [sigtext_pred.j0, Bool.not_true, Bool.false_eq_true, if_false]
            rw [if_neg (by rw [toList_eq, mk_list]; exact hi), hsp, Option.bind_some]
            rfl
          · rw [if_neg hi]
            rw [List.drop_zero, hdata] at h3
            cases ht : typesL (Lib.split rest.dropLast [44]) with
            | none => rw [ht] at h3; simpa using h3
            | some a =>
              rw [ht] at h3
              simp only [List.nil_append] at h3
              simp only [Option.map_some]
              rw [← h2, ← h3]
    · simp only [if_neg hl]
      refine ⟨(mkB nm, [], false), ?_, ?_⟩
      · simp only [Bool.false_eq_true, if_false]
        exact hj _ true rfl
      · simp [hl]

/-! ### a whole text -/
def parseL : Nat → List Pred → Int → List UInt8 → List Pred × Int × Int × Int
  | 0, out, _, _ => (out, 0, 0, 0)
  | m + 1, out, n, l => if l = [] then (out, 0, 0, 0) else
    match predL (Lib.cut l [10]).1 with
    | none => ([], 4, n, 1)
    | some p => if p.f0 ∈ names out then ([], 9, n, 1) else if p.f1.length > 8 ∨ n > 64 then ([], 6, n, 1) else
      if (Lib.cut l [10]).2.2 = true then parseL m (out ++ [p]) (n + 1) (Lib.cut l [10]).2.1 else ([], 4, n, ((Lib.cut l [10]).1.length : Int) + 1)
theorem cut10_len (l : List UInt8) : (Lib.cut l [10]).1.length ≤ l.length ∧ ((Lib.cut l [10]).2.2 = true → (Lib.cut l [10]).1.length + 1 + (Lib.cut l [10]).2.1.length = l.length) := by
  rcases parts 10 l with h | ⟨x, r, rfl, h⟩
  · rw [cut_out 10 _ h]
    exact ⟨Nat.le_refl _, fun e => by cases e⟩
  · rw [cut_in 10 x r h]
    simp only [List.length_append, List.length_cons]
    exact ⟨by omega, fun _ => by omega⟩
theorem place_names (out : List Pred) (nm : ByteArray) : place out nm < out.length ↔ nm ∈ names out := by
  have h := place_lt out nm out.length (Nat.le_refl _)
  rw [List.take_of_length_le (by simp)] at h
  exact h
theorem parse_from : ∀ (m : Nat) (s : ByteArray) (out : List Pred) (n : Int), s.size ≤ m → s.size ≤ 10000 → out.length + m ≤ 100000 → 0 ≤ n → n + m ≤ 100000 → Ev (fun k => sigtext_Parse.l0 k s out n) (parseL m out n s.data.toList)
  | 0, s, out, n => fun h1 _ _ _ _ => by
    have e : s.data.toList = [] := List.length_eq_zero_iff.1 (by rw [size_list]; omega)
    refine Ev.step (f := fun _ => some (out, 0, 0, 0)) (fun k => ?_) (Ev.now _)
    simp only [sigtext_Parse.l0]
    rw [if_pos (by rw [toList_eq, e])]
  | m + 1, s, out, n => fun h1 h2 h3 h4 h5 => by
    by_cases he : s.data.toList = []
    · have ep : parseL (m + 1) out n s.data.toList = (out, 0, 0, 0) := by simp only [parseL]; rw [if_pos he]
      rw [ep]
      refine Ev.step (f := fun _ => some (out, 0, 0, 0)) (fun k => ?_) (Ev.now _)
      simp only [sigtext_Parse.l0]
      rw [if_pos (by rw [toList_eq, he])]
    · have hcut : strings_Cut.f s (⟨#[10]⟩ : ByteArray) = some (mkB (Lib.cut s.data.toList [10]).1, mkB (Lib.cut s.data.toList [10]).2.1, (Lib.cut s.data.toList [10]).2.2) := by
        unfold strings_Cut.f
        rw [if_pos (by omega)]
      obtain ⟨hc1, hc2⟩ := cut10_len s.data.toList
      rw [size_list] at hc1 hc2
      simp only [parseL]
      rw [if_neg he]
      generalize Lib.cut s.data.toList [10] = c at hcut hc1 hc2
      obtain ⟨x, rest, ended⟩ := c
      simp only at hcut hc1 hc2 ⊢
      obtain ⟨r, hr, hrp⟩ := pred_ev (mkB x) (by rw [mkB_size]; omega)
      rw [mk_list] at hrp
      have hfind := find_ev out r.1 (by omega)
      refine Ev.step (f := fun k => (sigtext_pred.f k (mkB x)).bind fun bt128 => ((sig_Find.f k out bt128.1).bind fun bt134 => (if bt128.2.2 = true then (if bt134.2 = true then (some (([] : List Pred), 9, n, 1)) else (if (bt128.2.1.length : Int) > 8 then (sigtext_Parse.j1 k out n (mkB x) (mkB rest) ended true bt128.1 bt128.2.1) else (sigtext_Parse.j1 k out n (mkB x) (mkB rest) ended (decide (n > 64)) bt128.1 bt128.2.1))) else (some (([] : List Pred), 4, n, 1))))) (fun k => ?_) (Ev.bind hr (Ev.bind hfind ?_))
      · simp only [sigtext_Parse.l0]
        rw [if_neg (by rw [toList_eq]; exact he), hcut, Option.bind_some]
      · cases hp : predL x with
        | none =>
          rw [hp] at hrp
          simp only at hrp ⊢
          rw [hrp]
          simp only [Bool.false_eq_true, if_false]
          exact Ev.now _
        | some p =>
          rw [hp] at hrp
          simp only at hrp ⊢
          subst hrp
          simp only [if_true]
          by_cases hm : p.f0 ∈ names out
          · have hpl := (place_names out p.f0).2 hm
            rw [if_pos hm]
            simp only [if_pos hpl, if_true]
            exact Ev.now _
          · have hpl : ¬ place out p.f0 < out.length := fun e => hm ((place_names out p.f0).1 e)
            rw [if_neg hm]
            simp only [if_neg hpl, Bool.false_eq_true, if_false]
            have hj : ∀ b : Bool, b = decide (p.f1.length > 8 ∨ n > 64) → Ev (fun k => sigtext_Parse.j1 k out n (mkB x) (mkB rest) ended b p.f0 p.f1) (if p.f1.length > 8 ∨ n > 64 then (([] : List Pred), (6 : Int), n, (1 : Int)) else if ended = true then parseL m (out ++ [p]) (n + 1) rest else ([], 4, n, (x.length : Int) + 1)) := by
              intro b hb
              subst hb
              by_cases hq : p.f1.length > 8 ∨ n > 64
              · rw [if_pos hq, decide_eq_true hq]
                refine Ev.step (f := fun _ => some (([] : List Pred), (6 : Int), n, (1 : Int))) (fun k => ?_) (Ev.now _)
                simp only [sigtext_Parse.j1, if_true]
              · rw [if_neg hq, decide_eq_false hq]
                cases ended with
                | false =>
                  refine Ev.step (f := fun _ => some (([] : List Pred), (4 : Int), n, (x.length : Int) + 1)) (fun k => ?_) (Ev.now _)
                  simp only [sigtext_Parse.j1, Bool.false_eq_true, if_false]
                  rw [mkB_size, w64 (by omega) (by omega)]
                | true =>
                  have hc3 := hc2 rfl
                  have ih := parse_from m (mkB rest) (out ++ [p]) (n + 1) (by rw [mkB_size]; omega) (by rw [mkB_size]; omega) (by simp; omega) (by omega) (by omega)
                  refine Ev.step (f := fun k => sigtext_Parse.l0 k (mkB rest) (out ++ [p]) (n + 1)) (fun k => ?_) ih
                  simp only [sigtext_Parse.j1, Bool.false_eq_true, if_false, if_true]
                  rw [if_pos (by omega), w64 (by omega) (by omega)]
            by_cases h8 : (p.f1.length : Int) > 8
            · simp only [if_pos h8]
              exact hj true (decide_eq_true (.inl (by omega))).symm
            · simp only [if_neg h8]
              refine hj _ ?_
              rw [decide_eq_decide]
              exact ⟨.inr, fun e => e.resolve_left (by omega)⟩
theorem parse_ev (s : ByteArray) (hs : s.size ≤ 10000) : Ev (fun k => sigtext_Parse.f k s) (parseL s.size [] 1 s.data.toList) := parse_from s.size s [] 1 (Nat.le_refl _) hs (by simp; omega) (by omega) (by omega)

/-! ### what is read has the text -/
def textL (l : List Pred) : List UInt8 := l.flatMap fun p => lineL p.f0.data.toList p.f1 ++ [10]
theorem textL_cons (p : Pred) (l : List Pred) : textL (p :: l) = lineL p.f0.data.toList p.f1 ++ 10 :: textL l := by simp [textL]
theorem getD_app (out : List Pred) (p : Pred) (j : Nat) : (out ++ [p]).getD j z41 = if j < out.length then out.getD j z41 else if j = out.length then p else z41 := by
  simp only [List.getD_eq_getElem?_getD]
  by_cases h : j < out.length
  · rw [if_pos h, List.getElem?_append_left h]
  · rw [if_neg h, List.getElem?_append_right (by omega)]
    by_cases h2 : j = out.length
    · subst h2; simp
    · rw [if_neg h2]
      have : ([p] : List Pred)[j - out.length]? = none := List.getElem?_eq_none (by simp; omega)
      rw [this]
      rfl
theorem t12_all (a : List Int) : a.all typeOk = true ↔ T12 a := by
  rw [List.all_eq_true]
  refine ⟨fun h t ht => by have := h t ht; simpa [typeOk] using this, fun h t ht => by have := h t ht; simpa [typeOk] using this⟩
theorem check_app (out : List Pred) (p : Pred) : check (out ++ [p]) = 0 ↔ check out = 0 ∧ out.length < 64 ∧ p.f0 ∉ names out ∧ nameOk p.f0 = true ∧ p.f1.length ≤ 8 ∧ T12 p.f1 := by
  rw [check_zero, check_zero]
  have hn : names (out ++ [p]) = names out ++ [p.f0] := by simp [names]
  have hlen : (names out).length = out.length := by simp
  constructor
  · rintro ⟨h1, h2⟩
    rw [List.length_append, List.length_singleton] at h1 h2
    refine ⟨⟨by omega, fun j hj => ?_⟩, by omega, ?_⟩
    · have h := h2 j (by omega)
      unfold MSig.Good at h ⊢
      rw [getD_app, if_pos hj, hn, List.take_append_of_le_length (by omega)] at h
      exact h
    · have h := h2 out.length (by omega)
      unfold MSig.Good at h
      rw [getD_app, if_neg (by omega), if_pos rfl, hn, List.take_append_of_le_length (by omega), List.take_of_length_le (by omega)] at h
      exact ⟨h.1, h.2.1, h.2.2.1, (t12_all _).1 h.2.2.2⟩
  · rintro ⟨⟨h1, h2⟩, h3, h4, h5, h6, h7⟩
    rw [List.length_append, List.length_singleton]
    refine ⟨by omega, fun j hj => ?_⟩
    by_cases h : j < out.length
    · have hg := h2 j h
      unfold MSig.Good at hg ⊢
      rw [getD_app, if_pos h, hn, List.take_append_of_le_length (by omega)]
      exact hg
    · obtain rfl : j = out.length := by omega
      unfold MSig.Good
      rw [getD_app, if_neg (by omega), if_pos rfl, hn, List.take_append_of_le_length (by omega), List.take_of_length_le (by omega)]
      exact ⟨h4, h5, h6, (t12_all _).2 h7⟩
theorem parseL_back : ∀ (m : Nat) (out : List Pred) (n : Int) (l : List UInt8), l.length ≤ m → check out = 0 → n = (out.length : Int) + 1 →
    ((parseL m out n l).2.1 = 0 → ∃ o, parseL m out n l = (out ++ o, 0, 0, 0) ∧ l = textL o ∧ check (out ++ o) = 0) ∧ ((parseL m out n l).2.1 ≠ 0 → (parseL m out n l).1 = [])
  | 0, out, n, l => fun hl hc hn => by
    obtain rfl : l = [] := List.length_eq_zero_iff.1 (by omega)
    exact ⟨fun _ => ⟨[], by simp [parseL], rfl, by simpa using hc⟩, fun h => absurd rfl h⟩
  | m + 1, out, n, l => fun hl hc hn => by
    simp only [parseL]
    by_cases he : l = []
    · rw [if_pos he]
      exact ⟨fun _ => ⟨[], by simp, he, by simpa using hc⟩, fun h => absurd rfl h⟩
    · rw [if_neg he]
      have hcl := cut10_len l
      have hpt := parts 10 l
      have hci : ∀ x r, l = x ++ 10 :: r → (10 : UInt8) ∉ x → Lib.cut l [10] = (x, r, true) := fun x r e h => by rw [e, cut_in 10 x r h]
      have hco : (10 : UInt8) ∉ l → Lib.cut l [10] = (l, [], false) := cut_out 10 l
      generalize Lib.cut l [10] = c at hcl hci hco
      obtain ⟨x, rest, ended⟩ := c
      simp only at hcl ⊢
      cases hp : predL x with
      | none => exact ⟨fun h => absurd h (by simp), fun _ => rfl⟩
      | some p =>
        simp only
        by_cases hm : p.f0 ∈ names out
        · rw [if_pos hm]
          exact ⟨fun h => absurd h (by simp), fun _ => rfl⟩
        · rw [if_neg hm]
          by_cases hq : p.f1.length > 8 ∨ n > 64
          · rw [if_pos hq]
            exact ⟨fun h => absurd h (by simp), fun _ => rfl⟩
          · rw [if_neg hq]
            cases ended with
            | false => exact ⟨fun h => absurd h (by simp), fun _ => rfl⟩
            | true =>
              simp only [if_true]
              have hlo := predL_back hp
              have hcp : check (out ++ [p]) = 0 := (check_app out p).2 ⟨hc, by omega, hm, hlo.1, by omega, hlo.2.1⟩
              have h3 := hcl.2 rfl
              have hlx : l = x ++ 10 :: rest := by
                rcases hpt with h | ⟨x', r', e, h⟩
                · have := hco h
                  injection this with _ h4
                  injection h4 with _ h4
                  cases h4
                · have h4 := hci x' r' e h
                  injection h4 with h4 h5
                  injection h5 with h5 _
                  rw [e, h4, h5]
              obtain ⟨h4, h5⟩ := parseL_back m (out ++ [p]) (n + 1) rest (by omega) hcp (by rw [List.length_append, List.length_singleton]; omega)
              refine ⟨fun h => ?_, h5⟩
              obtain ⟨o, e1, e2, e3⟩ := h4 h
              refine ⟨p :: o, by rw [e1, List.append_assoc]; rfl, ?_, by rw [List.append_assoc] at e3; exact e3⟩
              rw [textL_cons, ← e2, ← hlo.2.2]
              exact hlx
theorem parseL_text : ∀ (l out : List Pred) (m : Nat) (n : Int), (textL l).length ≤ m → check (out ++ l) = 0 → n = (out.length : Int) + 1 → parseL m out n (textL l) = (out ++ l, 0, 0, 0)
  | [], out, m, n, _, _, _ => by
    cases m with
    | zero => simp [parseL]
    | succ m => simp [parseL, textL]
  | p :: l, out, m, n, hm, hc, hn => by
    have hc' : check ((out ++ [p]) ++ l) = 0 := by rw [List.append_assoc]; exact hc
    have hcp : check (out ++ [p]) = 0 := by
      have := check_take ((out ++ [p]) ++ l) (out ++ [p]).length hc'
      rwa [List.take_left' rfl] at this
    obtain ⟨c1, c2, c3, c4, c5, c6⟩ := (check_app out p).1 hcp
    have hlo : LineOf (lineL p.f0.data.toList p.f1) p := ⟨c4, c6, rfl⟩
    have ht := textL_cons p l
    have hml : (textL (p :: l)).length = (lineL p.f0.data.toList p.f1).length + 1 + (textL l).length := by rw [ht]; simp; omega
    obtain ⟨m, rfl⟩ : ∃ k, m = k + 1 := ⟨m - 1, by omega⟩
    have hcut : Lib.cut (textL (p :: l)) [10] = (lineL p.f0.data.toList p.f1, textL l, true) := by rw [ht, cut_in 10 _ _ (line_no10 hlo)]
    simp only [parseL]
    rw [if_neg (by rw [ht]; simp), hcut]
    simp only
    rw [predL_line hlo]
    simp only
    rw [if_neg c3, if_neg (by omega), if_pos trivial, parseL_text l (out ++ [p]) m (n + 1) (by omega) hc' (by rw [List.length_append, List.length_singleton]; omega), List.append_assoc]
    rfl

/-! ### two signatures that are the same -/
theorem same_args (l : List Pred) (i : Nat) (hi : i < l.length) (hl : l.length < 9223372036854775807) (ha : (l.getD i z41).f1.length < 9223372036854775807) (v : Bool) (hv : Ev (fun k => tachographref09_Same.l0 k l l ((i + 1 : Nat) : Int)) v) : ∀ (n j : Nat), n + j = (l.getD i z41).f1.length →
    Ev (fun k => tachographref09_Same.l1 k l l (i : Int) (j : Int)) v
  | 0, j => fun h => by
    refine Ev.step (f := fun k => tachographref09_Same.l0 k l l ((i + 1 : Nat) : Int)) (fun k => ?_) hv
    simp only [tachographref09_Same.l1]
    rw [if_pos (by omega), if_pos (by omega), rd_pred, if_neg (by omega), w64 (by omega) (by omega)]
    rfl
  | n + 1, j => fun h => by
    have ih := same_args l i hi hl ha v hv n (j + 1) (by omega)
    refine Ev.step (f := fun k => tachographref09_Same.l1 k l l (i : Int) ((j + 1 : Nat) : Int)) (fun k => ?_) ih
    simp only [tachographref09_Same.l1]
    rw [if_pos (by omega), if_pos (by omega), rd_pred, if_pos (by omega), if_pos (by omega), if_pos (by omega), if_pos (by omega), if_pos trivial, w64 (by omega) (by omega)]
    rfl
theorem same_from (l : List Pred) (hl : l.length < 9223372036854775807) (ha : ∀ p ∈ l, p.f1.length < 9223372036854775807) : ∀ (n i : Nat), n + i = l.length → Ev (fun k => tachographref09_Same.l0 k l l (i : Int)) true
  | 0, i => fun h => by
    refine Ev.step (f := fun _ => some true) (fun k => ?_) (Ev.now _)
    simp only [tachographref09_Same.l0]
    rw [if_neg (by omega)]
  | n + 1, i => fun h => by
    have hi : i < l.length := by omega
    have ih := same_from l hl ha n (i + 1) (by omega)
    have hq := same_args l i hi hl (by rw [getD_eq l i hi]; exact ha _ (List.getElem_mem hi)) true ih (l.getD i z41).f1.length 0 (by omega)
    refine Ev.step (f := fun k => tachographref09_Same.j1 k l l (i : Int) false) (fun k => ?_) (Ev.step (f := fun k => tachographref09_Same.l1 k l l (i : Int) ((0 : Nat) : Int)) (fun k => ?_) hq)
    · simp only [tachographref09_Same.l0]
      rw [if_pos (by omega), if_pos (by omega), if_pos (by omega), if_pos trivial, bne_self_eq_false]
    · simp only [tachographref09_Same.j1, Bool.false_eq_true, if_false]
      rfl
theorem same_refl (l : List Pred) (hl : l.length < 9223372036854775807) (ha : ∀ p ∈ l, p.f1.length < 9223372036854775807) : Ev (fun k => tachographref09_Same.f k l l) true := by
  unfold tachographref09_Same.f
  refine Ev.congr (f := fun k => tachographref09_Same.l0 k l l ((0 : Nat) : Int)) (fun k => ?_) (same_from l hl ha l.length 0 (by omega))
  rw [if_pos rfl]
  rfl

theorem fixed10 : Ev (fun k => tachographlaw10_fixed.f k) true := by
  have hc : check ([] ++ [(⟨(⟨#[112]⟩ : ByteArray), [1, 2]⟩ : Pred)]) = 0 := by decide +kernel
  have ht : (⟨#[112, 40, 105, 110, 116, 44, 115, 116, 114, 105, 110, 103, 41, 10]⟩ : ByteArray).data.toList = textL [(⟨(⟨#[112]⟩ : ByteArray), [1, 2]⟩ : Pred)] := by decide +kernel
  have h := parse_ev (⟨#[112, 40, 105, 110, 116, 44, 115, 116, 114, 105, 110, 103, 41, 10]⟩ : ByteArray) (by decide)
  rw [ht, parseL_text _ [] _ 1 (by decide +kernel) hc rfl] at h
  unfold tachographlaw10_fixed.f
  refine Ev.bind h ?_
  refine Ev.congr (f := fun k => (tachographref09_Same.f k [(⟨(⟨#[112]⟩ : ByteArray), [1, 2]⟩ : Pred)] [(⟨(⟨#[112]⟩ : ByteArray), [1, 2]⟩ : Pred)]).bind fun t => some t) (fun k => ?_) (Ev.bind (same_refl _ (by decide) (by decide)) (Ev.now _))
  simp
end Go.Proofs.YtmmfakdncjeoeacDoor.MSigtext
