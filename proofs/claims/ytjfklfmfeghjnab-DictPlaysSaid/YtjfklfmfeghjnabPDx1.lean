-- Contracts of Go functions, each with its plain Lean function: written by wip/tools/myprint.py of this work (the kit's print, with contracts proved by hand spliced in).
import Derived.Test.YtjfklfmfeghjnabPDx0
namespace Go.Proofs.Ytjfklfmfeghjnab.PD
open Go.RowKit Go.Proofs.YtjfklfmfeghjnabW.PrintWords Go.Proofs.YtjfklfmfeghjnabW.PrintLast Go.Proofs.YtjfklfmfeghjnabW.PrintMore
attribute [local go_sem] max2_int min2_int max_two min_two max_three min_three max_four min_four   -- for this text's walks alone
set_option linter.unusedVariables false
set_option linter.unusedSimpArgs false

/-! #### struct type 100 -/
/-- A dictionary at block g of W: its texts. -/
abbrev IsS100 (w0 W : World) (g : Nat) (f0 : ByteArray) : Prop := Go.Proofs.YtjfklfmfeghjnabAid.IsDict w0 W g (Go.Proofs.YtjfklfmfeghjnabAid.ddec f0)
theorem IsS100.below {w0 W : World} {g : Nat} {f0 : ByteArray} {W1 : World} (h : IsS100 w0 W g f0) (hw : Below W.heap.size W W1) : IsS100 w0 W1 g f0 := Go.Proofs.YtjfklfmfeghjnabAid.IsDict.below h hw
theorem IsS100.alloc {w0 W : World} {g : Nat} {f0 : ByteArray} (h : IsS100 w0 W g f0) (o : Obj) : IsS100 w0 (W.alloc o) g f0 := Go.Proofs.YtjfklfmfeghjnabAid.IsDict.alloc h o
theorem IsS100.drewN {w0 W : World} {g : Nat} {f0 : ByteArray} (h : IsS100 w0 W g f0) (m : Nat) : IsS100 w0 (W.drewN m) g f0 := Go.Proofs.YtjfklfmfeghjnabAid.IsDict.drewN h m
theorem IsS100.drew {w0 W : World} {g : Nat} {f0 : ByteArray} (h : IsS100 w0 W g f0) : IsS100 w0 W.drew g f0 := Go.Proofs.YtjfklfmfeghjnabAid.IsDict.drew h
theorem IsS100.at_ {w0 W : World} {g : Nat} {f0 : ByteArray} {w' : World} {m : Nat} (hq : W.drewN m = w') (h : IsS100 w0 W g f0) : IsS100 w0 w' g f0 := Go.Proofs.YtjfklfmfeghjnabAid.IsDict.at_ hq h
theorem IsS100.farT {w0 W : World} {g : Nat} {f0 : ByteArray} (h : IsS100 w0 W g f0) {a o : Nat} {t : TypeId} (hT : Go.Proofs.YtjfklfmfeghjnabAid.TyAt W a t) (h1 : t ≠ 9) (h2 : t ≠ 100) (u : Value) : IsS100 w0 (W.setCell ⟨a, o, none⟩ u) g f0 := Go.Proofs.YtjfklfmfeghjnabAid.IsDict.farT h hT h1 h2 u
theorem IsS100.apart {w0 W : World} {g : Nat} {f0 : ByteArray} {α : Type} {d : Kd α} {e : Nat} {base : Nat} {ok : Nat → Prop} {v : Value} {xs : List α} (h : IsS100 w0 W g f0) (ho : d.R e W base ok v xs) (ht : ∀ q, q ∈ e :: d.E → q ≠ 100) : d.R e W base (fun k => ok k ∧ k ≠ g) v xs := Go.Proofs.YtjfklfmfeghjnabAid.IsDict.rows h ho ht
theorem IsS100.own_ne {w0 W : World} {g : Nat} {f0 : ByteArray} {α : Type} {d : Kd α} {e : Nat} {base : Nat} {ok : Nat → Prop} {v : Value} {xs : List α} (h : IsS100 w0 W g f0) (ho : d.R e W base ok v xs) (ht : e ≠ 100) : some g ≠ v.ownBlock := Go.Proofs.YtjfklfmfeghjnabAid.IsDict.own_ne h ho ht
theorem IsS100.lt {w0 W : World} {g : Nat} {f0 : ByteArray} (h : IsS100 w0 W g f0) : g < W.heap.size := Go.Proofs.YtjfklfmfeghjnabAid.IsDict.lt h
theorem IsS100.ge {w0 W : World} {g : Nat} {f0 : ByteArray} (h : IsS100 w0 W g f0) : w0.heap.size ≤ g := Go.Proofs.YtjfklfmfeghjnabAid.IsDict.ge h

/-! ### dict_New: function 16 -/
def dict_New.f : Option ByteArray := some (Go.Proofs.YtjfklfmfeghjnabAid.denc [])
theorem dict_New.calls (r1 : ByteArray) (w0 w : World) (hB : Below w0.heap.size w0 w) (h : dict_New.f = some r1) :
    Calls Try.prog 16 #[] w fun e w' => ∃ g_ : Nat, e = .returned (.pointer (some ⟨g_, 0, none⟩)) ∧ IsS100 w0 w' g_ r1 ∧ Below w0.heap.size w0 w' ∧ Below w.heap.size w w' := by
  obtain rfl := Option.some.inj h
  refine (Go.Proofs.YtjfklfmfeghjnabAid.dict_new w0 w hB).mono ?_
  rintro e w' ⟨g, rfl, hi, hb⟩
  exact ⟨g, rfl, (show Go.Proofs.YtjfklfmfeghjnabAid.IsDict w0 w' g (Go.Proofs.YtjfklfmfeghjnabAid.ddec (Go.Proofs.YtjfklfmfeghjnabAid.denc [])) from by rw [Go.Proofs.YtjfklfmfeghjnabAid.ddec_enc]; exact hi), below_weaken hB hB.size hb, hb⟩

/-! ### dict_Dict_Put: function 18 -/
def dict_Dict_Put.f (s0_0 : ByteArray) (a1 : ByteArray) : Option (Int × ByteArray) := if a1.size ≤ 9223372036854775807 then (if a1 ∈ Go.Proofs.YtjfklfmfeghjnabAid.ddec s0_0 then some (((Go.Proofs.YtjfklfmfeghjnabAid.ddec s0_0).idxOf a1 : Int), s0_0) else if (Go.Proofs.YtjfklfmfeghjnabAid.ddec s0_0).length < 8796093022208 then some (((Go.Proofs.YtjfklfmfeghjnabAid.ddec s0_0).length : Int), Go.Proofs.YtjfklfmfeghjnabAid.denc (Go.Proofs.YtjfklfmfeghjnabAid.ddec s0_0 ++ [a1])) else none) else none
theorem dict_Dict_Put.calls (g : Nat) (s0_0 : ByteArray) (a1 : ByteArray) (r1 : Int) (r2 : ByteArray) (w0 w : World) (hI : IsS100 w0 w g s0_0) (hB : Below w0.heap.size w0 w) (h : dict_Dict_Put.f s0_0 a1 = some (r1, r2)) :
    Calls Try.prog 18 #[.pointer (some ⟨g, 0, none⟩), .string a1] w fun e w' => e = .returned (.int .i64 r1) ∧ IsS100 w0 w' g r2 ∧ Below w0.heap.size w0 w' ∧ Go.Proofs.YtjfklfmfeghjnabAid.PutKeep w w' g := by
  unfold dict_Dict_Put.f at h
  obtain ⟨gm, A, c, hI⟩ := hI
  split at h
  · split at h
    · simp only [Option.some.injEq, Prod.mk.injEq] at h
      obtain ⟨rfl, rfl⟩ := h
      refine (Go.Proofs.YtjfklfmfeghjnabAid.dict_put_old hI a1 (by assumption) (by assumption)).mono ?_
      rintro e w' ⟨rfl, rfl⟩
      exact ⟨rfl, ⟨gm, A, c, hI⟩, hB, Go.Proofs.YtjfklfmfeghjnabAid.PutKeep.refl _ _⟩
    · split at h
      · simp only [Option.some.injEq, Prod.mk.injEq] at h
        obtain ⟨rfl, rfl⟩ := h
        refine (Go.Proofs.YtjfklfmfeghjnabAid.dict_put_new hI hB a1 (by assumption) (by assumption) (by assumption)).mono ?_
        rintro e w' ⟨A', c', rfl, hi, hb, _, hk, hat⟩
        exact ⟨rfl, ⟨gm, A', c', by rw [Go.Proofs.YtjfklfmfeghjnabAid.ddec_enc]; exact hi⟩, hb, hI.putKeep hi hk hat⟩
      · cases h
  · cases h

/-! ### tachographlaw13_fixed: function 15 -/
def tachographlaw13_fixed.f  : Option (Bool) := (dict_New.f).bind fun t101 => ((dict_Dict_Put.f t101 (⟨#[97]⟩ : ByteArray)).bind fun bt103 => (if bt103.1 = 0 then ((dict_Dict_Put.f bt103.2 (⟨#[98]⟩ : ByteArray)).bind fun bt105 => (if bt105.1 = 1 then ((dict_Dict_Put.f bt105.2 (⟨#[97]⟩ : ByteArray)).bind fun bt107 => (some (bt107.1 == 0))) else (some false))) else (some false)))
set_option maxHeartbeats 8000000 in
set_option maxRecDepth 100000 in
theorem tachographlaw13_fixed.calls  (r : Bool) (w : World) (h : tachographlaw13_fixed.f  = some r) :
    Calls Try.prog 15 #[] w fun e w' => e = .returned (.bool r) ∧ Below w.heap.size w w' := by
  have HB := Aside0.mk (Below.refl w.heap.size w)
  have H : ((dict_New.f).bind fun t101 => ((dict_Dict_Put.f t101 (⟨#[97]⟩ : ByteArray)).bind fun bt103 => (if bt103.1 = 0 then ((dict_Dict_Put.f bt103.2 (⟨#[98]⟩ : ByteArray)).bind fun bt105 => (if bt105.1 = 1 then ((dict_Dict_Put.f bt105.2 (⟨#[97]⟩ : ByteArray)).bind fun bt107 => (some (bt107.1 == 0))) else (some false))) else (some false)))) = some r := h
  clear h
  replace H := Option.bind_eq_some_iff.mp H
  obtain ⟨t101, A10, H⟩ := H
  replace H : ((dict_Dict_Put.f t101 (⟨#[97]⟩ : ByteArray)).bind fun bt103 => (if bt103.1 = 0 then ((dict_Dict_Put.f bt103.2 (⟨#[98]⟩ : ByteArray)).bind fun bt105 => (if bt105.1 = 1 then ((dict_Dict_Put.f bt105.2 (⟨#[97]⟩ : ByteArray)).bind fun bt107 => (some (bt107.1 == 0))) else (some false))) else (some false))) = some r := H
  have A1 := Aside0.mk A10
  clear A10
  replace H := Option.bind_eq_some_iff.mp H
  obtain ⟨⟨t103, t104⟩, A20, H⟩ := H
  replace H : (if t103 = 0 then ((dict_Dict_Put.f t104 (⟨#[98]⟩ : ByteArray)).bind fun bt105 => (if bt105.1 = 1 then ((dict_Dict_Put.f bt105.2 (⟨#[97]⟩ : ByteArray)).bind fun bt107 => (some (bt107.1 == 0))) else (some false))) else (some false)) = some r := H
  have A2 := Aside0.mk A20
  clear A20
  by_cases c3 : t103 = 0
  · rw [if_pos c3] at H
    have c3b0 : (t103 == 0) = true := beq_iff_eq.mpr c3
    have c3b1 : (t103 != 0) = false := bne_eq_false_iff_eq.mpr c3
    clear c3
    replace H := Option.bind_eq_some_iff.mp H
    obtain ⟨⟨t105, t106⟩, A40, H⟩ := H
    replace H : (if t105 = 1 then ((dict_Dict_Put.f t106 (⟨#[97]⟩ : ByteArray)).bind fun bt107 => (some (bt107.1 == 0))) else (some false)) = some r := H
    have A4 := Aside0.mk A40
    clear A40
    by_cases c5 : t105 = 1
    · rw [if_pos c5] at H
      have c5b0 : (t105 == 1) = true := beq_iff_eq.mpr c5
      have c5b1 : (t105 != 1) = false := bne_eq_false_iff_eq.mpr c5
      clear c5
      replace H := Option.bind_eq_some_iff.mp H
      obtain ⟨⟨t107, t108⟩, A60, H⟩ := H
      replace H : (some (t107 == 0)) = some r := H
      have A6 := Aside0.mk A60
      clear A60
      obtain rfl := Option.some.inj H
      go_enter Try.func15, Try.ntmps15
      go_wp2_with (first | ((with_reducible refine gate_callee (f := 16) rfl ?_); refine goesL_ (some 2) rfl rfl Try.func16 (by kernel_rfl) rfl #[] rfl (by (try simp only [List.map_toArray, List.map_cons, List.map_nil]); first | done | rfl | (simp only [List.length_drop, List.length_take]; rfl) | (refine congrArg (fun z_ => #[z_]) (congrArg (Value.int IntKind.u64) (Eq.symm (Go.Proofs.YtjfklfmfeghjnabAid.wrap_len _ (by omega)))))) ?_; (with_reducible refine (dict_New.calls  t101 w _ ?side1 A1.out).mono ?_); (case side1 => repeat (first | (with_reducible first | exact HB.out | apply below_alloc | apply pw_below_drewN | apply below_drew1) | exact HB.out)); rintro e w7 ⟨g102, rfl, hi, hb, hb2⟩; refine ⟨_, rfl, ?_⟩; have n0_ := Aside0.mk (hb); have n1_ := Aside0.mk (hi); clear HB; have HB := n0_; have HI102 := n1_; clear n0_ n1_; (try clear hb); (try clear hb2); (try clear hk); (try clear hi)) | (go_at_call 18; (with_reducible refine (dict_Dict_Put.calls g102 t101 (⟨#[97]⟩ : ByteArray) t103 t104 w _ ?side1 ?side2 A2.out).mono ?_); (case side1 => repeat (first | (with_reducible first | exact HI102.out | apply IsS100.alloc | apply IsS100.drewN | apply IsS100.drew | apply IsS100.set_0) | exact HI102.out)); (case side2 => repeat (first | (with_reducible first | exact HB.out | apply below_alloc | apply pw_below_drewN | apply below_drew1 | refine below_set ?_ (IsS100.ge HI102.out)) | exact HB.out)); rintro e w8 ⟨rfl, hi, hb, hk⟩; have n0_ := Aside0.mk (hb); have n1_ := Aside0.mk (hi); clear HB; clear HI102; have HB := n0_; have HI102 := n1_; clear n0_ n1_; (try clear hb); (try clear hb2); (try clear hk); (try clear hi)) | (go_at_call 18; (with_reducible refine (dict_Dict_Put.calls g102 t104 (⟨#[98]⟩ : ByteArray) t105 t106 w _ ?side1 ?side2 A4.out).mono ?_); (case side1 => repeat (first | (with_reducible first | exact HI102.out | apply IsS100.alloc | apply IsS100.drewN | apply IsS100.drew | apply IsS100.set_0) | exact HI102.out)); (case side2 => repeat (first | (with_reducible first | exact HB.out | apply below_alloc | apply pw_below_drewN | apply below_drew1 | refine below_set ?_ (IsS100.ge HI102.out)) | exact HB.out)); rintro e w9 ⟨rfl, hi, hb, hk⟩; have n0_ := Aside0.mk (hb); have n1_ := Aside0.mk (hi); clear HB; clear HI102; have HB := n0_; have HI102 := n1_; clear n0_ n1_; (try clear hb); (try clear hb2); (try clear hk); (try clear hi)) | (go_at_call 18; (with_reducible refine (dict_Dict_Put.calls g102 t106 (⟨#[97]⟩ : ByteArray) t107 t108 w _ ?side1 ?side2 A6.out).mono ?_); (case side1 => repeat (first | (with_reducible first | exact HI102.out | apply IsS100.alloc | apply IsS100.drewN | apply IsS100.drew | apply IsS100.set_0) | exact HI102.out)); (case side2 => repeat (first | (with_reducible first | exact HB.out | apply below_alloc | apply pw_below_drewN | apply below_drew1 | refine below_set ?_ (IsS100.ge HI102.out)) | exact HB.out)); rintro e w10 ⟨rfl, hi, hb, hk⟩; have n0_ := Aside0.mk (hb); have n1_ := Aside0.mk (hi); clear HB; clear HI102; have HB := n0_; have HI102 := n1_; clear n0_ n1_; (try clear hb); (try clear hb2); (try clear hk); (try clear hi)))
      go_ret
      exact ⟨by first | rfl | (simp [errW_none, errW_some] <;> rfl) | (simp [*, errW_none, errW_some] <;> rfl), by repeat (first | (with_reducible first | exact HB.out | apply below_alloc | apply pw_below_drewN | apply below_drew1 | refine below_set ?_ (IsS100.ge HI102.out)) | exact HB.out)⟩
    · rw [if_neg c5] at H
      have c5b0 : (t105 == 1) = false := beq_eq_false_iff_ne.mpr c5
      have c5b1 : (t105 != 1) = true := bne_iff_ne.mpr c5
      obtain rfl := Option.some.inj H
      go_enter Try.func15, Try.ntmps15
      go_wp2_with (first | ((with_reducible refine gate_callee (f := 16) rfl ?_); refine goesL_ (some 2) rfl rfl Try.func16 (by kernel_rfl) rfl #[] rfl (by (try simp only [List.map_toArray, List.map_cons, List.map_nil]); first | done | rfl | (simp only [List.length_drop, List.length_take]; rfl) | (refine congrArg (fun z_ => #[z_]) (congrArg (Value.int IntKind.u64) (Eq.symm (Go.Proofs.YtjfklfmfeghjnabAid.wrap_len _ (by omega)))))) ?_; (with_reducible refine (dict_New.calls  t101 w _ ?side1 A1.out).mono ?_); (case side1 => repeat (first | (with_reducible first | exact HB.out | apply below_alloc | apply pw_below_drewN | apply below_drew1) | exact HB.out)); rintro e w11 ⟨g102, rfl, hi, hb, hb2⟩; refine ⟨_, rfl, ?_⟩; have n0_ := Aside0.mk (hb); have n1_ := Aside0.mk (hi); clear HB; have HB := n0_; have HI102 := n1_; clear n0_ n1_; (try clear hb); (try clear hb2); (try clear hk); (try clear hi)) | (go_at_call 18; (with_reducible refine (dict_Dict_Put.calls g102 t101 (⟨#[97]⟩ : ByteArray) t103 t104 w _ ?side1 ?side2 A2.out).mono ?_); (case side1 => repeat (first | (with_reducible first | exact HI102.out | apply IsS100.alloc | apply IsS100.drewN | apply IsS100.drew | apply IsS100.set_0) | exact HI102.out)); (case side2 => repeat (first | (with_reducible first | exact HB.out | apply below_alloc | apply pw_below_drewN | apply below_drew1 | refine below_set ?_ (IsS100.ge HI102.out)) | exact HB.out)); rintro e w12 ⟨rfl, hi, hb, hk⟩; have n0_ := Aside0.mk (hb); have n1_ := Aside0.mk (hi); clear HB; clear HI102; have HB := n0_; have HI102 := n1_; clear n0_ n1_; (try clear hb); (try clear hb2); (try clear hk); (try clear hi)) | (go_at_call 18; (with_reducible refine (dict_Dict_Put.calls g102 t104 (⟨#[98]⟩ : ByteArray) t105 t106 w _ ?side1 ?side2 A4.out).mono ?_); (case side1 => repeat (first | (with_reducible first | exact HI102.out | apply IsS100.alloc | apply IsS100.drewN | apply IsS100.drew | apply IsS100.set_0) | exact HI102.out)); (case side2 => repeat (first | (with_reducible first | exact HB.out | apply below_alloc | apply pw_below_drewN | apply below_drew1 | refine below_set ?_ (IsS100.ge HI102.out)) | exact HB.out)); rintro e w13 ⟨rfl, hi, hb, hk⟩; have n0_ := Aside0.mk (hb); have n1_ := Aside0.mk (hi); clear HB; clear HI102; have HB := n0_; have HI102 := n1_; clear n0_ n1_; (try clear hb); (try clear hb2); (try clear hk); (try clear hi)))
      go_ret
      exact ⟨by first | rfl | (simp [errW_none, errW_some] <;> rfl) | (simp [*, errW_none, errW_some] <;> rfl), by repeat (first | (with_reducible first | exact HB.out | apply below_alloc | apply pw_below_drewN | apply below_drew1 | refine below_set ?_ (IsS100.ge HI102.out)) | exact HB.out)⟩
  · rw [if_neg c3] at H
    have c3b0 : (t103 == 0) = false := beq_eq_false_iff_ne.mpr c3
    have c3b1 : (t103 != 0) = true := bne_iff_ne.mpr c3
    obtain rfl := Option.some.inj H
    go_enter Try.func15, Try.ntmps15
    go_wp2_with (first | ((with_reducible refine gate_callee (f := 16) rfl ?_); refine goesL_ (some 2) rfl rfl Try.func16 (by kernel_rfl) rfl #[] rfl (by (try simp only [List.map_toArray, List.map_cons, List.map_nil]); first | done | rfl | (simp only [List.length_drop, List.length_take]; rfl) | (refine congrArg (fun z_ => #[z_]) (congrArg (Value.int IntKind.u64) (Eq.symm (Go.Proofs.YtjfklfmfeghjnabAid.wrap_len _ (by omega)))))) ?_; (with_reducible refine (dict_New.calls  t101 w _ ?side1 A1.out).mono ?_); (case side1 => repeat (first | (with_reducible first | exact HB.out | apply below_alloc | apply pw_below_drewN | apply below_drew1) | exact HB.out)); rintro e w14 ⟨g102, rfl, hi, hb, hb2⟩; refine ⟨_, rfl, ?_⟩; have n0_ := Aside0.mk (hb); have n1_ := Aside0.mk (hi); clear HB; have HB := n0_; have HI102 := n1_; clear n0_ n1_; (try clear hb); (try clear hb2); (try clear hk); (try clear hi)) | (go_at_call 18; (with_reducible refine (dict_Dict_Put.calls g102 t101 (⟨#[97]⟩ : ByteArray) t103 t104 w _ ?side1 ?side2 A2.out).mono ?_); (case side1 => repeat (first | (with_reducible first | exact HI102.out | apply IsS100.alloc | apply IsS100.drewN | apply IsS100.drew | apply IsS100.set_0) | exact HI102.out)); (case side2 => repeat (first | (with_reducible first | exact HB.out | apply below_alloc | apply pw_below_drewN | apply below_drew1 | refine below_set ?_ (IsS100.ge HI102.out)) | exact HB.out)); rintro e w15 ⟨rfl, hi, hb, hk⟩; have n0_ := Aside0.mk (hb); have n1_ := Aside0.mk (hi); clear HB; clear HI102; have HB := n0_; have HI102 := n1_; clear n0_ n1_; (try clear hb); (try clear hb2); (try clear hk); (try clear hi)))
    go_ret
    exact ⟨by first | rfl | (simp [errW_none, errW_some] <;> rfl) | (simp [*, errW_none, errW_some] <;> rfl), by repeat (first | (with_reducible first | exact HB.out | apply below_alloc | apply pw_below_drewN | apply below_drew1 | refine below_set ?_ (IsS100.ge HI102.out)) | exact HB.out)⟩

/-! ### tachographref13_Place: function 22 -/
def tachographref13_Place.l0 : Nat → List ByteArray → ByteArray → Int → Option (Int)
  | 0, _, _, _ => none
  | k + 1, x0, x1, x5 => if x5 < (x0.length : Int) then (if 0 ≤ x5 then (if (rdOf ByteArray.empty x0 x5).toList = x1.toList then (some x5) else (tachographref13_Place.l0 k x0 x1 (wrap64 (x5 + 1)))) else (none)) else (some (-1))
def tachographref13_Place.f (k : Nat) (l0 : List ByteArray) (a1 : ByteArray) : Option (Int) := tachographref13_Place.l0 k l0 a1 0
theorem tachographref13_Place.mono_l : ∀ k, (∀ y0 y1 y2, LeO (tachographref13_Place.l0 k y0 y1 y2) (tachographref13_Place.l0 (k + 1) y0 y1 y2))
  | 0 => fun _ _ _ r h => by simp [tachographref13_Place.l0] at h
  | k + 1 => by
    have ih0 := tachographref13_Place.mono_l k
    · intro y0 y1 y2
      unfold tachographref13_Place.l0
      repeat' first
      | (with_reducible exact ih0 _ _ _)
      | (with_reducible exact LeO.refl _)
      | (with_reducible exact LeO.none _)
      | (with_reducible refine LeO.ite ?_ ?_)
      | (with_reducible refine LeO.bind ?_ (fun _ => ?_))
      | exact ih0 _ _ _
      | exact LeO.none _
      | refine LeO.ite ?_ ?_
      | refine LeO.bind ?_ (fun _ => ?_)
theorem tachographref13_Place.mono : ∀ a0 a1 k, LeO (tachographref13_Place.f k a0 a1) (tachographref13_Place.f (k + 1) a0 a1) := by
  intro a0 a1 k
  have ih0 := tachographref13_Place.mono_l k
  unfold tachographref13_Place.f
  repeat' first
      | (with_reducible exact ih0 _ _ _)
      | (with_reducible exact LeO.refl _)
      | (with_reducible exact LeO.none _)
      | (with_reducible refine LeO.ite ?_ ?_)
      | (with_reducible refine LeO.bind ?_ (fun _ => ?_))
      | exact ih0 _ _ _
      | exact LeO.none _
      | refine LeO.ite ?_ ?_
      | refine LeO.bind ?_ (fun _ => ?_)
set_option maxHeartbeats 8000000 in
set_option maxRecDepth 100000 in
theorem tachographref13_Place.calls (k : Nat) (A0 : Option Addr) (c0 : Nat) (l0 : List ByteArray) (a1 : ByteArray) (r : Int) (w : World) (hr0 : Kd.C Kd.string w A0 l0.length l0) (hc0 : l0.length ≤ c0) (h : tachographref13_Place.f k l0 a1 = some r) :
    Calls Try.prog 22 #[.slice A0 l0.length c0, .string a1] w fun e w' => e = .returned (.int .i64 r) ∧ Drawn0 w w' := by
  have HR0 := Aside0.mk hr0
  have HC0 := Aside0.mk hc0
  clear hr0 hc0
  have H : (tachographref13_Place.l0 k l0 a1 0) = some r := h
  clear h
  have H' := Aside0.mk H
  clear H
  go_enter Try.func22, Try.ntmps22
  go_wp2
  go_loopg [5] k (fun kq v5 w' => ∃ (x5_1 : Int), v5 = .int .i64 x5_1 ∧ Aside0 (tachographref13_Place.l0 kq l0 a1 x5_1 = some r) ∧ Aside0 (kq ≤ k) ∧ Drawn0 w w')
  case atStart => exact ⟨(0), (by first | rfl | (simp; done) | (simp [*]; done)), H', ⟨Nat.le_refl _⟩, by repeat (first | exact Drawn0.refl _ | apply Drawn0.step)⟩
  case round =>
    clear H'
    try clear c2
    try clear p2
    obtain ⟨x5_1, rfl, HA, HK1, ⟨m1, rfl⟩⟩ := hrel
    cases gk with
    | zero => exact absurd HA.out (by simp [tachographref13_Place.l0])
    | succ k1 =>
      have H := HA.out
      clear HA
      simp only [tachographref13_Place.l0] at H
      by_cases c3 : x5_1 < (l0.length : Int)
      · rw [if_pos c3] at H
        have c3b0 : decide (x5_1 < (l0.length : Int)) = true := decide_eq_true c3
        clear c3
        by_cases c4 : 0 ≤ x5_1
        · rw [if_pos c4] at H
          have c4b0 : decide (0 ≤ x5_1) = true := decide_eq_true c4
          clear c4
          by_cases c5 : (rdOf ByteArray.empty l0 x5_1).toList = a1.toList
          · rw [if_pos c5] at H
            have c5b0 : ((rdOf ByteArray.empty l0 x5_1).toList == a1.toList) = true := beq_iff_eq.mpr c5
            have c5b1 : ((rdOf ByteArray.empty l0 x5_1).toList != a1.toList) = false := bne_eq_false_iff_eq.mpr c5
            clear c5
            obtain rfl := Option.some.inj H
            have p109 : 0 ≤ (x5_1 : Int) := of_decide_eq_true (by first | (with_reducible assumption) | assumption)
            have q109 : x5_1 < (l0.length : Int) := of_decide_eq_true (by first | (with_reducible assumption) | assumption)
            obtain ⟨ad109, e109, hx109_0⟩ := Kd.at_string HR0.out x5_1 p109 q109
            cases e109
            replace p109 := eq_true p109
            replace q109 := eq_true q109
            go_wp2
            go_ret
            exact ⟨by first | rfl | (simp; done) | (simp [*]; done), by repeat (first | exact Drawn0.refl _ | apply Drawn0.step)⟩
          · rw [if_neg c5] at H
            have c5b0 : ((rdOf ByteArray.empty l0 x5_1).toList == a1.toList) = false := beq_eq_false_iff_ne.mpr c5
            have c5b1 : ((rdOf ByteArray.empty l0 x5_1).toList != a1.toList) = true := bne_iff_ne.mpr c5
            have H' := Aside0.mk H
            clear H
            have p109 : 0 ≤ (x5_1 : Int) := of_decide_eq_true (by first | (with_reducible assumption) | assumption)
            have q109 : x5_1 < (l0.length : Int) := of_decide_eq_true (by first | (with_reducible assumption) | assumption)
            obtain ⟨ad109, e109, hx109_0⟩ := Kd.at_string HR0.out x5_1 p109 q109
            cases e109
            replace p109 := eq_true p109
            replace q109 := eq_true q109
            go_wp2
            go_roundg k1
            case measure => have := HK1.out; omega
            case rel => exact ⟨(wrap64 (x5_1 + 1)), (by first | rfl | (simp; done) | (simp [*]; done)), H', ⟨by have := HK1.out; omega⟩, by repeat (first | exact Drawn0.refl _ | apply Drawn0.step)⟩
        · rw [if_neg c4] at H
          exact absurd H (by simp)
      · rw [if_neg c3] at H
        have c3b0 : decide (x5_1 < (l0.length : Int)) = false := decide_eq_false c3
        clear c3
        obtain rfl := Option.some.inj H
        go_wp2
        go_ret
        exact ⟨by first | rfl | (simp; done) | (simp [*]; done), by repeat (first | exact Drawn0.refl _ | apply Drawn0.step)⟩

/-! ### tachographref13_Put: function 17 -/
def tachographref13_Put.f (k : Nat) (l0 : List ByteArray) (a1 : ByteArray) : Option (List ByteArray × Int) := (tachographref13_Place.f k l0 a1).bind fun t110 => (if t110 ≥ 0 then (some (l0, t110)) else ((some (([] : List ByteArray) : List ByteArray)).bind fun y111 => (if y111.length + l0.length < 8796093022208 then ((some (y111 ++ l0 : List ByteArray)).bind fun y114 => (if y114.length < 8796093022208 then (some ((y114 ++ [a1]), (l0.length : Int))) else (none))) else (none))))
theorem tachographref13_Put.mono : ∀ a0 a1 k, LeO (tachographref13_Put.f k a0 a1) (tachographref13_Put.f (k + 1) a0 a1) := by
  intro a0 a1 k
  unfold tachographref13_Put.f
  repeat' first
      | (with_reducible exact tachographref13_Place.mono _ _ _)
      | (with_reducible exact LeO.refl _)
      | (with_reducible exact LeO.none _)
      | (with_reducible refine LeO.ite ?_ ?_)
      | (with_reducible refine LeO.bind ?_ (fun _ => ?_))
      | exact tachographref13_Place.mono _ _ _
      | exact LeO.none _
      | refine LeO.ite ?_ ?_
      | refine LeO.bind ?_ (fun _ => ?_)
set_option maxHeartbeats 8000000 in
set_option maxRecDepth 100000 in
theorem tachographref13_Put.calls (k : Nat) (P0_ : Nat → Prop) (u9000_ : Value) (l0 : List ByteArray) (a1 : ByteArray) (r1 : List ByteArray) (r2 : Int) (w0 w : World) (hB : Below w0.heap.size w0 w) (ho0 : Kd.R Kd.string 9 w w0.heap.size P0_ u9000_ l0) (h : tachographref13_Put.f k l0 a1 = some (r1, r2)) :
    Calls Try.prog 17 #[u9000_, .string a1] w fun e w' => ∃ v0_ : Value, e = .returned (.tuple #[v0_, .int .i64 r2]) ∧ Kd.R Kd.string 9 w' w0.heap.size (fun k_ => (P0_ k_ ∨ w.heap.size ≤ k_)) v0_ r1 ∧ Below w0.heap.size w0 w' ∧ Kept w w' (fun k_ => P0_ k_) := by
  have HO0 := Aside0.mk (show Kd.R Kd.string 9 w w0.heap.size (fun k_ => (P0_ k_ ∨ w.heap.size ≤ k_)) u9000_ l0 from Kd.R_mono ho0 (fun k_ hk => (.inl hk)))
  have HK := Aside0.mk (Kept.refl w (fun k_ => P0_ k_))
  have HW0 := Aside0.mk hB.size
  have HB := Aside0.mk hB
  clear hB
  have H : ((tachographref13_Place.f k l0 a1).bind fun t110 => (if t110 ≥ 0 then (some (l0, t110)) else ((some (([] : List ByteArray) : List ByteArray)).bind fun y111 => (if y111.length + l0.length < 8796093022208 then ((some (y111 ++ l0 : List ByteArray)).bind fun y114 => (if y114.length < 8796093022208 then (some ((y114 ++ [a1]), (l0.length : Int))) else (none))) else (none))))) = some (r1, r2) := h
  clear h
  replace H := Option.bind_eq_some_iff.mp H
  obtain ⟨t110, A30, H⟩ := H
  replace H : (if t110 ≥ 0 then (some (l0, t110)) else ((some (([] : List ByteArray) : List ByteArray)).bind fun y111 => (if y111.length + l0.length < 8796093022208 then ((some (y111 ++ l0 : List ByteArray)).bind fun y114 => (if y114.length < 8796093022208 then (some ((y114 ++ [a1]), (l0.length : Int))) else (none))) else (none)))) = some (r1, r2) := H
  have A3 := Aside0.mk A30
  clear A30
  by_cases c4 : t110 ≥ 0
  · rw [if_pos c4] at H
    have c4b0 : decide (0 ≤ t110) = true := decide_eq_true c4
    clear c4
    simp only [Option.some.injEq, Prod.mk.injEq] at H
    obtain ⟨rfl, rfl⟩ := H
    obtain ⟨Ao5, co5, eo5⟩ := Kd.R_slice HO0.out
    subst eo5
    go_enter Try.func17, Try.ntmps17
    go_wp2_with (first | ((with_reducible refine gate_callee (f := 22) rfl ?_); refine goesL_ (some 9) rfl rfl Try.func22 (by kernel_rfl) rfl #[.slice Ao5 l0.length co5, .string a1] rfl (by (try simp only [List.map_toArray, List.map_cons, List.map_nil]); first | done | rfl | (simp only [List.length_drop, List.length_take]; rfl) | (refine congrArg (fun z_ => #[z_]) (congrArg (Value.int IntKind.u64) (Eq.symm (Go.Proofs.YtjfklfmfeghjnabAid.wrap_len _ (by omega)))))) ?_; (with_reducible refine (tachographref13_Place.calls k _ _ l0 a1 t110 _ ?side1 ?side2 A3.out).mono ?_); (case side1 => repeat (first | exact (Kd.R_reads' HO0.out).2.2 | (with_reducible refine Kd.C_alloc ?_ _) | (with_reducible refine Kd.C_drewN ?_ _) | (with_reducible refine Kd.C_drew ?_))); (case side2 => exact (Kd.R_reads' HO0.out).2.1); rintro e w' ⟨rfl, ⟨nd, rfl⟩⟩; refine ⟨_, rfl, ?_⟩))
    go_ret2
    exact ⟨_, by first | rfl | (simp [errW_none, errW_some] <;> rfl) | (simp [*, errW_none, errW_some] <;> rfl), by (with_reducible repeat (first | apply Kd.R_alloc | apply Kd.R_drewN | apply Kd.R_drew)); exact HO0.out, by repeat (first | (with_reducible first | exact HB.out | apply below_alloc | apply pw_below_drewN | apply below_drew1) | exact HB.out), by repeat (first | (with_reducible first | exact HK.out | apply Kept.alloc | apply Kept.drewN | apply Kept.drew) | exact HK.out)⟩
  · rw [if_neg c4] at H
    have c4b0 : decide (0 ≤ t110) = false := decide_eq_false c4
    clear c4
    obtain ⟨y111, hy111⟩ : ∃ y_ : List ByteArray, y_ = (([] : List ByteArray)) := ⟨_, rfl⟩
    replace H : (if y111.length + l0.length < 8796093022208 then ((some (y111 ++ l0 : List ByteArray)).bind fun y114 => (if y114.length < 8796093022208 then (some ((y114 ++ [a1]), (l0.length : Int))) else (none))) else (none)) = some (r1, r2) := by first | (rw [hy111]; with_reducible exact H) | (have H2_ := (Option.bind_some _ _).symm.trans H; rw [hy111]; with_reducible exact H2_) | (have H2_ := (Option.bind_some _ _).symm.trans H; with_reducible exact H2_) | with_reducible exact H | (rw [hy111]; exact H) | exact H
    have Ny111 := Aside0.mk hy111
    clear hy111
    by_cases c6 : y111.length + l0.length < 8796093022208
    · rw [if_pos c6] at H
      have LMc6 := Aside0.mk c6
      clear c6
      obtain ⟨y114, hy114⟩ : ∃ y_ : List ByteArray, y_ = (y111 ++ l0) := ⟨_, rfl⟩
      replace H : (if y114.length < 8796093022208 then (some ((y114 ++ [a1]), (l0.length : Int))) else (none)) = some (r1, r2) := by first | (rw [hy114]; with_reducible exact H) | (have H2_ := (Option.bind_some _ _).symm.trans H; rw [hy114]; with_reducible exact H2_) | (have H2_ := (Option.bind_some _ _).symm.trans H; with_reducible exact H2_) | with_reducible exact H | (rw [hy114]; exact H) | exact H
      have Ny114 := Aside0.mk hy114
      clear hy114
      by_cases c7 : y114.length < 8796093022208
      · rw [if_pos c7] at H
        have LMc7 := Aside0.mk c7
        clear c7
        obtain ⟨y117, hy117⟩ : ∃ y_ : List ByteArray, y_ = (y114 ++ [a1]) := ⟨_, rfl⟩
        replace H : (some (y117, (l0.length : Int))) = some (r1, r2) := by first | (rw [hy117]; with_reducible exact H) | (have H2_ := (Option.bind_some _ _).symm.trans H; rw [hy117]; with_reducible exact H2_) | (have H2_ := (Option.bind_some _ _).symm.trans H; with_reducible exact H2_) | with_reducible exact H | (rw [hy117]; exact H) | exact H
        have Ny117 := Aside0.mk hy117
        clear hy117
        simp only [Option.some.injEq, Prod.mk.injEq] at H
        obtain ⟨rfl, rfl⟩ := H
        obtain ⟨Ao8, co8, eo8⟩ := Kd.R_slice HO0.out
        subst eo8
        go_enter Try.func17, Try.ntmps17
        go_wp2_with (first | ((with_reducible refine gate_callee (f := 22) rfl ?_); refine goesL_ (some 9) rfl rfl Try.func22 (by kernel_rfl) rfl #[.slice Ao8 l0.length co8, .string a1] rfl (by (try simp only [List.map_toArray, List.map_cons, List.map_nil]); first | done | rfl | (simp only [List.length_drop, List.length_take]; rfl) | (refine congrArg (fun z_ => #[z_]) (congrArg (Value.int IntKind.u64) (Eq.symm (Go.Proofs.YtjfklfmfeghjnabAid.wrap_len _ (by omega)))))) ?_; (with_reducible refine (tachographref13_Place.calls k _ _ l0 a1 t110 _ ?side1 ?side2 A3.out).mono ?_); (case side1 => repeat (first | exact (Kd.R_reads' HO0.out).2.2 | (with_reducible refine Kd.C_alloc ?_ _) | (with_reducible refine Kd.C_drewN ?_ _) | (with_reducible refine Kd.C_drew ?_))); (case side2 => exact (Kd.R_reads' HO0.out).2.1); rintro e w' ⟨rfl, ⟨nd, rfl⟩⟩; refine ⟨_, rfl, ?_⟩) | ((with_reducible refine gate_dst (N := 14) rfl ?_); refine Kd.R_lit Kd.string _ 9 ?hg (N := 14) ?hd (xs := ([] : List ByteArray)) (inner := []) (ok := fun _ => True) (okp := fun _ => True) ?hr ?hp (fun _ hk => hk) trivial (Below.refl _ _) (Nat.le_refl _) (by simp) ?_; (case hd => rfl); (case hg => rfl); (case hr => first | (go_simp; done) | (go_simp; rfl)); (case hp => exact (Reps.none _ _)); intro v112 w9 ho10 hb hg_ hnew_; clear hg_ hnew_; (first | rw [← Ny111.out] at ho10 | (simp only [Int.reduceToNat] at ho10; rw [← Ny111.out] at ho10)); have n0_ := Aside0.mk (Kd.R_elder' (by (with_reducible repeat (first | apply Kd.R_alloc | apply Kd.R_drewN | apply Kd.R_drew)); exact HO0.out) (Kd.R_base ho10) hb); have n1_ := Aside0.mk (Kd.R_lower (Kd.R_new' (Kd.R_newM (M := fun k_ => (P0_ k_ ∨ w.heap.size ≤ k_)) ho10 (by first | exact HK.out.1 | exact (show Kept w _ (fun k_ => P0_ k_) from by repeat (first | (with_reducible first | exact HK.out | apply Kept.alloc | apply Kept.drewN | apply Kept.drew) | exact HK.out)).1) (fun k_ h_ => .inr h_)) (Kd.R_lt (by (with_reducible repeat (first | apply Kd.R_alloc | apply Kd.R_drewN | apply Kd.R_drew)); exact HO0.out))) (below_size (by repeat (first | (with_reducible first | exact HB.out | apply below_alloc | apply pw_below_drewN | apply below_drew1) | exact HB.out)))); have n2_ := Aside0.mk (Kept.below (S := (fun k_ => P0_ k_)) (by repeat (first | (with_reducible first | exact HK.out | apply Kept.alloc | apply Kept.drewN | apply Kept.drew) | exact HK.out)) hb); have n3_ := Aside0.mk (below_step (by repeat (first | (with_reducible first | exact HB.out | apply below_alloc | apply pw_below_drewN | apply below_drew1) | exact HB.out)) hb); clear HO0; clear HK; clear HB; have HO0 := n0_; have HO113 := n1_; have HK := n2_; have HB := n3_; clear n0_ n1_ n2_ n3_; clear hb ho10) | ((with_reducible refine gate_builtin (b := .append) (xs := #[.tmp 14, .tmp 15]) rfl ?_); at_builtin; refine Kd.R_append_rows Kd.string (w0 := w0) w0.heap.size rfl (.tmp 14) (.tmp 15) 22 9 (.string ⟨#[]⟩) 16 rfl Try.underlying22 info9 rfl (by decide) (by omega) v112 y111 l0 _ _ _ (fun k_ => (P0_ k_ ∨ w.heap.size ≤ k_) ∧ some k_ ≠ (.slice Ao8 l0.length co8 : Value).ownBlock) (fun _ => False) rfl rfl ?aO ?aR (fun _ _ h => h) (fun _ h => h.elim) ?aF ?aB ?aS ?aL ?_; (case aR => repeat (first | exact (Kd.R_reads' HO0.out).2.2 | (with_reducible refine Kd.C_alloc ?_ _) | (with_reducible refine Kd.C_drewN ?_ _) | (with_reducible refine Kd.C_drew ?_))); (case aB => exact (by repeat (first | (with_reducible first | exact HB.out | apply below_alloc | apply pw_below_drewN | apply below_drew1) | exact HB.out))); (case aF => exact (fun k_ hk => ⟨(.inr (Nat.le_trans (by first | exact HK.out.1 | exact (show Kept w _ (fun k_ => P0_ k_) from by repeat (first | (with_reducible first | exact HK.out | apply Kept.alloc | apply Kept.drewN | apply Kept.drew) | exact HK.out)).1) hk)), Kd.fresh' (Kd.R_lt (by (with_reducible repeat (first | apply Kd.R_alloc | apply Kd.R_drewN | apply Kd.R_drew)); exact HO0.out)) k_ hk⟩)); (case aO => exact (by (with_reducible repeat (first | apply Kd.R_alloc | apply Kd.R_drewN | apply Kd.R_drew)); exact Kd.R_mono HO113.out (fun _ hk => ⟨hk.1.1, hk.2⟩))); (case aS => exact (below_size (by repeat (first | (with_reducible first | exact HB.out | apply below_alloc | apply pw_below_drewN | apply below_drew1) | exact HB.out)))); (case aL => have := LMc6.out; omega); intro v115 w11 ho hb hg hat; rw [← Ny114.out] at ho; have n0_ := Aside0.mk (Kd.R_after (ok := (fun k_ => (P0_ k_ ∨ w.heap.size ≤ k_))) (by (with_reducible repeat (first | apply Kd.R_alloc | apply Kd.R_drewN | apply Kd.R_drew)); exact HO0.out) hg hat); have n1_ := Aside0.mk (hb); have n2_ := Aside0.mk (Kept.of_grown (S := (fun k_ => P0_ k_)) hg (by repeat (first | (with_reducible first | exact HK.out | apply Kept.alloc | apply Kept.drewN | apply Kept.drew) | exact HK.out)) (fun k_ e_ => (HO113.out.1 k_ e_).1.1)); have n3_ := Aside0.mk (ho); clear HO0; clear HB; clear HK; clear HO113; have HO0 := n0_; have HB := n1_; have HK := n2_; have HO116 := n3_; clear n0_ n1_ n2_ n3_; clear ho hb hg hat) | ((with_reducible refine gate_builtin (b := .append) (xs := #[.tmp 16, .tmp 18]) rfl ?_); at_builtin; refine Kd.R_append Kd.string (w0 := w0) w0.heap.size rfl (.tmp 16) (.tmp 18) 22 9 (.string ⟨#[]⟩) 16 rfl Try.underlying22 info9 rfl (by decide) (by omega) v115 y114 a1 [.string a1] (fun k_ => (P0_ k_ ∨ w.heap.size ≤ k_) ∧ some k_ ≠ (.slice Ao8 l0.length co8 : Value).ownBlock) (fun _ => False) rfl rfl ?aP (fun _ hk => hk.elim) ?aF ?aO ?aB ?aS ?aL ?_; (case aP => exact rfl); (case aB => exact (by repeat (first | (with_reducible first | exact HB.out | apply below_alloc | apply pw_below_drewN | apply below_drew1) | exact HB.out))); (case aF => exact (fun k_ hk => ⟨(.inr (Nat.le_trans (by first | exact HK.out.1 | exact (show Kept w _ (fun k_ => P0_ k_) from by repeat (first | (with_reducible first | exact HK.out | apply Kept.alloc | apply Kept.drewN | apply Kept.drew) | exact HK.out)).1) hk)), Kd.fresh' (Kd.R_lt (by (with_reducible repeat (first | apply Kd.R_alloc | apply Kd.R_drewN | apply Kd.R_drew)); exact HO0.out)) k_ hk⟩)); (case aO => exact (by (with_reducible repeat (first | apply Kd.R_alloc | apply Kd.R_drewN | apply Kd.R_drew)); exact HO116.out)); (case aS => exact (below_size (by repeat (first | (with_reducible first | exact HB.out | apply below_alloc | apply pw_below_drewN | apply below_drew1) | exact HB.out)))); (case aL => have := LMc7.out; omega); intro v118 w12 ho hb hg hat; rw [← Ny117.out] at ho; have n0_ := Aside0.mk (Kd.R_after (ok := (fun k_ => (P0_ k_ ∨ w.heap.size ≤ k_))) (by (with_reducible repeat (first | apply Kd.R_alloc | apply Kd.R_drewN | apply Kd.R_drew)); exact HO0.out) hg hat); have n1_ := Aside0.mk (hb); have n2_ := Aside0.mk (Kept.of_grown (S := (fun k_ => P0_ k_)) hg (by repeat (first | (with_reducible first | exact HK.out | apply Kept.alloc | apply Kept.drewN | apply Kept.drew) | exact HK.out)) (fun k_ e_ => (HO116.out.1 k_ e_).1)); have n3_ := Aside0.mk (ho); clear HO0; clear HB; clear HK; clear HO116; have HO0 := n0_; have HB := n1_; have HK := n2_; have HO119 := n3_; clear n0_ n1_ n2_ n3_; clear ho hb hg hat))
        go_ret2
        exact ⟨_, by first | rfl | (simp [errW_none, errW_some] <;> rfl) | (simp [*, errW_none, errW_some] <;> rfl), by (with_reducible repeat (first | apply Kd.R_alloc | apply Kd.R_drewN | apply Kd.R_drew)); exact Kd.R_mono HO119.out (fun _ hk => hk.1), by repeat (first | (with_reducible first | exact HB.out | apply below_alloc | apply pw_below_drewN | apply below_drew1) | exact HB.out), by repeat (first | (with_reducible first | exact HK.out | apply Kept.alloc | apply Kept.drewN | apply Kept.drew) | exact HK.out)⟩
      · rw [if_neg c7] at H
        exact absurd H (by simp)
    · rw [if_neg c6] at H
      exact absurd H (by simp)

/-! ### slices_Clone_string_string: function 55 -/
theorem slices_Clone_string_string.info : (Try.prog.info? 9).map (fun i => (i.zero, i.size, i.bytes)) = some (some (.string ⟨#[]⟩), 1, 16) := by kernel_rfl

set_option maxHeartbeats 8000000 in
set_option maxRecDepth 100000 in
theorem slices_Clone_string_string.calls0 (A0 : Option Addr) (c0 : Nat) (l0 : List ByteArray) (w : World) (hr0 : Kd.C Kd.string w A0 l0.length l0) (hc0 : l0.length ≤ c0) (hl : l0.length ≤ 8796093022208) :
    Calls Try.prog 55 #[.slice A0 l0.length c0] w fun e w' => ∃ v0_ : Value, e = .returned v0_ ∧ Kd.R Kd.string 9 w' w.heap.size (fun _ => True) v0_ l0 ∧ Below w.heap.size w w' := by
  have hnil := fun (w : World) (a : Option Addr) (n c : Nat) => Lib.run_eql_slice_nil (P := Try.prog) w 22 9 a n c 0 0 Try.underlying22
  have HL := Lib.hid hl; clear hl
  cases A0 with
  | none =>
    have HR := Lib.hid hr0; clear hr0
    go_enter Try.func55, Try.ntmps55
    go_wp2
    go_ret
    have : l0 = [] := by
      cases l0 with
      | nil => rfl
      | cons x l => exfalso; obtain ⟨ad, c, e, _⟩ := Kd.C_get HR.out (⟨#[]⟩ : ByteArray) 0 (by omega) (by simp only [List.length_cons]; omega); cases e
    subst this
    exact ⟨_, rfl, Kd.R_nil _ _ _ _ _, Below.refl _ _⟩
  | some ad =>
    have HR := Lib.hid hr0; clear hr0
    have HB := Lib.hid (Below.refl w.heap.size w)
    go_enter Try.func55, Try.ntmps55
    go_wp2_with (first | ((with_reducible refine gate_dst (N := 5) rfl ?_); refine Kd.R_lit Kd.string w.heap.size 9 ?hg (N := 5) ?hd (w0 := w) (xs := ([] : List ByteArray)) (inner := []) (ok := fun _ => True) (okp := fun _ => True) ?hr ?hp (fun _ hk => hk) trivial (Below.refl _ _) (Nat.le_refl _) (by simp) ?_; (case hd => rfl); (case hg => rfl); (case hr => first | (go_simp; done) | (go_simp; rfl)); (case hp => exact (Reps.none _ _)); intro v1 w1 h1 h2 h3 h4; have H1 := Lib.hid h1; have H2 := Lib.hid h2; clear h1 h2 h3 h4) | ((with_reducible refine gate_dst (N := 7) rfl ?_); refine Kd.R_append_row Value.string (⟨#[]⟩ : ByteArray) (w0 := w) w.heap.size rfl (.tmp 5) (.tmp 6) 22 9 (.string ⟨#[]⟩) 16 rfl Try.underlying22 slices_Clone_string_string.info rfl (by decide) _ [] l0 _ _ _ (fun _ => True) rfl rfl (fun _ _ => trivial) H1.out (Kd.C_below HR.out H2.out) H2.out H2.out.size ?hl ?_; (case hl => have := HL.out; simp; omega); intro v2 w2 h1 h2 h3 h4; have H3 := Lib.hid h1; have H4 := Lib.hid h2; clear h1 h2 h3 h4))
    go_ret
    exact ⟨_, rfl, H3.out, H4.out⟩
def slices_Clone_string_string.f (l0 : List ByteArray) : Option (List ByteArray) := if l0.length ≤ 8796093022208 then some l0 else none
theorem slices_Clone_string_string.calls (A0 : Option Addr) (c0 : Nat) (l0 : List ByteArray) (r : List ByteArray) (w : World) (hr0 : Kd.C Kd.string w A0 l0.length l0) (hc0 : l0.length ≤ c0) (h : slices_Clone_string_string.f l0 = some r) :
    Calls Try.prog 55 #[.slice A0 l0.length c0] w fun e w' => ∃ v0_ : Value, e = .returned v0_ ∧ Kd.R Kd.string 9 w' w.heap.size (fun _ => True) v0_ r ∧ Below w.heap.size w w' := by
  unfold slices_Clone_string_string.f at h
  split at h
  · obtain rfl := Option.some.inj h
    exact slices_Clone_string_string.calls0 A0 c0 l0 w hr0 hc0 (by assumption)
  · cases h

/-! ### dict_Dict_All: function 19 -/
def dict_Dict_All.f (s0_0 : ByteArray) : Option (List ByteArray × ByteArray) := if (Go.Proofs.YtjfklfmfeghjnabAid.ddec s0_0).length ≤ 8796093022208 then some (Go.Proofs.YtjfklfmfeghjnabAid.ddec s0_0, s0_0) else none
set_option maxHeartbeats 8000000 in
set_option maxRecDepth 100000 in
theorem dict_Dict_All.calls (g : Nat) (s0_0 : ByteArray) (r1 : List ByteArray) (r2 : ByteArray) (w0 w : World) (hI : IsS100 w0 w g s0_0) (hB : Below w0.heap.size w0 w) (h : dict_Dict_All.f s0_0 = some (r1, r2)) :
    Calls Try.prog 19 #[.pointer (some ⟨g, 0, none⟩)] w fun e w' => ∃ v0_ : Value, e = .returned v0_ ∧ Kd.R Kd.string 9 w' w.heap.size (fun _ => True) v0_ r1 ∧ IsS100 w0 w' g r2 ∧ Below w0.heap.size w0 w' ∧ KeepBut w w' g none ∧ Below w.heap.size w w' := by
  unfold dict_Dict_All.f at h
  split at h
  · simp only [Option.some.injEq, Prod.mk.injEq] at h
    obtain ⟨rfl, rfl⟩ := h
    rename_i hl
    have HI := Lib.hid hI
    have HL := Lib.hid hl
    have HW := Lib.hid hB
    obtain ⟨gm, A, c, hI⟩ := hI
    have HB := Lib.hid hI.1
    have HR := Lib.hid hI.2.2.2.2.1
    have hx1 : w.cell? ⟨g, 1, none⟩ = some (.slice A (Go.Proofs.YtjfklfmfeghjnabAid.ddec s0_0).length c) := (blk_cell HB.out 1).trans rfl
    clear hI hl hB
    go_enter Try.func19, Try.ntmps19
    go_wp2_with (first | (go_at_call 55; (with_reducible refine (slices_Clone_string_string.calls0 A c (Go.Proofs.YtjfklfmfeghjnabAid.ddec s0_0) _ (Kd.R_reads' HR.out).2.2 (Kd.R_reads' HR.out).2.1 HL.out).mono ?_); rintro e w' ⟨v, rfl, hr, hb⟩; have HRR := Lib.hid hr; have HBB := Lib.hid hb; clear hr hb))
    go_ret
    exact ⟨_, rfl, HRR.out, HI.out.below HBB.out, below_weaken HW.out HW.out.size HBB.out, KeepBut.of_below HBB.out _ _, HBB.out⟩
  · cases h

/-! ### tachographref02_Same: function 20 -/
def tachographref02_Same.l0 : Nat → List ByteArray → List ByteArray → Int → Option (Bool)
  | 0, _, _, _ => none
  | k + 1, x0, x1, x5 => if x5 < (x0.length : Int) then (if 0 ≤ x5 then (if x5 < (x1.length : Int) then (if (rdOf ByteArray.empty x0 x5).toList = (rdOf ByteArray.empty x1 x5).toList then (tachographref02_Same.l0 k x0 x1 (wrap64 (x5 + 1))) else (some false)) else (none)) else (none)) else (some true)
def tachographref02_Same.f (k : Nat) (l0 : List ByteArray) (l1 : List ByteArray) : Option (Bool) := if (l0.length : Int) = (l1.length : Int) then (tachographref02_Same.l0 k l0 l1 0) else (some false)
theorem tachographref02_Same.mono_l : ∀ k, (∀ y0 y1 y2, LeO (tachographref02_Same.l0 k y0 y1 y2) (tachographref02_Same.l0 (k + 1) y0 y1 y2))
  | 0 => fun _ _ _ r h => by simp [tachographref02_Same.l0] at h
  | k + 1 => by
    have ih0 := tachographref02_Same.mono_l k
    · intro y0 y1 y2
      unfold tachographref02_Same.l0
      repeat' first
      | (with_reducible exact ih0 _ _ _)
      | (with_reducible exact LeO.refl _)
      | (with_reducible exact LeO.none _)
      | (with_reducible refine LeO.ite ?_ ?_)
      | (with_reducible refine LeO.bind ?_ (fun _ => ?_))
      | exact ih0 _ _ _
      | exact LeO.none _
      | refine LeO.ite ?_ ?_
      | refine LeO.bind ?_ (fun _ => ?_)
theorem tachographref02_Same.mono : ∀ a0 a1 k, LeO (tachographref02_Same.f k a0 a1) (tachographref02_Same.f (k + 1) a0 a1) := by
  intro a0 a1 k
  have ih0 := tachographref02_Same.mono_l k
  unfold tachographref02_Same.f
  repeat' first
      | (with_reducible exact ih0 _ _ _)
      | (with_reducible exact LeO.refl _)
      | (with_reducible exact LeO.none _)
      | (with_reducible refine LeO.ite ?_ ?_)
      | (with_reducible refine LeO.bind ?_ (fun _ => ?_))
      | exact ih0 _ _ _
      | exact LeO.none _
      | refine LeO.ite ?_ ?_
      | refine LeO.bind ?_ (fun _ => ?_)
set_option maxHeartbeats 8000000 in
set_option maxRecDepth 100000 in
theorem tachographref02_Same.calls (k : Nat) (A0 : Option Addr) (c0 : Nat) (l0 : List ByteArray) (A1 : Option Addr) (c1 : Nat) (l1 : List ByteArray) (r : Bool) (w : World) (hr0 : Kd.C Kd.string w A0 l0.length l0) (hc0 : l0.length ≤ c0) (hr1 : Kd.C Kd.string w A1 l1.length l1) (hc1 : l1.length ≤ c1) (h : tachographref02_Same.f k l0 l1 = some r) :
    Calls Try.prog 20 #[.slice A0 l0.length c0, .slice A1 l1.length c1] w fun e w' => e = .returned (.bool r) ∧ Drawn0 w w' := by
  have HR0 := Aside0.mk hr0
  have HC0 := Aside0.mk hc0
  clear hr0 hc0
  have HR1 := Aside0.mk hr1
  have HC1 := Aside0.mk hc1
  clear hr1 hc1
  have H : (if (l0.length : Int) = (l1.length : Int) then (tachographref02_Same.l0 k l0 l1 0) else (some false)) = some r := h
  clear h
  by_cases c3 : (l0.length : Int) = (l1.length : Int)
  · rw [if_pos c3] at H
    have c3b0 : ((l0.length : Int) == (l1.length : Int)) = true := beq_iff_eq.mpr c3
    have c3b1 : ((l0.length : Int) != (l1.length : Int)) = false := bne_eq_false_iff_eq.mpr c3
    have c3b2 : (l0.length == l1.length) = true := by first | simpa using c3 | (simp at c3 ⊢; omega)
    clear c3
    have H' := Aside0.mk H
    clear H
    go_enter Try.func20, Try.ntmps20
    go_wp2
    repeat (go_quiet (fail); try go_wp2)
    go_loopg [5] k (fun kq v5 w' => ∃ (x5_1 : Int), v5 = .int .i64 x5_1 ∧ Aside0 (tachographref02_Same.l0 kq l0 l1 x5_1 = some r) ∧ Aside0 (kq ≤ k) ∧ Drawn0 w w')
    case atStart => exact ⟨(0), (by first | rfl | (simp; done) | (simp [*]; done)), H', ⟨Nat.le_refl _⟩, by repeat (first | exact Drawn0.refl _ | apply Drawn0.step)⟩
    case round =>
      clear H'
      try clear c1
      try clear c2
      try clear p2
      try clear c3
      try clear c3b0
      try clear c3b1
      try clear c3b2
      obtain ⟨x5_1, rfl, HA, HK1, ⟨m1, rfl⟩⟩ := hrel
      cases gk with
      | zero => exact absurd HA.out (by simp [tachographref02_Same.l0])
      | succ k1 =>
        have H := HA.out
        clear HA
        simp only [tachographref02_Same.l0] at H
        by_cases c4 : x5_1 < (l0.length : Int)
        · rw [if_pos c4] at H
          have c4b0 : decide (x5_1 < (l0.length : Int)) = true := decide_eq_true c4
          clear c4
          by_cases c5 : 0 ≤ x5_1
          · rw [if_pos c5] at H
            have c5b0 : decide (0 ≤ x5_1) = true := decide_eq_true c5
            clear c5
            by_cases c6 : x5_1 < (l1.length : Int)
            · rw [if_pos c6] at H
              have c6b0 : decide (x5_1 < (l1.length : Int)) = true := decide_eq_true c6
              clear c6
              by_cases c7 : (rdOf ByteArray.empty l0 x5_1).toList = (rdOf ByteArray.empty l1 x5_1).toList
              · rw [if_pos c7] at H
                have c7b0 : ((rdOf ByteArray.empty l0 x5_1).toList == (rdOf ByteArray.empty l1 x5_1).toList) = true := beq_iff_eq.mpr c7
                have c7b1 : ((rdOf ByteArray.empty l0 x5_1).toList != (rdOf ByteArray.empty l1 x5_1).toList) = false := bne_eq_false_iff_eq.mpr c7
                clear c7
                have H' := Aside0.mk H
                clear H
                have p120 : 0 ≤ (x5_1 : Int) := of_decide_eq_true (by first | (with_reducible assumption) | assumption)
                have q120 : x5_1 < (l0.length : Int) := of_decide_eq_true (by first | (with_reducible assumption) | assumption)
                obtain ⟨ad120, e120, hx120_0⟩ := Kd.at_string HR0.out x5_1 p120 q120
                cases e120
                replace p120 := eq_true p120
                replace q120 := eq_true q120
                have p121 : 0 ≤ (x5_1 : Int) := of_decide_eq_true (by first | (with_reducible assumption) | assumption)
                have q121 : x5_1 < (l1.length : Int) := of_decide_eq_true (by first | (with_reducible assumption) | assumption)
                obtain ⟨ad121, e121, hx121_0⟩ := Kd.at_string HR1.out x5_1 p121 q121
                cases e121
                replace p121 := eq_true p121
                replace q121 := eq_true q121
                go_wp2
                repeat (go_quiet (fail); try go_wp2)
                go_roundg k1
                case measure => have := HK1.out; omega
                case rel => exact ⟨(wrap64 (x5_1 + 1)), (by first | rfl | (simp; done) | (simp [*]; done)), H', ⟨by have := HK1.out; omega⟩, by repeat (first | exact Drawn0.refl _ | apply Drawn0.step)⟩
              · rw [if_neg c7] at H
                have c7b0 : ((rdOf ByteArray.empty l0 x5_1).toList == (rdOf ByteArray.empty l1 x5_1).toList) = false := beq_eq_false_iff_ne.mpr c7
                have c7b1 : ((rdOf ByteArray.empty l0 x5_1).toList != (rdOf ByteArray.empty l1 x5_1).toList) = true := bne_iff_ne.mpr c7
                obtain rfl := Option.some.inj H
                have p120 : 0 ≤ (x5_1 : Int) := of_decide_eq_true (by first | (with_reducible assumption) | assumption)
                have q120 : x5_1 < (l0.length : Int) := of_decide_eq_true (by first | (with_reducible assumption) | assumption)
                obtain ⟨ad120, e120, hx120_0⟩ := Kd.at_string HR0.out x5_1 p120 q120
                cases e120
                replace p120 := eq_true p120
                replace q120 := eq_true q120
                have p121 : 0 ≤ (x5_1 : Int) := of_decide_eq_true (by first | (with_reducible assumption) | assumption)
                have q121 : x5_1 < (l1.length : Int) := of_decide_eq_true (by first | (with_reducible assumption) | assumption)
                obtain ⟨ad121, e121, hx121_0⟩ := Kd.at_string HR1.out x5_1 p121 q121
                cases e121
                replace p121 := eq_true p121
                replace q121 := eq_true q121
                go_wp2
                repeat (go_quiet (fail); try go_wp2)
                go_ret
                exact ⟨by first | rfl | (simp; done) | (simp [*]; done), by repeat (first | exact Drawn0.refl _ | apply Drawn0.step)⟩
            · rw [if_neg c6] at H
              exact absurd H (by simp)
          · rw [if_neg c5] at H
            exact absurd H (by simp)
        · rw [if_neg c4] at H
          have c4b0 : decide (x5_1 < (l0.length : Int)) = false := decide_eq_false c4
          clear c4
          obtain rfl := Option.some.inj H
          go_wp2
          repeat (go_quiet (fail); try go_wp2)
          go_ret
          exact ⟨by first | rfl | (simp; done) | (simp [*]; done), by repeat (first | exact Drawn0.refl _ | apply Drawn0.step)⟩
  · rw [if_neg c3] at H
    have c3b0 : ((l0.length : Int) == (l1.length : Int)) = false := beq_eq_false_iff_ne.mpr c3
    have c3b1 : ((l0.length : Int) != (l1.length : Int)) = true := bne_iff_ne.mpr c3
    have c3b2 : (l0.length == l1.length) = false := by first | simpa using c3 | (simp at c3 ⊢; omega)
    obtain rfl := Option.some.inj H
    go_enter Try.func20, Try.ntmps20
    go_wp2
    repeat (go_quiet (fail); try go_wp2)
    go_ret
    exact ⟨by first | rfl | (simp; done) | (simp [*]; done), by repeat (first | exact Drawn0.refl _ | apply Drawn0.step)⟩

/-! ### dict_Dict_Find: function 21 -/
def dict_Dict_Find.f (s0_0 : ByteArray) (a1 : ByteArray) : Option (Int × Bool × ByteArray) := if a1.size ≤ 9223372036854775807 then some ((if a1 ∈ Go.Proofs.YtjfklfmfeghjnabAid.ddec s0_0 then ((Go.Proofs.YtjfklfmfeghjnabAid.ddec s0_0).idxOf a1 : Int) else 0), decide (a1 ∈ Go.Proofs.YtjfklfmfeghjnabAid.ddec s0_0), s0_0) else none
theorem dict_Dict_Find.calls (g : Nat) (s0_0 : ByteArray) (a1 : ByteArray) (r1 : Int) (r2 : Bool) (r3 : ByteArray) (w0 w : World) (hI : IsS100 w0 w g s0_0) (hB : Below w0.heap.size w0 w) (h : dict_Dict_Find.f s0_0 a1 = some (r1, r2, r3)) :
    Calls Try.prog 21 #[.pointer (some ⟨g, 0, none⟩), .string a1] w fun e w' => e = .returned (.tuple #[.int .i64 r1, .bool r2]) ∧ IsS100 w0 w' g r3 ∧ Below w0.heap.size w0 w' ∧ KeepBut w w' g none := by
  unfold dict_Dict_Find.f at h
  split at h
  · simp only [Option.some.injEq, Prod.mk.injEq] at h
    obtain ⟨rfl, rfl, rfl⟩ := h
    have hI' := hI
    obtain ⟨gm, A, c, hI'⟩ := hI'
    refine (Go.Proofs.YtjfklfmfeghjnabAid.dict_find hI' a1 (by assumption)).mono ?_
    rintro e w' ⟨rfl, rfl⟩
    exact ⟨rfl, hI, hB, KeepBut.refl _ _ _⟩
  · cases h

/-! ### dict_Dict_Text: function 23 -/
def dict_Dict_Text.f (s0_0 : ByteArray) (a1 : Int) : Option (ByteArray × Bool × ByteArray) := if a1 < 0 ∨ ((Go.Proofs.YtjfklfmfeghjnabAid.ddec s0_0).length : Int) ≤ a1 then some (⟨#[]⟩, false, s0_0) else some (rdOf ByteArray.empty (Go.Proofs.YtjfklfmfeghjnabAid.ddec s0_0) a1, true, s0_0)
theorem dict_Dict_Text.calls (g : Nat) (s0_0 : ByteArray) (a1 : Int) (r1 : ByteArray) (r2 : Bool) (r3 : ByteArray) (w0 w : World) (hI : IsS100 w0 w g s0_0) (hB : Below w0.heap.size w0 w) (h : dict_Dict_Text.f s0_0 a1 = some (r1, r2, r3)) :
    Calls Try.prog 23 #[.pointer (some ⟨g, 0, none⟩), .int .i64 a1] w fun e w' => e = .returned (.tuple #[.string r1, .bool r2]) ∧ IsS100 w0 w' g r3 ∧ Below w0.heap.size w0 w' ∧ KeepBut w w' g none := by
  unfold dict_Dict_Text.f at h
  have hI' := hI
  obtain ⟨gm, A, c, hI'⟩ := hI'
  split at h
  · simp only [Option.some.injEq, Prod.mk.injEq] at h
    obtain ⟨rfl, rfl, rfl⟩ := h
    refine (Go.Proofs.YtjfklfmfeghjnabAid.dict_text_no hI' a1 (by assumption)).mono ?_
    rintro e w' ⟨rfl, rfl⟩
    exact ⟨rfl, hI, hB, KeepBut.refl _ _ _⟩
  · simp only [Option.some.injEq, Prod.mk.injEq] at h
    obtain ⟨rfl, rfl, rfl⟩ := h
    refine (Go.Proofs.YtjfklfmfeghjnabAid.dict_text_yes hI' a1 (by omega) (by omega)).mono ?_
    rintro e w' ⟨rfl, rfl⟩
    exact ⟨rfl, hI, hB, KeepBut.refl _ _ _⟩

end Go.Proofs.Ytjfklfmfeghjnab.PD
