-- Contracts of Go functions, each with its plain Lean function: written by wip/tools/myprint.py of this work (the kit's print, with contracts proved by hand spliced in).
import Derived.Test.YtjfklfmfeghjnacPQx0
namespace Go.Proofs.Ytjfklfmfeghjnac.PQ
open Go.RowKit Go.Proofs.YtjfklfmfeghjnacW.PrintWords Go.Proofs.YtjfklfmfeghjnacW.PrintLast Go.Proofs.YtjfklfmfeghjnacW.PrintMore
attribute [local go_sem] max2_int min2_int max_two min_two max_three min_three max_four min_four   -- for this text's walks alone
set_option linter.unusedVariables false
set_option linter.unusedSimpArgs false

-- NOT PRINTED: function 55 (abi_NoEscape)

/-! #### struct type 59 -/
/-- A strings.Builder at block g of W: the text that it holds. -/
def IsS59 (w0 W : World) (g : Nat) (f0 : ByteArray) : Prop := Lib.IsBuilderF 59 5 w0.heap.size g (Lib.strCells f0) W
theorem IsS59.below {w0 W : World} {g : Nat} {f0 : ByteArray} {W1 : World} (h : IsS59 w0 W g f0) (hw : Below W.heap.size W W1) : IsS59 w0 W1 g f0 := by
  have hb : ∀ {p : Value}, Lib.BuilderAtF 59 5 w0.heap.size g p (Lib.strCells f0) W → Lib.BuilderAtF 59 5 w0.heap.size g p (Lib.strCells f0) W1 := by
    intro p h
    have hlt := h.lt
    obtain ⟨hB, v, hv, hown, hne⟩ := h
    exact ⟨hB, v, (hw.block g hlt).trans hv, hown.kept (row := none) ⟨hw.os, hw.tape, hw.output, hw.size, fun k hk _ => hw.block k hk⟩ (Classical.em _), hne⟩
  exact h.elim (fun x => .inl (hb x)) (fun x => .inr (hb x))
theorem IsS59.alloc {w0 W : World} {g : Nat} {f0 : ByteArray} (h : IsS59 w0 W g f0) (o : Obj) : IsS59 w0 (W.alloc o) g f0 := h.below (below_alloc (Below.refl _ _) o)
theorem IsS59.drewN {w0 W : World} {g : Nat} {f0 : ByteArray} (h : IsS59 w0 W g f0) (m : Nat) : IsS59 w0 (W.drewN m) g f0 := h
theorem IsS59.drew {w0 W : World} {g : Nat} {f0 : ByteArray} (h : IsS59 w0 W g f0) : IsS59 w0 W.drew g f0 := h
theorem IsS59.at_ {w0 W : World} {g : Nat} {f0 : ByteArray} {w' : World} {m : Nat} (hq : W.drewN m = w') (h : IsS59 w0 W g f0) : IsS59 w0 w' g f0 := by subst hq; exact IsS59.drewN h m
theorem IsS59.lt {w0 W : World} {g : Nat} {f0 : ByteArray} (h : IsS59 w0 W g f0) : g < W.heap.size := h.elim (fun x => x.lt) (fun x => x.lt)
theorem IsS59.ge {w0 W : World} {g : Nat} {f0 : ByteArray} (h : IsS59 w0 W g f0) : w0.heap.size ≤ g := h.elim (fun x => x.1) (fun x => x.1)
theorem IsS59.fresh0 {w0 W : World} {g : Nat} (hb : W.heap[g]? = some (.cells #[.pointer none, .slice none 0 0] 59 (0, 0))) (hg : w0.heap.size ≤ g) : IsS59 w0 W g ⟨#[]⟩ :=
  Lib.IsBuilderF.of (.inl ⟨hg, .slice none 0 0, hb, World.ownsRow_nil _ _ _ _, by simp [Value.ownBlock]⟩)

/-! ### strings_Builder_copyCheck: function 40 -/
/-- (A new builder's text.) -/
def strings_Builder_copyCheck.f : Option ByteArray := some ⟨#[]⟩

/-! ### strings_Builder_WriteByte: function 28 -/
def strings_Builder_WriteByte.f (s0_0 : ByteArray) (a1 : Int) : Option (Option Int × ByteArray) := if 0 ≤ a1 ∧ a1 < 256 ∧ s0_0.size + 1 ≤ 140737488355328 then some (none, s0_0 ++ strOfNums [a1]) else none
theorem strings_Builder_WriteByte.calls (g : Nat) (s0_0 : ByteArray) (a1 : Int) (r1 : Option Int) (r2 : ByteArray) (w0 w : World) (hI : IsS59 w0 w g s0_0) (hB : Below w0.heap.size w0 w) (h : strings_Builder_WriteByte.f s0_0 a1 = some (r1, r2)) :
    Calls Try.prog 28 #[.pointer (some ⟨g, 0, none⟩), .int .u8 a1] w fun e w' => e = .returned (errW r1) ∧ IsS59 w0 w' g r2 ∧ Below w0.heap.size w0 w' ∧ True := by
  unfold strings_Builder_WriteByte.f at h
  by_cases hc : 0 ≤ a1 ∧ a1 < 256 ∧ s0_0.size + 1 ≤ 140737488355328
  · rw [if_pos hc] at h
    obtain ⟨h0, h1, h2⟩ := hc
    simp only [Option.some.injEq, Prod.mk.injEq] at h
    obtain ⟨rfl, rfl⟩ := h
    have hcells : Lib.strCells (s0_0 ++ strOfNums [a1]) = Lib.strCells s0_0 ++ [.int .u8 a1] := by
      obtain ⟨m, rfl⟩ := Int.eq_ofNat_of_zero_le h0
      have hm : m % 256 = m := Nat.mod_eq_of_lt (by omega)
      simp only [Lib.strCells, ByteArray.data_append, Array.toList_append, List.map_append, strOfNums_data, List.map_cons, List.map_nil]
      simp [hm]
    have hk := Go.Proofs.Any.Builder_WriteByte_k Go.Proofs.YtjfklfmfeghjnacAid.blays167 Go.Proofs.YtjfklfmfeghjnacAid.bextra w0.heap.size g (Lib.strCells s0_0) a1 w hI (by rw [Lib.strCells_length]; exact h2) hB.size
    refine (show Calls Try.prog 28 #[.pointer (some ⟨g, 0, none⟩), .int .u8 a1] w _ from hk).mono ?_
    rintro e w' ⟨rfl, k1, k2, _⟩
    exact ⟨rfl, .inr (by rw [hcells]; exact k1), Below.trans hB k2, trivial⟩
  · rw [if_neg hc] at h
    cases h

/-! ### strings_Builder_WriteString: function 29 -/
def strings_Builder_WriteString.f (s0_0 : ByteArray) (a1 : ByteArray) : Option (Int × Option Int × ByteArray) := if s0_0.size + a1.size ≤ 140737488355328 then some ((a1.size : Int), none, s0_0 ++ a1) else none
theorem strings_Builder_WriteString.calls (g : Nat) (s0_0 : ByteArray) (a1 : ByteArray) (r1 : Int) (r2 : Option Int) (r3 : ByteArray) (w0 w : World) (hI : IsS59 w0 w g s0_0) (hB : Below w0.heap.size w0 w) (h : strings_Builder_WriteString.f s0_0 a1 = some (r1, r2, r3)) :
    Calls Try.prog 29 #[.pointer (some ⟨g, 0, none⟩), .string a1] w fun e w' => e = .returned (.tuple #[.int .i64 r1, errW r2]) ∧ IsS59 w0 w' g r3 ∧ Below w0.heap.size w0 w' ∧ True := by
  unfold strings_Builder_WriteString.f at h
  by_cases hc : s0_0.size + a1.size ≤ 140737488355328
  · rw [if_pos hc] at h
    simp only [Option.some.injEq, Prod.mk.injEq] at h
    obtain ⟨rfl, rfl, rfl⟩ := h
    have hcells : Lib.strCells (s0_0 ++ a1) = Lib.strCells s0_0 ++ Lib.strCells a1 := by simp only [Lib.strCells, ByteArray.data_append, Array.toList_append, List.map_append]
    have hk := Go.Proofs.Any.Builder_WriteString_k Go.Proofs.YtjfklfmfeghjnacAid.blays166 Go.Proofs.YtjfklfmfeghjnacAid.bextra w0.heap.size g (Lib.strCells s0_0) a1 w hI (by rw [Lib.strCells_length]; exact hc) hB.size
    refine (show Calls Try.prog 29 #[.pointer (some ⟨g, 0, none⟩), .string a1] w _ from hk).mono ?_
    rintro e w' ⟨rfl, k1, k2, _⟩
    exact ⟨rfl, .inr (by rw [hcells]; exact k1), Below.trans hB k2, trivial⟩
  · rw [if_neg hc] at h
    cases h

/-! ### strings_Builder_String: function 30 -/
def strings_Builder_String.f (s0_0 : ByteArray) : Option (ByteArray × ByteArray) := some (s0_0, s0_0)
theorem strings_Builder_String.calls (g : Nat) (s0_0 : ByteArray) (r1 : ByteArray) (r2 : ByteArray) (w0 w : World) (hI : IsS59 w0 w g s0_0) (hB : Below w0.heap.size w0 w) (h : strings_Builder_String.f s0_0 = some (r1, r2)) :
    Calls Try.prog 30 #[.pointer (some ⟨g, 0, none⟩)] w fun e w' => e = .returned (.string r1) ∧ IsS59 w0 w' g r2 ∧ Below w0.heap.size w0 w' ∧ True := by
  unfold strings_Builder_String.f at h
  simp only [Option.some.injEq, Prod.mk.injEq] at h
  obtain ⟨rfl, rfl⟩ := h
  have hk := Go.Proofs.Any.Builder_String_any_k Go.Proofs.YtjfklfmfeghjnacAid.blays169 Go.Proofs.YtjfklfmfeghjnacAid.bextra w0.heap.size g s0_0.data.toList w hI hB.size
  refine (show Calls Try.prog 30 #[.pointer (some ⟨g, 0, none⟩)] w _ from hk).mono ?_
  rintro e w' ⟨rfl, k1, k2, _⟩
  exact ⟨by simp, k1, Below.trans hB k2, trivial⟩

/-! ### quote_Put: function 11 -/
mutual
def quote_Put.l0 : Nat → ByteArray → Int → Int → ByteArray → Option (ByteArray)
 | 0, _, _, _, _ => none
 | k + 1, x0, x8, x9, x103000 => if x9 < x8 then (if 0 ≤ x9 then (if x9 < (x0.size : Int) then (if (bt x0 x9) = 10 then ((strings_Builder_WriteString.f x103000 (⟨#[92, 110]⟩ : ByteArray)).bind fun bt122 => (quote_Put.l0 k x0 x8 (wrap64 (x9 + 1)) bt122.2.2)) else (if (bt x0 x9) < 32 then (quote_Put.j1 k x0 (bt x0 x9) x8 x9 (decide ((bt x0 x9) < 32)) x103000) else (quote_Put.j1 k x0 (bt x0 x9) x8 x9 (decide ((bt x0 x9) > 126)) x103000))) else (none)) else (none)) else ((strings_Builder_WriteByte.f x103000 34).bind fun bt105 => ((strings_Builder_String.f bt105.2).bind fun bt107 => (some bt107.1)))
def quote_Put.j1 : Nat → ByteArray → Int → Int → Int → Bool → ByteArray → Option (ByteArray)
 | 0, _, _, _, _, _, _ => none
 | k + 1, x0, x5, x8, x9, x18, x103000 => if x18 = true then (if 0 ≤ (x5 / 16) then (if (x5 / 16) ≤ (((x5 / 16) + 1) % 256) then (if (((x5 / 16) + 1) % 256) ≤ 16 then (if 2 + ((⟨#[48, 49, 50, 51, 52, 53, 54, 55, 56, 57, 97, 98, 99, 100, 101, 102]⟩ : ByteArray).extract ((x5 / 16) : Int).toNat ((((x5 / 16) + 1) % 256) : Int).toNat).size ≤ 9223372036854775807 then (if 0 ≤ (Go.bits .and .u8 x5 15) then (if (Go.bits .and .u8 x5 15) ≤ (((Go.bits .and .u8 x5 15) + 1) % 256) then (if (((Go.bits .and .u8 x5 15) + 1) % 256) ≤ 16 then (if ((⟨#[92, 120]⟩ : ByteArray) ++ ((⟨#[48, 49, 50, 51, 52, 53, 54, 55, 56, 57, 97, 98, 99, 100, 101, 102]⟩ : ByteArray).extract ((x5 / 16) : Int).toNat ((((x5 / 16) + 1) % 256) : Int).toNat)).size + ((⟨#[48, 49, 50, 51, 52, 53, 54, 55, 56, 57, 97, 98, 99, 100, 101, 102]⟩ : ByteArray).extract ((Go.bits .and .u8 x5 15) : Int).toNat ((((Go.bits .and .u8 x5 15) + 1) % 256) : Int).toNat).size ≤ 9223372036854775807 then ((strings_Builder_WriteString.f x103000 (((⟨#[92, 120]⟩ : ByteArray) ++ ((⟨#[48, 49, 50, 51, 52, 53, 54, 55, 56, 57, 97, 98, 99, 100, 101, 102]⟩ : ByteArray).extract ((x5 / 16) : Int).toNat ((((x5 / 16) + 1) % 256) : Int).toNat)) ++ ((⟨#[48, 49, 50, 51, 52, 53, 54, 55, 56, 57, 97, 98, 99, 100, 101, 102]⟩ : ByteArray).extract ((Go.bits .and .u8 x5 15) : Int).toNat ((((Go.bits .and .u8 x5 15) + 1) % 256) : Int).toNat))).bind fun bt109 => (quote_Put.l0 k x0 x8 (wrap64 (x9 + 1)) bt109.2.2)) else (none)) else (none)) else (none)) else (none)) else (none)) else (none)) else (none)) else (none)) else (if x5 = 34 then ((strings_Builder_WriteByte.f x103000 92).bind fun bt112 => ((strings_Builder_WriteByte.f bt112.2 x5).bind fun bt114 => (quote_Put.l0 k x0 x8 (wrap64 (x9 + 1)) bt114.2))) else (if x5 = 92 then ((strings_Builder_WriteByte.f x103000 92).bind fun bt116 => ((strings_Builder_WriteByte.f bt116.2 x5).bind fun bt118 => (quote_Put.l0 k x0 x8 (wrap64 (x9 + 1)) bt118.2))) else ((strings_Builder_WriteByte.f x103000 x5).bind fun bt120 => (quote_Put.l0 k x0 x8 (wrap64 (x9 + 1)) bt120.2))))
end
def quote_Put.f (k : Nat) (a0 : ByteArray) : Option (ByteArray) := (strings_Builder_copyCheck.f).bind fun t101 => ((strings_Builder_WriteByte.f t101 34).bind fun bt103 => (quote_Put.l0 k a0 (a0.size : Int) 0 bt103.2))
theorem quote_Put.mono_l : ∀ k, (∀ y0 y1 y2 y3, LeO (quote_Put.l0 k y0 y1 y2 y3) (quote_Put.l0 (k + 1) y0 y1 y2 y3)) ∧ (∀ y0 y1 y2 y3 y4 y5, LeO (quote_Put.j1 k y0 y1 y2 y3 y4 y5) (quote_Put.j1 (k + 1) y0 y1 y2 y3 y4 y5))
 | 0 => ⟨fun _ _ _ _ r h => by simp [quote_Put.l0] at h, fun _ _ _ _ _ _ r h => by simp [quote_Put.j1] at h⟩
 | k + 1 => by
  obtain ⟨ih0, ih1⟩ := quote_Put.mono_l k
  refine ⟨?_, ?_⟩
  ·intro y0 y1 y2 y3
   unfold quote_Put.l0
   repeat' first
   | (with_reducible exact ih0 _ _ _ _)
   | (with_reducible exact ih1 _ _ _ _ _ _)
   | (with_reducible exact LeO.refl _)
   | (with_reducible exact LeO.none _)
   | (with_reducible refine LeO.ite ?_ ?_)
   | (with_reducible refine LeO.bind ?_ (fun _ => ?_))
   | exact ih0 _ _ _ _
   | exact ih1 _ _ _ _ _ _
   | exact LeO.none _
   | refine LeO.ite ?_ ?_
   | refine LeO.bind ?_ (fun _ => ?_)
  ·intro y0 y1 y2 y3 y4 y5
   unfold quote_Put.j1
   repeat' first
   | (with_reducible exact ih0 _ _ _ _)
   | (with_reducible exact ih1 _ _ _ _ _ _)
   | (with_reducible exact LeO.refl _)
   | (with_reducible exact LeO.none _)
   | (with_reducible refine LeO.ite ?_ ?_)
   | (with_reducible refine LeO.bind ?_ (fun _ => ?_))
   | exact ih0 _ _ _ _
   | exact ih1 _ _ _ _ _ _
   | exact LeO.none _
   | refine LeO.ite ?_ ?_
   | refine LeO.bind ?_ (fun _ => ?_)
theorem quote_Put.mono : ∀ a0 k, LeO (quote_Put.f k a0) (quote_Put.f (k + 1) a0) := by
 intro a0 k
 obtain ⟨ih0, ih1⟩ := quote_Put.mono_l k
 unfold quote_Put.f
 repeat' first
   | (with_reducible exact ih0 _ _ _ _)
   | (with_reducible exact ih1 _ _ _ _ _ _)
   | (with_reducible exact LeO.refl _)
   | (with_reducible exact LeO.none _)
   | (with_reducible refine LeO.ite ?_ ?_)
   | (with_reducible refine LeO.bind ?_ (fun _ => ?_))
   | exact ih0 _ _ _ _
   | exact ih1 _ _ _ _ _ _
   | exact LeO.none _
   | refine LeO.ite ?_ ?_
   | refine LeO.bind ?_ (fun _ => ?_)
def quote_Put.T13 : Bool × List (List Nat × List Nat) := (true, [([], []), ([0], [0]), ([], []), ([2], [2]), ([3], [3]), ([1, 4], [1, 4]), ([5], [5]), ([], []), ([7], [7]), ([], []), ([9], [9]), ([10], [10]), ([8, 11], [8, 11]), ([6, 12], [6, 12]), ([13], [13])])
def quote_Put.B13 : List Nat := [0, 1, 0, 4, 12, 31, 63, 0, 128, 0, 512, 1536, 3968, 8191, 16383]
theorem quote_Put.tab13 : rtab .any (opsOf Try.f11 13) = quote_Put.T13 := by kernel_rfl
theorem quote_Put.bits13 : waitsOk quote_Put.T13.2 quote_Put.B13 = true := by kernel_rfl
set_option maxHeartbeats 8000000 in
set_option maxRecDepth 100000 in
theorem quote_Put.calls (k : Nat) (a0 : ByteArray) (r : ByteArray) (w : World) (h : quote_Put.f k a0 = some r) :
  Calls Try.prog 11 #[.string a0] w fun e w' => e = .returned (.string r) ∧ Below w.heap.size w w':=by
 have HB:=Aside0.mk (Below.refl w.heap.size w)
 have H : ((strings_Builder_copyCheck.f).bind fun t101 => ((strings_Builder_WriteByte.f t101 34).bind fun bt103 => (quote_Put.l0 k a0 (a0.size : Int) 0 bt103.2))) = some r:=h
 clear h
 replace H:=Option.bind_eq_some_iff.mp H
 obtain ⟨t101,A20,H⟩:=H
 replace H : ((strings_Builder_WriteByte.f t101 34).bind fun bt103 => (quote_Put.l0 k a0 (a0.size : Int) 0 bt103.2)) = some r:=H
 have A2:=Aside0.mk A20
 clear A20
 replace H:=Option.bind_eq_some_iff.mp H
 obtain ⟨⟨t103,t104⟩,A30,H⟩:=H
 replace H : (quote_Put.l0 k a0 (a0.size : Int) 0 t104) = some r:=H
 have A3:=Aside0.mk A30
 clear A30
 have H':=Aside0.mk H
 clear H
 go_enter Try.func11,Try.ntmps11
 go_wp2_with (first | ((with_reducible refine gate_dst (N:=3) rfl ?_);refine box_event ?hg (N:=3) ?hd (cs:=#[.pointer none,.slice none 0 0]) (t:=59) ?hr ?_;(case hd => rfl);(case hg => rfl);(case hr => first | (go_simp;done) | (go_simp;rfl));intro g102 hg w4 hbox hb2;have hgw_ : w.heap.size ≤ g102:=(by rw [hg];exact (below_size (by repeat (first | (with_reducible first | exact HB.out | apply below_alloc | apply pw_below_drewN | apply below_drew1) | exact HB.out))));have hi : IsS59 w _ g102 t101:=(by rw [← Option.some.inj (show some (⟨#[]⟩ : ByteArray) = some t101 from A2.out)];exact IsS59.fresh0 hbox hgw_);have hb:=below_step (by repeat (first | (with_reducible first | exact HB.out | apply below_alloc | apply pw_below_drewN | apply below_drew1) | exact HB.out)) hb2;clear hg hbox hgw_;have n0_:=Aside0.mk (hb);have n1_:=Aside0.mk (hi);clear HB;have HB:=n0_;have HI102:=n1_;clear n0_ n1_;(try clear hb);(try clear hb2);(try clear hk);(try clear hi)) | ((with_reducible refine gate_callee (f:=28) rfl ?_);refine goesL_ (some 6) rfl rfl Try.func28 (by kernel_rfl) rfl #[.pointer (some ⟨g102,0,none⟩),.int .u8 34] rfl (by (try simp only [List.map_toArray,List.map_cons,List.map_nil]);first | done | rfl | (simp only [List.length_drop,List.length_take];rfl)) ?_;(with_reducible refine (strings_Builder_WriteByte.calls g102 t101 34 t103 t104 w _ ?side1 ?side2 A3.out).mono ?_);(case side1 => repeat (first | (with_reducible first | exact HI102.out | apply IsS59.alloc | apply IsS59.drewN | apply IsS59.drew | apply IsS59.set_0) | exact HI102.out));(case side2 => repeat (first | (with_reducible first | exact HB.out | apply below_alloc | apply pw_below_drewN | apply below_drew1 | refine below_set ?_ (IsS59.ge HI102.out)) | exact HB.out));rintro e w5 ⟨rfl,hi,hb,hk⟩;refine ⟨_,rfl,?_⟩;have n0_:=Aside0.mk (hb);have n1_:=Aside0.mk (hi);clear HB;clear HI102;have HB:=n0_;have HI102:=n1_;clear n0_ n1_;(try clear hb);(try clear hb2);(try clear hk);(try clear hi);(try simp only [errW_none,errW_some])))
 go_loopg [9] k (fun kq v9 w' => ∃ (x9_1 : Int) (x103000_1 : ByteArray),v9 = .int .i64 x9_1 ∧ Aside0 (quote_Put.l0 kq a0 (a0.size : Int) x9_1 x103000_1 = some r) ∧ Aside0 (kq ≤ k) ∧ Aside0 (IsS59 w w' g102 x103000_1) ∧ Aside0 (Below w.heap.size w w'))
 case atStart => exact ⟨(0),(t104),(by first | rfl | (simp;done) | (simp [*];done)),H',⟨Nat.le_refl _⟩,⟨by repeat (first | (with_reducible first | exact HI102.out | apply IsS59.alloc | apply IsS59.drewN | apply IsS59.drew | apply IsS59.set_0) | exact HI102.out)⟩,⟨by repeat (first | (with_reducible first | exact HB.out | apply below_alloc | apply pw_below_drewN | apply below_drew1 | refine below_set ?_ (IsS59.ge HI102.out)) | exact HB.out)⟩⟩
 case round =>
  clear H'
  try clear c1
  try clear c2
  try clear p2
  try clear c4
  obtain ⟨x9_1,x103000_1,rfl,HA,HK1,HI102,HB⟩:=hrel
  cases gk with
  | zero => exact absurd HA.out (by simp [quote_Put.l0])
  | succ k1 =>
   have H:=HA.out
   clear HA
   simp only [quote_Put.l0] at H
   by_cases c6 : x9_1 < (a0.size : Int)
   ·rw [if_pos c6] at H
    have c6b0 : decide (x9_1 < (a0.size : Int)) = true:=decide_eq_true c6
    clear c6
    by_cases c7 : 0 ≤ x9_1
    ·rw [if_pos c7] at H
     have c7b0 : decide (0 ≤ x9_1) = true:=decide_eq_true c7
     clear c7
     by_cases c8 : x9_1 < (a0.size : Int)
     ·rw [if_pos c8] at H
      have c8b0 : decide (x9_1 < (a0.size : Int)) = true:=decide_eq_true c8
      clear c8
      by_cases c10 : (bt a0 x9_1) = 10
      ·rw [if_pos c10] at H
       have c10b0 : ((bt a0 x9_1) == 10) = true:=beq_iff_eq.mpr c10
       have c10b1 : ((bt a0 x9_1) != 10) = false:=bne_eq_false_iff_eq.mpr c10
       clear c10
       replace H:=Option.bind_eq_some_iff.mp H
       obtain ⟨⟨t122,t123,t124⟩,A110,H⟩:=H
       replace H : (quote_Put.l0 k1 a0 (a0.size : Int) (wrap64 (x9_1 + 1)) t124) = some r:=H
       have A11:=Aside0.mk A110
       clear A110
       have H':=Aside0.mk H
       clear H
       have p9 : 0 ≤ (x9_1 : Int):=of_decide_eq_true (by first | (with_reducible assumption) | assumption)
       have q9 : x9_1 < (a0.size : Int):=of_decide_eq_true (by first | (with_reducible assumption) | assumption)
       have hx9:=bt_at a0 x9_1
       replace p9:=eq_true p9
       replace q9:=eq_true q9
       go_wp2_with (first | ((with_reducible refine gate_callee (f:=29) rfl ?_);refine goesL_ (some 28) rfl rfl Try.func29 (by kernel_rfl) rfl #[.pointer (some ⟨g102,0,none⟩),.string (⟨#[92,110]⟩ : ByteArray)] rfl (by (try simp only [List.map_toArray,List.map_cons,List.map_nil]);first | done | rfl | (simp only [List.length_drop,List.length_take];rfl)) ?_;(with_reducible refine (strings_Builder_WriteString.calls g102 x103000_1 (⟨#[92,110]⟩ : ByteArray) t122 t123 t124 w _ ?side1 ?side2 A11.out).mono ?_);(case side1 => repeat (first | (with_reducible first | exact HI102.out | apply IsS59.alloc | apply IsS59.drewN | apply IsS59.drew | apply IsS59.set_0) | exact HI102.out));(case side2 => repeat (first | (with_reducible first | exact HB.out | apply below_alloc | apply pw_below_drewN | apply below_drew1 | refine below_set ?_ (IsS59.ge HI102.out)) | exact HB.out));rintro e w12 ⟨rfl,hi,hb,hk⟩;refine ⟨_,rfl,?_⟩;have n0_:=Aside0.mk (hb);have n1_:=Aside0.mk (hi);clear HB;clear HI102;have HB:=n0_;have HI102:=n1_;clear n0_ n1_;(try clear hb);(try clear hb2);(try clear hk);(try clear hi);(try simp only [errW_none,errW_some])))
       go_roundg k1
       case measure => have:=HK1.out;omega
       case rel => exact ⟨(wrap64 (x9_1 + 1)),(t124),(by first | rfl | (simp;done) | (simp [*];done)),H',⟨by have:=HK1.out;omega⟩,⟨by repeat (first | (with_reducible first | exact HI102.out | apply IsS59.alloc | apply IsS59.drewN | apply IsS59.drew | apply IsS59.set_0) | exact HI102.out)⟩,⟨by repeat (first | (with_reducible first | exact HB.out | apply below_alloc | apply pw_below_drewN | apply below_drew1 | refine below_set ?_ (IsS59.ge HI102.out)) | exact HB.out)⟩⟩
      ·rw [if_neg c10] at H
       have c10b0 : ((bt a0 x9_1) == 10) = false:=beq_eq_false_iff_ne.mpr c10
       have c10b1 : ((bt a0 x9_1) != 10) = true:=bne_iff_ne.mpr c10
       have HC13:=Aside0.mk H
       clear H
       have p9 : 0 ≤ (x9_1 : Int):=of_decide_eq_true (by first | (with_reducible assumption) | assumption)
       have q9 : x9_1 < (a0.size : Int):=of_decide_eq_true (by first | (with_reducible assumption) | assumption)
       have hx9:=bt_at a0 x9_1
       replace p9:=eq_true p9
       replace q9:=eq_true q9
       go_upto_if 18 with (fail)
       go_cut [18] (fun v18 wc => ∃ (kq : Nat) (x18_12 : Bool),v18 = .bool x18_12 ∧ Aside0 (quote_Put.j1 kq a0 (bt a0 x9_1) (a0.size : Int) x9_1 x18_12 x103000_1 = some r) ∧ Aside0 (kq ≤ k1) ∧ Aside0 (IsS59 w wc g102 x103000_1) ∧ Aside0 (Below w.heap.size w wc))
       case first =>
        have H:=HC13.out
        clear HC13
        by_cases c14 : (bt a0 x9_1) < 32
        ·rw [if_pos c14] at H
         have c14b0 : decide ((bt a0 x9_1) < 32) = true:=decide_eq_true c14
         clear c14
         (first | rw [c14b0] | (simp only [i64_w,i32_w];rw [c14b0]) | skip)
         have H':=Aside0.mk H
         clear H
         go_wp2
         go_meet
         case rel => exact ⟨_,(decide ((bt a0 x9_1) < 32)),(by first | rfl | (simp;done) | (simp [*];done)),H',⟨by have:=HK1.out;first | omega | exact Nat.le_refl _⟩,⟨by repeat (first | (with_reducible first | exact HI102.out | apply IsS59.alloc | apply IsS59.drewN | apply IsS59.drew | apply IsS59.set_0) | exact HI102.out)⟩,⟨by repeat (first | (with_reducible first | exact HB.out | apply below_alloc | apply pw_below_drewN | apply below_drew1 | refine below_set ?_ (IsS59.ge HI102.out)) | exact HB.out)⟩⟩
        ·rw [if_neg c14] at H
         have c14b0 : decide ((bt a0 x9_1) < 32) = false:=decide_eq_false c14
         clear c14
         (first | rw [c14b0] | (simp only [i64_w,i32_w];rw [c14b0]) | skip)
         have H':=Aside0.mk H
         clear H
         go_wp2
         go_meet
         case rel => exact ⟨_,(decide ((bt a0 x9_1) > 126)),(by first | rfl | (simp;done) | (simp [*];done)),H',⟨by have:=HK1.out;first | omega | exact Nat.le_refl _⟩,⟨by repeat (first | (with_reducible first | exact HI102.out | apply IsS59.alloc | apply IsS59.drewN | apply IsS59.drew | apply IsS59.set_0) | exact HI102.out)⟩,⟨by repeat (first | (with_reducible first | exact HB.out | apply below_alloc | apply pw_below_drewN | apply below_drew1 | refine below_set ?_ (IsS59.ge HI102.out)) | exact HB.out)⟩⟩
       case rest =>
        clear HC13
        try clear c1
        try clear c2
        try clear p2
        try clear c4
        try clear c6
        try clear c6b0
        try clear p6
        try clear c7
        try clear c7b0
        try clear c8
        try clear c8b0
        try clear p9
        try clear q9
        try clear hx9
        try clear c10
        try clear c10b0
        try clear c10b1
        try clear c11
        try clear c14
        try clear c14b0
        try clear p2
        try clear p9
        try clear q9
        obtain ⟨kq,x18_12,rfl,HA,HJ12,HI102,HB⟩:=hcut
        cases kq with
        | zero => exact absurd HA.out (by simp [quote_Put.j1])
        | succ kj12 =>
         have H:=HA.out
         clear HA
         simp only [quote_Put.j1] at H
         by_cases c15 : x18_12 = true
         ·subst c15
          have H1 : (if 0 ≤ ((bt a0 x9_1) / 16) then (if ((bt a0 x9_1) / 16) ≤ ((((bt a0 x9_1) / 16) + 1) % 256) then (if ((((bt a0 x9_1) / 16) + 1) % 256) ≤ 16 then (if 2 + ((⟨#[48,49,50,51,52,53,54,55,56,57,97,98,99,100,101,102]⟩ : ByteArray).extract (((bt a0 x9_1) / 16) : Int).toNat (((((bt a0 x9_1) / 16) + 1) % 256) : Int).toNat).size ≤ 9223372036854775807 then (if 0 ≤ (Go.bits .and .u8 (bt a0 x9_1) 15) then (if (Go.bits .and .u8 (bt a0 x9_1) 15) ≤ (((Go.bits .and .u8 (bt a0 x9_1) 15) + 1) % 256) then (if (((Go.bits .and .u8 (bt a0 x9_1) 15) + 1) % 256) ≤ 16 then (if ((⟨#[92,120]⟩ : ByteArray) ++ ((⟨#[48,49,50,51,52,53,54,55,56,57,97,98,99,100,101,102]⟩ : ByteArray).extract (((bt a0 x9_1) / 16) : Int).toNat (((((bt a0 x9_1) / 16) + 1) % 256) : Int).toNat)).size + ((⟨#[48,49,50,51,52,53,54,55,56,57,97,98,99,100,101,102]⟩ : ByteArray).extract ((Go.bits .and .u8 (bt a0 x9_1) 15) : Int).toNat ((((Go.bits .and .u8 (bt a0 x9_1) 15) + 1) % 256) : Int).toNat).size ≤ 9223372036854775807 then ((strings_Builder_WriteString.f x103000_1 (((⟨#[92,120]⟩ : ByteArray) ++ ((⟨#[48,49,50,51,52,53,54,55,56,57,97,98,99,100,101,102]⟩ : ByteArray).extract (((bt a0 x9_1) / 16) : Int).toNat (((((bt a0 x9_1) / 16) + 1) % 256) : Int).toNat)) ++ ((⟨#[48,49,50,51,52,53,54,55,56,57,97,98,99,100,101,102]⟩ : ByteArray).extract ((Go.bits .and .u8 (bt a0 x9_1) 15) : Int).toNat ((((Go.bits .and .u8 (bt a0 x9_1) 15) + 1) % 256) : Int).toNat))).bind fun bt109 => (quote_Put.l0 kj12 a0 (a0.size : Int) (wrap64 (x9_1 + 1)) bt109.2.2)) else (none)) else (none)) else (none)) else (none)) else (none)) else (none)) else (none)) else (none)) = some r:=by rw [if_pos rfl] at H;exact H
          clear H
          have H:=H1
          clear H1
          obtain ⟨ji16,hji16⟩ : ∃ j_ : Int,((bt a0 x9_1) / 16) = j_:=⟨_,rfl⟩
          replace H : (if 0 ≤ (ji16) then (if (ji16) ≤ (((ji16) + 1) % 256) then (if (((ji16) + 1) % 256) ≤ 16 then (if 2 + ((⟨#[48,49,50,51,52,53,54,55,56,57,97,98,99,100,101,102]⟩ : ByteArray).extract ((ji16) : Int).toNat ((((ji16) + 1) % 256) : Int).toNat).size ≤ 9223372036854775807 then (if 0 ≤ (Go.bits .and .u8 (bt a0 x9_1) 15) then (if (Go.bits .and .u8 (bt a0 x9_1) 15) ≤ (((Go.bits .and .u8 (bt a0 x9_1) 15) + 1) % 256) then (if (((Go.bits .and .u8 (bt a0 x9_1) 15) + 1) % 256) ≤ 16 then (if ((⟨#[92,120]⟩ : ByteArray) ++ ((⟨#[48,49,50,51,52,53,54,55,56,57,97,98,99,100,101,102]⟩ : ByteArray).extract ((ji16) : Int).toNat ((((ji16) + 1) % 256) : Int).toNat)).size + ((⟨#[48,49,50,51,52,53,54,55,56,57,97,98,99,100,101,102]⟩ : ByteArray).extract ((Go.bits .and .u8 (bt a0 x9_1) 15) : Int).toNat ((((Go.bits .and .u8 (bt a0 x9_1) 15) + 1) % 256) : Int).toNat).size ≤ 9223372036854775807 then ((strings_Builder_WriteString.f x103000_1 (((⟨#[92,120]⟩ : ByteArray) ++ ((⟨#[48,49,50,51,52,53,54,55,56,57,97,98,99,100,101,102]⟩ : ByteArray).extract ((ji16) : Int).toNat ((((ji16) + 1) % 256) : Int).toNat)) ++ ((⟨#[48,49,50,51,52,53,54,55,56,57,97,98,99,100,101,102]⟩ : ByteArray).extract ((Go.bits .and .u8 (bt a0 x9_1) 15) : Int).toNat ((((Go.bits .and .u8 (bt a0 x9_1) 15) + 1) % 256) : Int).toNat))).bind fun bt109 => (quote_Put.l0 kj12 a0 (a0.size : Int) (wrap64 (x9_1 + 1)) bt109.2.2)) else (none)) else (none)) else (none)) else (none)) else (none)) else (none)) else (none)) else (none)) = some r:=by first | (rw [hji16] at H;exact H) | (simp only [hji16] at H ⊢;exact H)
          by_cases c17 : 0 ≤ (ji16)
          ·rw [if_pos c17] at H
           have c17b0:=eq_true c17
           have c17b1 : decide (0 ≤ (ji16)) = true:=decide_eq_true c17
           clear c17
           by_cases c18 : (ji16) ≤ (((ji16) + 1) % 256)
           ·rw [if_pos c18] at H
            have c18b0:=eq_true c18
            have c18b1 : decide ((ji16) ≤ (((ji16) + 1) % 256)) = true:=decide_eq_true c18
            by_cases c19 : (((ji16) + 1) % 256) ≤ 16
            ·rw [if_pos c19] at H
             have c19b0:=eq_true c19
             have c19b1 : decide ((((ji16) + 1) % 256) ≤ 16) = true:=decide_eq_true c19
             by_cases c20 : 2 + ((⟨#[48,49,50,51,52,53,54,55,56,57,97,98,99,100,101,102]⟩ : ByteArray).extract ((ji16) : Int).toNat ((((ji16) + 1) % 256) : Int).toNat).size ≤ 9223372036854775807
             ·rw [if_pos c20] at H
              have c20b0:=eq_true c20
              have c20b1 : decide (2 + ((⟨#[48,49,50,51,52,53,54,55,56,57,97,98,99,100,101,102]⟩ : ByteArray).extract ((ji16) : Int).toNat ((((ji16) + 1) % 256) : Int).toNat).size ≤ 9223372036854775807) = true:=decide_eq_true c20
              try have c20b2 : (9223372036854775807 < 2 + ((⟨#[48,49,50,51,52,53,54,55,56,57,97,98,99,100,101,102]⟩ : ByteArray).extract ((ji16) : Int).toNat ((((ji16) + 1) % 256) : Int).toNat).size) = False:=eq_false (Nat.not_lt.2 c20)
              by_cases c21 : 0 ≤ (Go.bits .and .u8 (bt a0 x9_1) 15)
              ·rw [if_pos c21] at H
               have c21b0:=eq_true c21
               have c21b1 : decide (0 ≤ (Go.bits .and .u8 (bt a0 x9_1) 15)) = true:=decide_eq_true c21
               clear c21
               by_cases c22 : (Go.bits .and .u8 (bt a0 x9_1) 15) ≤ (((Go.bits .and .u8 (bt a0 x9_1) 15) + 1) % 256)
               ·rw [if_pos c22] at H
                have c22b0:=eq_true c22
                have c22b1 : decide ((Go.bits .and .u8 (bt a0 x9_1) 15) ≤ (((Go.bits .and .u8 (bt a0 x9_1) 15) + 1) % 256)) = true:=decide_eq_true c22
                by_cases c23 : (((Go.bits .and .u8 (bt a0 x9_1) 15) + 1) % 256) ≤ 16
                ·rw [if_pos c23] at H
                 have c23b0:=eq_true c23
                 have c23b1 : decide ((((Go.bits .and .u8 (bt a0 x9_1) 15) + 1) % 256) ≤ 16) = true:=decide_eq_true c23
                 by_cases c24 : ((⟨#[92,120]⟩ : ByteArray) ++ ((⟨#[48,49,50,51,52,53,54,55,56,57,97,98,99,100,101,102]⟩ : ByteArray).extract ((ji16) : Int).toNat ((((ji16) + 1) % 256) : Int).toNat)).size + ((⟨#[48,49,50,51,52,53,54,55,56,57,97,98,99,100,101,102]⟩ : ByteArray).extract ((Go.bits .and .u8 (bt a0 x9_1) 15) : Int).toNat ((((Go.bits .and .u8 (bt a0 x9_1) 15) + 1) % 256) : Int).toNat).size ≤ 9223372036854775807
                 ·rw [if_pos c24] at H
                  have c24b0:=eq_true c24
                  have c24b1 : decide (((⟨#[92,120]⟩ : ByteArray) ++ ((⟨#[48,49,50,51,52,53,54,55,56,57,97,98,99,100,101,102]⟩ : ByteArray).extract ((ji16) : Int).toNat ((((ji16) + 1) % 256) : Int).toNat)).size + ((⟨#[48,49,50,51,52,53,54,55,56,57,97,98,99,100,101,102]⟩ : ByteArray).extract ((Go.bits .and .u8 (bt a0 x9_1) 15) : Int).toNat ((((Go.bits .and .u8 (bt a0 x9_1) 15) + 1) % 256) : Int).toNat).size ≤ 9223372036854775807) = true:=decide_eq_true c24
                  try have c24b2 : (9223372036854775807 < ((⟨#[92,120]⟩ : ByteArray) ++ ((⟨#[48,49,50,51,52,53,54,55,56,57,97,98,99,100,101,102]⟩ : ByteArray).extract ((ji16) : Int).toNat ((((ji16) + 1) % 256) : Int).toNat)).size + ((⟨#[48,49,50,51,52,53,54,55,56,57,97,98,99,100,101,102]⟩ : ByteArray).extract ((Go.bits .and .u8 (bt a0 x9_1) 15) : Int).toNat ((((Go.bits .and .u8 (bt a0 x9_1) 15) + 1) % 256) : Int).toNat).size) = False:=eq_false (Nat.not_lt.2 c24)
                  replace H:=Option.bind_eq_some_iff.mp H
                  obtain ⟨⟨t109,t110,t111⟩,A250,H⟩:=H
                  replace H : (quote_Put.l0 kj12 a0 (a0.size : Int) (wrap64 (x9_1 + 1)) t111) = some r:=H
                  have A25:=Aside0.mk A250
                  clear A250
                  have H':=Aside0.mk H
                  clear H
                  try go_wp2
                  have n0_:=Aside0.mk (IsS59.drew HI102.out)
                  have n1_:=Aside0.mk (below_drew1 HB.out)
                  clear HI102
                  clear HB
                  have HI102:=n0_
                  have HB:=n1_
                  clear n0_ n1_
                  refine start_ (n:=15) (S:=fun w' => True) (ds:=[]) #[n_,n_,n_,n_,n_,n_,n_,n_,n_,n_,n_,n_,n_,n_,n_] (by kernel_rfl) rfl rfl trivial (fun hHeld => ?_);refine with_tabW quote_Put.tab13 quote_Put.bits13 (fun HT_ HW_ => ?_)
                  generalize wc.drew = w26 at HI102 HB hHeld ⊢
                  refine pure_ (i:=0) (N:=some 29) (v:=?_) (a':=?_) #[y_,n_,n_,n_,n_,n_,n_,n_,n_,n_,n_,n_,n_,n_,n_] rfl rfl (any_of HT_.out (by kernel_rfl)) (fun _ _ _ h => h) (Or.inl ⟨by rfl,?_⟩) ?_ ?_
                  rotate_left
                  ·intro w'
                   go_simp
                   with_reducible rfl
                  rotate_left
                  ·simp only [Act.put,sA_,sB_,sC_,i64_w,i32_w]
                   rfl
                  refine pure_ (i:=1) (N:=some 30) (v:=?_) (a':=?_) #[y_,y_,n_,n_,n_,n_,n_,n_,n_,n_,n_,n_,n_,n_,n_] rfl rfl (any_of HT_.out (by kernel_rfl)) (fun _ _ _ h => h) (Or.inl ⟨by rfl,?_⟩) ?_ ?_
                  rotate_left
                  ·intro w'
                   go_simp
                   with_reducible rfl
                  rotate_left
                  ·simp only [Act.put,sA_,sB_,sC_,i64_w,i32_w]
                   rfl
                  refine pure_ (i:=2) (N:=some 31) (v:=?_) (a':=?_) #[y_,y_,y_,n_,n_,n_,n_,n_,n_,n_,n_,n_,n_,n_,n_] rfl rfl (any_of HT_.out (by kernel_rfl)) (fun _ _ _ h => h) (Or.inl ⟨by rfl,?_⟩) ?_ ?_
                  rotate_left
                  ·intro w'
                   go_simp
                   with_reducible rfl
                  rotate_left
                  ·simp only [Act.put,sA_,sB_,sC_,i64_w,i32_w]
                   rfl
                  refine pure_ (i:=3) (N:=some 32) (v:=?_) (a':=?_) #[y_,y_,y_,y_,n_,n_,n_,n_,n_,n_,n_,n_,n_,n_,n_] rfl rfl (any_of HT_.out (by kernel_rfl)) (fun _ _ _ h => h) (Or.inl ⟨by rfl,?_⟩) ?_ ?_
                  rotate_left
                  ·intro w'
                   go_simp
                   with_reducible rfl
                  rotate_left
                  ·simp only [Act.put,sA_,sB_,sC_,i64_w,i32_w]
                   rfl
                  refine pure_ (i:=4) (N:=some 33) (v:=?_) (a':=?_) #[y_,y_,y_,y_,y_,n_,n_,n_,n_,n_,n_,n_,n_,n_,n_] rfl rfl (any_of HT_.out (by kernel_rfl)) (fun _ _ _ h => h) (Or.inl ⟨by rfl,?_⟩) ?_ ?_
                  rotate_left
                  ·intro w'
                   go_simp
                   with_reducible rfl
                  rotate_left
                  ·simp only [Act.put,sA_,sB_,sC_,i64_w,i32_w]
                   rfl
                  refine pure_ (i:=5) (N:=some 34) (v:=?_) (a':=?_) #[y_,y_,y_,y_,y_,y_,n_,n_,n_,n_,n_,n_,n_,n_,n_] rfl rfl (any_of HT_.out (by kernel_rfl)) (fun _ _ _ h => h) (Or.inl ⟨by rfl,?_⟩) ?_ ?_
                  rotate_left
                  ·intro w'
                   go_simp
                   (first | (rw [IntKind.wrap_u8,if_pos (by assumption),if_pos (by assumption)];done) | (rw [IntKind.wrap_u8,if_pos (by assumption),if_pos (by assumption)];with_reducible rfl) | with_reducible rfl)
                  rotate_left
                  ·simp only [Act.put,sA_,sB_,sC_,i64_w,i32_w]
                   rfl
                  refine pure_ (i:=6) (N:=some 35) (v:=?_) (a':=?_) #[y_,y_,y_,y_,y_,y_,y_,n_,n_,n_,n_,n_,n_,n_,n_] rfl rfl (any_of HT_.out (by kernel_rfl)) (fun _ _ _ h => h) (Or.inl ⟨by rfl,?_⟩) ?_ ?_
                  rotate_left
                  ·intro w'
                   go_simp
                   (first | (rw [if_neg (by omega)];done) | (rw [if_neg (by omega)];with_reducible rfl) | with_reducible rfl)
                  rotate_left
                  ·simp only [Act.put,sA_,sB_,sC_,i64_w,i32_w]
                   rfl
                  refine pure_ (i:=7) (N:=some 36) (v:=?_) (a':=?_) #[y_,y_,y_,y_,y_,y_,y_,y_,n_,n_,n_,n_,n_,n_,n_] rfl rfl (any_of HT_.out (by kernel_rfl)) (fun _ _ _ h => h) (Or.inl ⟨by rfl,?_⟩) ?_ ?_
                  rotate_left
                  ·intro w'
                   go_simp
                   with_reducible rfl
                  rotate_left
                  ·simp only [Act.put,sA_,sB_,sC_,i64_w,i32_w]
                   rfl
                  refine pure_ (i:=8) (N:=some 37) (v:=?_) (a':=?_) #[y_,y_,y_,y_,y_,y_,y_,y_,y_,n_,n_,n_,n_,n_,n_] rfl rfl (any_of HT_.out (by kernel_rfl)) (fun _ _ _ h => h) (Or.inl ⟨by rfl,?_⟩) ?_ ?_
                  rotate_left
                  ·intro w'
                   go_simp
                   with_reducible rfl
                  rotate_left
                  ·simp only [Act.put,sA_,sB_,sC_,i64_w,i32_w]
                   rfl
                  refine pure_ (i:=9) (N:=some 38) (v:=?_) (a':=?_) #[y_,y_,y_,y_,y_,y_,y_,y_,y_,y_,n_,n_,n_,n_,n_] rfl rfl (any_of HT_.out (by kernel_rfl)) (fun _ _ _ h => h) (Or.inl ⟨by rfl,?_⟩) ?_ ?_
                  rotate_left
                  ·intro w'
                   go_simp
                   with_reducible rfl
                  rotate_left
                  ·simp only [Act.put,sA_,sB_,sC_,i64_w,i32_w]
                   rfl
                  refine pure_ (i:=10) (N:=some 39) (v:=?_) (a':=?_) #[y_,y_,y_,y_,y_,y_,y_,y_,y_,y_,y_,n_,n_,n_,n_] rfl rfl (any_of HT_.out (by kernel_rfl)) (fun _ _ _ h => h) (Or.inl ⟨by rfl,?_⟩) ?_ ?_
                  rotate_left
                  ·intro w'
                   go_simp
                   with_reducible rfl
                  rotate_left
                  ·simp only [Act.put,sA_,sB_,sC_,i64_w,i32_w]
                   rfl
                  refine pure_ (i:=11) (N:=some 40) (v:=?_) (a':=?_) #[y_,y_,y_,y_,y_,y_,y_,y_,y_,y_,y_,y_,n_,n_,n_] rfl rfl (any_of HT_.out (by kernel_rfl)) (fun _ _ _ h => h) (Or.inl ⟨by rfl,?_⟩) ?_ ?_
                  rotate_left
                  ·intro w'
                   go_simp
                   with_reducible rfl
                  rotate_left
                  ·simp only [Act.put,sA_,sB_,sC_,i64_w,i32_w]
                   rfl
                  refine pure_ (i:=12) (N:=some 41) (v:=?_) (a':=?_) #[y_,y_,y_,y_,y_,y_,y_,y_,y_,y_,y_,y_,y_,n_,n_] rfl rfl (any_of HT_.out (by kernel_rfl)) (fun _ _ _ h => h) (Or.inl ⟨by rfl,?_⟩) ?_ ?_
                  rotate_left
                  ·intro w'
                   go_simp
                   (first | (rw [IntKind.wrap_u8,if_pos (by assumption),if_pos (by assumption)];done) | (rw [IntKind.wrap_u8,if_pos (by assumption),if_pos (by assumption)];with_reducible rfl) | with_reducible rfl)
                  rotate_left
                  ·simp only [Act.put,sA_,sB_,sC_,i64_w,i32_w]
                   rfl
                  refine pure_ (i:=13) (N:=some 42) (v:=?_) (a':=?_) #[y_,y_,y_,y_,y_,y_,y_,y_,y_,y_,y_,y_,y_,y_,n_] rfl rfl (any_of HT_.out (by kernel_rfl)) (fun _ _ _ h => h) (Or.inl ⟨by rfl,?_⟩) ?_ ?_
                  rotate_left
                  ·intro w'
                   go_simp
                   (first | (rw [if_neg (by omega)];done) | (rw [if_neg (by omega)];with_reducible rfl) | with_reducible rfl)
                  rotate_left
                  ·simp only [Act.put,sA_,sB_,sC_,i64_w,i32_w]
                   rfl
                  refine one_ (i:=14) (N:=some 43) #[y_,y_,y_,y_,y_,y_,y_,y_,y_,y_,y_,y_,y_,y_,y_] rfl rfl (one_of HT_.out (by kernel_rfl)) (by decide) (fun K hK => ?_)
                  refine goes_ Try.func29 (by kernel_rfl) rfl #[.pointer (some ⟨g102,0,none⟩),.string (((⟨#[92,120]⟩ : ByteArray) ++ ((⟨#[48,49,50,51,52,53,54,55,56,57,97,98,99,100,101,102]⟩ : ByteArray).extract ((ji16) : Int).toNat ((((ji16) + 1) % 256) : Int).toNat)) ++ ((⟨#[48,49,50,51,52,53,54,55,56,57,97,98,99,100,101,102]⟩ : ByteArray).extract ((Go.bits .and .u8 (bt a0 x9_1) 15) : Int).toNat ((((Go.bits .and .u8 (bt a0 x9_1) 15) + 1) % 256) : Int).toNat))] (by rfl) rfl rfl (by (try simp only [List.map_toArray,List.map_cons,List.map_nil]);first | done | (simp only [hji16];rfl) | rfl | (simp only [List.length_drop,List.length_take];rfl)) ?_
                  with_reducible refine (strings_Builder_WriteString.calls g102 x103000_1 (((⟨#[92,120]⟩ : ByteArray) ++ ((⟨#[48,49,50,51,52,53,54,55,56,57,97,98,99,100,101,102]⟩ : ByteArray).extract ((ji16) : Int).toNat ((((ji16) + 1) % 256) : Int).toNat)) ++ ((⟨#[48,49,50,51,52,53,54,55,56,57,97,98,99,100,101,102]⟩ : ByteArray).extract ((Go.bits .and .u8 (bt a0 x9_1) 15) : Int).toNat ((((Go.bits .and .u8 (bt a0 x9_1) 15) + 1) % 256) : Int).toNat)) t109 t110 t111 w _ ?side1 ?side2 A25.out).mono ?_
                  (case side1 => repeat (first | (with_reducible first | exact HI102.out | apply IsS59.alloc | apply IsS59.drewN | apply IsS59.drew | apply IsS59.set_0) | exact HI102.out))
                  (case side2 => repeat (first | (with_reducible first | exact HB.out | apply below_alloc | apply pw_below_drewN | apply below_drew1 | refine below_set ?_ (IsS59.ge HI102.out)) | exact HB.out))
                  rintro e w27 ⟨rfl,hi,hb,hk⟩
                  refine ⟨_,rfl,?_⟩
                  have n0_:=Aside0.mk (hb)
                  have n1_:=Aside0.mk (hi)
                  clear HB
                  clear HI102
                  have HB:=n0_
                  have HI102:=n1_
                  clear n0_ n1_
                  (try clear hb)
                  (try clear hb2)
                  (try clear hk)
                  (try clear hi)
                  (try simp only [errW_none,errW_some])
                  refine hK.out _ _ trivial (fun hHeld => ?_)
                  clear hK K
                  refine norm_ (a':=?_) ?_ ?_
                  rotate_left
                  ·show Act.put _ (some 43) _ = _
                   simp only [Act.put,sA_,sB_,sC_,i64_w,i32_w]
                   rfl
                  refine done_ (done_of HT_.out (by kernel_rfl)) ?_
                  try go_wp2
                  go_roundg kj12
                  case measure => have:=HK1.out;have:=HJ12.out;omega
                  case rel => exact ⟨(wrap64 (x9_1 + 1)),(t111),(by first | rfl | (simp;done) | (simp [*];done)),H',⟨by have:=HK1.out;have:=HJ12.out;omega⟩,⟨by repeat (first | (with_reducible first | exact HI102.out | apply IsS59.alloc | apply IsS59.drewN | apply IsS59.drew | apply IsS59.set_0) | exact HI102.out)⟩,⟨by repeat (first | (with_reducible first | exact HB.out | apply below_alloc | apply pw_below_drewN | apply below_drew1 | refine below_set ?_ (IsS59.ge HI102.out)) | exact HB.out)⟩⟩
                 ·rw [if_neg c24] at H
                  exact absurd H (by simp)
                ·rw [if_neg c23] at H
                 exact absurd H (by simp)
               ·rw [if_neg c22] at H
                exact absurd H (by simp)
              ·rw [if_neg c21] at H
               exact absurd H (by simp)
             ·rw [if_neg c20] at H
              exact absurd H (by simp)
            ·rw [if_neg c19] at H
             exact absurd H (by simp)
           ·rw [if_neg c18] at H
            exact absurd H (by simp)
          ·rw [if_neg c17] at H
           exact absurd H (by simp)
         ·replace c15:=Bool.eq_false_iff.mpr c15
          subst c15
          have H1 : (if (bt a0 x9_1) = 34 then ((strings_Builder_WriteByte.f x103000_1 92).bind fun bt112 => ((strings_Builder_WriteByte.f bt112.2 (bt a0 x9_1)).bind fun bt114 => (quote_Put.l0 kj12 a0 (a0.size : Int) (wrap64 (x9_1 + 1)) bt114.2))) else (if (bt a0 x9_1) = 92 then ((strings_Builder_WriteByte.f x103000_1 92).bind fun bt116 => ((strings_Builder_WriteByte.f bt116.2 (bt a0 x9_1)).bind fun bt118 => (quote_Put.l0 kj12 a0 (a0.size : Int) (wrap64 (x9_1 + 1)) bt118.2))) else ((strings_Builder_WriteByte.f x103000_1 (bt a0 x9_1)).bind fun bt120 => (quote_Put.l0 kj12 a0 (a0.size : Int) (wrap64 (x9_1 + 1)) bt120.2)))) = some r:=by rw [if_neg (show ¬ (false = true) by decide)] at H;exact H
          clear H
          have H:=H1
          clear H1
          by_cases c28 : (bt a0 x9_1) = 34
          ·rw [if_pos c28] at H
           have c28b0 : ((bt a0 x9_1) == 34) = true:=beq_iff_eq.mpr c28
           have c28b1 : ((bt a0 x9_1) != 34) = false:=bne_eq_false_iff_eq.mpr c28
           clear c28
           replace H:=Option.bind_eq_some_iff.mp H
           obtain ⟨⟨t112,t113⟩,A290,H⟩:=H
           replace H : ((strings_Builder_WriteByte.f t113 (bt a0 x9_1)).bind fun bt114 => (quote_Put.l0 kj12 a0 (a0.size : Int) (wrap64 (x9_1 + 1)) bt114.2)) = some r:=H
           have A29:=Aside0.mk A290
           clear A290
           replace H:=Option.bind_eq_some_iff.mp H
           obtain ⟨⟨t114,t115⟩,A300,H⟩:=H
           replace H : (quote_Put.l0 kj12 a0 (a0.size : Int) (wrap64 (x9_1 + 1)) t115) = some r:=H
           have A30:=Aside0.mk A300
           clear A300
           have H':=Aside0.mk H
           clear H
           go_wp2_with (first | ((with_reducible refine gate_callee (f:=28) rfl ?_);refine goesL_ (some 44) rfl rfl Try.func28 (by kernel_rfl) rfl #[.pointer (some ⟨g102,0,none⟩),.int .u8 92] rfl (by (try simp only [List.map_toArray,List.map_cons,List.map_nil]);first | done | rfl | (simp only [List.length_drop,List.length_take];rfl)) ?_;(with_reducible refine (strings_Builder_WriteByte.calls g102 x103000_1 92 t112 t113 w _ ?side1 ?side2 A29.out).mono ?_);(case side1 => repeat (first | (with_reducible first | exact HI102.out | apply IsS59.alloc | apply IsS59.drewN | apply IsS59.drew | apply IsS59.set_0) | exact HI102.out));(case side2 => repeat (first | (with_reducible first | exact HB.out | apply below_alloc | apply pw_below_drewN | apply below_drew1 | refine below_set ?_ (IsS59.ge HI102.out)) | exact HB.out));rintro e w31 ⟨rfl,hi,hb,hk⟩;refine ⟨_,rfl,?_⟩;have n0_:=Aside0.mk (hb);have n1_:=Aside0.mk (hi);clear HB;clear HI102;have HB:=n0_;have HI102:=n1_;clear n0_ n1_;(try clear hb);(try clear hb2);(try clear hk);(try clear hi);(try simp only [errW_none,errW_some])) | ((with_reducible refine gate_callee (f:=28) rfl ?_);refine goesL_ (some 46) rfl rfl Try.func28 (by kernel_rfl) rfl #[.pointer (some ⟨g102,0,none⟩),.int .u8 (bt a0 x9_1)] rfl (by (try simp only [List.map_toArray,List.map_cons,List.map_nil]);first | done | rfl | (simp only [List.length_drop,List.length_take];rfl)) ?_;(with_reducible refine (strings_Builder_WriteByte.calls g102 t113 (bt a0 x9_1) t114 t115 w _ ?side1 ?side2 A30.out).mono ?_);(case side1 => repeat (first | (with_reducible first | exact HI102.out | apply IsS59.alloc | apply IsS59.drewN | apply IsS59.drew | apply IsS59.set_0) | exact HI102.out));(case side2 => repeat (first | (with_reducible first | exact HB.out | apply below_alloc | apply pw_below_drewN | apply below_drew1 | refine below_set ?_ (IsS59.ge HI102.out)) | exact HB.out));rintro e w32 ⟨rfl,hi,hb,hk⟩;refine ⟨_,rfl,?_⟩;have n0_:=Aside0.mk (hb);have n1_:=Aside0.mk (hi);clear HB;clear HI102;have HB:=n0_;have HI102:=n1_;clear n0_ n1_;(try clear hb);(try clear hb2);(try clear hk);(try clear hi);(try simp only [errW_none,errW_some])))
           go_roundg kj12
           case measure => have:=HK1.out;have:=HJ12.out;omega
           case rel => exact ⟨(wrap64 (x9_1 + 1)),(t115),(by first | rfl | (simp;done) | (simp [*];done)),H',⟨by have:=HK1.out;have:=HJ12.out;omega⟩,⟨by repeat (first | (with_reducible first | exact HI102.out | apply IsS59.alloc | apply IsS59.drewN | apply IsS59.drew | apply IsS59.set_0) | exact HI102.out)⟩,⟨by repeat (first | (with_reducible first | exact HB.out | apply below_alloc | apply pw_below_drewN | apply below_drew1 | refine below_set ?_ (IsS59.ge HI102.out)) | exact HB.out)⟩⟩
          ·rw [if_neg c28] at H
           have c28b0 : ((bt a0 x9_1) == 34) = false:=beq_eq_false_iff_ne.mpr c28
           have c28b1 : ((bt a0 x9_1) != 34) = true:=bne_iff_ne.mpr c28
           by_cases c33 : (bt a0 x9_1) = 92
           ·rw [if_pos c33] at H
            have c33b0 : ((bt a0 x9_1) == 92) = true:=beq_iff_eq.mpr c33
            have c33b1 : ((bt a0 x9_1) != 92) = false:=bne_eq_false_iff_eq.mpr c33
            clear c33
            replace H:=Option.bind_eq_some_iff.mp H
            obtain ⟨⟨t116,t117⟩,A340,H⟩:=H
            replace H : ((strings_Builder_WriteByte.f t117 (bt a0 x9_1)).bind fun bt118 => (quote_Put.l0 kj12 a0 (a0.size : Int) (wrap64 (x9_1 + 1)) bt118.2)) = some r:=H
            have A34:=Aside0.mk A340
            clear A340
            replace H:=Option.bind_eq_some_iff.mp H
            obtain ⟨⟨t118,t119⟩,A350,H⟩:=H
            replace H : (quote_Put.l0 kj12 a0 (a0.size : Int) (wrap64 (x9_1 + 1)) t119) = some r:=H
            have A35:=Aside0.mk A350
            clear A350
            have H':=Aside0.mk H
            clear H
            go_wp2_with (first | ((with_reducible refine gate_callee (f:=28) rfl ?_);refine goesL_ (some 44) rfl rfl Try.func28 (by kernel_rfl) rfl #[.pointer (some ⟨g102,0,none⟩),.int .u8 92] rfl (by (try simp only [List.map_toArray,List.map_cons,List.map_nil]);first | done | rfl | (simp only [List.length_drop,List.length_take];rfl)) ?_;(with_reducible refine (strings_Builder_WriteByte.calls g102 x103000_1 92 t116 t117 w _ ?side1 ?side2 A34.out).mono ?_);(case side1 => repeat (first | (with_reducible first | exact HI102.out | apply IsS59.alloc | apply IsS59.drewN | apply IsS59.drew | apply IsS59.set_0) | exact HI102.out));(case side2 => repeat (first | (with_reducible first | exact HB.out | apply below_alloc | apply pw_below_drewN | apply below_drew1 | refine below_set ?_ (IsS59.ge HI102.out)) | exact HB.out));rintro e w36 ⟨rfl,hi,hb,hk⟩;refine ⟨_,rfl,?_⟩;have n0_:=Aside0.mk (hb);have n1_:=Aside0.mk (hi);clear HB;clear HI102;have HB:=n0_;have HI102:=n1_;clear n0_ n1_;(try clear hb);(try clear hb2);(try clear hk);(try clear hi);(try simp only [errW_none,errW_some])) | ((with_reducible refine gate_callee (f:=28) rfl ?_);refine goesL_ (some 46) rfl rfl Try.func28 (by kernel_rfl) rfl #[.pointer (some ⟨g102,0,none⟩),.int .u8 (bt a0 x9_1)] rfl (by (try simp only [List.map_toArray,List.map_cons,List.map_nil]);first | done | rfl | (simp only [List.length_drop,List.length_take];rfl)) ?_;(with_reducible refine (strings_Builder_WriteByte.calls g102 t117 (bt a0 x9_1) t118 t119 w _ ?side1 ?side2 A35.out).mono ?_);(case side1 => repeat (first | (with_reducible first | exact HI102.out | apply IsS59.alloc | apply IsS59.drewN | apply IsS59.drew | apply IsS59.set_0) | exact HI102.out));(case side2 => repeat (first | (with_reducible first | exact HB.out | apply below_alloc | apply pw_below_drewN | apply below_drew1 | refine below_set ?_ (IsS59.ge HI102.out)) | exact HB.out));rintro e w37 ⟨rfl,hi,hb,hk⟩;refine ⟨_,rfl,?_⟩;have n0_:=Aside0.mk (hb);have n1_:=Aside0.mk (hi);clear HB;clear HI102;have HB:=n0_;have HI102:=n1_;clear n0_ n1_;(try clear hb);(try clear hb2);(try clear hk);(try clear hi);(try simp only [errW_none,errW_some])))
            go_roundg kj12
            case measure => have:=HK1.out;have:=HJ12.out;omega
            case rel => exact ⟨(wrap64 (x9_1 + 1)),(t119),(by first | rfl | (simp;done) | (simp [*];done)),H',⟨by have:=HK1.out;have:=HJ12.out;omega⟩,⟨by repeat (first | (with_reducible first | exact HI102.out | apply IsS59.alloc | apply IsS59.drewN | apply IsS59.drew | apply IsS59.set_0) | exact HI102.out)⟩,⟨by repeat (first | (with_reducible first | exact HB.out | apply below_alloc | apply pw_below_drewN | apply below_drew1 | refine below_set ?_ (IsS59.ge HI102.out)) | exact HB.out)⟩⟩
           ·rw [if_neg c33] at H
            have c33b0 : ((bt a0 x9_1) == 92) = false:=beq_eq_false_iff_ne.mpr c33
            have c33b1 : ((bt a0 x9_1) != 92) = true:=bne_iff_ne.mpr c33
            replace H:=Option.bind_eq_some_iff.mp H
            obtain ⟨⟨t120,t121⟩,A380,H⟩:=H
            replace H : (quote_Put.l0 kj12 a0 (a0.size : Int) (wrap64 (x9_1 + 1)) t121) = some r:=H
            have A38:=Aside0.mk A380
            clear A380
            have H':=Aside0.mk H
            clear H
            go_wp2_with (first | ((with_reducible refine gate_callee (f:=28) rfl ?_);refine goesL_ (some 46) rfl rfl Try.func28 (by kernel_rfl) rfl #[.pointer (some ⟨g102,0,none⟩),.int .u8 (bt a0 x9_1)] rfl (by (try simp only [List.map_toArray,List.map_cons,List.map_nil]);first | done | rfl | (simp only [List.length_drop,List.length_take];rfl)) ?_;(with_reducible refine (strings_Builder_WriteByte.calls g102 x103000_1 (bt a0 x9_1) t120 t121 w _ ?side1 ?side2 A38.out).mono ?_);(case side1 => repeat (first | (with_reducible first | exact HI102.out | apply IsS59.alloc | apply IsS59.drewN | apply IsS59.drew | apply IsS59.set_0) | exact HI102.out));(case side2 => repeat (first | (with_reducible first | exact HB.out | apply below_alloc | apply pw_below_drewN | apply below_drew1 | refine below_set ?_ (IsS59.ge HI102.out)) | exact HB.out));rintro e w39 ⟨rfl,hi,hb,hk⟩;refine ⟨_,rfl,?_⟩;have n0_:=Aside0.mk (hb);have n1_:=Aside0.mk (hi);clear HB;clear HI102;have HB:=n0_;have HI102:=n1_;clear n0_ n1_;(try clear hb);(try clear hb2);(try clear hk);(try clear hi);(try simp only [errW_none,errW_some])))
            go_roundg kj12
            case measure => have:=HK1.out;have:=HJ12.out;omega
            case rel => exact ⟨(wrap64 (x9_1 + 1)),(t121),(by first | rfl | (simp;done) | (simp [*];done)),H',⟨by have:=HK1.out;have:=HJ12.out;omega⟩,⟨by repeat (first | (with_reducible first | exact HI102.out | apply IsS59.alloc | apply IsS59.drewN | apply IsS59.drew | apply IsS59.set_0) | exact HI102.out)⟩,⟨by repeat (first | (with_reducible first | exact HB.out | apply below_alloc | apply pw_below_drewN | apply below_drew1 | refine below_set ?_ (IsS59.ge HI102.out)) | exact HB.out)⟩⟩
     ·rw [if_neg c8] at H
      exact absurd H (by simp)
    ·rw [if_neg c7] at H
     exact absurd H (by simp)
   ·rw [if_neg c6] at H
    have c6b0 : decide (x9_1 < (a0.size : Int)) = false:=decide_eq_false c6
    clear c6
    replace H:=Option.bind_eq_some_iff.mp H
    obtain ⟨⟨t105,t106⟩,A400,H⟩:=H
    replace H : ((strings_Builder_String.f t106).bind fun bt107 => (some bt107.1)) = some r:=H
    have A40:=Aside0.mk A400
    clear A400
    replace H:=Option.bind_eq_some_iff.mp H
    obtain ⟨⟨t107,t108⟩,A410,H⟩:=H
    replace H : (some t107) = some r:=H
    have A41:=Aside0.mk A410
    clear A410
    obtain rfl:=Option.some.inj H
    go_wp2_with (first | ((with_reducible refine gate_callee (f:=28) rfl ?_);refine goesL_ (some 48) rfl rfl Try.func28 (by kernel_rfl) rfl #[.pointer (some ⟨g102,0,none⟩),.int .u8 34] rfl (by (try simp only [List.map_toArray,List.map_cons,List.map_nil]);first | done | rfl | (simp only [List.length_drop,List.length_take];rfl)) ?_;(with_reducible refine (strings_Builder_WriteByte.calls g102 x103000_1 34 t105 t106 w _ ?side1 ?side2 A40.out).mono ?_);(case side1 => repeat (first | (with_reducible first | exact HI102.out | apply IsS59.alloc | apply IsS59.drewN | apply IsS59.drew | apply IsS59.set_0) | exact HI102.out));(case side2 => repeat (first | (with_reducible first | exact HB.out | apply below_alloc | apply pw_below_drewN | apply below_drew1 | refine below_set ?_ (IsS59.ge HI102.out)) | exact HB.out));rintro e w42 ⟨rfl,hi,hb,hk⟩;refine ⟨_,rfl,?_⟩;have n0_:=Aside0.mk (hb);have n1_:=Aside0.mk (hi);clear HB;clear HI102;have HB:=n0_;have HI102:=n1_;clear n0_ n1_;(try clear hb);(try clear hb2);(try clear hk);(try clear hi);(try simp only [errW_none,errW_some])) | ((with_reducible refine gate_callee (f:=30) rfl ?_);refine goesL_ (some 49) rfl rfl Try.func30 (by kernel_rfl) rfl #[.pointer (some ⟨g102,0,none⟩)] rfl (by (try simp only [List.map_toArray,List.map_cons,List.map_nil]);first | done | rfl | (simp only [List.length_drop,List.length_take];rfl)) ?_;(with_reducible refine (strings_Builder_String.calls g102 t106 t107 t108 w _ ?side1 ?side2 A41.out).mono ?_);(case side1 => repeat (first | (with_reducible first | exact HI102.out | apply IsS59.alloc | apply IsS59.drewN | apply IsS59.drew | apply IsS59.set_0) | exact HI102.out));(case side2 => repeat (first | (with_reducible first | exact HB.out | apply below_alloc | apply pw_below_drewN | apply below_drew1 | refine below_set ?_ (IsS59.ge HI102.out)) | exact HB.out));rintro e w43 ⟨rfl,hi,hb,hk⟩;refine ⟨_,rfl,?_⟩;have n0_:=Aside0.mk (hb);have n1_:=Aside0.mk (hi);clear HB;clear HI102;have HB:=n0_;have HI102:=n1_;clear n0_ n1_;(try clear hb);(try clear hb2);(try clear hk);(try clear hi)))
    go_ret
    exact ⟨by first | rfl | (simp [errW_none,errW_some] <;> rfl) | (simp [*,errW_none,errW_some] <;> rfl),by repeat (first | (with_reducible first | exact HB.out | apply below_alloc | apply pw_below_drewN | apply below_drew1 | refine below_set ?_ (IsS59.ge HI102.out)) | exact HB.out)⟩

/-! ### tachographlaw20_fixed: function 10 -/
def tachographlaw20_fixed.f (k : Nat)  : Option (Bool) := (quote_Put.f k (⟨#[97, 34, 98]⟩ : ByteArray)).bind fun t125 => (some (t125.toList == ([34, 97, 92, 34, 98, 34] : List UInt8)))
theorem tachographlaw20_fixed.mono : ∀ k, LeO (tachographlaw20_fixed.f k ) (tachographlaw20_fixed.f (k + 1) ) := by
  intro  k
  unfold tachographlaw20_fixed.f
  repeat' first
      | (with_reducible exact quote_Put.mono _ _)
      | (with_reducible exact LeO.refl _)
      | (with_reducible exact LeO.none _)
      | (with_reducible refine LeO.ite ?_ ?_)
      | (with_reducible refine LeO.bind ?_ (fun _ => ?_))
      | exact quote_Put.mono _ _
      | exact LeO.none _
      | refine LeO.ite ?_ ?_
      | refine LeO.bind ?_ (fun _ => ?_)
set_option maxHeartbeats 8000000 in
set_option maxRecDepth 100000 in
theorem tachographlaw20_fixed.calls (k : Nat)  (r : Bool) (w : World) (h : tachographlaw20_fixed.f k  = some r) :
    Calls Try.prog 10 #[] w fun e w' => e = .returned (.bool r) ∧ Below w.heap.size w w' := by
  have HB := Aside0.mk (Below.refl w.heap.size w)
  have H : ((quote_Put.f k (⟨#[97, 34, 98]⟩ : ByteArray)).bind fun t125 => (some (t125.toList == ([34, 97, 92, 34, 98, 34] : List UInt8)))) = some r := h
  clear h
  replace H := Option.bind_eq_some_iff.mp H
  obtain ⟨t125, A10, H⟩ := H
  replace H : (some (t125.toList == ([34, 97, 92, 34, 98, 34] : List UInt8))) = some r := H
  have A1 := Aside0.mk A10
  clear A10
  obtain rfl := Option.some.inj H
  go_enter Try.func10, Try.ntmps10
  go_wp2_with (first | ((with_reducible refine gate_callee (f := 11) rfl ?_); refine goesL_ (some 1) rfl rfl Try.func11 (by kernel_rfl) rfl #[.string (⟨#[97, 34, 98]⟩ : ByteArray)] rfl (by (try simp only [List.map_toArray, List.map_cons, List.map_nil]); first | done | rfl | (simp only [List.length_drop, List.length_take]; rfl) | (refine congrArg (fun z_ => #[z_]) (congrArg (Value.int IntKind.u64) (Eq.symm (Go.Proofs.YtjfklfmfeghjnacAid.wrap_len _ (by omega)))))) ?_; (with_reducible refine (quote_Put.calls k (⟨#[97, 34, 98]⟩ : ByteArray) t125 _ A1.out).mono ?_); rintro e w2 ⟨rfl, hb⟩; refine ⟨_, rfl, ?_⟩; have n0_ := Aside0.mk (below_step (by repeat (first | (with_reducible first | exact HB.out | apply below_alloc | apply pw_below_drewN | apply below_drew1) | exact HB.out)) hb); clear HB; have HB := n0_; clear n0_; (try clear hb); (try clear hb2); (try clear hk); (try clear hi)))
  go_ret
  exact ⟨by first | rfl | (simp [errW_none, errW_some] <;> rfl) | (simp [*, errW_none, errW_some] <;> rfl), by repeat (first | (with_reducible first | exact HB.out | apply below_alloc | apply pw_below_drewN | apply below_drew1) | exact HB.out)⟩

-- NOT PRINTED: function 63 (bytealg_IndexByteString)

-- NOT PRINTED: function 49 (stringslite_IndexByte)

/-! ### strings_IndexByte: function 36 -/
def strings_IndexByte.f (a0 : ByteArray) (a1 : Int) : Option Int := some (Lib.indexByte a0.data.toList a1.toNat.toUInt8)
theorem strings_IndexByte.calls (a0 : ByteArray) (a1 : Int) (r : Int) (w : World) (h : strings_IndexByte.f a0 a1 = some r) :
    Calls Try.prog 36 #[.string a0, .int .u8 a1] w fun e w' => e = .returned (.int .i64 r) ∧ Drawn0 w w' := by
  unfold strings_IndexByte.f at h
  obtain rfl := Option.some.inj h
  refine (Go.Proofs.Try.strings_IndexByte a0 a1 w).mono ?_
  rintro e w' ⟨rfl, rfl⟩
  exact ⟨rfl, 0, rfl⟩

/-! ### quote_digit: function 41 -/
def quote_digit.f (a0 : Int) : Option (Int × Bool) := if a0 ≥ 65 then (if a0 ≤ 70 then ((strings_IndexByte.f (⟨#[48, 49, 50, 51, 52, 53, 54, 55, 56, 57, 97, 98, 99, 100, 101, 102]⟩ : ByteArray) ((a0 + 32) % 256)).bind fun t126 => (some ((mx t126 0) % 256, decide (t126 ≥ 0)))) else ((strings_IndexByte.f (⟨#[48, 49, 50, 51, 52, 53, 54, 55, 56, 57, 97, 98, 99, 100, 101, 102]⟩ : ByteArray) a0).bind fun t127 => (some ((mx t127 0) % 256, decide (t127 ≥ 0))))) else ((strings_IndexByte.f (⟨#[48, 49, 50, 51, 52, 53, 54, 55, 56, 57, 97, 98, 99, 100, 101, 102]⟩ : ByteArray) a0).bind fun t128 => (some ((mx t128 0) % 256, decide (t128 ≥ 0))))
set_option maxHeartbeats 8000000 in
set_option maxRecDepth 100000 in
theorem quote_digit.calls (a0 : Int) (r1 : Int) (r2 : Bool) (w : World) (h : quote_digit.f a0 = some (r1, r2)) :
    Calls Try.prog 41 #[.int .u8 a0] w fun e w' => e = .returned (.tuple #[.int .u8 r1, .bool r2]) ∧ Below w.heap.size w w' := by
  have HB := Aside0.mk (Below.refl w.heap.size w)
  have H : (if a0 ≥ 65 then (if a0 ≤ 70 then ((strings_IndexByte.f (⟨#[48, 49, 50, 51, 52, 53, 54, 55, 56, 57, 97, 98, 99, 100, 101, 102]⟩ : ByteArray) ((a0 + 32) % 256)).bind fun t126 => (some ((mx t126 0) % 256, decide (t126 ≥ 0)))) else ((strings_IndexByte.f (⟨#[48, 49, 50, 51, 52, 53, 54, 55, 56, 57, 97, 98, 99, 100, 101, 102]⟩ : ByteArray) a0).bind fun t127 => (some ((mx t127 0) % 256, decide (t127 ≥ 0))))) else ((strings_IndexByte.f (⟨#[48, 49, 50, 51, 52, 53, 54, 55, 56, 57, 97, 98, 99, 100, 101, 102]⟩ : ByteArray) a0).bind fun t128 => (some ((mx t128 0) % 256, decide (t128 ≥ 0))))) = some (r1, r2) := h
  clear h
  by_cases c2 : a0 ≥ 65
  · rw [if_pos c2] at H
    have c2b0 : decide (65 ≤ a0) = true := decide_eq_true c2
    clear c2
    by_cases c3 : a0 ≤ 70
    · rw [if_pos c3] at H
      have c3b0 : decide (a0 ≤ 70) = true := decide_eq_true c3
      clear c3
      replace H := Option.bind_eq_some_iff.mp H
      obtain ⟨t126, A40, H⟩ := H
      replace H : (some ((mx t126 0) % 256, decide (t126 ≥ 0))) = some (r1, r2) := H
      have A4 := Aside0.mk A40
      clear A40
      obtain ⟨ji5, hji5⟩ : ∃ j_ : Int, (mx t126 0) = j_ := ⟨_, rfl⟩
      replace H : (some ((ji5) % 256, decide (t126 ≥ 0))) = some (r1, r2) := by first | (rw [hji5] at H; exact H) | (simp only [hji5] at H ⊢; exact H)
      (try rw [hji5] at A4)
      (try (have hji5l : 0 ≤ ji5 := by (rw [← hji5]; unfold mx; (repeat' split) <;> omega)))
      (try (have hji5m : 0 ≤ ji5 := by omega))
      have hji5_ : (if t126 < 0 then 0 else t126) = ji5 := hji5
      simp only [Option.some.injEq, Prod.mk.injEq] at H
      obtain ⟨rfl, rfl⟩ := H
      go_enter Try.func41, Try.ntmps41
      go_wp2_with (first | ((with_reducible refine gate_callee (f := 36) rfl ?_); refine goesL_ (some 14) rfl rfl Try.func36 (by kernel_rfl) rfl #[.string (⟨#[48, 49, 50, 51, 52, 53, 54, 55, 56, 57, 97, 98, 99, 100, 101, 102]⟩ : ByteArray), .int .u8 ((a0 + 32) % 256)] rfl (by (try simp only [List.map_toArray, List.map_cons, List.map_nil]); first | done | rfl | (simp only [List.length_drop, List.length_take]; rfl) | (refine congrArg (fun z_ => #[z_]) (congrArg (Value.int IntKind.u64) (Eq.symm (Go.Proofs.YtjfklfmfeghjnacAid.wrap_len _ (by omega)))))) ?_; (with_reducible refine (strings_IndexByte.calls (⟨#[48, 49, 50, 51, 52, 53, 54, 55, 56, 57, 97, 98, 99, 100, 101, 102]⟩ : ByteArray) ((a0 + 32) % 256) t126 _ A4.out).mono ?_); rintro e w' ⟨rfl, ⟨nd, rfl⟩⟩; refine ⟨_, rfl, ?_⟩))
      go_ret2
      exact ⟨by first | rfl | (simp [errW_none, errW_some] <;> rfl) | (simp only [← hji5]; first | rfl | (simp [errW_none, errW_some] <;> rfl)) | (simp [*, errW_none, errW_some] <;> rfl), by repeat (first | (with_reducible first | exact HB.out | apply below_alloc | apply pw_below_drewN | apply below_drew1) | exact HB.out)⟩
    · rw [if_neg c3] at H
      have c3b0 : decide (a0 ≤ 70) = false := decide_eq_false c3
      clear c3
      replace H := Option.bind_eq_some_iff.mp H
      obtain ⟨t127, A60, H⟩ := H
      replace H : (some ((mx t127 0) % 256, decide (t127 ≥ 0))) = some (r1, r2) := H
      have A6 := Aside0.mk A60
      clear A60
      obtain ⟨ji7, hji7⟩ : ∃ j_ : Int, (mx t127 0) = j_ := ⟨_, rfl⟩
      replace H : (some ((ji7) % 256, decide (t127 ≥ 0))) = some (r1, r2) := by first | (rw [hji7] at H; exact H) | (simp only [hji7] at H ⊢; exact H)
      (try rw [hji7] at A6)
      (try (have hji7l : 0 ≤ ji7 := by (rw [← hji7]; unfold mx; (repeat' split) <;> omega)))
      (try (have hji7m : 0 ≤ ji7 := by omega))
      have hji7_ : (if t127 < 0 then 0 else t127) = ji7 := hji7
      simp only [Option.some.injEq, Prod.mk.injEq] at H
      obtain ⟨rfl, rfl⟩ := H
      go_enter Try.func41, Try.ntmps41
      go_wp2_with (first | ((with_reducible refine gate_callee (f := 36) rfl ?_); refine goesL_ (some 14) rfl rfl Try.func36 (by kernel_rfl) rfl #[.string (⟨#[48, 49, 50, 51, 52, 53, 54, 55, 56, 57, 97, 98, 99, 100, 101, 102]⟩ : ByteArray), .int .u8 a0] rfl (by (try simp only [List.map_toArray, List.map_cons, List.map_nil]); first | done | rfl | (simp only [List.length_drop, List.length_take]; rfl) | (refine congrArg (fun z_ => #[z_]) (congrArg (Value.int IntKind.u64) (Eq.symm (Go.Proofs.YtjfklfmfeghjnacAid.wrap_len _ (by omega)))))) ?_; (with_reducible refine (strings_IndexByte.calls (⟨#[48, 49, 50, 51, 52, 53, 54, 55, 56, 57, 97, 98, 99, 100, 101, 102]⟩ : ByteArray) a0 t127 _ A6.out).mono ?_); rintro e w' ⟨rfl, ⟨nd, rfl⟩⟩; refine ⟨_, rfl, ?_⟩))
      go_ret2
      exact ⟨by first | rfl | (simp [errW_none, errW_some] <;> rfl) | (simp only [← hji7]; first | rfl | (simp [errW_none, errW_some] <;> rfl)) | (simp [*, errW_none, errW_some] <;> rfl), by repeat (first | (with_reducible first | exact HB.out | apply below_alloc | apply pw_below_drewN | apply below_drew1) | exact HB.out)⟩
  · rw [if_neg c2] at H
    have c2b0 : decide (65 ≤ a0) = false := decide_eq_false c2
    clear c2
    replace H := Option.bind_eq_some_iff.mp H
    obtain ⟨t128, A80, H⟩ := H
    replace H : (some ((mx t128 0) % 256, decide (t128 ≥ 0))) = some (r1, r2) := H
    have A8 := Aside0.mk A80
    clear A80
    obtain ⟨ji9, hji9⟩ : ∃ j_ : Int, (mx t128 0) = j_ := ⟨_, rfl⟩
    replace H : (some ((ji9) % 256, decide (t128 ≥ 0))) = some (r1, r2) := by first | (rw [hji9] at H; exact H) | (simp only [hji9] at H ⊢; exact H)
    (try rw [hji9] at A8)
    (try (have hji9l : 0 ≤ ji9 := by (rw [← hji9]; unfold mx; (repeat' split) <;> omega)))
    (try (have hji9m : 0 ≤ ji9 := by omega))
    have hji9_ : (if t128 < 0 then 0 else t128) = ji9 := hji9
    simp only [Option.some.injEq, Prod.mk.injEq] at H
    obtain ⟨rfl, rfl⟩ := H
    go_enter Try.func41, Try.ntmps41
    go_wp2_with (first | ((with_reducible refine gate_callee (f := 36) rfl ?_); refine goesL_ (some 14) rfl rfl Try.func36 (by kernel_rfl) rfl #[.string (⟨#[48, 49, 50, 51, 52, 53, 54, 55, 56, 57, 97, 98, 99, 100, 101, 102]⟩ : ByteArray), .int .u8 a0] rfl (by (try simp only [List.map_toArray, List.map_cons, List.map_nil]); first | done | rfl | (simp only [List.length_drop, List.length_take]; rfl) | (refine congrArg (fun z_ => #[z_]) (congrArg (Value.int IntKind.u64) (Eq.symm (Go.Proofs.YtjfklfmfeghjnacAid.wrap_len _ (by omega)))))) ?_; (with_reducible refine (strings_IndexByte.calls (⟨#[48, 49, 50, 51, 52, 53, 54, 55, 56, 57, 97, 98, 99, 100, 101, 102]⟩ : ByteArray) a0 t128 _ A8.out).mono ?_); rintro e w' ⟨rfl, ⟨nd, rfl⟩⟩; refine ⟨_, rfl, ?_⟩))
    go_ret2
    exact ⟨by first | rfl | (simp [errW_none, errW_some] <;> rfl) | (simp only [← hji9]; first | rfl | (simp [errW_none, errW_some] <;> rfl)) | (simp [*, errW_none, errW_some] <;> rfl), by repeat (first | (with_reducible first | exact HB.out | apply below_alloc | apply pw_below_drewN | apply below_drew1) | exact HB.out)⟩

end Go.Proofs.Ytjfklfmfeghjnac.PQ
