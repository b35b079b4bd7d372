-- Contracts of Go functions, each with its plain Lean function: written by wip/tools/myprint.py of this work (the kit's print, with contracts proved by hand spliced in).
import Derived.Test.YtjfklfmfeghjnaaPAx0
import Derived.Test.YtjfklfmfeghjnaaPAx2
import Derived.Test.YtjfklfmfeghjnaaPAx6
namespace Go.Proofs.Ytjfklfmfeghjnaa.PA
open Go.RowKit Go.Proofs.YtjfklfmfeghjnaaW.PrintWords Go.Proofs.YtjfklfmfeghjnaaW.PrintLast Go.Proofs.YtjfklfmfeghjnaaW.PrintMore
attribute [local go_sem] max2_int min2_int max_two min_two max_three min_three max_four min_four   -- for this text's walks alone
set_option linter.unusedVariables false
set_option linter.unusedSimpArgs false

/-! ### tachographlaw02_BlobAll: function 9 -/
mutual
def tachographlaw02_BlobAll.l0 : Nat → List ByteArray → Int → List Int → Int → List ByteArray → Int → Int → Option (Bool)
 | 0, _, _, _, _, _, _, _ => none
 | k + 1, x0, x1, x5, x6, x16, x17, x18 => if x18 < x17 then (if 0 ≤ x18 then (if x18 < (x16.length : Int) then (if ((rdOf ByteArray.empty x16 x18).size : Int) > 300 then ((tachographlaw02_fixed.f).bind fun t177 => (some t177)) else ((blob_Put.f x5 (rdOf ByteArray.empty x16 x18)).bind fun t178 => (tachographlaw02_BlobAll.l0 k x0 x1 t178 (x5.length : Int) x16 x17 (wrap64 (x18 + 1))))) else (none)) else (none)) else ((blob_All.f k x5 300).bind fun bt181 => ((tachographref02_Same.f k bt181.1 x0).bind fun t185 => (if t185 = true then (if bt181.2 = 0 then (if (x5.length : Int) ≤ x6 then (tachographlaw02_BlobAll.j1 k x0 x1 x5 x6 (decide ((x0.length : Int) > 0))) else (tachographlaw02_BlobAll.j1 k x0 x1 x5 x6 false)) else (tachographlaw02_BlobAll.j1 k x0 x1 x5 x6 true)) else (tachographlaw02_BlobAll.j1 k x0 x1 x5 x6 true))))
def tachographlaw02_BlobAll.j1 : Nat → List ByteArray → Int → List Int → Int → Bool → Option (Bool)
 | 0, _, _, _, _, _ => none
 | k + 1, x0, x1, x5, x6, x55 => if x55 = true then (some false) else (if (x0.length : Int) = 0 then ((tachographlaw02_fixed.f).bind fun t186 => (some t186)) else (if (wrap64 ((x5.length : Int) - x6)) = 0 then (none) else (if 0 ≤ (wrap64 (x6 + (Int.tmod (wrap64 (x1)) (wrap64 ((x5.length : Int) - x6))))) then (if (wrap64 (x6 + (Int.tmod (wrap64 (x1)) (wrap64 ((x5.length : Int) - x6))))) ≤ (x5.length : Int) then ((blob_All.f k (x5.take ((wrap64 (x6 + (Int.tmod (wrap64 (x1)) (wrap64 ((x5.length : Int) - x6))))) : Int).toNat) 300).bind fun bt191 => (if (wrap64 (x6 + (Int.tmod (wrap64 (x1)) (wrap64 ((x5.length : Int) - x6))))) = x6 then ((tachographlaw02_fixed.f).bind fun t195 => (if t195 = true then (if bt191.2 = 0 then (if 0 ≤ (wrap64 ((x0.length : Int) - 1)) then (if (wrap64 ((x0.length : Int) - 1)) ≤ (x0.length : Int) then ((tachographref02_Same.f k bt191.1 (x0.take ((wrap64 ((x0.length : Int) - 1)) : Int).toNat)).bind fun t197 => (some t197)) else (none)) else (none)) else (some false)) else (some false))) else ((tachographlaw02_fixed.f).bind fun t198 => (if t198 = true then (if bt191.2 = 2 then (some ((bt191.1.length : Int) == 0)) else (some false)) else (some false))))) else (none)) else (none))))
end
def tachographlaw02_BlobAll.f (k : Nat) (l0 : List ByteArray) (a1 : Int) : Option (Bool) := if (l0.length : Int) > 60 then ((tachographlaw02_fixed.f).bind fun t175 => (some t175)) else (tachographlaw02_BlobAll.l0 k l0 a1 ([] : List Int) 0 l0 (l0.length : Int) 0)
theorem tachographlaw02_BlobAll.mono_l : ∀ k, (∀ y0 y1 y2 y3 y4 y5 y6, LeO (tachographlaw02_BlobAll.l0 k y0 y1 y2 y3 y4 y5 y6) (tachographlaw02_BlobAll.l0 (k + 1) y0 y1 y2 y3 y4 y5 y6)) ∧ (∀ y0 y1 y2 y3 y4, LeO (tachographlaw02_BlobAll.j1 k y0 y1 y2 y3 y4) (tachographlaw02_BlobAll.j1 (k + 1) y0 y1 y2 y3 y4))
 | 0 => ⟨fun _ _ _ _ _ _ _ r h => by simp [tachographlaw02_BlobAll.l0] at h, fun _ _ _ _ _ r h => by simp [tachographlaw02_BlobAll.j1] at h⟩
 | k + 1 => by
  obtain ⟨ih0, ih1⟩ := tachographlaw02_BlobAll.mono_l k
  refine ⟨?_, ?_⟩
  ·intro y0 y1 y2 y3 y4 y5 y6
   unfold tachographlaw02_BlobAll.l0
   repeat' first
   | (with_reducible exact ih0 _ _ _ _ _ _ _)
   | (with_reducible exact ih1 _ _ _ _ _)
   | (with_reducible exact blob_All.mono _ _ _)
   | (with_reducible exact tachographref02_Same.mono _ _ _)
   | (with_reducible exact LeO.refl _)
   | (with_reducible exact LeO.none _)
   | (with_reducible refine LeO.ite ?_ ?_)
   | (with_reducible refine LeO.bind ?_ (fun _ => ?_))
   | exact ih0 _ _ _ _ _ _ _
   | exact ih1 _ _ _ _ _
   | exact blob_All.mono _ _ _
   | exact tachographref02_Same.mono _ _ _
   | exact LeO.none _
   | refine LeO.ite ?_ ?_
   | refine LeO.bind ?_ (fun _ => ?_)
  ·intro y0 y1 y2 y3 y4
   unfold tachographlaw02_BlobAll.j1
   repeat' first
   | (with_reducible exact ih0 _ _ _ _ _ _ _)
   | (with_reducible exact ih1 _ _ _ _ _)
   | (with_reducible exact blob_All.mono _ _ _)
   | (with_reducible exact tachographref02_Same.mono _ _ _)
   | (with_reducible exact LeO.refl _)
   | (with_reducible exact LeO.none _)
   | (with_reducible refine LeO.ite ?_ ?_)
   | (with_reducible refine LeO.bind ?_ (fun _ => ?_))
   | exact ih0 _ _ _ _ _ _ _
   | exact ih1 _ _ _ _ _
   | exact blob_All.mono _ _ _
   | exact tachographref02_Same.mono _ _ _
   | exact LeO.none _
   | refine LeO.ite ?_ ?_
   | refine LeO.bind ?_ (fun _ => ?_)
theorem tachographlaw02_BlobAll.mono : ∀ a0 a1 k, LeO (tachographlaw02_BlobAll.f k a0 a1) (tachographlaw02_BlobAll.f (k + 1) a0 a1) := by
 intro a0 a1 k
 obtain ⟨ih0, ih1⟩ := tachographlaw02_BlobAll.mono_l k
 unfold tachographlaw02_BlobAll.f
 repeat' first
   | (with_reducible exact ih0 _ _ _ _ _ _ _)
   | (with_reducible exact ih1 _ _ _ _ _)
   | (with_reducible exact blob_All.mono _ _ _)
   | (with_reducible exact tachographref02_Same.mono _ _ _)
   | (with_reducible exact LeO.refl _)
   | (with_reducible exact LeO.none _)
   | (with_reducible refine LeO.ite ?_ ?_)
   | (with_reducible refine LeO.bind ?_ (fun _ => ?_))
   | exact ih0 _ _ _ _ _ _ _
   | exact ih1 _ _ _ _ _
   | exact blob_All.mono _ _ _
   | exact tachographref02_Same.mono _ _ _
   | exact LeO.none _
   | refine LeO.ite ?_ ?_
   | refine LeO.bind ?_ (fun _ => ?_)
set_option maxHeartbeats 8000000 in
set_option maxRecDepth 100000 in
theorem tachographlaw02_BlobAll.calls (k : Nat) (A0 : Option Addr) (c0 : Nat) (l0 : List ByteArray) (a1 : Int) (r : Bool) (w : World) (hr0 : Kd.C Kd.string w A0 l0.length l0) (hc0 : l0.length ≤ c0) (h : tachographlaw02_BlobAll.f k l0 a1 = some r) :
  Calls Try.prog 9 #[.slice A0 l0.length c0,.int .u16 a1] w fun e w' => e = .returned (.bool r) ∧ Below w.heap.size w w':=by
 have HR0:=Aside0.mk hr0
 have HC0:=Aside0.mk hc0
 clear hr0 hc0
 have HB:=Aside0.mk (Below.refl w.heap.size w)
 have H : (if (l0.length : Int) > 60 then ((tachographlaw02_fixed.f).bind fun t175 => (some t175)) else (tachographlaw02_BlobAll.l0 k l0 a1 ([] : List Int) 0 l0 (l0.length : Int) 0)) = some r:=h
 clear h
 by_cases c3 : (l0.length : Int) > 60
 ·rw [if_pos c3] at H
  have c3b0 : decide (60 < (l0.length : Int)) = true:=decide_eq_true c3
  have c3b1 : decide (60 < l0.length) = true:=decide_eq_true (by omega)
  clear c3
  replace H:=Option.bind_eq_some_iff.mp H
  obtain ⟨t175,A40,H⟩:=H
  replace H : (some t175) = some r:=H
  have A4:=Aside0.mk A40
  clear A40
  obtain rfl:=Option.some.inj H
  go_enter Try.func9,Try.ntmps9
  go_wp2_with (first | ((with_reducible refine gate_callee (f:=25) rfl ?_);refine goesL_ (some 15) rfl rfl Try.func25 (by kernel_rfl) rfl #[] rfl (by (try simp only [List.map_toArray,List.map_cons,List.map_nil]);first | done | rfl | (simp only [List.length_drop,List.length_take];rfl)) ?_;(with_reducible refine (tachographlaw02_fixed.calls  t175 _ A4.out).mono ?_);rintro e w5 ⟨rfl,hb⟩;refine ⟨_,rfl,?_⟩;have n0_:=Aside0.mk (below_step (by repeat (first | (with_reducible first | exact HB.out | apply below_alloc | apply pw_below_drewN | apply below_drew1) | exact HB.out)) hb);clear HB;have HB:=n0_;clear n0_;(try clear hb);(try clear hb2);(try clear hk);(try clear hi)))
  go_ret
  exact ⟨by first | rfl | (simp [errW_none,errW_some] <;> rfl) | (simp [*,errW_none,errW_some] <;> rfl),by repeat (first | (with_reducible first | exact HB.out | apply below_alloc | apply pw_below_drewN | apply below_drew1) | exact HB.out)⟩
 ·rw [if_neg c3] at H
  have c3b0 : decide (60 < (l0.length : Int)) = false:=decide_eq_false c3
  have c3b1 : decide (60 < l0.length) = false:=decide_eq_false (by omega)
  clear c3
  have H':=Aside0.mk H
  clear H
  go_enter Try.func9,Try.ntmps9
  go_wp2
  go_loopg [5,6,18] k (fun kq v5 v6 v18 w' => ∃ (x5_1 : List Int) (x6_1 : Int) (x18_1 : Int),v6 = .int .i64 x6_1 ∧ v18 = .int .i64 x18_1 ∧ Aside0 (tachographlaw02_BlobAll.l0 kq l0 a1 x5_1 x6_1 l0 (l0.length : Int) x18_1 = some r) ∧ Aside0 (kq ≤ k) ∧ Aside0 (Kd.R (Kd.int .u8) 5 w' w.heap.size (fun _ => True) v5 x5_1) ∧ Aside0 (Below w.heap.size w w'))
  case atStart => exact ⟨(([] : List Int)),(0),(0),(by first | rfl | (simp;done) | (simp [*];done)),(by first | rfl | (simp;done) | (simp [*];done)),H',⟨Nat.le_refl _⟩,⟨by first | exact Kd.R_nil _ _ _ _ _ | exact Kd.N_nil _ _ _ _ _ | exact Kd.V_nil _ _ _ _ _ | exact Kd.Q_nil _ _ _ _ _ | exact Kd.S_nil _ _ _ _ _⟩,⟨by repeat (first | (with_reducible first | exact HB.out | apply below_alloc | apply pw_below_drewN | apply below_drew1) | exact HB.out)⟩⟩
  case round =>
   clear H'
   try clear c2
   try clear p2
   try clear c3
   try clear c3b0
   try clear c3b1
   obtain ⟨x5_1,x6_1,x18_1,rfl,rfl,HA,HK1,HO_5,HB⟩:=hrel
   cases gk with
   | zero => exact absurd HA.out (by simp [tachographlaw02_BlobAll.l0])
   | succ k1 =>
    have H:=HA.out
    clear HA
    simp only [tachographlaw02_BlobAll.l0] at H
    by_cases c6 : x18_1 < (l0.length : Int)
    ·rw [if_pos c6] at H
     have c6b0 : decide (x18_1 < (l0.length : Int)) = true:=decide_eq_true c6
     clear c6
     by_cases c7 : 0 ≤ x18_1
     ·rw [if_pos c7] at H
      have c7b0 : decide (0 ≤ x18_1) = true:=decide_eq_true c7
      clear c7
      by_cases c8 : x18_1 < (l0.length : Int)
      ·rw [if_pos c8] at H
       have c8b0 : decide (x18_1 < (l0.length : Int)) = true:=decide_eq_true c8
       clear c8
       by_cases c9 : ((rdOf ByteArray.empty l0 x18_1).size : Int) > 300
       ·rw [if_pos c9] at H
        have c9b0 : decide (300 < ((rdOf ByteArray.empty l0 x18_1).size : Int)) = true:=decide_eq_true c9
        have c9b1 : decide (300 < (rdOf ByteArray.empty l0 x18_1).size) = true:=decide_eq_true (by omega)
        clear c9
        replace H:=Option.bind_eq_some_iff.mp H
        obtain ⟨t177,A100,H⟩:=H
        replace H : (some t177) = some r:=H
        have A10:=Aside0.mk A100
        clear A100
        obtain rfl:=Option.some.inj H
        have p176 : 0 ≤ (x18_1 : Int):=of_decide_eq_true (by first | (with_reducible assumption) | assumption)
        have q176 : x18_1 < (l0.length : Int):=of_decide_eq_true (by first | (with_reducible assumption) | assumption)
        obtain ⟨ad176,e176,hx176_0⟩:=Kd.at_string HR0.out x18_1 p176 q176
        cases e176
        replace hx176_0:=(HB.out.cell (World.block_lt_of_cell? w _ hx176_0)).trans hx176_0
        replace p176:=eq_true p176
        replace q176:=eq_true q176
        go_wp2_with (first | ((with_reducible refine gate_callee (f:=25) rfl ?_);refine goesL_ (some 25) rfl rfl Try.func25 (by kernel_rfl) rfl #[] rfl (by (try simp only [List.map_toArray,List.map_cons,List.map_nil]);first | done | rfl | (simp only [List.length_drop,List.length_take];rfl)) ?_;(with_reducible refine (tachographlaw02_fixed.calls  t177 _ A10.out).mono ?_);rintro e w11 ⟨rfl,hb⟩;refine ⟨_,rfl,?_⟩;have n0_:=Aside0.mk (Kd.R_below (by (with_reducible repeat (first | apply Kd.R_alloc | apply Kd.R_drewN | apply Kd.R_drew));exact HO_5.out) hb);have n1_:=Aside0.mk (below_step (by repeat (first | (with_reducible first | exact HB.out | apply below_alloc | apply pw_below_drewN | apply below_drew1) | exact HB.out)) hb);clear HO_5;clear HB;have HO_5:=n0_;have HB:=n1_;clear n0_ n1_;(try clear hb);(try clear hb2);(try clear hk);(try clear hi)))
        go_ret
        exact ⟨by first | rfl | (simp [errW_none,errW_some] <;> rfl) | (simp [*,errW_none,errW_some] <;> rfl),by repeat (first | (with_reducible first | exact HB.out | apply below_alloc | apply pw_below_drewN | apply below_drew1) | exact HB.out)⟩
       ·rw [if_neg c9] at H
        have c9b0 : decide (300 < ((rdOf ByteArray.empty l0 x18_1).size : Int)) = false:=decide_eq_false c9
        have c9b1 : decide (300 < (rdOf ByteArray.empty l0 x18_1).size) = false:=decide_eq_false (by omega)
        clear c9
        replace H:=Option.bind_eq_some_iff.mp H
        obtain ⟨t178,A120,H⟩:=H
        replace H : (tachographlaw02_BlobAll.l0 k1 l0 a1 t178 (x5_1.length : Int) l0 (l0.length : Int) (wrap64 (x18_1 + 1))) = some r:=H
        have A12:=Aside0.mk A120
        clear A120
        have H':=Aside0.mk H
        clear H
        have p176 : 0 ≤ (x18_1 : Int):=of_decide_eq_true (by first | (with_reducible assumption) | assumption)
        have q176 : x18_1 < (l0.length : Int):=of_decide_eq_true (by first | (with_reducible assumption) | assumption)
        obtain ⟨ad176,e176,hx176_0⟩:=Kd.at_string HR0.out x18_1 p176 q176
        cases e176
        replace hx176_0:=(HB.out.cell (World.block_lt_of_cell? w _ hx176_0)).trans hx176_0
        replace p176:=eq_true p176
        replace q176:=eq_true q176
        obtain ⟨Ao13,co13,eo13⟩:=Kd.R_slice HO_5.out
        subst eo13
        go_wp2_with (first | ((with_reducible refine gate_callee (f:=26) rfl ?_);refine goesL_ (some 30) rfl rfl Try.func26 (by kernel_rfl) rfl #[.slice Ao13 x5_1.length co13,.string (rdOf ByteArray.empty l0 x18_1)] rfl (by (try simp only [List.map_toArray,List.map_cons,List.map_nil]);first | done | rfl | (simp only [List.length_drop,List.length_take];rfl)) ?_;(with_reducible refine (blob_Put.calls _ _ x5_1 (rdOf ByteArray.empty l0 x18_1) t178 _ ?side1 ?side2 A12.out).mono ?_);(case side1 => repeat (first | exact (Kd.R_reads' HO_5.out).2.2 | (with_reducible refine Kd.C_alloc ?_ _) | (with_reducible refine Kd.C_drewN ?_ _) | (with_reducible refine Kd.C_drew ?_)));(case side2 => exact (Kd.R_reads' HO_5.out).2.1);rintro e w14 ⟨v179,rfl,ho0,hb⟩;refine ⟨_,rfl,?_⟩;have n0_:=Aside0.mk (Kd.R_elder' (by (with_reducible repeat (first | apply Kd.R_alloc | apply Kd.R_drewN | apply Kd.R_drew));exact HO_5.out) (Kd.R_base ho0) hb);have n1_:=Aside0.mk (Kd.R_lower (Kd.R_new' ho0 (Kd.R_lt (by (with_reducible repeat (first | apply Kd.R_alloc | apply Kd.R_drewN | apply Kd.R_drew));exact HO_5.out))) (below_size (by repeat (first | (with_reducible first | exact HB.out | apply below_alloc | apply pw_below_drewN | apply below_drew1) | exact HB.out))));have n2_:=Aside0.mk (below_step (by repeat (first | (with_reducible first | exact HB.out | apply below_alloc | apply pw_below_drewN | apply below_drew1) | exact HB.out)) hb);clear HO_5;clear HB;have HO_5:=n0_;have HO180:=n1_;have HB:=n2_;clear n0_ n1_ n2_;(try clear hb);(try clear hb2);(try clear hk);(try clear hi);(try clear ho0)))
        go_roundg k1
        case measure => have:=HK1.out;omega
        case rel => exact ⟨(t178),((x5_1.length : Int)),(wrap64 (x18_1 + 1)),(by first | rfl | (simp;done) | (simp [*];done)),(by first | rfl | (simp;done) | (simp [*];done)),H',⟨by have:=HK1.out;omega⟩,⟨by (with_reducible repeat (first | apply Kd.R_alloc | apply Kd.R_drewN | apply Kd.R_drew));exact Kd.R_mono HO180.out (fun _ hk => trivial)⟩,⟨by repeat (first | (with_reducible first | exact HB.out | apply below_alloc | apply pw_below_drewN | apply below_drew1) | exact HB.out)⟩⟩
      ·rw [if_neg c8] at H
       exact absurd H (by simp)
     ·rw [if_neg c7] at H
      exact absurd H (by simp)
    ·rw [if_neg c6] at H
     have c6b0 : decide (x18_1 < (l0.length : Int)) = false:=decide_eq_false c6
     clear c6
     replace H:=Option.bind_eq_some_iff.mp H
     obtain ⟨⟨t181,t182⟩,A150,H⟩:=H
     replace H : ((tachographref02_Same.f k1 t181 l0).bind fun t185 => (if t185 = true then (if t182 = 0 then (if (x5_1.length : Int) ≤ x6_1 then (tachographlaw02_BlobAll.j1 k1 l0 a1 x5_1 x6_1 (decide ((l0.length : Int) > 0))) else (tachographlaw02_BlobAll.j1 k1 l0 a1 x5_1 x6_1 false)) else (tachographlaw02_BlobAll.j1 k1 l0 a1 x5_1 x6_1 true)) else (tachographlaw02_BlobAll.j1 k1 l0 a1 x5_1 x6_1 true))) = some r:=H
     have A15:=Aside0.mk A150
     clear A150
     have HC16:=Aside0.mk H
     clear H
     obtain ⟨Ao17,co17,eo17⟩:=Kd.R_slice HO_5.out
     subst eo17
     go_upto_region 14 with (first | ((with_reducible refine gate_callee (f:=30) rfl ?_);refine goesL_ (some 34) rfl rfl Try.func30 (by kernel_rfl) rfl #[.slice Ao17 x5_1.length co17,.int .i64 300] rfl (by (try simp only [List.map_toArray,List.map_cons,List.map_nil]);first | done | rfl | (simp only [List.length_drop,List.length_take];rfl)) ?_;(with_reducible refine (blob_All.calls k1 _ _ x5_1 300 t181 t182 _ ?side1 ?side2 A15.out).mono ?_);(case side1 => repeat (first | exact (Kd.R_reads' HO_5.out).2.2 | (with_reducible refine Kd.C_alloc ?_ _) | (with_reducible refine Kd.C_drewN ?_ _) | (with_reducible refine Kd.C_drew ?_)));(case side2 => exact (Kd.R_reads' HO_5.out).2.1);rintro e w18 ⟨v183,rfl,ho0,hb⟩;refine ⟨_,rfl,?_⟩;have n0_:=Aside0.mk (Kd.R_below (by (with_reducible repeat (first | apply Kd.R_alloc | apply Kd.R_drewN | apply Kd.R_drew));exact HO_5.out) hb);have n1_:=Aside0.mk (Kd.R_lower ho0 (below_size (by repeat (first | (with_reducible first | exact HB.out | apply below_alloc | apply pw_below_drewN | apply below_drew1) | exact HB.out))));have n2_:=Aside0.mk (below_step (by repeat (first | (with_reducible first | exact HB.out | apply below_alloc | apply pw_below_drewN | apply below_drew1) | exact HB.out)) hb);clear HO_5;clear HB;have HO_5:=n0_;have HO184:=n1_;have HB:=n2_;clear n0_ n1_ n2_;(try clear hb);(try clear hb2);(try clear hk);(try clear hi);(try clear ho0)))
     (try simp only [Act.put,List.setIfInBounds_toArray,List.set_cons_zero,List.set_cons_succ])
     go_cut [55] (fun v55 wc => ∃ (kq : Nat) (x55_15 : Bool),v55 = .bool x55_15 ∧ Aside0 (tachographlaw02_BlobAll.j1 kq l0 a1 x5_1 x6_1 x55_15 = some r) ∧ Aside0 (kq ≤ k1) ∧ Aside0 (Kd.R (Kd.int .u8) 5 wc w.heap.size (fun _ => True) (.slice Ao17 x5_1.length co17) x5_1) ∧ Aside0 (Below w.heap.size w wc))
     case first =>
      have H:=HC16.out
      clear HC16
      replace H:=Option.bind_eq_some_iff.mp H
      obtain ⟨t185,A190,H⟩:=H
      replace H : (if t185 = true then (if t182 = 0 then (if (x5_1.length : Int) ≤ x6_1 then (tachographlaw02_BlobAll.j1 k1 l0 a1 x5_1 x6_1 (decide ((l0.length : Int) > 0))) else (tachographlaw02_BlobAll.j1 k1 l0 a1 x5_1 x6_1 false)) else (tachographlaw02_BlobAll.j1 k1 l0 a1 x5_1 x6_1 true)) else (tachographlaw02_BlobAll.j1 k1 l0 a1 x5_1 x6_1 true)) = some r:=H
      have A19:=Aside0.mk A190
      clear A190
      by_cases c20 : t185 = true
      ·subst c20
       have H1 : (if t182 = 0 then (if (x5_1.length : Int) ≤ x6_1 then (tachographlaw02_BlobAll.j1 k1 l0 a1 x5_1 x6_1 (decide ((l0.length : Int) > 0))) else (tachographlaw02_BlobAll.j1 k1 l0 a1 x5_1 x6_1 false)) else (tachographlaw02_BlobAll.j1 k1 l0 a1 x5_1 x6_1 true)) = some r:=by rw [if_pos rfl] at H;exact H
       clear H
       have H:=H1
       clear H1
       by_cases c21 : t182 = 0
       ·rw [if_pos c21] at H
        have c21b0 : (t182 == 0) = true:=beq_iff_eq.mpr c21
        have c21b1 : (t182 != 0) = false:=bne_eq_false_iff_eq.mpr c21
        clear c21
        (first | rw [c21b0] | (simp only [i64_w,i32_w];rw [c21b0]) | skip)
        by_cases c22 : (x5_1.length : Int) ≤ x6_1
        ·rw [if_pos c22] at H
         have c22b0 : decide ((x5_1.length : Int) ≤ x6_1) = true:=decide_eq_true c22
         clear c22
         have H':=Aside0.mk H
         clear H
         obtain ⟨Ao23,co23,eo23⟩:=Kd.R_slice HO184.out
         subst eo23
         go_wp2_with (first | ((with_reducible refine gate_callee (f:=32) rfl ?_);refine goesL_ (some 39) rfl rfl Try.func32 (by kernel_rfl) rfl #[.slice Ao23 t181.length co23,.slice A0 l0.length c0] rfl (by (try simp only [List.map_toArray,List.map_cons,List.map_nil]);first | done | rfl | (simp only [List.length_drop,List.length_take];rfl)) ?_;(with_reducible refine (tachographref02_Same.calls k1 _ _ t181 _ _ l0 true _ ?side1 ?side2 ?side3 ?side4 A19.out).mono ?_);(case side1 => repeat (first | exact (Kd.R_reads' HO184.out).2.2 | (with_reducible refine Kd.C_alloc ?_ _) | (with_reducible refine Kd.C_drewN ?_ _) | (with_reducible refine Kd.C_drew ?_)));(case side2 => exact (Kd.R_reads' HO184.out).2.1);(case side3 => repeat (first | exact (Kd.C_below HR0.out HB.out) | (with_reducible refine Kd.C_alloc ?_ _) | (with_reducible refine Kd.C_drewN ?_ _) | (with_reducible refine Kd.C_drew ?_)));(case side4 => exact HC0.out);rintro e w' ⟨rfl,⟨nd,rfl⟩⟩;refine ⟨_,rfl,?_⟩))
         go_meet
         case rel => exact ⟨_,(decide ((l0.length : Int) > 0)),(by first | rfl | (simp;done) | (simp [*];done)),H',⟨by have:=HK1.out;first | omega | exact Nat.le_refl _⟩,⟨by (with_reducible repeat (first | apply Kd.R_alloc | apply Kd.R_drewN | apply Kd.R_drew));exact HO_5.out⟩,⟨by repeat (first | (with_reducible first | exact HB.out | apply below_alloc | apply pw_below_drewN | apply below_drew1) | exact HB.out)⟩⟩
        ·rw [if_neg c22] at H
         have c22b0 : decide ((x5_1.length : Int) ≤ x6_1) = false:=decide_eq_false c22
         clear c22
         have H':=Aside0.mk H
         clear H
         obtain ⟨Ao24,co24,eo24⟩:=Kd.R_slice HO184.out
         subst eo24
         go_wp2_with (first | ((with_reducible refine gate_callee (f:=32) rfl ?_);refine goesL_ (some 39) rfl rfl Try.func32 (by kernel_rfl) rfl #[.slice Ao24 t181.length co24,.slice A0 l0.length c0] rfl (by (try simp only [List.map_toArray,List.map_cons,List.map_nil]);first | done | rfl | (simp only [List.length_drop,List.length_take];rfl)) ?_;(with_reducible refine (tachographref02_Same.calls k1 _ _ t181 _ _ l0 true _ ?side1 ?side2 ?side3 ?side4 A19.out).mono ?_);(case side1 => repeat (first | exact (Kd.R_reads' HO184.out).2.2 | (with_reducible refine Kd.C_alloc ?_ _) | (with_reducible refine Kd.C_drewN ?_ _) | (with_reducible refine Kd.C_drew ?_)));(case side2 => exact (Kd.R_reads' HO184.out).2.1);(case side3 => repeat (first | exact (Kd.C_below HR0.out HB.out) | (with_reducible refine Kd.C_alloc ?_ _) | (with_reducible refine Kd.C_drewN ?_ _) | (with_reducible refine Kd.C_drew ?_)));(case side4 => exact HC0.out);rintro e w' ⟨rfl,⟨nd,rfl⟩⟩;refine ⟨_,rfl,?_⟩))
         go_meet
         case rel => exact ⟨_,(false),(by first | rfl | (simp;done) | (simp [*];done)),H',⟨by have:=HK1.out;first | omega | exact Nat.le_refl _⟩,⟨by (with_reducible repeat (first | apply Kd.R_alloc | apply Kd.R_drewN | apply Kd.R_drew));exact HO_5.out⟩,⟨by repeat (first | (with_reducible first | exact HB.out | apply below_alloc | apply pw_below_drewN | apply below_drew1) | exact HB.out)⟩⟩
       ·rw [if_neg c21] at H
        have c21b0 : (t182 == 0) = false:=beq_eq_false_iff_ne.mpr c21
        have c21b1 : (t182 != 0) = true:=bne_iff_ne.mpr c21
        (first | rw [c21b0] | (simp only [i64_w,i32_w];rw [c21b0]) | skip)
        have H':=Aside0.mk H
        clear H
        obtain ⟨Ao25,co25,eo25⟩:=Kd.R_slice HO184.out
        subst eo25
        go_wp2_with (first | ((with_reducible refine gate_callee (f:=32) rfl ?_);refine goesL_ (some 39) rfl rfl Try.func32 (by kernel_rfl) rfl #[.slice Ao25 t181.length co25,.slice A0 l0.length c0] rfl (by (try simp only [List.map_toArray,List.map_cons,List.map_nil]);first | done | rfl | (simp only [List.length_drop,List.length_take];rfl)) ?_;(with_reducible refine (tachographref02_Same.calls k1 _ _ t181 _ _ l0 true _ ?side1 ?side2 ?side3 ?side4 A19.out).mono ?_);(case side1 => repeat (first | exact (Kd.R_reads' HO184.out).2.2 | (with_reducible refine Kd.C_alloc ?_ _) | (with_reducible refine Kd.C_drewN ?_ _) | (with_reducible refine Kd.C_drew ?_)));(case side2 => exact (Kd.R_reads' HO184.out).2.1);(case side3 => repeat (first | exact (Kd.C_below HR0.out HB.out) | (with_reducible refine Kd.C_alloc ?_ _) | (with_reducible refine Kd.C_drewN ?_ _) | (with_reducible refine Kd.C_drew ?_)));(case side4 => exact HC0.out);rintro e w' ⟨rfl,⟨nd,rfl⟩⟩;refine ⟨_,rfl,?_⟩))
        go_meet
        case rel => exact ⟨_,(true),(by first | rfl | (simp;done) | (simp [*];done)),H',⟨by have:=HK1.out;first | omega | exact Nat.le_refl _⟩,⟨by (with_reducible repeat (first | apply Kd.R_alloc | apply Kd.R_drewN | apply Kd.R_drew));exact HO_5.out⟩,⟨by repeat (first | (with_reducible first | exact HB.out | apply below_alloc | apply pw_below_drewN | apply below_drew1) | exact HB.out)⟩⟩
      ·replace c20:=Bool.eq_false_iff.mpr c20
       subst c20
       have H1 : (tachographlaw02_BlobAll.j1 k1 l0 a1 x5_1 x6_1 true) = some r:=by rw [if_neg (show ¬ (false = true) by decide)] at H;exact H
       clear H
       have H:=H1
       clear H1
       have H':=Aside0.mk H
       clear H
       obtain ⟨Ao26,co26,eo26⟩:=Kd.R_slice HO184.out
       subst eo26
       go_wp2_with (first | ((with_reducible refine gate_callee (f:=32) rfl ?_);refine goesL_ (some 39) rfl rfl Try.func32 (by kernel_rfl) rfl #[.slice Ao26 t181.length co26,.slice A0 l0.length c0] rfl (by (try simp only [List.map_toArray,List.map_cons,List.map_nil]);first | done | rfl | (simp only [List.length_drop,List.length_take];rfl)) ?_;(with_reducible refine (tachographref02_Same.calls k1 _ _ t181 _ _ l0 false _ ?side1 ?side2 ?side3 ?side4 A19.out).mono ?_);(case side1 => repeat (first | exact (Kd.R_reads' HO184.out).2.2 | (with_reducible refine Kd.C_alloc ?_ _) | (with_reducible refine Kd.C_drewN ?_ _) | (with_reducible refine Kd.C_drew ?_)));(case side2 => exact (Kd.R_reads' HO184.out).2.1);(case side3 => repeat (first | exact (Kd.C_below HR0.out HB.out) | (with_reducible refine Kd.C_alloc ?_ _) | (with_reducible refine Kd.C_drewN ?_ _) | (with_reducible refine Kd.C_drew ?_)));(case side4 => exact HC0.out);rintro e w' ⟨rfl,⟨nd,rfl⟩⟩;refine ⟨_,rfl,?_⟩))
       go_meet
       case rel => exact ⟨_,(true),(by first | rfl | (simp;done) | (simp [*];done)),H',⟨by have:=HK1.out;first | omega | exact Nat.le_refl _⟩,⟨by (with_reducible repeat (first | apply Kd.R_alloc | apply Kd.R_drewN | apply Kd.R_drew));exact HO_5.out⟩,⟨by repeat (first | (with_reducible first | exact HB.out | apply below_alloc | apply pw_below_drewN | apply below_drew1) | exact HB.out)⟩⟩
     case rest =>
      clear HC16
      try clear p1
      try clear q1
      try clear hx1
      try clear c2
      try clear p2
      try clear c3
      try clear c3b0
      try clear c3b1
      try clear c6
      try clear c6b0
      try clear p6
      try clear c7
      try clear c7b0
      try clear c8
      try clear c8b0
      try clear c9
      try clear c9b0
      try clear c9b1
      try clear p17
      try clear q17
      try clear hx17
      try clear c20
      try clear c21
      try clear c21b0
      try clear c21b1
      try clear c22
      try clear c22b0
      try clear c25
      try clear c26
      try clear hx176_0
      try clear p176
      try clear p2
      try clear q176
      obtain ⟨kq,x55_15,rfl,HA,HJ15,HO_5,HB⟩:=hcut
      cases kq with
      | zero => exact absurd HA.out (by simp [tachographlaw02_BlobAll.j1])
      | succ kj15 =>
       have H:=HA.out
       clear HA
       simp only [tachographlaw02_BlobAll.j1] at H
       by_cases c27 : x55_15 = true
       ·subst c27
        have H1 : (some false) = some r:=by rw [if_pos rfl] at H;exact H
        clear H
        have H:=H1
        clear H1
        obtain rfl:=Option.some.inj H
        go_wp2
        go_ret
        exact ⟨by first | rfl | (simp [errW_none,errW_some] <;> rfl) | (simp [*,errW_none,errW_some] <;> rfl),by repeat (first | (with_reducible first | exact HB.out | apply below_alloc | apply pw_below_drewN | apply below_drew1) | exact HB.out)⟩
       ·replace c27:=Bool.eq_false_iff.mpr c27
        subst c27
        have H1 : (if (l0.length : Int) = 0 then ((tachographlaw02_fixed.f).bind fun t186 => (some t186)) else (if (wrap64 ((x5_1.length : Int) - x6_1)) = 0 then (none) else (if 0 ≤ (wrap64 (x6_1 + (Int.tmod (wrap64 (a1)) (wrap64 ((x5_1.length : Int) - x6_1))))) then (if (wrap64 (x6_1 + (Int.tmod (wrap64 (a1)) (wrap64 ((x5_1.length : Int) - x6_1))))) ≤ (x5_1.length : Int) then ((blob_All.f kj15 (x5_1.take ((wrap64 (x6_1 + (Int.tmod (wrap64 (a1)) (wrap64 ((x5_1.length : Int) - x6_1))))) : Int).toNat) 300).bind fun bt191 => (if (wrap64 (x6_1 + (Int.tmod (wrap64 (a1)) (wrap64 ((x5_1.length : Int) - x6_1))))) = x6_1 then ((tachographlaw02_fixed.f).bind fun t195 => (if t195 = true then (if bt191.2 = 0 then (if 0 ≤ (wrap64 ((l0.length : Int) - 1)) then (if (wrap64 ((l0.length : Int) - 1)) ≤ (l0.length : Int) then ((tachographref02_Same.f kj15 bt191.1 (l0.take ((wrap64 ((l0.length : Int) - 1)) : Int).toNat)).bind fun t197 => (some t197)) else (none)) else (none)) else (some false)) else (some false))) else ((tachographlaw02_fixed.f).bind fun t198 => (if t198 = true then (if bt191.2 = 2 then (some ((bt191.1.length : Int) == 0)) else (some false)) else (some false))))) else (none)) else (none)))) = some r:=by rw [if_neg (show ¬ (false = true) by decide)] at H;exact H
        clear H
        have H:=H1
        clear H1
        by_cases c28 : (l0.length : Int) = 0
        ·rw [if_pos c28] at H
         have c28b0 : ((l0.length : Int) == 0) = true:=beq_iff_eq.mpr c28
         have c28b1 : ((l0.length : Int) != 0) = false:=bne_eq_false_iff_eq.mpr c28
         clear c28
         replace H:=Option.bind_eq_some_iff.mp H
         obtain ⟨t186,A290,H⟩:=H
         replace H : (some t186) = some r:=H
         have A29:=Aside0.mk A290
         clear A290
         obtain rfl:=Option.some.inj H
         go_wp2_with (first | ((with_reducible refine gate_callee (f:=25) rfl ?_);refine goesL_ (some 59) rfl rfl Try.func25 (by kernel_rfl) rfl #[] rfl (by (try simp only [List.map_toArray,List.map_cons,List.map_nil]);first | done | rfl | (simp only [List.length_drop,List.length_take];rfl)) ?_;(with_reducible refine (tachographlaw02_fixed.calls  t186 _ A29.out).mono ?_);rintro e w30 ⟨rfl,hb⟩;refine ⟨_,rfl,?_⟩;have n0_:=Aside0.mk (Kd.R_below (by (with_reducible repeat (first | apply Kd.R_alloc | apply Kd.R_drewN | apply Kd.R_drew));exact HO_5.out) hb);have n1_:=Aside0.mk (below_step (by repeat (first | (with_reducible first | exact HB.out | apply below_alloc | apply pw_below_drewN | apply below_drew1) | exact HB.out)) hb);clear HO_5;clear HB;have HO_5:=n0_;have HB:=n1_;clear n0_ n1_;(try clear hb);(try clear hb2);(try clear hk);(try clear hi)))
         go_ret
         exact ⟨by first | rfl | (simp [errW_none,errW_some] <;> rfl) | (simp [*,errW_none,errW_some] <;> rfl),by repeat (first | (with_reducible first | exact HB.out | apply below_alloc | apply pw_below_drewN | apply below_drew1) | exact HB.out)⟩
        ·rw [if_neg c28] at H
         have c28b0 : ((l0.length : Int) == 0) = false:=beq_eq_false_iff_ne.mpr c28
         have c28b1 : ((l0.length : Int) != 0) = true:=bne_iff_ne.mpr c28
         have c28b2 : ¬ (l0 = []):=fun h_ => c28 (by rw [h_];rfl)
         by_cases c31 : (wrap64 ((x5_1.length : Int) - x6_1)) = 0
         ·rw [if_pos c31] at H
          exact absurd H (by simp)
         ·rw [if_neg c31] at H
          have c31b0 : ((wrap64 ((x5_1.length : Int) - x6_1)) == 0) = false:=beq_eq_false_iff_ne.mpr c31
          have c31b1 : ((wrap64 ((x5_1.length : Int) - x6_1)) != 0) = true:=bne_iff_ne.mpr c31
          obtain ⟨ji32,hji32⟩ : ∃ j_ : Int,(wrap64 (x6_1 + (Int.tmod (wrap64 (a1)) (wrap64 ((x5_1.length : Int) - x6_1))))) = j_:=⟨_,rfl⟩
          replace H : (if 0 ≤ (ji32) then (if (ji32) ≤ (x5_1.length : Int) then ((blob_All.f kj15 (x5_1.take ((ji32) : Int).toNat) 300).bind fun bt191 => (if (ji32) = x6_1 then ((tachographlaw02_fixed.f).bind fun t195 => (if t195 = true then (if bt191.2 = 0 then (if 0 ≤ (wrap64 ((l0.length : Int) - 1)) then (if (wrap64 ((l0.length : Int) - 1)) ≤ (l0.length : Int) then ((tachographref02_Same.f kj15 bt191.1 (l0.take ((wrap64 ((l0.length : Int) - 1)) : Int).toNat)).bind fun t197 => (some t197)) else (none)) else (none)) else (some false)) else (some false))) else ((tachographlaw02_fixed.f).bind fun t198 => (if t198 = true then (if bt191.2 = 2 then (some ((bt191.1.length : Int) == 0)) else (some false)) else (some false))))) else (none)) else (none)) = some r:=by first | (rw [hji32] at H;exact H) | (simp only [hji32] at H ⊢;exact H)
          have hji32w : (IntKind.i64.wrap (x6_1 + (Int.tmod (wrap64 (a1)) (wrap64 ((x5_1.length : Int) - x6_1))))) = ji32:=(i64_w _).trans hji32
          by_cases c33 : 0 ≤ (ji32)
          ·rw [if_pos c33] at H
           have c33b0:=eq_true c33
           have c33b1 : decide (0 ≤ (ji32)) = true:=decide_eq_true c33
           clear c33
           by_cases c34 : (ji32) ≤ (x5_1.length : Int)
           ·rw [if_pos c34] at H
            have c34b0:=eq_true c34
            have c34b1 : decide ((ji32) ≤ (x5_1.length : Int)) = true:=decide_eq_true c34
            clear c34
            obtain ⟨y187,hy187⟩ : ∃ y_ : List Int,y_ = (x5_1.take ((ji32) : Int).toNat):=⟨_,rfl⟩
            replace H : ((blob_All.f kj15 y187 300).bind fun bt191 => (if (ji32) = x6_1 then ((tachographlaw02_fixed.f).bind fun t195 => (if t195 = true then (if bt191.2 = 0 then (if 0 ≤ (wrap64 ((l0.length : Int) - 1)) then (if (wrap64 ((l0.length : Int) - 1)) ≤ (l0.length : Int) then ((tachographref02_Same.f kj15 bt191.1 (l0.take ((wrap64 ((l0.length : Int) - 1)) : Int).toNat)).bind fun t197 => (some t197)) else (none)) else (none)) else (some false)) else (some false))) else ((tachographlaw02_fixed.f).bind fun t198 => (if t198 = true then (if bt191.2 = 2 then (some ((bt191.1.length : Int) == 0)) else (some false)) else (some false))))) = some r:=by first | (rw [hy187];with_reducible exact H) | (have H2_:=(Option.bind_some _ _).symm.trans H;rw [hy187];with_reducible exact H2_) | (have H2_:=(Option.bind_some _ _).symm.trans H;with_reducible exact H2_) | with_reducible exact H | (rw [hy187];exact H) | exact H
            have Ny187:=Aside0.mk hy187
            clear hy187
            replace H:=Option.bind_eq_some_iff.mp H
            obtain ⟨⟨t191,t192⟩,A350,H⟩:=H
            replace H : (if (ji32) = x6_1 then ((tachographlaw02_fixed.f).bind fun t195 => (if t195 = true then (if t192 = 0 then (if 0 ≤ (wrap64 ((l0.length : Int) - 1)) then (if (wrap64 ((l0.length : Int) - 1)) ≤ (l0.length : Int) then ((tachographref02_Same.f kj15 t191 (l0.take ((wrap64 ((l0.length : Int) - 1)) : Int).toNat)).bind fun t197 => (some t197)) else (none)) else (none)) else (some false)) else (some false))) else ((tachographlaw02_fixed.f).bind fun t198 => (if t198 = true then (if t192 = 2 then (some ((t191.length : Int) == 0)) else (some false)) else (some false)))) = some r:=H
            have A35:=Aside0.mk A350
            clear A350
            by_cases c36 : (ji32) = x6_1
            ·rw [if_pos c36] at H
             have c36b0 : ((ji32) == x6_1) = true:=beq_iff_eq.mpr c36
             have c36b1 : ((ji32) != x6_1) = false:=bne_eq_false_iff_eq.mpr c36
             clear c36
             replace H:=Option.bind_eq_some_iff.mp H
             obtain ⟨t195,A370,H⟩:=H
             replace H : (if t195 = true then (if t192 = 0 then (if 0 ≤ (wrap64 ((l0.length : Int) - 1)) then (if (wrap64 ((l0.length : Int) - 1)) ≤ (l0.length : Int) then ((tachographref02_Same.f kj15 t191 (l0.take ((wrap64 ((l0.length : Int) - 1)) : Int).toNat)).bind fun t197 => (some t197)) else (none)) else (none)) else (some false)) else (some false)) = some r:=H
             have A37:=Aside0.mk A370
             clear A370
             by_cases c38 : t195 = true
             ·subst c38
              have H1 : (if t192 = 0 then (if 0 ≤ (wrap64 ((l0.length : Int) - 1)) then (if (wrap64 ((l0.length : Int) - 1)) ≤ (l0.length : Int) then ((tachographref02_Same.f kj15 t191 (l0.take ((wrap64 ((l0.length : Int) - 1)) : Int).toNat)).bind fun t197 => (some t197)) else (none)) else (none)) else (some false)) = some r:=by rw [if_pos rfl] at H;exact H
              clear H
              have H:=H1
              clear H1
              by_cases c39 : t192 = 0
              ·rw [if_pos c39] at H
               have c39b0 : (t192 == 0) = true:=beq_iff_eq.mpr c39
               have c39b1 : (t192 != 0) = false:=bne_eq_false_iff_eq.mpr c39
               clear c39
               obtain ⟨ji40,hji40⟩ : ∃ j_ : Int,(wrap64 ((l0.length : Int) - 1)) = j_:=⟨_,rfl⟩
               replace H : (if 0 ≤ (ji40) then (if (ji40) ≤ (l0.length : Int) then ((tachographref02_Same.f kj15 t191 (l0.take ((ji40) : Int).toNat)).bind fun t197 => (some t197)) else (none)) else (none)) = some r:=by first | (rw [hji40] at H;exact H) | (simp only [hji40] at H ⊢;exact H)
               (try rw [hji40] at A35)
               (try rw [hji40] at A37)
               have hji40w : (IntKind.i64.wrap ((l0.length : Int) - 1)) = ji40:=(i64_w _).trans hji40
               by_cases c41 : 0 ≤ (ji40)
               ·rw [if_pos c41] at H
                have c41b0:=eq_true c41
                have c41b1 : decide (0 ≤ (ji40)) = true:=decide_eq_true c41
                clear c41
                by_cases c42 : (ji40) ≤ (l0.length : Int)
                ·rw [if_pos c42] at H
                 have c42b0:=eq_true c42
                 have c42b1 : decide ((ji40) ≤ (l0.length : Int)) = true:=decide_eq_true c42
                 clear c42
                 replace H:=Option.bind_eq_some_iff.mp H
                 obtain ⟨t197,A430,H⟩:=H
                 replace H : (some t197) = some r:=H
                 have A43:=Aside0.mk A430
                 clear A430
                 obtain rfl:=Option.some.inj H
                 have q44 : ((ji32) : Int) ≤ ((x5_1.length : Int) : Int):=of_decide_eq_true (by first | (with_reducible assumption) | assumption)
                 obtain ⟨i044,hi044,_,hsz44,_⟩:=info_parts info5
                 have hroom44 : x5_1.length ≤ co17:=(Kd.R_reads' HO_5.out).2.1
                 have hC44 : Kd.C (Kd.int .u8) _ Ao17 x5_1.length x5_1:=(Kd.R_reads' HO_5.out).2.2
                 have hcut44:=cut_to (P:=Try.prog) 27 5 .i64 Try.underlying27 hi044 Ao17 x5_1.length co17 (ji32) (of_decide_eq_true (by first | (with_reducible assumption) | assumption)) q44 hroom44
                 have hr44:=Kd.C_take (m:=((ji32) : Int).toNat) hC44 (by omega)
                 have hy44 : y187.length = ((ji32) : Int).toNat:=(by rw [Ny187.out,List.length_take];omega)
                 rw [← Ny187.out] at hr44
                 rw [← hy44] at hcut44
                 have HR190:=Aside0.mk hr44
                 have HC190:=Aside0.mk (show y187.length ≤ co17 from by omega)
                 clear hr44 hC44 hroom44 hi044 hsz44
                 have KY44:=Aside0.mk hy44
                 clear hy44
                 have KL44:=Aside0.mk (show ((ji32) : Int).toNat ≤ x5_1.length from by omega)
                 replace q44:=eq_true q44
                 go_wp2_with (first | ((with_reducible refine gate_callee (f:=30) rfl ?_);refine goesL_ (some 73) rfl rfl Try.func30 (by kernel_rfl) rfl #[.slice Ao17 y187.length co17,.int .i64 300] rfl (by (try simp only [List.map_toArray,List.map_cons,List.map_nil]);first | done | rfl | (simp only [List.length_drop,List.length_take];rfl)) ?_;(with_reducible refine (blob_All.calls kj15 _ _ y187 300 t191 t192 _ ?side1 ?side2 A35.out).mono ?_);(case side1 => repeat (first | exact (by repeat (first | (with_reducible exact HR190.out) | (with_reducible refine Kd.C_alloc ?_ _) | (with_reducible refine Kd.C_drewN ?_ _) | (with_reducible refine Kd.C_drew ?_) | exact HR190.out)) | (with_reducible refine Kd.C_alloc ?_ _) | (with_reducible refine Kd.C_drewN ?_ _) | (with_reducible refine Kd.C_drew ?_)));(case side2 => exact HC190.out);rintro e w45 ⟨v193,rfl,ho0,hb⟩;refine ⟨_,rfl,?_⟩;have n0_:=Aside0.mk (Kd.R_below (by (with_reducible repeat (first | apply Kd.R_alloc | apply Kd.R_drewN | apply Kd.R_drew));exact HO_5.out) hb);have n1_:=Aside0.mk (Kd.R_lower ho0 (below_size (by repeat (first | (with_reducible first | exact HB.out | apply below_alloc | apply pw_below_drewN | apply below_drew1) | exact HB.out))));have n2_:=Aside0.mk (Kd.C_below (by repeat (first | (with_reducible exact HR190.out) | (with_reducible refine Kd.C_alloc ?_ _) | (with_reducible refine Kd.C_drewN ?_ _) | (with_reducible refine Kd.C_drew ?_) | exact HR190.out)) hb);have n3_:=Aside0.mk (below_step (by repeat (first | (with_reducible first | exact HB.out | apply below_alloc | apply pw_below_drewN | apply below_drew1) | exact HB.out)) hb);clear HO_5;clear HR190;clear HB;have HO_5:=n0_;have HO194:=n1_;have HR190:=n2_;have HB:=n3_;clear n0_ n1_ n2_ n3_;(try clear hb);(try clear hb2);(try clear hk);(try clear hi);(try clear ho0)) | ((with_reducible refine gate_callee (f:=25) rfl ?_);refine goesL_ (some 79) rfl rfl Try.func25 (by kernel_rfl) rfl #[] rfl (by (try simp only [List.map_toArray,List.map_cons,List.map_nil]);first | done | rfl | (simp only [List.length_drop,List.length_take];rfl)) ?_;(with_reducible refine (tachographlaw02_fixed.calls  true _ A37.out).mono ?_);rintro e w46 ⟨rfl,hb⟩;refine ⟨_,rfl,?_⟩;have n0_:=Aside0.mk (Kd.R_below (by (with_reducible repeat (first | apply Kd.R_alloc | apply Kd.R_drewN | apply Kd.R_drew));exact HO_5.out) hb);have n1_:=Aside0.mk (Kd.R_below (by (with_reducible repeat (first | apply Kd.R_alloc | apply Kd.R_drewN | apply Kd.R_drew));exact HO194.out) hb);have n2_:=Aside0.mk (Kd.C_below (by repeat (first | (with_reducible exact HR190.out) | (with_reducible refine Kd.C_alloc ?_ _) | (with_reducible refine Kd.C_drewN ?_ _) | (with_reducible refine Kd.C_drew ?_) | exact HR190.out)) hb);have n3_:=Aside0.mk (below_step (by repeat (first | (with_reducible first | exact HB.out | apply below_alloc | apply pw_below_drewN | apply below_drew1) | exact HB.out)) hb);clear HO_5;clear HO194;clear HR190;clear HB;have HO_5:=n0_;have HO194:=n1_;have HR190:=n2_;have HB:=n3_;clear n0_ n1_ n2_ n3_;(try clear hb);(try clear hb2);(try clear hk);(try clear hi);obtain ⟨i047,hi047,_,hsz47,_⟩:=info_parts info9;obtain ⟨hcut47,hA47,hC47⟩:=print_take_of (P:=Try.prog) Value.string (⟨#[]⟩ : ByteArray) 46 9 .i64 Try.underlying46 hi047 hsz47 A0 c0 l0 (ji40) (of_decide_eq_true (by first | (with_reducible assumption) | assumption)) (of_decide_eq_true (by first | (with_reducible assumption) | assumption)) HC0.out;have HR196:=Aside0.mk (Kd.C_of_reads (h1:=fun _ => rfl) (hA47 _ (Kd.reads_of_C HR0.out)));have HC196:=Aside0.mk hC47;clear hA47 hC47 hi047 hsz47;obtain ⟨Ao48,co48,eo48⟩:=Kd.R_slice HO194.out;subst eo48) | (go_at_call 32;refine calls_of_args (args':=#[.slice Ao48 t191.length co48,.slice A0 (l0.take ((ji40) : Int).toNat).length c0]) (by first | rfl | (simp only [List.length_take,List.length_drop];rw [Nat.min_eq_left (by first | omega | (simp only [eq_iff_iff,iff_true,decide_eq_true_eq] at *;omega))])) ?_;(with_reducible refine (tachographref02_Same.calls kj15 _ _ t191 _ _ (l0.take ((ji40) : Int).toNat) t197 _ ?side1 ?side2 ?side3 ?side4 A43.out).mono ?_);(case side1 => repeat (first | exact (Kd.R_reads' HO194.out).2.2 | (with_reducible refine Kd.C_alloc ?_ _) | (with_reducible refine Kd.C_drewN ?_ _) | (with_reducible refine Kd.C_drew ?_)));(case side2 => exact (Kd.R_reads' HO194.out).2.1);(case side3 => repeat (first | exact (Kd.C_below HR196.out HB.out) | (with_reducible refine Kd.C_alloc ?_ _) | (with_reducible refine Kd.C_drewN ?_ _) | (with_reducible refine Kd.C_drew ?_)));(case side4 => exact HC196.out);rintro e w' ⟨rfl,⟨nd,rfl⟩⟩))
                 go_ret
                 exact ⟨by first | rfl | (simp [errW_none,errW_some] <;> rfl) | (simp only [← hji32,← hji40];first | rfl | (simp [errW_none,errW_some] <;> rfl)) | (simp [*,errW_none,errW_some] <;> rfl),by repeat (first | (with_reducible first | exact HB.out | apply below_alloc | apply pw_below_drewN | apply below_drew1) | exact HB.out)⟩
                ·rw [if_neg c42] at H
                 exact absurd H (by simp)
               ·rw [if_neg c41] at H
                exact absurd H (by simp)
              ·rw [if_neg c39] at H
               have c39b0 : (t192 == 0) = false:=beq_eq_false_iff_ne.mpr c39
               have c39b1 : (t192 != 0) = true:=bne_iff_ne.mpr c39
               obtain rfl:=Option.some.inj H
               have q49 : ((ji32) : Int) ≤ ((x5_1.length : Int) : Int):=of_decide_eq_true (by first | (with_reducible assumption) | assumption)
               obtain ⟨i049,hi049,_,hsz49,_⟩:=info_parts info5
               have hroom49 : x5_1.length ≤ co17:=(Kd.R_reads' HO_5.out).2.1
               have hC49 : Kd.C (Kd.int .u8) _ Ao17 x5_1.length x5_1:=(Kd.R_reads' HO_5.out).2.2
               have hcut49:=cut_to (P:=Try.prog) 27 5 .i64 Try.underlying27 hi049 Ao17 x5_1.length co17 (ji32) (of_decide_eq_true (by first | (with_reducible assumption) | assumption)) q49 hroom49
               have hr49:=Kd.C_take (m:=((ji32) : Int).toNat) hC49 (by omega)
               have hy49 : y187.length = ((ji32) : Int).toNat:=(by rw [Ny187.out,List.length_take];omega)
               rw [← Ny187.out] at hr49
               rw [← hy49] at hcut49
               have HR190:=Aside0.mk hr49
               have HC190:=Aside0.mk (show y187.length ≤ co17 from by omega)
               clear hr49 hC49 hroom49 hi049 hsz49
               have KY49:=Aside0.mk hy49
               clear hy49
               have KL49:=Aside0.mk (show ((ji32) : Int).toNat ≤ x5_1.length from by omega)
               replace q49:=eq_true q49
               go_wp2_with (first | ((with_reducible refine gate_callee (f:=30) rfl ?_);refine goesL_ (some 73) rfl rfl Try.func30 (by kernel_rfl) rfl #[.slice Ao17 y187.length co17,.int .i64 300] rfl (by (try simp only [List.map_toArray,List.map_cons,List.map_nil]);first | done | rfl | (simp only [List.length_drop,List.length_take];rfl)) ?_;(with_reducible refine (blob_All.calls kj15 _ _ y187 300 t191 t192 _ ?side1 ?side2 A35.out).mono ?_);(case side1 => repeat (first | exact (by repeat (first | (with_reducible exact HR190.out) | (with_reducible refine Kd.C_alloc ?_ _) | (with_reducible refine Kd.C_drewN ?_ _) | (with_reducible refine Kd.C_drew ?_) | exact HR190.out)) | (with_reducible refine Kd.C_alloc ?_ _) | (with_reducible refine Kd.C_drewN ?_ _) | (with_reducible refine Kd.C_drew ?_)));(case side2 => exact HC190.out);rintro e w50 ⟨v193,rfl,ho0,hb⟩;refine ⟨_,rfl,?_⟩;have n0_:=Aside0.mk (Kd.R_below (by (with_reducible repeat (first | apply Kd.R_alloc | apply Kd.R_drewN | apply Kd.R_drew));exact HO_5.out) hb);have n1_:=Aside0.mk (Kd.R_lower ho0 (below_size (by repeat (first | (with_reducible first | exact HB.out | apply below_alloc | apply pw_below_drewN | apply below_drew1) | exact HB.out))));have n2_:=Aside0.mk (Kd.C_below (by repeat (first | (with_reducible exact HR190.out) | (with_reducible refine Kd.C_alloc ?_ _) | (with_reducible refine Kd.C_drewN ?_ _) | (with_reducible refine Kd.C_drew ?_) | exact HR190.out)) hb);have n3_:=Aside0.mk (below_step (by repeat (first | (with_reducible first | exact HB.out | apply below_alloc | apply pw_below_drewN | apply below_drew1) | exact HB.out)) hb);clear HO_5;clear HR190;clear HB;have HO_5:=n0_;have HO194:=n1_;have HR190:=n2_;have HB:=n3_;clear n0_ n1_ n2_ n3_;(try clear hb);(try clear hb2);(try clear hk);(try clear hi);(try clear ho0)) | ((with_reducible refine gate_callee (f:=25) rfl ?_);refine goesL_ (some 79) rfl rfl Try.func25 (by kernel_rfl) rfl #[] rfl (by (try simp only [List.map_toArray,List.map_cons,List.map_nil]);first | done | rfl | (simp only [List.length_drop,List.length_take];rfl)) ?_;(with_reducible refine (tachographlaw02_fixed.calls  true _ A37.out).mono ?_);rintro e w51 ⟨rfl,hb⟩;refine ⟨_,rfl,?_⟩;have n0_:=Aside0.mk (Kd.R_below (by (with_reducible repeat (first | apply Kd.R_alloc | apply Kd.R_drewN | apply Kd.R_drew));exact HO_5.out) hb);have n1_:=Aside0.mk (Kd.R_below (by (with_reducible repeat (first | apply Kd.R_alloc | apply Kd.R_drewN | apply Kd.R_drew));exact HO194.out) hb);have n2_:=Aside0.mk (Kd.C_below (by repeat (first | (with_reducible exact HR190.out) | (with_reducible refine Kd.C_alloc ?_ _) | (with_reducible refine Kd.C_drewN ?_ _) | (with_reducible refine Kd.C_drew ?_) | exact HR190.out)) hb);have n3_:=Aside0.mk (below_step (by repeat (first | (with_reducible first | exact HB.out | apply below_alloc | apply pw_below_drewN | apply below_drew1) | exact HB.out)) hb);clear HO_5;clear HO194;clear HR190;clear HB;have HO_5:=n0_;have HO194:=n1_;have HR190:=n2_;have HB:=n3_;clear n0_ n1_ n2_ n3_;(try clear hb);(try clear hb2);(try clear hk);(try clear hi)))
               go_ret
               exact ⟨by first | rfl | (simp [errW_none,errW_some] <;> rfl) | (simp only [← hji32];first | rfl | (simp [errW_none,errW_some] <;> rfl)) | (simp [*,errW_none,errW_some] <;> rfl),by repeat (first | (with_reducible first | exact HB.out | apply below_alloc | apply pw_below_drewN | apply below_drew1) | exact HB.out)⟩
             ·replace c38:=Bool.eq_false_iff.mpr c38
              subst c38
              have H1 : (some false) = some r:=by rw [if_neg (show ¬ (false = true) by decide)] at H;exact H
              clear H
              have H:=H1
              clear H1
              obtain rfl:=Option.some.inj H
              have q52 : ((ji32) : Int) ≤ ((x5_1.length : Int) : Int):=of_decide_eq_true (by first | (with_reducible assumption) | assumption)
              obtain ⟨i052,hi052,_,hsz52,_⟩:=info_parts info5
              have hroom52 : x5_1.length ≤ co17:=(Kd.R_reads' HO_5.out).2.1
              have hC52 : Kd.C (Kd.int .u8) _ Ao17 x5_1.length x5_1:=(Kd.R_reads' HO_5.out).2.2
              have hcut52:=cut_to (P:=Try.prog) 27 5 .i64 Try.underlying27 hi052 Ao17 x5_1.length co17 (ji32) (of_decide_eq_true (by first | (with_reducible assumption) | assumption)) q52 hroom52
              have hr52:=Kd.C_take (m:=((ji32) : Int).toNat) hC52 (by omega)
              have hy52 : y187.length = ((ji32) : Int).toNat:=(by rw [Ny187.out,List.length_take];omega)
              rw [← Ny187.out] at hr52
              rw [← hy52] at hcut52
              have HR190:=Aside0.mk hr52
              have HC190:=Aside0.mk (show y187.length ≤ co17 from by omega)
              clear hr52 hC52 hroom52 hi052 hsz52
              have KY52:=Aside0.mk hy52
              clear hy52
              have KL52:=Aside0.mk (show ((ji32) : Int).toNat ≤ x5_1.length from by omega)
              replace q52:=eq_true q52
              go_wp2_with (first | ((with_reducible refine gate_callee (f:=30) rfl ?_);refine goesL_ (some 73) rfl rfl Try.func30 (by kernel_rfl) rfl #[.slice Ao17 y187.length co17,.int .i64 300] rfl (by (try simp only [List.map_toArray,List.map_cons,List.map_nil]);first | done | rfl | (simp only [List.length_drop,List.length_take];rfl)) ?_;(with_reducible refine (blob_All.calls kj15 _ _ y187 300 t191 t192 _ ?side1 ?side2 A35.out).mono ?_);(case side1 => repeat (first | exact (by repeat (first | (with_reducible exact HR190.out) | (with_reducible refine Kd.C_alloc ?_ _) | (with_reducible refine Kd.C_drewN ?_ _) | (with_reducible refine Kd.C_drew ?_) | exact HR190.out)) | (with_reducible refine Kd.C_alloc ?_ _) | (with_reducible refine Kd.C_drewN ?_ _) | (with_reducible refine Kd.C_drew ?_)));(case side2 => exact HC190.out);rintro e w53 ⟨v193,rfl,ho0,hb⟩;refine ⟨_,rfl,?_⟩;have n0_:=Aside0.mk (Kd.R_below (by (with_reducible repeat (first | apply Kd.R_alloc | apply Kd.R_drewN | apply Kd.R_drew));exact HO_5.out) hb);have n1_:=Aside0.mk (Kd.R_lower ho0 (below_size (by repeat (first | (with_reducible first | exact HB.out | apply below_alloc | apply pw_below_drewN | apply below_drew1) | exact HB.out))));have n2_:=Aside0.mk (Kd.C_below (by repeat (first | (with_reducible exact HR190.out) | (with_reducible refine Kd.C_alloc ?_ _) | (with_reducible refine Kd.C_drewN ?_ _) | (with_reducible refine Kd.C_drew ?_) | exact HR190.out)) hb);have n3_:=Aside0.mk (below_step (by repeat (first | (with_reducible first | exact HB.out | apply below_alloc | apply pw_below_drewN | apply below_drew1) | exact HB.out)) hb);clear HO_5;clear HR190;clear HB;have HO_5:=n0_;have HO194:=n1_;have HR190:=n2_;have HB:=n3_;clear n0_ n1_ n2_ n3_;(try clear hb);(try clear hb2);(try clear hk);(try clear hi);(try clear ho0)) | ((with_reducible refine gate_callee (f:=25) rfl ?_);refine goesL_ (some 79) rfl rfl Try.func25 (by kernel_rfl) rfl #[] rfl (by (try simp only [List.map_toArray,List.map_cons,List.map_nil]);first | done | rfl | (simp only [List.length_drop,List.length_take];rfl)) ?_;(with_reducible refine (tachographlaw02_fixed.calls  false _ A37.out).mono ?_);rintro e w54 ⟨rfl,hb⟩;refine ⟨_,rfl,?_⟩;have n0_:=Aside0.mk (Kd.R_below (by (with_reducible repeat (first | apply Kd.R_alloc | apply Kd.R_drewN | apply Kd.R_drew));exact HO_5.out) hb);have n1_:=Aside0.mk (Kd.R_below (by (with_reducible repeat (first | apply Kd.R_alloc | apply Kd.R_drewN | apply Kd.R_drew));exact HO194.out) hb);have n2_:=Aside0.mk (Kd.C_below (by repeat (first | (with_reducible exact HR190.out) | (with_reducible refine Kd.C_alloc ?_ _) | (with_reducible refine Kd.C_drewN ?_ _) | (with_reducible refine Kd.C_drew ?_) | exact HR190.out)) hb);have n3_:=Aside0.mk (below_step (by repeat (first | (with_reducible first | exact HB.out | apply below_alloc | apply pw_below_drewN | apply below_drew1) | exact HB.out)) hb);clear HO_5;clear HO194;clear HR190;clear HB;have HO_5:=n0_;have HO194:=n1_;have HR190:=n2_;have HB:=n3_;clear n0_ n1_ n2_ n3_;(try clear hb);(try clear hb2);(try clear hk);(try clear hi)))
              go_ret
              exact ⟨by first | rfl | (simp [errW_none,errW_some] <;> rfl) | (simp only [← hji32];first | rfl | (simp [errW_none,errW_some] <;> rfl)) | (simp [*,errW_none,errW_some] <;> rfl),by repeat (first | (with_reducible first | exact HB.out | apply below_alloc | apply pw_below_drewN | apply below_drew1) | exact HB.out)⟩
            ·rw [if_neg c36] at H
             have c36b0 : ((ji32) == x6_1) = false:=beq_eq_false_iff_ne.mpr c36
             have c36b1 : ((ji32) != x6_1) = true:=bne_iff_ne.mpr c36
             replace H:=Option.bind_eq_some_iff.mp H
             obtain ⟨t198,A550,H⟩:=H
             replace H : (if t198 = true then (if t192 = 2 then (some ((t191.length : Int) == 0)) else (some false)) else (some false)) = some r:=H
             have A55:=Aside0.mk A550
             clear A550
             by_cases c56 : t198 = true
             ·subst c56
              have H1 : (if t192 = 2 then (some ((t191.length : Int) == 0)) else (some false)) = some r:=by rw [if_pos rfl] at H;exact H
              clear H
              have H:=H1
              clear H1
              by_cases c57 : t192 = 2
              ·rw [if_pos c57] at H
               have c57b0 : (t192 == 2) = true:=beq_iff_eq.mpr c57
               have c57b1 : (t192 != 2) = false:=bne_eq_false_iff_eq.mpr c57
               clear c57
               obtain rfl:=Option.some.inj H
               have q58 : ((ji32) : Int) ≤ ((x5_1.length : Int) : Int):=of_decide_eq_true (by first | (with_reducible assumption) | assumption)
               obtain ⟨i058,hi058,_,hsz58,_⟩:=info_parts info5
               have hroom58 : x5_1.length ≤ co17:=(Kd.R_reads' HO_5.out).2.1
               have hC58 : Kd.C (Kd.int .u8) _ Ao17 x5_1.length x5_1:=(Kd.R_reads' HO_5.out).2.2
               have hcut58:=cut_to (P:=Try.prog) 27 5 .i64 Try.underlying27 hi058 Ao17 x5_1.length co17 (ji32) (of_decide_eq_true (by first | (with_reducible assumption) | assumption)) q58 hroom58
               have hr58:=Kd.C_take (m:=((ji32) : Int).toNat) hC58 (by omega)
               have hy58 : y187.length = ((ji32) : Int).toNat:=(by rw [Ny187.out,List.length_take];omega)
               rw [← Ny187.out] at hr58
               rw [← hy58] at hcut58
               have HR190:=Aside0.mk hr58
               have HC190:=Aside0.mk (show y187.length ≤ co17 from by omega)
               clear hr58 hC58 hroom58 hi058 hsz58
               have KY58:=Aside0.mk hy58
               clear hy58
               have KL58:=Aside0.mk (show ((ji32) : Int).toNat ≤ x5_1.length from by omega)
               replace q58:=eq_true q58
               go_wp2_with (first | ((with_reducible refine gate_callee (f:=30) rfl ?_);refine goesL_ (some 73) rfl rfl Try.func30 (by kernel_rfl) rfl #[.slice Ao17 y187.length co17,.int .i64 300] rfl (by (try simp only [List.map_toArray,List.map_cons,List.map_nil]);first | done | rfl | (simp only [List.length_drop,List.length_take];rfl)) ?_;(with_reducible refine (blob_All.calls kj15 _ _ y187 300 t191 t192 _ ?side1 ?side2 A35.out).mono ?_);(case side1 => repeat (first | exact (by repeat (first | (with_reducible exact HR190.out) | (with_reducible refine Kd.C_alloc ?_ _) | (with_reducible refine Kd.C_drewN ?_ _) | (with_reducible refine Kd.C_drew ?_) | exact HR190.out)) | (with_reducible refine Kd.C_alloc ?_ _) | (with_reducible refine Kd.C_drewN ?_ _) | (with_reducible refine Kd.C_drew ?_)));(case side2 => exact HC190.out);rintro e w59 ⟨v193,rfl,ho0,hb⟩;refine ⟨_,rfl,?_⟩;have n0_:=Aside0.mk (Kd.R_below (by (with_reducible repeat (first | apply Kd.R_alloc | apply Kd.R_drewN | apply Kd.R_drew));exact HO_5.out) hb);have n1_:=Aside0.mk (Kd.R_lower ho0 (below_size (by repeat (first | (with_reducible first | exact HB.out | apply below_alloc | apply pw_below_drewN | apply below_drew1) | exact HB.out))));have n2_:=Aside0.mk (Kd.C_below (by repeat (first | (with_reducible exact HR190.out) | (with_reducible refine Kd.C_alloc ?_ _) | (with_reducible refine Kd.C_drewN ?_ _) | (with_reducible refine Kd.C_drew ?_) | exact HR190.out)) hb);have n3_:=Aside0.mk (below_step (by repeat (first | (with_reducible first | exact HB.out | apply below_alloc | apply pw_below_drewN | apply below_drew1) | exact HB.out)) hb);clear HO_5;clear HR190;clear HB;have HO_5:=n0_;have HO194:=n1_;have HR190:=n2_;have HB:=n3_;clear n0_ n1_ n2_ n3_;(try clear hb);(try clear hb2);(try clear hk);(try clear hi);(try clear ho0)) | ((with_reducible refine gate_callee (f:=25) rfl ?_);refine goesL_ (some 93) rfl rfl Try.func25 (by kernel_rfl) rfl #[] rfl (by (try simp only [List.map_toArray,List.map_cons,List.map_nil]);first | done | rfl | (simp only [List.length_drop,List.length_take];rfl)) ?_;(with_reducible refine (tachographlaw02_fixed.calls  true _ A55.out).mono ?_);rintro e w60 ⟨rfl,hb⟩;refine ⟨_,rfl,?_⟩;have n0_:=Aside0.mk (Kd.R_below (by (with_reducible repeat (first | apply Kd.R_alloc | apply Kd.R_drewN | apply Kd.R_drew));exact HO_5.out) hb);have n1_:=Aside0.mk (Kd.R_below (by (with_reducible repeat (first | apply Kd.R_alloc | apply Kd.R_drewN | apply Kd.R_drew));exact HO194.out) hb);have n2_:=Aside0.mk (Kd.C_below (by repeat (first | (with_reducible exact HR190.out) | (with_reducible refine Kd.C_alloc ?_ _) | (with_reducible refine Kd.C_drewN ?_ _) | (with_reducible refine Kd.C_drew ?_) | exact HR190.out)) hb);have n3_:=Aside0.mk (below_step (by repeat (first | (with_reducible first | exact HB.out | apply below_alloc | apply pw_below_drewN | apply below_drew1) | exact HB.out)) hb);clear HO_5;clear HO194;clear HR190;clear HB;have HO_5:=n0_;have HO194:=n1_;have HR190:=n2_;have HB:=n3_;clear n0_ n1_ n2_ n3_;(try clear hb);(try clear hb2);(try clear hk);(try clear hi);obtain ⟨Ao61,co61,eo61⟩:=Kd.R_slice HO194.out;subst eo61))
               go_ret
               exact ⟨by first | rfl | (simp [errW_none,errW_some] <;> rfl) | (simp only [← hji32];first | rfl | (simp [errW_none,errW_some] <;> rfl)) | (simp [*,errW_none,errW_some] <;> rfl),by repeat (first | (with_reducible first | exact HB.out | apply below_alloc | apply pw_below_drewN | apply below_drew1) | exact HB.out)⟩
              ·rw [if_neg c57] at H
               have c57b0 : (t192 == 2) = false:=beq_eq_false_iff_ne.mpr c57
               have c57b1 : (t192 != 2) = true:=bne_iff_ne.mpr c57
               obtain rfl:=Option.some.inj H
               have q62 : ((ji32) : Int) ≤ ((x5_1.length : Int) : Int):=of_decide_eq_true (by first | (with_reducible assumption) | assumption)
               obtain ⟨i062,hi062,_,hsz62,_⟩:=info_parts info5
               have hroom62 : x5_1.length ≤ co17:=(Kd.R_reads' HO_5.out).2.1
               have hC62 : Kd.C (Kd.int .u8) _ Ao17 x5_1.length x5_1:=(Kd.R_reads' HO_5.out).2.2
               have hcut62:=cut_to (P:=Try.prog) 27 5 .i64 Try.underlying27 hi062 Ao17 x5_1.length co17 (ji32) (of_decide_eq_true (by first | (with_reducible assumption) | assumption)) q62 hroom62
               have hr62:=Kd.C_take (m:=((ji32) : Int).toNat) hC62 (by omega)
               have hy62 : y187.length = ((ji32) : Int).toNat:=(by rw [Ny187.out,List.length_take];omega)
               rw [← Ny187.out] at hr62
               rw [← hy62] at hcut62
               have HR190:=Aside0.mk hr62
               have HC190:=Aside0.mk (show y187.length ≤ co17 from by omega)
               clear hr62 hC62 hroom62 hi062 hsz62
               have KY62:=Aside0.mk hy62
               clear hy62
               have KL62:=Aside0.mk (show ((ji32) : Int).toNat ≤ x5_1.length from by omega)
               replace q62:=eq_true q62
               go_wp2_with (first | ((with_reducible refine gate_callee (f:=30) rfl ?_);refine goesL_ (some 73) rfl rfl Try.func30 (by kernel_rfl) rfl #[.slice Ao17 y187.length co17,.int .i64 300] rfl (by (try simp only [List.map_toArray,List.map_cons,List.map_nil]);first | done | rfl | (simp only [List.length_drop,List.length_take];rfl)) ?_;(with_reducible refine (blob_All.calls kj15 _ _ y187 300 t191 t192 _ ?side1 ?side2 A35.out).mono ?_);(case side1 => repeat (first | exact (by repeat (first | (with_reducible exact HR190.out) | (with_reducible refine Kd.C_alloc ?_ _) | (with_reducible refine Kd.C_drewN ?_ _) | (with_reducible refine Kd.C_drew ?_) | exact HR190.out)) | (with_reducible refine Kd.C_alloc ?_ _) | (with_reducible refine Kd.C_drewN ?_ _) | (with_reducible refine Kd.C_drew ?_)));(case side2 => exact HC190.out);rintro e w63 ⟨v193,rfl,ho0,hb⟩;refine ⟨_,rfl,?_⟩;have n0_:=Aside0.mk (Kd.R_below (by (with_reducible repeat (first | apply Kd.R_alloc | apply Kd.R_drewN | apply Kd.R_drew));exact HO_5.out) hb);have n1_:=Aside0.mk (Kd.R_lower ho0 (below_size (by repeat (first | (with_reducible first | exact HB.out | apply below_alloc | apply pw_below_drewN | apply below_drew1) | exact HB.out))));have n2_:=Aside0.mk (Kd.C_below (by repeat (first | (with_reducible exact HR190.out) | (with_reducible refine Kd.C_alloc ?_ _) | (with_reducible refine Kd.C_drewN ?_ _) | (with_reducible refine Kd.C_drew ?_) | exact HR190.out)) hb);have n3_:=Aside0.mk (below_step (by repeat (first | (with_reducible first | exact HB.out | apply below_alloc | apply pw_below_drewN | apply below_drew1) | exact HB.out)) hb);clear HO_5;clear HR190;clear HB;have HO_5:=n0_;have HO194:=n1_;have HR190:=n2_;have HB:=n3_;clear n0_ n1_ n2_ n3_;(try clear hb);(try clear hb2);(try clear hk);(try clear hi);(try clear ho0)) | ((with_reducible refine gate_callee (f:=25) rfl ?_);refine goesL_ (some 93) rfl rfl Try.func25 (by kernel_rfl) rfl #[] rfl (by (try simp only [List.map_toArray,List.map_cons,List.map_nil]);first | done | rfl | (simp only [List.length_drop,List.length_take];rfl)) ?_;(with_reducible refine (tachographlaw02_fixed.calls  true _ A55.out).mono ?_);rintro e w64 ⟨rfl,hb⟩;refine ⟨_,rfl,?_⟩;have n0_:=Aside0.mk (Kd.R_below (by (with_reducible repeat (first | apply Kd.R_alloc | apply Kd.R_drewN | apply Kd.R_drew));exact HO_5.out) hb);have n1_:=Aside0.mk (Kd.R_below (by (with_reducible repeat (first | apply Kd.R_alloc | apply Kd.R_drewN | apply Kd.R_drew));exact HO194.out) hb);have n2_:=Aside0.mk (Kd.C_below (by repeat (first | (with_reducible exact HR190.out) | (with_reducible refine Kd.C_alloc ?_ _) | (with_reducible refine Kd.C_drewN ?_ _) | (with_reducible refine Kd.C_drew ?_) | exact HR190.out)) hb);have n3_:=Aside0.mk (below_step (by repeat (first | (with_reducible first | exact HB.out | apply below_alloc | apply pw_below_drewN | apply below_drew1) | exact HB.out)) hb);clear HO_5;clear HO194;clear HR190;clear HB;have HO_5:=n0_;have HO194:=n1_;have HR190:=n2_;have HB:=n3_;clear n0_ n1_ n2_ n3_;(try clear hb);(try clear hb2);(try clear hk);(try clear hi)))
               go_ret
               exact ⟨by first | rfl | (simp [errW_none,errW_some] <;> rfl) | (simp only [← hji32];first | rfl | (simp [errW_none,errW_some] <;> rfl)) | (simp [*,errW_none,errW_some] <;> rfl),by repeat (first | (with_reducible first | exact HB.out | apply below_alloc | apply pw_below_drewN | apply below_drew1) | exact HB.out)⟩
             ·replace c56:=Bool.eq_false_iff.mpr c56
              subst c56
              have H1 : (some false) = some r:=by rw [if_neg (show ¬ (false = true) by decide)] at H;exact H
              clear H
              have H:=H1
              clear H1
              obtain rfl:=Option.some.inj H
              have q65 : ((ji32) : Int) ≤ ((x5_1.length : Int) : Int):=of_decide_eq_true (by first | (with_reducible assumption) | assumption)
              obtain ⟨i065,hi065,_,hsz65,_⟩:=info_parts info5
              have hroom65 : x5_1.length ≤ co17:=(Kd.R_reads' HO_5.out).2.1
              have hC65 : Kd.C (Kd.int .u8) _ Ao17 x5_1.length x5_1:=(Kd.R_reads' HO_5.out).2.2
              have hcut65:=cut_to (P:=Try.prog) 27 5 .i64 Try.underlying27 hi065 Ao17 x5_1.length co17 (ji32) (of_decide_eq_true (by first | (with_reducible assumption) | assumption)) q65 hroom65
              have hr65:=Kd.C_take (m:=((ji32) : Int).toNat) hC65 (by omega)
              have hy65 : y187.length = ((ji32) : Int).toNat:=(by rw [Ny187.out,List.length_take];omega)
              rw [← Ny187.out] at hr65
              rw [← hy65] at hcut65
              have HR190:=Aside0.mk hr65
              have HC190:=Aside0.mk (show y187.length ≤ co17 from by omega)
              clear hr65 hC65 hroom65 hi065 hsz65
              have KY65:=Aside0.mk hy65
              clear hy65
              have KL65:=Aside0.mk (show ((ji32) : Int).toNat ≤ x5_1.length from by omega)
              replace q65:=eq_true q65
              go_wp2_with (first | ((with_reducible refine gate_callee (f:=30) rfl ?_);refine goesL_ (some 73) rfl rfl Try.func30 (by kernel_rfl) rfl #[.slice Ao17 y187.length co17,.int .i64 300] rfl (by (try simp only [List.map_toArray,List.map_cons,List.map_nil]);first | done | rfl | (simp only [List.length_drop,List.length_take];rfl)) ?_;(with_reducible refine (blob_All.calls kj15 _ _ y187 300 t191 t192 _ ?side1 ?side2 A35.out).mono ?_);(case side1 => repeat (first | exact (by repeat (first | (with_reducible exact HR190.out) | (with_reducible refine Kd.C_alloc ?_ _) | (with_reducible refine Kd.C_drewN ?_ _) | (with_reducible refine Kd.C_drew ?_) | exact HR190.out)) | (with_reducible refine Kd.C_alloc ?_ _) | (with_reducible refine Kd.C_drewN ?_ _) | (with_reducible refine Kd.C_drew ?_)));(case side2 => exact HC190.out);rintro e w66 ⟨v193,rfl,ho0,hb⟩;refine ⟨_,rfl,?_⟩;have n0_:=Aside0.mk (Kd.R_below (by (with_reducible repeat (first | apply Kd.R_alloc | apply Kd.R_drewN | apply Kd.R_drew));exact HO_5.out) hb);have n1_:=Aside0.mk (Kd.R_lower ho0 (below_size (by repeat (first | (with_reducible first | exact HB.out | apply below_alloc | apply pw_below_drewN | apply below_drew1) | exact HB.out))));have n2_:=Aside0.mk (Kd.C_below (by repeat (first | (with_reducible exact HR190.out) | (with_reducible refine Kd.C_alloc ?_ _) | (with_reducible refine Kd.C_drewN ?_ _) | (with_reducible refine Kd.C_drew ?_) | exact HR190.out)) hb);have n3_:=Aside0.mk (below_step (by repeat (first | (with_reducible first | exact HB.out | apply below_alloc | apply pw_below_drewN | apply below_drew1) | exact HB.out)) hb);clear HO_5;clear HR190;clear HB;have HO_5:=n0_;have HO194:=n1_;have HR190:=n2_;have HB:=n3_;clear n0_ n1_ n2_ n3_;(try clear hb);(try clear hb2);(try clear hk);(try clear hi);(try clear ho0)) | ((with_reducible refine gate_callee (f:=25) rfl ?_);refine goesL_ (some 93) rfl rfl Try.func25 (by kernel_rfl) rfl #[] rfl (by (try simp only [List.map_toArray,List.map_cons,List.map_nil]);first | done | rfl | (simp only [List.length_drop,List.length_take];rfl)) ?_;(with_reducible refine (tachographlaw02_fixed.calls  false _ A55.out).mono ?_);rintro e w67 ⟨rfl,hb⟩;refine ⟨_,rfl,?_⟩;have n0_:=Aside0.mk (Kd.R_below (by (with_reducible repeat (first | apply Kd.R_alloc | apply Kd.R_drewN | apply Kd.R_drew));exact HO_5.out) hb);have n1_:=Aside0.mk (Kd.R_below (by (with_reducible repeat (first | apply Kd.R_alloc | apply Kd.R_drewN | apply Kd.R_drew));exact HO194.out) hb);have n2_:=Aside0.mk (Kd.C_below (by repeat (first | (with_reducible exact HR190.out) | (with_reducible refine Kd.C_alloc ?_ _) | (with_reducible refine Kd.C_drewN ?_ _) | (with_reducible refine Kd.C_drew ?_) | exact HR190.out)) hb);have n3_:=Aside0.mk (below_step (by repeat (first | (with_reducible first | exact HB.out | apply below_alloc | apply pw_below_drewN | apply below_drew1) | exact HB.out)) hb);clear HO_5;clear HO194;clear HR190;clear HB;have HO_5:=n0_;have HO194:=n1_;have HR190:=n2_;have HB:=n3_;clear n0_ n1_ n2_ n3_;(try clear hb);(try clear hb2);(try clear hk);(try clear hi)))
              go_ret
              exact ⟨by first | rfl | (simp [errW_none,errW_some] <;> rfl) | (simp only [← hji32];first | rfl | (simp [errW_none,errW_some] <;> rfl)) | (simp [*,errW_none,errW_some] <;> rfl),by repeat (first | (with_reducible first | exact HB.out | apply below_alloc | apply pw_below_drewN | apply below_drew1) | exact HB.out)⟩
           ·rw [if_neg c34] at H
            exact absurd H (by simp)
          ·rw [if_neg c33] at H
           exact absurd H (by simp)

set_option maxRecDepth 100000 in
theorem tachographlaw02_BlobAll.laid0 : Go.Proofs.YtjfklfmfeghjnaaOpen.Laid Try.prog 9 Kd.string Go.Proofs.YtjfklfmfeghjnaaOpen.strOk:=(Go.Proofs.YtjfklfmfeghjnaaOpen.laid_string Try.underlying9 (by kernel_rfl))
/-- THE ONE PURE STATEMENT of tachographlaw02_BlobAll: yours. -/
def tachographlaw02_BlobAll.Pure : Prop:=∀ (l0 : List ByteArray) (a1 : Int),(Go.Proofs.YtjfklfmfeghjnaaOpen.sliceOk 16 Go.Proofs.YtjfklfmfeghjnaaOpen.strOk) l0 → (Lit.int .u16 a1).wf = true → ∃ k,tachographlaw02_BlobAll.f k l0 a1 = some true
theorem tachographlaw02_BlobAll.walk (P : tachographlaw02_BlobAll.Pure) (a0 : Option Addr) (cap0 : Nat) (l0 : List ByteArray) (a1 : Int) (w : World) (w0 : (Go.Proofs.YtjfklfmfeghjnaaOpen.sliceOk 16 Go.Proofs.YtjfklfmfeghjnaaOpen.strOk) l0) (e0 : l0.length ≤ cap0) (C0 : Kd.C Kd.string w a0 l0.length l0) (w1 : (Lit.int .u16 a1).wf = true) :
  Calls Try.prog 9 #[.slice a0 l0.length cap0,.int .u16 a1] w fun e w' => e = .returned (.bool true) ∧ Below w.heap.size w w':=by
 obtain ⟨k,h⟩:=P l0 a1 w0 w1
 refine (tachographlaw02_BlobAll.calls k _ _ l0 a1 true w C0 e0 h).mono ?_
 rintro e w' ⟨rfl,hd⟩
 exact ⟨rfl,hd⟩

/-- A state of type 102 at block g of W; what its slices lead to came in by w0. -/
def IsS102 (w0 W : World) (g : Nat) (f0 : ByteArray) (f1 : Int) (f2 : Int) : Prop := W.heap[g]? = some (.cells #[.string f0, .int .i64 f1, .int .i64 f2] 102 (0, 0)) ∧ w0.heap.size ≤ g
theorem IsS102.grown {w0 W : World} {g : Nat} {f0 : ByteArray} {f1 : Int} {f2 : Int} {W1 : World} {row : Option Nat} (h : IsS102 w0 W g f0 f1 f2) (hw : W.grownBy W1 row) (hne : some g ≠ row) : IsS102 w0 W1 g f0 f1 f2 := by
  obtain ⟨hb, hg⟩ := h
  exact ⟨blk_grown hb hw hne, hg⟩
theorem IsS102.own_neN {w0 W : World} {g : Nat} {f0 : ByteArray} {f1 : Int} {f2 : Int} {α : Type} {d : Kd α} {e : Nat} {base : Nat} {ok : Nat → Prop} {v : Value} {xs : List α} (h : IsS102 w0 W g f0 f1 f2) (ho : Kd.N d e W base ok v xs) (ht : e ≠ 102) : some g ≠ v.ownBlock := by
  obtain ⟨hb, hg⟩ := h
  exact Kd.N_ne ho hb ht
theorem IsS102.fresh {w0 W : World} {g : Nat} {f0 : ByteArray} {f1 : Int} {f2 : Int} (h : IsS102 w0 W g f0 f1 f2) : ∀ k, W.heap.size ≤ k → k ≠ g := by
  obtain ⟨hb, hg⟩ := h
  exact Kd.freshB hb
theorem IsS102.kept {w0 W : World} {g : Nat} {f0 : ByteArray} {f1 : Int} {f2 : Int} {W1 : World} {S : Nat → Prop} (h : IsS102 w0 W g f0 f1 f2) (hk : Kept W W1 S) (hne : ¬ S g) : IsS102 w0 W1 g f0 f1 f2 := by
  obtain ⟨hb, hg⟩ := h
  exact ⟨blk_kept hb hk hne, hg⟩
theorem IsS102.below {w0 W : World} {g : Nat} {f0 : ByteArray} {f1 : Int} {f2 : Int} {W1 : World} (h : IsS102 w0 W g f0 f1 f2) (hw : Below W.heap.size W W1) : IsS102 w0 W1 g f0 f1 f2 := h.grown (grown_of_below hw none) (by simp)
theorem IsS102.alloc {w0 W : World} {g : Nat} {f0 : ByteArray} {f1 : Int} {f2 : Int} (h : IsS102 w0 W g f0 f1 f2) (o : Obj) : IsS102 w0 (W.alloc o) g f0 f1 f2 := h.below (below_alloc (Below.refl _ _) o)
theorem IsS102.drewN {w0 W : World} {g : Nat} {f0 : ByteArray} {f1 : Int} {f2 : Int} (h : IsS102 w0 W g f0 f1 f2) (m : Nat) : IsS102 w0 (W.drewN m) g f0 f1 f2 := h
theorem IsS102.drew {w0 W : World} {g : Nat} {f0 : ByteArray} {f1 : Int} {f2 : Int} (h : IsS102 w0 W g f0 f1 f2) : IsS102 w0 W.drew g f0 f1 f2 := h
theorem IsS102.at_ {w0 W : World} {g : Nat} {f0 : ByteArray} {f1 : Int} {f2 : Int} {w' : World} {m : Nat} (hq : W.drewN m = w') (h : IsS102 w0 W g f0 f1 f2) : IsS102 w0 w' g f0 f1 f2 := by subst hq; exact IsS102.drewN h m
theorem IsS102.apart {w0 W : World} {g : Nat} {f0 : ByteArray} {f1 : Int} {f2 : Int} {α : Type} {d : Kd α} {e : Nat} {base : Nat} {ok : Nat → Prop} {v : Value} {xs : List α} (h : IsS102 w0 W g f0 f1 f2) (ho : d.R e W base ok v xs) (ht : ∀ q, q ∈ e :: d.E → q ≠ 102) : d.R e W base (fun k => ok k ∧ k ≠ g) v xs := by
  obtain ⟨hb, hg⟩ := h
  exact Kd.R_types ho hb ht
theorem IsS102.own_ne {w0 W : World} {g : Nat} {f0 : ByteArray} {f1 : Int} {f2 : Int} {α : Type} {d : Kd α} {e : Nat} {base : Nat} {ok : Nat → Prop} {v : Value} {xs : List α} (h : IsS102 w0 W g f0 f1 f2) (ho : d.R e W base ok v xs) (ht : e ≠ 102) : some g ≠ v.ownBlock := by
  obtain ⟨hb, hg⟩ := h
  exact Kd.R_ne ho hb ht
theorem IsS102.apartQ {w0 W : World} {g : Nat} {f0 : ByteArray} {f1 : Int} {f2 : Int} {α : Type} {d : Kd α} {e : Nat} {base : Nat} {ok : Nat → Prop} {v : Value} {xs : List α} (h : IsS102 w0 W g f0 f1 f2) (ho : d.Q e W base ok v xs) (ht : ∀ q, q ∈ e :: d.E → q ≠ 102) : d.Q e W base (fun k => ok k ∧ k ≠ g) v xs := by
  obtain ⟨hb, hg⟩ := h
  exact Kd.Q_types ho hb ht
theorem IsS102.own_neQ {w0 W : World} {g : Nat} {f0 : ByteArray} {f1 : Int} {f2 : Int} {α : Type} {d : Kd α} {e : Nat} {base : Nat} {ok : Nat → Prop} {v : Value} {xs : List α} (h : IsS102 w0 W g f0 f1 f2) (ho : d.Q e W base ok v xs) (ht : e ≠ 102) : some g ≠ v.ownBlock := by
  obtain ⟨hb, hg⟩ := h
  exact Kd.Q_ne ho hb ht
theorem IsS102.apartS {w0 W : World} {g : Nat} {f0 : ByteArray} {f1 : Int} {f2 : Int} {α : Type} {d : Kd α} {e : Nat} {base : Nat} {ok : Nat → Prop} {v : Value} {xs : List α} (h : IsS102 w0 W g f0 f1 f2) (ho : d.S e W base ok v xs) (ht : ∀ q, q ∈ e :: d.E → q ≠ 102) : d.S e W base (fun k => ok k ∧ k ≠ g) v xs := by
  obtain ⟨hb, hg⟩ := h
  exact Kd.S_types ho hb ht
theorem IsS102.own_neS {w0 W : World} {g : Nat} {f0 : ByteArray} {f1 : Int} {f2 : Int} {α : Type} {d : Kd α} {e : Nat} {base : Nat} {ok : Nat → Prop} {v : Value} {xs : List α} (h : IsS102 w0 W g f0 f1 f2) (ho : d.S e W base ok v xs) (ht : e ≠ 102) : some g ≠ v.ownBlock := by
  obtain ⟨hb, hg⟩ := h
  exact Kd.S_ne ho hb ht
theorem IsS102.lt {w0 W : World} {g : Nat} {f0 : ByteArray} {f1 : Int} {f2 : Int} (h : IsS102 w0 W g f0 f1 f2) : g < W.heap.size := by
  obtain ⟨hb, hg⟩ := h
  exact blk_lt hb
theorem IsS102.ge {w0 W : World} {g : Nat} {f0 : ByteArray} {f1 : Int} {f2 : Int} (h : IsS102 w0 W g f0 f1 f2) : w0.heap.size ≤ g := by
  obtain ⟨hb, hg⟩ := h
  exact hg
theorem IsS102.ne_blk {w0 W : World} {g : Nat} {f0 : ByteArray} {f1 : Int} {f2 : Int} {a : Nat} {cs : Array Value} {t : TypeId} {fr : Nat × Nat} (h : IsS102 w0 W g f0 f1 f2) (hb2 : W.heap[a]? = some (.cells cs t fr)) (ht : t ≠ 102) : g ≠ a := by
  obtain ⟨hb, hg⟩ := h
  rintro rfl
  rw [hb] at hb2
  injection hb2 with hb2
  injection hb2 with _ ht2
  exact ht ht2.symm
theorem IsS102.far {w0 W : World} {g : Nat} {f0 : ByteArray} {f1 : Int} {f2 : Int} {p : Addr} (h : IsS102 w0 W g f0 f1 f2) (hne : g ≠ p.block) (u : Value) : IsS102 w0 (W.setCell p u) g f0 f1 f2 := by
  obtain ⟨hb, hg⟩ := h
  exact ⟨blk_far hb hne u, hg⟩
theorem cellS102_0 {W : World} {g : Nat} {f0 : ByteArray} {f1 : Int} {f2 : Int} (h : W.heap[g]? = some (.cells #[.string f0, .int .i64 f1, .int .i64 f2] 102 (0, 0))) : W.cell? ⟨g, 0, none⟩ = some (.string f0) := (blk_cell h 0).trans rfl
theorem IsS102.set_0 {w0 W : World} {g : Nat} {f0 : ByteArray} {f1 : Int} {f2 : Int} (h : IsS102 w0 W g f0 f1 f2) (x : ByteArray) : IsS102 w0 (W.setCell ⟨g, 0, none⟩ (.string x)) g x f1 f2 := by
  obtain ⟨hb, hg⟩ := h
  exact ⟨by simpa using blk_set hb 0 (.string x), hg⟩
theorem cellS102_1 {W : World} {g : Nat} {f0 : ByteArray} {f1 : Int} {f2 : Int} (h : W.heap[g]? = some (.cells #[.string f0, .int .i64 f1, .int .i64 f2] 102 (0, 0))) : W.cell? ⟨g, 1, none⟩ = some (.int .i64 f1) := (blk_cell h 1).trans rfl
theorem IsS102.set_1 {w0 W : World} {g : Nat} {f0 : ByteArray} {f1 : Int} {f2 : Int} (h : IsS102 w0 W g f0 f1 f2) (x : Int) : IsS102 w0 (W.setCell ⟨g, 1, none⟩ (.int .i64 x)) g f0 x f2 := by
  obtain ⟨hb, hg⟩ := h
  exact ⟨by simpa using blk_set hb 1 (.int .i64 x), hg⟩
theorem cellS102_2 {W : World} {g : Nat} {f0 : ByteArray} {f1 : Int} {f2 : Int} (h : W.heap[g]? = some (.cells #[.string f0, .int .i64 f1, .int .i64 f2] 102 (0, 0))) : W.cell? ⟨g, 2, none⟩ = some (.int .i64 f2) := (blk_cell h 2).trans rfl
theorem IsS102.set_2 {w0 W : World} {g : Nat} {f0 : ByteArray} {f1 : Int} {f2 : Int} (h : IsS102 w0 W g f0 f1 f2) (x : Int) : IsS102 w0 (W.setCell ⟨g, 2, none⟩ (.int .i64 x)) g f0 f1 x := by
  obtain ⟨hb, hg⟩ := h
  exact ⟨by simpa using blk_set hb 2 (.int .i64 x), hg⟩
theorem IsS102.new (w0 W : World) (f0 : ByteArray) (f1 : Int) (f2 : Int) (hB : Below w0.heap.size w0 W) : IsS102 w0 (W.alloc (.cells #[.string f0, .int .i64 f1, .int .i64 f2] 102)) W.heap.size f0 f1 f2 := ⟨by simpa using heap_alloc_new W _, hB.size⟩

/-! ### cursor_New: function 34 -/
def cursor_New.f (l0 : List Int) : Option (ByteArray × Int × Int) := some (strOfNums l0, 0, 0)
set_option maxHeartbeats 8000000 in
set_option maxRecDepth 100000 in
theorem cursor_New.calls (A0 : Option Addr) (c0 : Nat) (l0 : List Int) (r1 : ByteArray) (r2 : Int) (r3 : Int) (w0 w : World) (hB : Below w0.heap.size w0 w) (hr0 : Kd.C (Kd.int .u8) w A0 l0.length l0) (hc0 : l0.length ≤ c0) (h : cursor_New.f l0 = some (r1, r2, r3)) :
    Calls Try.prog 34 #[.slice A0 l0.length c0] w fun e w' => ∃ g_ : Nat, e = .returned (.pointer (some ⟨g_, 0, none⟩)) ∧ IsS102 w0 w' g_ r1 r2 r3 ∧ Below w0.heap.size w0 w' ∧ Below w.heap.size w w' := by
  have hu102 := Try.underlying102
  have HR0 := Aside0.mk hr0
  have HC0 := Aside0.mk hc0
  clear hr0 hc0
  have HBW := Aside0.mk (Below.refl w.heap.size w)
  have HW0 := Aside0.mk hB.size
  have HB := Aside0.mk hB
  clear hB
  have H : (some (strOfNums l0, 0, 0)) = some (r1, r2, r3) := h
  clear h
  simp only [Option.some.injEq, Prod.mk.injEq] at H
  obtain ⟨rfl, rfl, rfl⟩ := H
  have hcv2 := Kd.C_string (P := Try.prog) (A := A0) (c := c0) Try.underlying27 Try.underlying5 Try.underlying9 HR0.out
  have hcv4 := fun m_ : Nat => Kd.C_string (P := Try.prog) (A := A0) (c := c0) Try.underlying27 Try.underlying5 Try.underlying9 (Kd.C_drewN HR0.out m_)
  go_enter Try.func34, Try.ntmps34
  go_wp2_with (first | ((with_reducible refine gate_dst (N := 6) rfl ?_); refine box_event ?hg (N := 6) ?hd (cs := #[.string (strOfNums l0), .int .i64 0, .int .i64 0]) (t := 102) ?hr ?_; (case hd => rfl); (case hg => rfl); (case hr => first | (go_simp; done) | (go_simp; rfl)); intro gb199 hg w5 hbox hb; have n0_ := Aside0.mk (below_step HBW.out hb); have n1_ := Aside0.mk (below_step (by repeat (first | (with_reducible first | exact HB.out | apply below_alloc | apply pw_below_drewN | apply below_drew1) | exact HB.out)) hb); have n2_ := Aside0.mk (hbox); have n3_ := Aside0.mk ((by rw [hg]; exact (below_size (by repeat (first | (with_reducible first | exact HBW.out | apply below_alloc | apply pw_below_drewN | apply below_drew1) | exact HBW.out))) : w.heap.size ≤ gb199)); have n4_ := Aside0.mk ((Nat.le_trans HW0.out (by rw [hg]; exact (below_size (by repeat (first | (with_reducible first | exact HBW.out | apply below_alloc | apply pw_below_drewN | apply below_drew1) | exact HBW.out))) : w.heap.size ≤ gb199) : w0.heap.size ≤ gb199)); clear HBW; clear HB; have HBW := n0_; have HB := n1_; have BK199 := n2_; have GW199 := n3_; have GE199 := n4_; clear n0_ n1_ n2_ n3_ n4_; clear hb hbox hg))
  go_ret
  exact ⟨_, rfl, (show IsS102 w0 _ gb199 (strOfNums l0) 0 0 from ⟨by (with_reducible repeat (first | refine blk_drewN ?_ _ | refine blk_drew ?_ | refine blk_alloc ?_ _)); exact BK199.out, GE199.out⟩), by repeat (first | (with_reducible first | exact HB.out | apply below_alloc | apply pw_below_drewN | apply below_drew1 | refine below_set ?_ GE199.out) | exact HB.out), by repeat (first | (with_reducible first | exact HBW.out | apply below_alloc | apply pw_below_drewN | apply below_drew1 | refine below_set ?_ GW199.out) | exact HBW.out)⟩

end Go.Proofs.Ytjfklfmfeghjnaa.PA
