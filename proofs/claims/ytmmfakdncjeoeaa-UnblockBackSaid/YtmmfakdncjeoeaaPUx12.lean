-- Contracts of Go functions, each with its plain Lean function: written by wip/tools/myprint.py of this work (the kit's print, with contracts proved by hand spliced in).
import Derived.Test.YtmmfakdncjeoeaaPUx0
import Derived.Test.YtmmfakdncjeoeaaPUx11
import Derived.Test.YtmmfakdncjeoeaaShort
namespace Go.Proofs.Ytmmfakdncjeoeaa.PU
open Go.Proofs.YtmmfakdncjeoeaaShort
open Go.RowKit Go.Proofs.YtmmfakdncjeoeaaW.PrintWords Go.Proofs.YtmmfakdncjeoeaaW.PrintLast Go.Proofs.YtmmfakdncjeoeaaW.PrintMore
attribute [local go_sem] max2_int min2_int max_two min_two max_three min_three max_four min_four   -- for this text's walks alone
set_option linter.unusedVariables false
set_option linter.unusedSimpArgs false

/-! ### tachographref12_Same: function 12 -/
mutual
def tachographref12_Same.l0 : Nat → List (S56) → List (S56) → Int → Option (Bool)
 | 0, _, _, _ => none
 | k + 1, x0, x1, x5 => if x5 < (x0.length : Int) then (if 0 ≤ x5 then (if x5 < (x1.length : Int) then (if ((rd_T56 x0 x5).f0) = ((rd_T56 x1 x5).f0) then (tachographref12_Same.j1 k x0 x1 x5 ((((rd_T56 x0 x5).f1).length : Int) != (((rd_T56 x1 x5).f1).length : Int))) else (tachographref12_Same.j1 k x0 x1 x5 true)) else (none)) else (none)) else (some true)
def tachographref12_Same.j1 : Nat → List (S56) → List (S56) → Int → Bool → Option (Bool)
 | 0, _, _, _, _ => none
 | k + 1, x0, x1, x5, x43 => if x43 = true then (some false) else (tachographref12_Same.l1 k x0 x1 x5 0)
def tachographref12_Same.l1 : Nat → List (S56) → List (S56) → Int → Int → Option (Bool)
 | 0, _, _, _, _ => none
 | k + 1, x0, x1, x5, x6 => if 0 ≤ x5 then (if x5 < (x0.length : Int) then (if x6 < (((rd_T56 x0 x5).f1).length : Int) then (if 0 ≤ x6 then (if x5 < (x1.length : Int) then (if x6 < (((rd_T56 x1 x5).f1).length : Int) then ((tachographref12_event.f k ((rd_T59 ((rd_T56 x0 x5).f1) x6).f0) ((rd_T59 ((rd_T56 x0 x5).f1) x6).f1) ((rd_T59 ((rd_T56 x1 x5).f1) x6).f0) ((rd_T59 ((rd_T56 x1 x5).f1) x6).f1)).bind fun t344 => (if t344 = true then (tachographref12_Same.l1 k x0 x1 x5 (wrap64 (x6 + 1))) else (some false))) else (none)) else (none)) else (none)) else (tachographref12_Same.l0 k x0 x1 (wrap64 (x5 + 1)))) else (none)) else (none)
end
def tachographref12_Same.f (k : Nat) (l0 : List (S56)) (l1 : List (S56)) : Option (Bool) := if (l0.length : Int) = (l1.length : Int) then (tachographref12_Same.l0 k l0 l1 0) else (some false)
def tachographref12_Same.T6 : Bool × List (List Nat × List Nat) := (true, [([], []), ([], []), ([0, 1], [0, 1]), ([2], [2]), ([3], [3]), ([], []), ([], []), ([5, 6], [5, 6]), ([7], [7]), ([8], [8]), ([4, 9], [4, 9]), ([10], [10]), ([11], [11]), ([11], [11]), ([12, 13, 11], [11, 12, 13]), ([14, 11], [11, 14]), ([15, 11], [11, 15]), ([16, 11], [11, 16]), ([11], [11]), ([11], [11]), ([18, 19, 11], [11, 18, 19]), ([20, 11], [11, 20]), ([21, 11], [11, 21]), ([22, 11], [11, 22]), ([17, 23, 11], [11, 17, 23]), ([11, 24], [11, 24])])
def tachographref12_Same.B6 : List Nat := [0, 0, 3, 7, 15, 0, 0, 96, 224, 480, 1023, 2047, 4095, 4095, 16383, 32767, 65535, 131071, 4095, 4095, 790527, 1839103, 3936255, 8130559, 16777215, 33554431]
theorem tachographref12_Same.tab6 : rtab .any (opsOf Try.f12 6) = tachographref12_Same.T6 := by kernel_rfl
theorem tachographref12_Same.bits6 : waitsOk tachographref12_Same.T6.2 tachographref12_Same.B6 = true := by kernel_rfl
def tachographref12_Same.T11 : Bool × List (List Nat × List Nat) := (true, [([], []), ([], []), ([0, 1], [0, 1]), ([2], [2]), ([3], [3]), ([], []), ([4, 5], [4, 5]), ([6], [6]), ([], []), ([], []), ([8, 9], [8, 9]), ([10], [10]), ([11], [11]), ([], []), ([12, 13], [12, 13]), ([14], [14]), ([7, 15], [7, 15]), ([16], [16])])
def tachographref12_Same.B11 : List Nat := [0, 0, 3, 7, 15, 0, 63, 127, 0, 0, 768, 1792, 3840, 0, 16128, 32512, 65535, 131071]
theorem tachographref12_Same.tab11 : rtab .any (opsOf Try.f12 11) = tachographref12_Same.T11 := by kernel_rfl
theorem tachographref12_Same.bits11 : waitsOk tachographref12_Same.T11.2 tachographref12_Same.B11 = true := by kernel_rfl
set_option maxHeartbeats 8000000 in
set_option maxRecDepth 100000 in
theorem tachographref12_Same.calls (k : Nat) (A0 : Option Addr) (c0 : Nat) (l0 : List (S56)) (A1 : Option Addr) (c1 : Nat) (l1 : List (S56)) (r : Bool) (w : World) (hr0 : Kd.C k56 w A0 l0.length l0) (hc0 : l0.length ≤ c0) (hr1 : Kd.C k56 w A1 l1.length l1) (hc1 : l1.length ≤ c1) (h : tachographref12_Same.f k l0 l1 = some r) :
  Calls Try.prog 12 #[.slice A0 l0.length c0,.slice A1 l1.length c1] w fun e w' => e = .returned (.bool r) ∧ Below w.heap.size w w':=by
 have hu59:=Try.underlying59
 have HR0:=qm hr0
 have HC0:=qm hc0
 clear hr0 hc0
 have HR1:=qm hr1
 have HC1:=qm hc1
 clear hr1 hc1
 have HB:=qm (Below.refl w.heap.size w)
 have H : (if (l0.length : Int) = (l1.length : Int) then (tachographref12_Same.l0 k l0 l1 0) else (some false)) = some r:=h
 clear h
 by_cases c3 : (l0.length : Int) = (l1.length : Int)
 ·rw [if_pos c3] at H
  have c3b0 : ((l0.length : Int) == (l1.length : Int)) = true:=beq_iff_eq.mpr c3
  have c3b1 : ((l0.length : Int) != (l1.length : Int)) = false:=b2q.mpr c3
  have c3b2 : (l0.length == l1.length) = true:=by first | simpa using c3 | (simp at c3 ⊢;omega)
  clear c3
  have H':=qm H
  clear H
  go_enter Try.func12,Try.ntmps12
  go_wp2
  go_loopg [5] k (fun kq v5 w' => ∃ (x5_1 : Int),v5 = .int .i64 x5_1 ∧ Aside0 (tachographref12_Same.l0 kq l0 l1 x5_1 = some r) ∧ Aside0 (kq ≤ k) ∧ Aside0 (Below w.heap.size w w'))
  case atStart => exact ⟨(0),(by first | rfl | (simp;done) | (simp [*];done)),H',⟨Nat.le_refl _⟩,⟨by repeat (first | (with_reducible first | exact HB.out | apply qa | apply qn | apply qd) | exact HB.out)⟩⟩
  case round =>
   clear H'
   try clear c1
   try clear p2
   try clear c3
   try clear c3b0
   try clear c3b1
   try clear c3b2
   obtain ⟨x5_1,rfl,HA,HK1,HB⟩:=hrel
   cases gk with
   | zero => exact absurd HA.out (by simp [tachographref12_Same.l0])
   | succ k1 =>
    have H:=HA.out
    clear HA
    simp only [tachographref12_Same.l0] at H
    by_cases c4 : x5_1 < (l0.length : Int)
    ·rw [if_pos c4] at H
     have c4b0 : decide (x5_1 < (l0.length : Int)) = true:=dt_ c4
     clear c4
     have HC5:=qm H
     clear H
     go_upto_region 6 with (fail)
     go_cut [43] (fun v43 wc => ∃ (kq : Nat) (x43_4 : Bool),v43 = .bool x43_4 ∧ Aside0 (tachographref12_Same.j1 kq l0 l1 x5_1 x43_4 = some r) ∧ Aside0 (kq ≤ k1) ∧ Aside0 (Below w.heap.size w wc))
     case first =>
      have H:=HC5.out
      clear HC5
      by_cases c6 : 0 ≤ x5_1
      ·rw [if_pos c6] at H
       have c6b0 : decide (0 ≤ x5_1) = true:=dt_ c6
       clear c6
       (first | rw [c6b0] | (simp only [i64_w,i32_w];rw [c6b0]) | skip)
       by_cases c7 : x5_1 < (l1.length : Int)
       ·rw [if_pos c7] at H
        have c7b0 : decide (x5_1 < (l1.length : Int)) = true:=dt_ c7
        clear c7
        by_cases c8 : ((rd_T56 l0 x5_1).f0) = ((rd_T56 l1 x5_1).f0)
        ·rw [if_pos c8] at H
         have c8b0 : (((rd_T56 l0 x5_1).f0) == ((rd_T56 l1 x5_1).f0)) = true:=beq_iff_eq.mpr c8
         have c8b1 : (((rd_T56 l0 x5_1).f0) != ((rd_T56 l1 x5_1).f0)) = false:=b2q.mpr c8
         clear c8
         have H':=qm H
         clear H
         try go_wp2
         have n0_:=qm (qd HB.out)
         clear HB
         have HB:=n0_
         clear n0_
         have p335 : 0 ≤ (x5_1 : Int):=dq_ (by first | (with_reducible assumption) | assumption)
         have q335 : x5_1 < (l0.length : Int):=dq_ (by first | (with_reducible assumption) | assumption)
         obtain ⟨ad335,A335_1,c335_1,e335,hx335_0,hx335_1,hl335_1,hi335_1⟩:=at_T56 HR0.out x5_1 p335 q335
         have hw335_1:=hx335_1
         have hw335_0:=hx335_0
         cases e335
         replace hx335_0:=(HB.out.cell (World.block_lt_of_cell? w _ hx335_0)).trans hx335_0
         replace hx335_1:=(HB.out.cell (World.block_lt_of_cell? w _ hx335_1)).trans hx335_1
         have HR335_1:=qm hi335_1
         have HC335_1:=qm hl335_1
         clear hi335_1 hl335_1
         replace p335:=eq_true p335
         replace q335:=eq_true q335
         have p336 : 0 ≤ (x5_1 : Int):=dq_ (by first | (with_reducible assumption) | assumption)
         have q336 : x5_1 < (l1.length : Int):=dq_ (by first | (with_reducible assumption) | assumption)
         obtain ⟨ad336,A336_1,c336_1,e336,hx336_0,hx336_1,hl336_1,hi336_1⟩:=at_T56 HR1.out x5_1 p336 q336
         have hw336_1:=hx336_1
         have hw336_0:=hx336_0
         cases e336
         replace hx336_0:=(HB.out.cell (World.block_lt_of_cell? w _ hx336_0)).trans hx336_0
         replace hx336_1:=(HB.out.cell (World.block_lt_of_cell? w _ hx336_1)).trans hx336_1
         have HR336_1:=qm hi336_1
         have HC336_1:=qm hl336_1
         clear hi336_1 hl336_1
         replace p336:=eq_true p336
         replace q336:=eq_true q336
         have p337 : 0 ≤ (x5_1 : Int):=dq_ (by first | (with_reducible assumption) | assumption)
         have q337 : x5_1 < (l0.length : Int):=dq_ (by first | (with_reducible assumption) | assumption)
         obtain ⟨ad337,A337_1,c337_1,e337,hx337_0,hx337_1,hl337_1,hi337_1⟩:=at_T56 HR0.out x5_1 p337 q337
         have hw337_1:=hx337_1
         have hw337_0:=hx337_0
         obtain rfl : ad335 = ad337:=(by injection e337)
         replace hx337_0:=(HB.out.cell (World.block_lt_of_cell? w _ hx337_0)).trans hx337_0
         replace hx337_1:=(HB.out.cell (World.block_lt_of_cell? w _ hx337_1)).trans hx337_1
         have HR337_1:=qm hi337_1
         have HC337_1:=qm hl337_1
         clear hi337_1 hl337_1
         replace p337:=eq_true p337
         replace q337:=eq_true q337
         have ea_:=oiq (hx335_1.symm.trans hx337_1)
         injection ea_ with ea_ en_ ec_
         subst ea_
         subst ec_
         clear en_
         have p338 : 0 ≤ (x5_1 : Int):=dq_ (by first | (with_reducible assumption) | assumption)
         have q338 : x5_1 < (l1.length : Int):=dq_ (by first | (with_reducible assumption) | assumption)
         obtain ⟨ad338,A338_1,c338_1,e338,hx338_0,hx338_1,hl338_1,hi338_1⟩:=at_T56 HR1.out x5_1 p338 q338
         have hw338_1:=hx338_1
         have hw338_0:=hx338_0
         obtain rfl : ad336 = ad338:=(by injection e338)
         replace hx338_0:=(HB.out.cell (World.block_lt_of_cell? w _ hx338_0)).trans hx338_0
         replace hx338_1:=(HB.out.cell (World.block_lt_of_cell? w _ hx338_1)).trans hx338_1
         have HR338_1:=qm hi338_1
         have HC338_1:=qm hl338_1
         clear hi338_1 hl338_1
         replace p338:=eq_true p338
         replace q338:=eq_true q338
         have ea_:=oiq (hx336_1.symm.trans hx338_1)
         injection ea_ with ea_ en_ ec_
         subst ea_
         subst ec_
         clear en_
         refine start_ (n:=26) (S:=fun w' => w'.cell? (ad335.add ((x5_1).toNat * 2)) = some (.int .u64 ((rd_T56 l0 x5_1).f0)) ∧ w'.cell? ⟨(ad335.add ((x5_1).toNat * 2)).block,(ad335.add ((x5_1).toNat * 2)).off + 1,none⟩ = some (.slice A335_1 ((rd_T56 l0 x5_1).f1).length c335_1) ∧ w'.cell? (ad336.add ((x5_1).toNat * 2)) = some (.int .u64 ((rd_T56 l1 x5_1).f0)) ∧ w'.cell? ⟨(ad336.add ((x5_1).toNat * 2)).block,(ad336.add ((x5_1).toNat * 2)).off + 1,none⟩ = some (.slice A336_1 ((rd_T56 l1 x5_1).f1).length c336_1) ∧ w'.cell? (ad335.add ((x5_1).toNat * 2)) = some (.int .u64 ((rd_T56 l0 x5_1).f0)) ∧ w'.cell? ⟨(ad335.add ((x5_1).toNat * 2)).block,(ad335.add ((x5_1).toNat * 2)).off + 1,none⟩ = some (.slice A335_1 ((rd_T56 l0 x5_1).f1).length c335_1) ∧ w'.cell? (ad336.add ((x5_1).toNat * 2)) = some (.int .u64 ((rd_T56 l1 x5_1).f0)) ∧ w'.cell? ⟨(ad336.add ((x5_1).toNat * 2)).block,(ad336.add ((x5_1).toNat * 2)).off + 1,none⟩ = some (.slice A336_1 ((rd_T56 l1 x5_1).f1).length c336_1)) (ds:=[]) #[n_,n_,n_,n_,n_,n_,n_,n_,n_,n_,n_,n_,n_,n_,n_,n_,n_,n_,n_,n_,n_,n_,n_,n_,n_,n_] (by kernel_rfl) rfl rfl ⟨((HB.out.cell (World.block_lt_of_cell? w _ hw335_0)).trans hw335_0),((HB.out.cell (World.block_lt_of_cell? w _ hw335_1)).trans hw335_1),((HB.out.cell (World.block_lt_of_cell? w _ hw336_0)).trans hw336_0),((HB.out.cell (World.block_lt_of_cell? w _ hw336_1)).trans hw336_1),((HB.out.cell (World.block_lt_of_cell? w _ hw337_0)).trans hw337_0),((HB.out.cell (World.block_lt_of_cell? w _ hw337_1)).trans hw337_1),((HB.out.cell (World.block_lt_of_cell? w _ hw338_0)).trans hw338_0),((HB.out.cell (World.block_lt_of_cell? w _ hw338_1)).trans hw338_1)⟩ (fun hHeld => ?_);refine with_tabW tachographref12_Same.tab6 tachographref12_Same.bits6 (fun HT_ HW_ => ?_)
         generalize wr.drew = w9 at HB HR335_1 HR336_1 HR337_1 HR338_1 hx335_0 hx335_1 hx336_0 hx336_1 hx337_0 hx337_1 hx338_0 hx338_1 hHeld ⊢
         refine pure_ (i:=0) (N:=some 18) (v:=?_) (a':=?_) #[y_,n_,n_,n_,n_,n_,n_,n_,n_,n_,n_,n_,n_,n_,n_,n_,n_,n_,n_,n_,n_,n_,n_,n_,n_,n_] rfl rfl (any_of HT_.out (by kernel_rfl)) (fun _ _ _ h => h) (Or.inl ⟨by rfl,?_⟩) ?_ ?_
         rotate_left
         ·intro w'
          go_simp
          with_reducible rfl
         rotate_left
         ·simp only [Act.put,sA_,sB_,sC_,i64_w,i32_w]
          rfl
         refine pure_ (i:=1) (N:=some 19) (v:=?_) (a':=?_) #[y_,y_,n_,n_,n_,n_,n_,n_,n_,n_,n_,n_,n_,n_,n_,n_,n_,n_,n_,n_,n_,n_,n_,n_,n_,n_] rfl rfl (any_of HT_.out (by kernel_rfl)) (fun _ _ _ h => h) (Or.inl ⟨by rfl,?_⟩) ?_ ?_
         rotate_left
         ·intro w'
          go_simp
          with_reducible rfl
         rotate_left
         ·simp only [Act.put,sA_,sB_,sC_,i64_w,i32_w]
          rfl
         refine pure_ (i:=2) (N:=some 20) (v:=?_) (a':=?_) #[y_,y_,y_,n_,n_,n_,n_,n_,n_,n_,n_,n_,n_,n_,n_,n_,n_,n_,n_,n_,n_,n_,n_,n_,n_,n_] rfl rfl (any_of HT_.out (by kernel_rfl)) (fun _ _ _ h => h) (Or.inl ⟨by rfl,?_⟩) ?_ ?_
         rotate_left
         ·intro w'
          go_simp
          with_reducible rfl
         rotate_left
         ·simp only [Act.put,sA_,sB_,sC_,i64_w,i32_w]
          rfl
         refine pure_ (i:=3) (N:=some 21) (v:=?_) (a':=?_) #[y_,y_,y_,y_,n_,n_,n_,n_,n_,n_,n_,n_,n_,n_,n_,n_,n_,n_,n_,n_,n_,n_,n_,n_,n_,n_] rfl rfl (any_of HT_.out (by kernel_rfl)) (fun _ _ _ h => h) (Or.inl ⟨by rfl,?_⟩) ?_ ?_
         rotate_left
         ·intro w'
          go_simp
          with_reducible rfl
         rotate_left
         ·simp only [Act.put,sA_,sB_,sC_,i64_w,i32_w]
          rfl
         refine pure_ (i:=5) (N:=some 23) (v:=?_) (a':=?_) #[y_,y_,y_,y_,n_,y_,n_,n_,n_,n_,n_,n_,n_,n_,n_,n_,n_,n_,n_,n_,n_,n_,n_,n_,n_,n_] rfl rfl (any_of HT_.out (by kernel_rfl)) (fun _ _ _ h => h) (Or.inl ⟨by rfl,?_⟩) ?_ ?_
         rotate_left
         ·intro w'
          go_simp
          with_reducible rfl
         rotate_left
         ·simp only [Act.put,sA_,sB_,sC_,i64_w,i32_w]
          rfl
         refine pure_ (i:=6) (N:=some 24) (v:=?_) (a':=?_) #[y_,y_,y_,y_,n_,y_,y_,n_,n_,n_,n_,n_,n_,n_,n_,n_,n_,n_,n_,n_,n_,n_,n_,n_,n_,n_] rfl rfl (any_of HT_.out (by kernel_rfl)) (fun _ _ _ h => h) (Or.inl ⟨by rfl,?_⟩) ?_ ?_
         rotate_left
         ·intro w'
          go_simp
          with_reducible rfl
         rotate_left
         ·simp only [Act.put,sA_,sB_,sC_,i64_w,i32_w]
          rfl
         refine pure_ (i:=7) (N:=some 25) (v:=?_) (a':=?_) #[y_,y_,y_,y_,n_,y_,y_,y_,n_,n_,n_,n_,n_,n_,n_,n_,n_,n_,n_,n_,n_,n_,n_,n_,n_,n_] rfl rfl (any_of HT_.out (by kernel_rfl)) (fun _ _ _ h => h) (Or.inl ⟨by rfl,?_⟩) ?_ ?_
         rotate_left
         ·intro w'
          go_simp
          with_reducible rfl
         rotate_left
         ·simp only [Act.put,sA_,sB_,sC_,i64_w,i32_w]
          rfl
         refine pure_ (i:=8) (N:=some 26) (v:=?_) (a':=?_) #[y_,y_,y_,y_,n_,y_,y_,y_,y_,n_,n_,n_,n_,n_,n_,n_,n_,n_,n_,n_,n_,n_,n_,n_,n_,n_] rfl rfl (any_of HT_.out (by kernel_rfl)) (fun _ _ _ h => h) (Or.inl ⟨by rfl,?_⟩) ?_ ?_
         rotate_left
         ·intro w'
          go_simp
          with_reducible rfl
         rotate_left
         ·simp only [Act.put,sA_,sB_,sC_,i64_w,i32_w]
          rfl
         refine take_ (i:=4) (N:=some 22) (v:=?_) (a':=?_) #[y_,y_,y_,y_,y_,y_,y_,y_,y_,n_,n_,n_,n_,n_,n_,n_,n_,n_,n_,n_,n_,n_,n_,n_,n_,n_] rfl rfl (take_ofW HT_.out HW_.out (by kernel_rfl)) (fun _ _ _ h => h) (Or.inl ⟨by rfl,?_⟩) hHeld ?_ ?_
         rotate_left
         ·rintro w' ⟨s0,s1,s2,s3,s4,s5,s6,s7⟩
          go_simp
          with_reducible rfl
         rotate_left
         ·simp only [Act.put,sA_,sB_,sC_,i64_w,i32_w]
          rfl
         refine take_ (i:=9) (N:=some 27) (v:=?_) (a':=?_) #[y_,y_,y_,y_,y_,y_,y_,y_,y_,y_,n_,n_,n_,n_,n_,n_,n_,n_,n_,n_,n_,n_,n_,n_,n_,n_] rfl rfl (take_ofW HT_.out HW_.out (by kernel_rfl)) (fun _ _ _ h => h) (Or.inl ⟨by rfl,?_⟩) hHeld ?_ ?_
         rotate_left
         ·rintro w' ⟨s0,s1,s2,s3,s4,s5,s6,s7⟩
          go_simp
          with_reducible rfl
         rotate_left
         ·simp only [Act.put,sA_,sB_,sC_,i64_w,i32_w]
          rfl
         refine pure_ (i:=10) (N:=some 28) (v:=?_) (a':=?_) #[y_,y_,y_,y_,y_,y_,y_,y_,y_,y_,y_,n_,n_,n_,n_,n_,n_,n_,n_,n_,n_,n_,n_,n_,n_,n_] rfl rfl (any_of HT_.out (by kernel_rfl)) (fun _ _ _ h => h) (Or.inl ⟨by rfl,?_⟩) ?_ ?_
         rotate_left
         ·intro w'
          go_simp
          with_reducible rfl
         rotate_left
         ·simp only [Act.put,sA_,sB_,sC_,i64_w,i32_w]
          rfl
         refine pure_ (i:=11) (N:=some 29) (v:=?_) (a':=?_) #[y_,y_,y_,y_,y_,y_,y_,y_,y_,y_,y_,y_,n_,n_,n_,n_,n_,n_,n_,n_,n_,n_,n_,n_,n_,n_] rfl rfl (any_of HT_.out (by kernel_rfl)) (fun _ _ _ h => h) (Or.inl ⟨by rfl,?_⟩) ?_ ?_
         rotate_left
         ·intro w'
          go_simp
          with_reducible rfl
         rotate_left
         ·simp only [Act.put,sA_,sB_,sC_,i64_w,i32_w]
          rfl
         refine pure_ (i:=12) (N:=some 30) (v:=?_) (a':=?_) #[y_,y_,y_,y_,y_,y_,y_,y_,y_,y_,y_,y_,y_,n_,n_,n_,n_,n_,n_,n_,n_,n_,n_,n_,n_,n_] rfl rfl (any_of HT_.out (by kernel_rfl)) (fun _ _ _ h => h) (Or.inl ⟨by rfl,?_⟩) ?_ ?_
         rotate_left
         ·intro w'
          go_simp
          with_reducible rfl
         rotate_left
         ·simp only [Act.put,sA_,sB_,sC_,i64_w,i32_w]
          rfl
         refine pure_ (i:=13) (N:=some 31) (v:=?_) (a':=?_) #[y_,y_,y_,y_,y_,y_,y_,y_,y_,y_,y_,y_,y_,y_,n_,n_,n_,n_,n_,n_,n_,n_,n_,n_,n_,n_] rfl rfl (any_of HT_.out (by kernel_rfl)) (fun _ _ _ h => h) (Or.inl ⟨by rfl,?_⟩) ?_ ?_
         rotate_left
         ·intro w'
          go_simp
          with_reducible rfl
         rotate_left
         ·simp only [Act.put,sA_,sB_,sC_,i64_w,i32_w]
          rfl
         refine pure_ (i:=14) (N:=some 32) (v:=?_) (a':=?_) #[y_,y_,y_,y_,y_,y_,y_,y_,y_,y_,y_,y_,y_,y_,y_,n_,n_,n_,n_,n_,n_,n_,n_,n_,n_,n_] rfl rfl (any_of HT_.out (by kernel_rfl)) (fun _ _ _ h => h) (Or.inl ⟨by rfl,?_⟩) ?_ ?_
         rotate_left
         ·intro w'
          go_simp
          with_reducible rfl
         rotate_left
         ·simp only [Act.put,sA_,sB_,sC_,i64_w,i32_w]
          rfl
         refine pure_ (i:=15) (N:=some 33) (v:=?_) (a':=?_) #[y_,y_,y_,y_,y_,y_,y_,y_,y_,y_,y_,y_,y_,y_,y_,y_,n_,n_,n_,n_,n_,n_,n_,n_,n_,n_] rfl rfl (any_of HT_.out (by kernel_rfl)) (fun _ _ _ h => h) (Or.inl ⟨by rfl,?_⟩) ?_ ?_
         rotate_left
         ·intro w'
          go_simp
          with_reducible rfl
         rotate_left
         ·simp only [Act.put,sA_,sB_,sC_,i64_w,i32_w]
          rfl
         refine pure_ (i:=18) (N:=some 36) (v:=?_) (a':=?_) #[y_,y_,y_,y_,y_,y_,y_,y_,y_,y_,y_,y_,y_,y_,y_,y_,n_,n_,y_,n_,n_,n_,n_,n_,n_,n_] rfl rfl (any_of HT_.out (by kernel_rfl)) (fun _ _ _ h => h) (Or.inl ⟨by rfl,?_⟩) ?_ ?_
         rotate_left
         ·intro w'
          go_simp
          with_reducible rfl
         rotate_left
         ·simp only [Act.put,sA_,sB_,sC_,i64_w,i32_w]
          rfl
         refine pure_ (i:=19) (N:=some 37) (v:=?_) (a':=?_) #[y_,y_,y_,y_,y_,y_,y_,y_,y_,y_,y_,y_,y_,y_,y_,y_,n_,n_,y_,y_,n_,n_,n_,n_,n_,n_] rfl rfl (any_of HT_.out (by kernel_rfl)) (fun _ _ _ h => h) (Or.inl ⟨by rfl,?_⟩) ?_ ?_
         rotate_left
         ·intro w'
          go_simp
          with_reducible rfl
         rotate_left
         ·simp only [Act.put,sA_,sB_,sC_,i64_w,i32_w]
          rfl
         refine pure_ (i:=20) (N:=some 38) (v:=?_) (a':=?_) #[y_,y_,y_,y_,y_,y_,y_,y_,y_,y_,y_,y_,y_,y_,y_,y_,n_,n_,y_,y_,y_,n_,n_,n_,n_,n_] rfl rfl (any_of HT_.out (by kernel_rfl)) (fun _ _ _ h => h) (Or.inl ⟨by rfl,?_⟩) ?_ ?_
         rotate_left
         ·intro w'
          go_simp
          with_reducible rfl
         rotate_left
         ·simp only [Act.put,sA_,sB_,sC_,i64_w,i32_w]
          rfl
         refine pure_ (i:=21) (N:=some 39) (v:=?_) (a':=?_) #[y_,y_,y_,y_,y_,y_,y_,y_,y_,y_,y_,y_,y_,y_,y_,y_,n_,n_,y_,y_,y_,y_,n_,n_,n_,n_] rfl rfl (any_of HT_.out (by kernel_rfl)) (fun _ _ _ h => h) (Or.inl ⟨by rfl,?_⟩) ?_ ?_
         rotate_left
         ·intro w'
          go_simp
          with_reducible rfl
         rotate_left
         ·simp only [Act.put,sA_,sB_,sC_,i64_w,i32_w]
          rfl
         refine take_ (i:=16) (N:=some 34) (v:=?_) (a':=?_) #[y_,y_,y_,y_,y_,y_,y_,y_,y_,y_,y_,y_,y_,y_,y_,y_,y_,n_,y_,y_,y_,y_,n_,n_,n_,n_] rfl rfl (take_ofW HT_.out HW_.out (by kernel_rfl)) (fun _ _ _ h => h) (Or.inl ⟨by rfl,?_⟩) hHeld ?_ ?_
         rotate_left
         ·rintro w' ⟨s0,s1,s2,s3,s4,s5,s6,s7⟩
          go_simp
          with_reducible rfl
         rotate_left
         ·simp only [Act.put,sA_,sB_,sC_,i64_w,i32_w]
          rfl
         refine pure_ (i:=17) (N:=some 35) (v:=?_) (a':=?_) #[y_,y_,y_,y_,y_,y_,y_,y_,y_,y_,y_,y_,y_,y_,y_,y_,y_,y_,y_,y_,y_,y_,n_,n_,n_,n_] rfl rfl (any_of HT_.out (by kernel_rfl)) (fun _ _ _ h => h) (Or.inl ⟨by rfl,?_⟩) ?_ ?_
         rotate_left
         ·intro w'
          go_simp
          with_reducible rfl
         rotate_left
         ·simp only [Act.put,sA_,sB_,sC_,i64_w,i32_w]
          rfl
         refine take_ (i:=22) (N:=some 40) (v:=?_) (a':=?_) #[y_,y_,y_,y_,y_,y_,y_,y_,y_,y_,y_,y_,y_,y_,y_,y_,y_,y_,y_,y_,y_,y_,y_,n_,n_,n_] rfl rfl (take_ofW HT_.out HW_.out (by kernel_rfl)) (fun _ _ _ h => h) (Or.inl ⟨by rfl,?_⟩) hHeld ?_ ?_
         rotate_left
         ·rintro w' ⟨s0,s1,s2,s3,s4,s5,s6,s7⟩
          go_simp
          with_reducible rfl
         rotate_left
         ·simp only [Act.put,sA_,sB_,sC_,i64_w,i32_w]
          rfl
         refine pure_ (i:=23) (N:=some 41) (v:=?_) (a':=?_) #[y_,y_,y_,y_,y_,y_,y_,y_,y_,y_,y_,y_,y_,y_,y_,y_,y_,y_,y_,y_,y_,y_,y_,y_,n_,n_] rfl rfl (any_of HT_.out (by kernel_rfl)) (fun _ _ _ h => h) (Or.inl ⟨by rfl,?_⟩) ?_ ?_
         rotate_left
         ·intro w'
          go_simp
          with_reducible rfl
         rotate_left
         ·simp only [Act.put,sA_,sB_,sC_,i64_w,i32_w]
          rfl
         refine pure_ (i:=24) (N:=some 42) (v:=?_) (a':=?_) #[y_,y_,y_,y_,y_,y_,y_,y_,y_,y_,y_,y_,y_,y_,y_,y_,y_,y_,y_,y_,y_,y_,y_,y_,y_,n_] rfl rfl (any_of HT_.out (by kernel_rfl)) (fun _ _ _ h => h) (Or.inl ⟨by rfl,?_⟩) ?_ ?_
         rotate_left
         ·intro w'
          go_simp
          with_reducible rfl
         rotate_left
         ·simp only [Act.put,sA_,sB_,sC_,i64_w,i32_w]
          rfl
         refine pure_ (i:=25) (N:=some 43) (v:=?_) (a':=?_) #[y_,y_,y_,y_,y_,y_,y_,y_,y_,y_,y_,y_,y_,y_,y_,y_,y_,y_,y_,y_,y_,y_,y_,y_,y_,y_] rfl rfl (any_of HT_.out (by kernel_rfl)) (fun _ _ _ h => h) (Or.inl ⟨by rfl,?_⟩) ?_ ?_
         rotate_left
         ·intro w'
          go_simp
          with_reducible rfl
         rotate_left
         ·simp only [Act.put,sA_,sB_,sC_,i64_w,i32_w]
          rfl
         refine done_ (done_of HT_.out (by kernel_rfl)) ?_
         try go_wp2
         go_meet
         case rel => exact ⟨_,(((((rd_T56 l0 x5_1).f1).length : Int) != (((rd_T56 l1 x5_1).f1).length : Int))),(by first | rfl | (simp;done) | (simp [*];done)),H',⟨by have:=HK1.out;first | omega | exact Nat.le_refl _⟩,⟨by repeat (first | (with_reducible first | exact HB.out | apply qa | apply qn | apply qd) | exact HB.out)⟩⟩
        ·rw [if_neg c8] at H
         have c8b0 : (((rd_T56 l0 x5_1).f0) == ((rd_T56 l1 x5_1).f0)) = false:=b1q.mpr c8
         have c8b1 : (((rd_T56 l0 x5_1).f0) != ((rd_T56 l1 x5_1).f0)) = true:=bne_iff_ne.mpr c8
         have H':=qm H
         clear H
         try go_wp2
         have n0_:=qm (qd HB.out)
         clear HB
         have HB:=n0_
         clear n0_
         have p335 : 0 ≤ (x5_1 : Int):=dq_ (by first | (with_reducible assumption) | assumption)
         have q335 : x5_1 < (l0.length : Int):=dq_ (by first | (with_reducible assumption) | assumption)
         obtain ⟨ad335,A335_1,c335_1,e335,hx335_0,hx335_1,hl335_1,hi335_1⟩:=at_T56 HR0.out x5_1 p335 q335
         have hw335_1:=hx335_1
         have hw335_0:=hx335_0
         cases e335
         replace hx335_0:=(HB.out.cell (World.block_lt_of_cell? w _ hx335_0)).trans hx335_0
         replace hx335_1:=(HB.out.cell (World.block_lt_of_cell? w _ hx335_1)).trans hx335_1
         have HR335_1:=qm hi335_1
         have HC335_1:=qm hl335_1
         clear hi335_1 hl335_1
         replace p335:=eq_true p335
         replace q335:=eq_true q335
         have p336 : 0 ≤ (x5_1 : Int):=dq_ (by first | (with_reducible assumption) | assumption)
         have q336 : x5_1 < (l1.length : Int):=dq_ (by first | (with_reducible assumption) | assumption)
         obtain ⟨ad336,A336_1,c336_1,e336,hx336_0,hx336_1,hl336_1,hi336_1⟩:=at_T56 HR1.out x5_1 p336 q336
         have hw336_1:=hx336_1
         have hw336_0:=hx336_0
         cases e336
         replace hx336_0:=(HB.out.cell (World.block_lt_of_cell? w _ hx336_0)).trans hx336_0
         replace hx336_1:=(HB.out.cell (World.block_lt_of_cell? w _ hx336_1)).trans hx336_1
         have HR336_1:=qm hi336_1
         have HC336_1:=qm hl336_1
         clear hi336_1 hl336_1
         replace p336:=eq_true p336
         replace q336:=eq_true q336
         refine start_ (n:=26) (S:=fun w' => w'.cell? (ad335.add ((x5_1).toNat * 2)) = some (.int .u64 ((rd_T56 l0 x5_1).f0)) ∧ w'.cell? ⟨(ad335.add ((x5_1).toNat * 2)).block,(ad335.add ((x5_1).toNat * 2)).off + 1,none⟩ = some (.slice A335_1 ((rd_T56 l0 x5_1).f1).length c335_1) ∧ w'.cell? (ad336.add ((x5_1).toNat * 2)) = some (.int .u64 ((rd_T56 l1 x5_1).f0)) ∧ w'.cell? ⟨(ad336.add ((x5_1).toNat * 2)).block,(ad336.add ((x5_1).toNat * 2)).off + 1,none⟩ = some (.slice A336_1 ((rd_T56 l1 x5_1).f1).length c336_1)) (ds:=[]) #[n_,n_,n_,n_,n_,n_,n_,n_,n_,n_,n_,n_,n_,n_,n_,n_,n_,n_,n_,n_,n_,n_,n_,n_,n_,n_] (by kernel_rfl) rfl rfl ⟨((HB.out.cell (World.block_lt_of_cell? w _ hw335_0)).trans hw335_0),((HB.out.cell (World.block_lt_of_cell? w _ hw335_1)).trans hw335_1),((HB.out.cell (World.block_lt_of_cell? w _ hw336_0)).trans hw336_0),((HB.out.cell (World.block_lt_of_cell? w _ hw336_1)).trans hw336_1)⟩ (fun hHeld => ?_);refine with_tabW tachographref12_Same.tab6 tachographref12_Same.bits6 (fun HT_ HW_ => ?_)
         generalize wr.drew = w10 at HB HR335_1 HR336_1 hx335_0 hx335_1 hx336_0 hx336_1 hHeld ⊢
         refine pure_ (i:=0) (N:=some 18) (v:=?_) (a':=?_) #[y_,n_,n_,n_,n_,n_,n_,n_,n_,n_,n_,n_,n_,n_,n_,n_,n_,n_,n_,n_,n_,n_,n_,n_,n_,n_] rfl rfl (any_of HT_.out (by kernel_rfl)) (fun _ _ _ h => h) (Or.inl ⟨by rfl,?_⟩) ?_ ?_
         rotate_left
         ·intro w'
          go_simp
          with_reducible rfl
         rotate_left
         ·simp only [Act.put,sA_,sB_,sC_,i64_w,i32_w]
          rfl
         refine pure_ (i:=1) (N:=some 19) (v:=?_) (a':=?_) #[y_,y_,n_,n_,n_,n_,n_,n_,n_,n_,n_,n_,n_,n_,n_,n_,n_,n_,n_,n_,n_,n_,n_,n_,n_,n_] rfl rfl (any_of HT_.out (by kernel_rfl)) (fun _ _ _ h => h) (Or.inl ⟨by rfl,?_⟩) ?_ ?_
         rotate_left
         ·intro w'
          go_simp
          with_reducible rfl
         rotate_left
         ·simp only [Act.put,sA_,sB_,sC_,i64_w,i32_w]
          rfl
         refine pure_ (i:=2) (N:=some 20) (v:=?_) (a':=?_) #[y_,y_,y_,n_,n_,n_,n_,n_,n_,n_,n_,n_,n_,n_,n_,n_,n_,n_,n_,n_,n_,n_,n_,n_,n_,n_] rfl rfl (any_of HT_.out (by kernel_rfl)) (fun _ _ _ h => h) (Or.inl ⟨by rfl,?_⟩) ?_ ?_
         rotate_left
         ·intro w'
          go_simp
          with_reducible rfl
         rotate_left
         ·simp only [Act.put,sA_,sB_,sC_,i64_w,i32_w]
          rfl
         refine pure_ (i:=3) (N:=some 21) (v:=?_) (a':=?_) #[y_,y_,y_,y_,n_,n_,n_,n_,n_,n_,n_,n_,n_,n_,n_,n_,n_,n_,n_,n_,n_,n_,n_,n_,n_,n_] rfl rfl (any_of HT_.out (by kernel_rfl)) (fun _ _ _ h => h) (Or.inl ⟨by rfl,?_⟩) ?_ ?_
         rotate_left
         ·intro w'
          go_simp
          with_reducible rfl
         rotate_left
         ·simp only [Act.put,sA_,sB_,sC_,i64_w,i32_w]
          rfl
         refine pure_ (i:=5) (N:=some 23) (v:=?_) (a':=?_) #[y_,y_,y_,y_,n_,y_,n_,n_,n_,n_,n_,n_,n_,n_,n_,n_,n_,n_,n_,n_,n_,n_,n_,n_,n_,n_] rfl rfl (any_of HT_.out (by kernel_rfl)) (fun _ _ _ h => h) (Or.inl ⟨by rfl,?_⟩) ?_ ?_
         rotate_left
         ·intro w'
          go_simp
          with_reducible rfl
         rotate_left
         ·simp only [Act.put,sA_,sB_,sC_,i64_w,i32_w]
          rfl
         refine pure_ (i:=6) (N:=some 24) (v:=?_) (a':=?_) #[y_,y_,y_,y_,n_,y_,y_,n_,n_,n_,n_,n_,n_,n_,n_,n_,n_,n_,n_,n_,n_,n_,n_,n_,n_,n_] rfl rfl (any_of HT_.out (by kernel_rfl)) (fun _ _ _ h => h) (Or.inl ⟨by rfl,?_⟩) ?_ ?_
         rotate_left
         ·intro w'
          go_simp
          with_reducible rfl
         rotate_left
         ·simp only [Act.put,sA_,sB_,sC_,i64_w,i32_w]
          rfl
         refine pure_ (i:=7) (N:=some 25) (v:=?_) (a':=?_) #[y_,y_,y_,y_,n_,y_,y_,y_,n_,n_,n_,n_,n_,n_,n_,n_,n_,n_,n_,n_,n_,n_,n_,n_,n_,n_] rfl rfl (any_of HT_.out (by kernel_rfl)) (fun _ _ _ h => h) (Or.inl ⟨by rfl,?_⟩) ?_ ?_
         rotate_left
         ·intro w'
          go_simp
          with_reducible rfl
         rotate_left
         ·simp only [Act.put,sA_,sB_,sC_,i64_w,i32_w]
          rfl
         refine pure_ (i:=8) (N:=some 26) (v:=?_) (a':=?_) #[y_,y_,y_,y_,n_,y_,y_,y_,y_,n_,n_,n_,n_,n_,n_,n_,n_,n_,n_,n_,n_,n_,n_,n_,n_,n_] rfl rfl (any_of HT_.out (by kernel_rfl)) (fun _ _ _ h => h) (Or.inl ⟨by rfl,?_⟩) ?_ ?_
         rotate_left
         ·intro w'
          go_simp
          with_reducible rfl
         rotate_left
         ·simp only [Act.put,sA_,sB_,sC_,i64_w,i32_w]
          rfl
         refine take_ (i:=4) (N:=some 22) (v:=?_) (a':=?_) #[y_,y_,y_,y_,y_,y_,y_,y_,y_,n_,n_,n_,n_,n_,n_,n_,n_,n_,n_,n_,n_,n_,n_,n_,n_,n_] rfl rfl (take_ofW HT_.out HW_.out (by kernel_rfl)) (fun _ _ _ h => h) (Or.inl ⟨by rfl,?_⟩) hHeld ?_ ?_
         rotate_left
         ·rintro w' ⟨s0,s1,s2,s3⟩
          go_simp
          with_reducible rfl
         rotate_left
         ·simp only [Act.put,sA_,sB_,sC_,i64_w,i32_w]
          rfl
         refine take_ (i:=9) (N:=some 27) (v:=?_) (a':=?_) #[y_,y_,y_,y_,y_,y_,y_,y_,y_,y_,n_,n_,n_,n_,n_,n_,n_,n_,n_,n_,n_,n_,n_,n_,n_,n_] rfl rfl (take_ofW HT_.out HW_.out (by kernel_rfl)) (fun _ _ _ h => h) (Or.inl ⟨by rfl,?_⟩) hHeld ?_ ?_
         rotate_left
         ·rintro w' ⟨s0,s1,s2,s3⟩
          go_simp
          with_reducible rfl
         rotate_left
         ·simp only [Act.put,sA_,sB_,sC_,i64_w,i32_w]
          rfl
         refine pure_ (i:=10) (N:=some 28) (v:=?_) (a':=?_) #[y_,y_,y_,y_,y_,y_,y_,y_,y_,y_,y_,n_,n_,n_,n_,n_,n_,n_,n_,n_,n_,n_,n_,n_,n_,n_] rfl rfl (any_of HT_.out (by kernel_rfl)) (fun _ _ _ h => h) (Or.inl ⟨by rfl,?_⟩) ?_ ?_
         rotate_left
         ·intro w'
          go_simp
          with_reducible rfl
         rotate_left
         ·simp only [Act.put,sA_,sB_,sC_,i64_w,i32_w]
          rfl
         refine pure_ (i:=11) (N:=some 29) (v:=?_) (a':=?_) #[y_,y_,y_,y_,y_,y_,y_,y_,y_,y_,y_,y_,n_,n_,n_,n_,n_,n_,n_,n_,n_,n_,n_,n_,n_,n_] rfl rfl (any_of HT_.out (by kernel_rfl)) (fun _ _ _ h => h) (Or.inl ⟨by rfl,?_⟩) ?_ ?_
         rotate_left
         ·intro w'
          go_simp
          with_reducible rfl
         rotate_left
         ·simp only [Act.put,sA_,sB_,sC_,i64_w,i32_w]
          rfl
         refine pure_ (i:=12) (N:=some 30) (v:=undef) (a':=?_) #[y_,y_,y_,y_,y_,y_,y_,y_,y_,y_,y_,y_,y_,n_,n_,n_,n_,n_,n_,n_,n_,n_,n_,n_,n_,n_] rfl rfl (any_of HT_.out (by kernel_rfl)) (fun _ _ _ h => h) (Or.inr ⟨by rfl,rfl⟩) ?_ ?_
         rotate_left
         ·simp only [Act.put,sA_,sB_,sC_,i64_w,i32_w]
          rfl
         refine pure_ (i:=13) (N:=some 31) (v:=undef) (a':=?_) #[y_,y_,y_,y_,y_,y_,y_,y_,y_,y_,y_,y_,y_,y_,n_,n_,n_,n_,n_,n_,n_,n_,n_,n_,n_,n_] rfl rfl (any_of HT_.out (by kernel_rfl)) (fun _ _ _ h => h) (Or.inr ⟨by rfl,rfl⟩) ?_ ?_
         rotate_left
         ·simp only [Act.put,sA_,sB_,sC_,i64_w,i32_w]
          rfl
         refine pure_ (i:=14) (N:=some 32) (v:=undef) (a':=?_) #[y_,y_,y_,y_,y_,y_,y_,y_,y_,y_,y_,y_,y_,y_,y_,n_,n_,n_,n_,n_,n_,n_,n_,n_,n_,n_] rfl rfl (any_of HT_.out (by kernel_rfl)) (fun _ _ _ h => h) (Or.inr ⟨by rfl,rfl⟩) ?_ ?_
         rotate_left
         ·simp only [Act.put,sA_,sB_,sC_,i64_w,i32_w]
          rfl
         refine pure_ (i:=15) (N:=some 33) (v:=undef) (a':=?_) #[y_,y_,y_,y_,y_,y_,y_,y_,y_,y_,y_,y_,y_,y_,y_,y_,n_,n_,n_,n_,n_,n_,n_,n_,n_,n_] rfl rfl (any_of HT_.out (by kernel_rfl)) (fun _ _ _ h => h) (Or.inr ⟨by rfl,rfl⟩) ?_ ?_
         rotate_left
         ·simp only [Act.put,sA_,sB_,sC_,i64_w,i32_w]
          rfl
         refine pure_ (i:=16) (N:=some 34) (v:=undef) (a':=?_) #[y_,y_,y_,y_,y_,y_,y_,y_,y_,y_,y_,y_,y_,y_,y_,y_,y_,n_,n_,n_,n_,n_,n_,n_,n_,n_] rfl rfl (any_of HT_.out (by kernel_rfl)) (fun _ _ _ h => h) (Or.inr ⟨by rfl,rfl⟩) ?_ ?_
         rotate_left
         ·simp only [Act.put,sA_,sB_,sC_,i64_w,i32_w]
          rfl
         refine pure_ (i:=17) (N:=some 35) (v:=undef) (a':=?_) #[y_,y_,y_,y_,y_,y_,y_,y_,y_,y_,y_,y_,y_,y_,y_,y_,y_,y_,n_,n_,n_,n_,n_,n_,n_,n_] rfl rfl (any_of HT_.out (by kernel_rfl)) (fun _ _ _ h => h) (Or.inr ⟨by rfl,rfl⟩) ?_ ?_
         rotate_left
         ·simp only [Act.put,sA_,sB_,sC_,i64_w,i32_w]
          rfl
         refine pure_ (i:=18) (N:=some 36) (v:=undef) (a':=?_) #[y_,y_,y_,y_,y_,y_,y_,y_,y_,y_,y_,y_,y_,y_,y_,y_,y_,y_,y_,n_,n_,n_,n_,n_,n_,n_] rfl rfl (any_of HT_.out (by kernel_rfl)) (fun _ _ _ h => h) (Or.inr ⟨by rfl,rfl⟩) ?_ ?_
         rotate_left
         ·simp only [Act.put,sA_,sB_,sC_,i64_w,i32_w]
          rfl
         refine pure_ (i:=19) (N:=some 37) (v:=undef) (a':=?_) #[y_,y_,y_,y_,y_,y_,y_,y_,y_,y_,y_,y_,y_,y_,y_,y_,y_,y_,y_,y_,n_,n_,n_,n_,n_,n_] rfl rfl (any_of HT_.out (by kernel_rfl)) (fun _ _ _ h => h) (Or.inr ⟨by rfl,rfl⟩) ?_ ?_
         rotate_left
         ·simp only [Act.put,sA_,sB_,sC_,i64_w,i32_w]
          rfl
         refine pure_ (i:=20) (N:=some 38) (v:=undef) (a':=?_) #[y_,y_,y_,y_,y_,y_,y_,y_,y_,y_,y_,y_,y_,y_,y_,y_,y_,y_,y_,y_,y_,n_,n_,n_,n_,n_] rfl rfl (any_of HT_.out (by kernel_rfl)) (fun _ _ _ h => h) (Or.inr ⟨by rfl,rfl⟩) ?_ ?_
         rotate_left
         ·simp only [Act.put,sA_,sB_,sC_,i64_w,i32_w]
          rfl
         refine pure_ (i:=21) (N:=some 39) (v:=undef) (a':=?_) #[y_,y_,y_,y_,y_,y_,y_,y_,y_,y_,y_,y_,y_,y_,y_,y_,y_,y_,y_,y_,y_,y_,n_,n_,n_,n_] rfl rfl (any_of HT_.out (by kernel_rfl)) (fun _ _ _ h => h) (Or.inr ⟨by rfl,rfl⟩) ?_ ?_
         rotate_left
         ·simp only [Act.put,sA_,sB_,sC_,i64_w,i32_w]
          rfl
         refine pure_ (i:=22) (N:=some 40) (v:=undef) (a':=?_) #[y_,y_,y_,y_,y_,y_,y_,y_,y_,y_,y_,y_,y_,y_,y_,y_,y_,y_,y_,y_,y_,y_,y_,n_,n_,n_] rfl rfl (any_of HT_.out (by kernel_rfl)) (fun _ _ _ h => h) (Or.inr ⟨by rfl,rfl⟩) ?_ ?_
         rotate_left
         ·simp only [Act.put,sA_,sB_,sC_,i64_w,i32_w]
          rfl
         refine pure_ (i:=23) (N:=some 41) (v:=undef) (a':=?_) #[y_,y_,y_,y_,y_,y_,y_,y_,y_,y_,y_,y_,y_,y_,y_,y_,y_,y_,y_,y_,y_,y_,y_,y_,n_,n_] rfl rfl (any_of HT_.out (by kernel_rfl)) (fun _ _ _ h => h) (Or.inr ⟨by rfl,rfl⟩) ?_ ?_
         rotate_left
         ·simp only [Act.put,sA_,sB_,sC_,i64_w,i32_w]
          rfl
         refine pure_ (i:=24) (N:=some 42) (v:=undef) (a':=?_) #[y_,y_,y_,y_,y_,y_,y_,y_,y_,y_,y_,y_,y_,y_,y_,y_,y_,y_,y_,y_,y_,y_,y_,y_,y_,n_] rfl rfl (any_of HT_.out (by kernel_rfl)) (fun _ _ _ h => h) (Or.inr ⟨by rfl,rfl⟩) ?_ ?_
         rotate_left
         ·simp only [Act.put,sA_,sB_,sC_,i64_w,i32_w]
          rfl
         refine pure_ (i:=25) (N:=some 43) (v:=?_) (a':=?_) #[y_,y_,y_,y_,y_,y_,y_,y_,y_,y_,y_,y_,y_,y_,y_,y_,y_,y_,y_,y_,y_,y_,y_,y_,y_,y_] rfl rfl (any_of HT_.out (by kernel_rfl)) (fun _ _ _ h => h) (Or.inl ⟨by rfl,?_⟩) ?_ ?_
         rotate_left
         ·intro w'
          go_simp
          with_reducible rfl
         rotate_left
         ·simp only [Act.put,sA_,sB_,sC_,i64_w,i32_w]
          rfl
         refine done_ (done_of HT_.out (by kernel_rfl)) ?_
         try go_wp2
         go_meet
         case rel => exact ⟨_,(true),(by first | rfl | (simp;done) | (simp [*];done)),H',⟨by have:=HK1.out;first | omega | exact Nat.le_refl _⟩,⟨by repeat (first | (with_reducible first | exact HB.out | apply qa | apply qn | apply qd) | exact HB.out)⟩⟩
       ·rw [if_neg c7] at H
        exact absurd H (by simp)
      ·rw [if_neg c6] at H
       exact absurd H (by simp)
     case rest =>
      clear HC5
      try clear c1
      try clear p2
      try clear c3
      try clear c3b0
      try clear c3b1
      try clear c3b2
      try clear p3
      try clear q3
      try clear hx3
      try clear c4
      try clear c4b0
      try clear c6
      try clear c6b0
      try clear c7
      try clear c7b0
      try clear c8
      try clear c8b0
      try clear c8b1
      try clear hx335_0
      try clear hx335_1
      try clear hx336_0
      try clear hx336_1
      try clear hx337_0
      try clear hx337_1
      try clear hx338_0
      try clear hx338_1
      try clear p2
      try clear p335
      try clear p336
      try clear p337
      try clear p338
      try clear q335
      try clear q336
      try clear q337
      try clear q338
      obtain ⟨kq,x43_4,rfl,HA,HJ4,HB⟩:=hcut
      cases kq with
      | zero => exact absurd HA.out (by simp [tachographref12_Same.j1])
      | succ kj4 =>
       have H:=HA.out
       clear HA
       simp only [tachographref12_Same.j1] at H
       by_cases c11 : x43_4 = true
       ·subst c11
        have H1 : (some false) = some r:=by rw [if_pos rfl] at H;exact H
        clear H
        have H:=H1
        clear H1
        obtain rfl:=oiq H
        go_wp2
        go_ret
        exact ⟨by first | rfl | (simp [errW_none,errW_some] <;> rfl) | (simp [*,errW_none,errW_some] <;> rfl),by repeat (first | (with_reducible first | exact HB.out | apply qa | apply qn | apply qd) | exact HB.out)⟩
       ·replace c11:=Bool.eq_false_iff.mpr c11
        subst c11
        have H1 : (tachographref12_Same.l1 kj4 l0 l1 x5_1 0) = some r:=by rw [if_neg (show ¬ (false = true) by decide)] at H;exact H
        clear H
        have H:=H1
        clear H1
        have H':=qm H
        clear H
        go_wp2
        go_loopg [6] kj4 (fun kq v6 w' => ∃ (x6_3 : Int),v6 = .int .i64 x6_3 ∧ Aside0 (tachographref12_Same.l1 kq l0 l1 x5_1 x6_3 = some r) ∧ Aside0 (kq ≤ kj4) ∧ Aside0 (Below w.heap.size w w'))
        case atStart => exact ⟨(0),(by first | rfl | (simp;done) | (simp [*];done)),H',⟨Nat.le_refl _⟩,⟨by repeat (first | (with_reducible first | exact HB.out | apply qa | apply qn | apply qd) | exact HB.out)⟩⟩
        case round =>
         clear H'
         try clear c1
         try clear p2
         try clear c3
         try clear c3b0
         try clear c3b1
         try clear c3b2
         try clear p3
         try clear q3
         try clear hx3
         try clear c4
         try clear c4b0
         try clear c6
         try clear c6b0
         try clear c7
         try clear c7b0
         try clear c8
         try clear c8b0
         try clear c8b1
         try clear c11
         try clear hx335_0
         try clear hx335_1
         try clear hx336_0
         try clear hx336_1
         try clear hx337_0
         try clear hx337_1
         try clear hx338_0
         try clear hx338_1
         try clear p2
         try clear p3
         try clear p335
         try clear p336
         try clear p337
         try clear p338
         try clear q3
         try clear q335
         try clear q336
         try clear q337
         try clear q338
         obtain ⟨x6_3,rfl,HA,HK3,HB⟩:=hrel
         cases gk with
         | zero => exact absurd HA.out (by simp [tachographref12_Same.l1])
         | succ k3 =>
          have H:=HA.out
          clear HA
          simp only [tachographref12_Same.l1] at H
          by_cases c12 : 0 ≤ x5_1
          ·rw [if_pos c12] at H
           have c12b0 : decide (0 ≤ x5_1) = true:=dt_ c12
           clear c12
           by_cases c13 : x5_1 < (l0.length : Int)
           ·rw [if_pos c13] at H
            have c13b0 : decide (x5_1 < (l0.length : Int)) = true:=dt_ c13
            clear c13
            by_cases c14 : x6_3 < (((rd_T56 l0 x5_1).f1).length : Int)
            ·rw [if_pos c14] at H
             have c14b0 : decide (x6_3 < (((rd_T56 l0 x5_1).f1).length : Int)) = true:=dt_ c14
             clear c14
             by_cases c15 : 0 ≤ x6_3
             ·rw [if_pos c15] at H
              have c15b0 : decide (0 ≤ x6_3) = true:=dt_ c15
              clear c15
              by_cases c16 : x5_1 < (l1.length : Int)
              ·rw [if_pos c16] at H
               have c16b0 : decide (x5_1 < (l1.length : Int)) = true:=dt_ c16
               clear c16
               by_cases c17 : x6_3 < (((rd_T56 l1 x5_1).f1).length : Int)
               ·rw [if_pos c17] at H
                have c17b0 : decide (x6_3 < (((rd_T56 l1 x5_1).f1).length : Int)) = true:=dt_ c17
                clear c17
                replace H:=obq.mp H
                obtain ⟨t344,A180,H⟩:=H
                replace H : (if t344 = true then (tachographref12_Same.l1 k3 l0 l1 x5_1 (wrap64 (x6_3 + 1))) else (some false)) = some r:=H
                have A18:=qm A180
                clear A180
                by_cases c19 : t344 = true
                ·subst c19
                 have H1 : (tachographref12_Same.l1 k3 l0 l1 x5_1 (wrap64 (x6_3 + 1))) = some r:=by rw [if_pos rfl] at H;exact H
                 clear H
                 have H:=H1
                 clear H1
                 have H':=qm H
                 clear H
                 have p339 : 0 ≤ (x5_1 : Int):=dq_ (by first | (with_reducible assumption) | assumption)
                 have q339 : x5_1 < (l0.length : Int):=dq_ (by first | (with_reducible assumption) | assumption)
                 obtain ⟨ad339,A339_1,c339_1,e339,hx339_0,hx339_1,hl339_1,hi339_1⟩:=at_T56 HR0.out x5_1 p339 q339
                 cases e339
                 replace hx339_0:=(HB.out.cell (World.block_lt_of_cell? w _ hx339_0)).trans hx339_0
                 replace hx339_1:=(HB.out.cell (World.block_lt_of_cell? w _ hx339_1)).trans hx339_1
                 have HR339_1:=qm hi339_1
                 have HC339_1:=qm hl339_1
                 clear hi339_1 hl339_1
                 replace p339:=eq_true p339
                 replace q339:=eq_true q339
                 try go_wp2
                 have n0_:=qm (qd HB.out)
                 clear HB
                 have HB:=n0_
                 clear n0_
                 have p340 : 0 ≤ (x5_1 : Int):=dq_ (by first | (with_reducible assumption) | assumption)
                 have q340 : x5_1 < (l0.length : Int):=dq_ (by first | (with_reducible assumption) | assumption)
                 obtain ⟨ad340,A340_1,c340_1,e340,hx340_0,hx340_1,hl340_1,hi340_1⟩:=at_T56 HR0.out x5_1 p340 q340
                 have hw340_1:=hx340_1
                 have hw340_0:=hx340_0
                 obtain rfl : ad339 = ad340:=(by injection e340)
                 replace hx340_0:=(HB.out.cell (World.block_lt_of_cell? w _ hx340_0)).trans hx340_0
                 replace hx340_1:=(HB.out.cell (World.block_lt_of_cell? w _ hx340_1)).trans hx340_1
                 have HR340_1:=qm hi340_1
                 have HC340_1:=qm hl340_1
                 clear hi340_1 hl340_1
                 replace p340:=eq_true p340
                 replace q340:=eq_true q340
                 have p341 : 0 ≤ (x6_3 : Int):=dq_ (by first | (with_reducible assumption) | assumption)
                 have q341 : x6_3 < (((rd_T56 l0 x5_1).f1).length : Int):=dq_ (by first | (with_reducible assumption) | assumption)
                 obtain ⟨ad341,A341_1,c341_1,e341,hx341_0,hx341_1,hl341_1,hi341_1⟩:=at_T59 HR340_1.out x6_3 p341 q341
                 have hw341_1:=hx341_1
                 have hw341_0:=hx341_0
                 cases e341
                 replace hx341_0:=(HB.out.cell (World.block_lt_of_cell? w _ hx341_0)).trans hx341_0
                 replace hx341_1:=(HB.out.cell (World.block_lt_of_cell? w _ hx341_1)).trans hx341_1
                 have HR341_1:=qm hi341_1
                 have HC341_1:=qm hl341_1
                 clear hi341_1 hl341_1
                 replace p341:=eq_true p341
                 replace q341:=eq_true q341
                 have p342 : 0 ≤ (x5_1 : Int):=dq_ (by first | (with_reducible assumption) | assumption)
                 have q342 : x5_1 < (l1.length : Int):=dq_ (by first | (with_reducible assumption) | assumption)
                 obtain ⟨ad342,A342_1,c342_1,e342,hx342_0,hx342_1,hl342_1,hi342_1⟩:=at_T56 HR1.out x5_1 p342 q342
                 have hw342_1:=hx342_1
                 have hw342_0:=hx342_0
                 cases e342
                 replace hx342_0:=(HB.out.cell (World.block_lt_of_cell? w _ hx342_0)).trans hx342_0
                 replace hx342_1:=(HB.out.cell (World.block_lt_of_cell? w _ hx342_1)).trans hx342_1
                 have HR342_1:=qm hi342_1
                 have HC342_1:=qm hl342_1
                 clear hi342_1 hl342_1
                 replace p342:=eq_true p342
                 replace q342:=eq_true q342
                 have p343 : 0 ≤ (x6_3 : Int):=dq_ (by first | (with_reducible assumption) | assumption)
                 have q343 : x6_3 < (((rd_T56 l1 x5_1).f1).length : Int):=dq_ (by first | (with_reducible assumption) | assumption)
                 obtain ⟨ad343,A343_1,c343_1,e343,hx343_0,hx343_1,hl343_1,hi343_1⟩:=at_T59 HR342_1.out x6_3 p343 q343
                 have hw343_1:=hx343_1
                 have hw343_0:=hx343_0
                 cases e343
                 replace hx343_0:=(HB.out.cell (World.block_lt_of_cell? w _ hx343_0)).trans hx343_0
                 replace hx343_1:=(HB.out.cell (World.block_lt_of_cell? w _ hx343_1)).trans hx343_1
                 have HR343_1:=qm hi343_1
                 have HC343_1:=qm hl343_1
                 clear hi343_1 hl343_1
                 replace p343:=eq_true p343
                 replace q343:=eq_true q343
                 refine start_ (n:=18) (S:=fun w' => w'.cell? (ad339.add ((x5_1).toNat * 2)) = some (.int .u64 ((rd_T56 l0 x5_1).f0)) ∧ w'.cell? ⟨(ad339.add ((x5_1).toNat * 2)).block,(ad339.add ((x5_1).toNat * 2)).off + 1,none⟩ = some (.slice (some ad341) ((rd_T56 l0 x5_1).f1).length c340_1) ∧ w'.cell? (ad341.add ((x6_3).toNat * 2)) = some (.int .i64 ((rd_T59 ((rd_T56 l0 x5_1).f1) x6_3).f0)) ∧ w'.cell? ⟨(ad341.add ((x6_3).toNat * 2)).block,(ad341.add ((x6_3).toNat * 2)).off + 1,none⟩ = some (.slice A341_1 ((rd_T59 ((rd_T56 l0 x5_1).f1) x6_3).f1).length c341_1) ∧ w'.cell? (ad342.add ((x5_1).toNat * 2)) = some (.int .u64 ((rd_T56 l1 x5_1).f0)) ∧ w'.cell? ⟨(ad342.add ((x5_1).toNat * 2)).block,(ad342.add ((x5_1).toNat * 2)).off + 1,none⟩ = some (.slice (some ad343) ((rd_T56 l1 x5_1).f1).length c342_1) ∧ w'.cell? (ad343.add ((x6_3).toNat * 2)) = some (.int .i64 ((rd_T59 ((rd_T56 l1 x5_1).f1) x6_3).f0)) ∧ w'.cell? ⟨(ad343.add ((x6_3).toNat * 2)).block,(ad343.add ((x6_3).toNat * 2)).off + 1,none⟩ = some (.slice A343_1 ((rd_T59 ((rd_T56 l1 x5_1).f1) x6_3).f1).length c343_1)) (ds:=[]) #[n_,n_,n_,n_,n_,n_,n_,n_,n_,n_,n_,n_,n_,n_,n_,n_,n_,n_] (by kernel_rfl) rfl rfl ⟨((HB.out.cell (World.block_lt_of_cell? w _ hw340_0)).trans hw340_0),((HB.out.cell (World.block_lt_of_cell? w _ hw340_1)).trans hw340_1),((HB.out.cell (World.block_lt_of_cell? w _ hw341_0)).trans hw341_0),((HB.out.cell (World.block_lt_of_cell? w _ hw341_1)).trans hw341_1),((HB.out.cell (World.block_lt_of_cell? w _ hw342_0)).trans hw342_0),((HB.out.cell (World.block_lt_of_cell? w _ hw342_1)).trans hw342_1),((HB.out.cell (World.block_lt_of_cell? w _ hw343_0)).trans hw343_0),((HB.out.cell (World.block_lt_of_cell? w _ hw343_1)).trans hw343_1)⟩ (fun hHeld => ?_);refine with_tabW tachographref12_Same.tab11 tachographref12_Same.bits11 (fun HT_ HW_ => ?_)
                 generalize wr.drew = w20 at HB HR340_1 HR341_1 HR342_1 HR343_1 hx340_0 hx340_1 hx341_0 hx341_1 hx342_0 hx342_1 hx343_0 hx343_1 hHeld ⊢
                 refine pure_ (i:=0) (N:=some 54) (v:=?_) (a':=?_) #[y_,n_,n_,n_,n_,n_,n_,n_,n_,n_,n_,n_,n_,n_,n_,n_,n_,n_] rfl rfl (any_of HT_.out (by kernel_rfl)) (fun _ _ _ h => h) (Or.inl ⟨by rfl,?_⟩) ?_ ?_
                 rotate_left
                 ·intro w'
                  go_simp
                  with_reducible rfl
                 rotate_left
                 ·simp only [Act.put,sA_,sB_,sC_,i64_w,i32_w]
                  rfl
                 refine pure_ (i:=1) (N:=some 55) (v:=?_) (a':=?_) #[y_,y_,n_,n_,n_,n_,n_,n_,n_,n_,n_,n_,n_,n_,n_,n_,n_,n_] rfl rfl (any_of HT_.out (by kernel_rfl)) (fun _ _ _ h => h) (Or.inl ⟨by rfl,?_⟩) ?_ ?_
                 rotate_left
                 ·intro w'
                  go_simp
                  with_reducible rfl
                 rotate_left
                 ·simp only [Act.put,sA_,sB_,sC_,i64_w,i32_w]
                  rfl
                 refine pure_ (i:=2) (N:=some 56) (v:=?_) (a':=?_) #[y_,y_,y_,n_,n_,n_,n_,n_,n_,n_,n_,n_,n_,n_,n_,n_,n_,n_] rfl rfl (any_of HT_.out (by kernel_rfl)) (fun _ _ _ h => h) (Or.inl ⟨by rfl,?_⟩) ?_ ?_
                 rotate_left
                 ·intro w'
                  go_simp
                  with_reducible rfl
                 rotate_left
                 ·simp only [Act.put,sA_,sB_,sC_,i64_w,i32_w]
                  rfl
                 refine pure_ (i:=3) (N:=some 57) (v:=?_) (a':=?_) #[y_,y_,y_,y_,n_,n_,n_,n_,n_,n_,n_,n_,n_,n_,n_,n_,n_,n_] rfl rfl (any_of HT_.out (by kernel_rfl)) (fun _ _ _ h => h) (Or.inl ⟨by rfl,?_⟩) ?_ ?_
                 rotate_left
                 ·intro w'
                  go_simp
                  with_reducible rfl
                 rotate_left
                 ·simp only [Act.put,sA_,sB_,sC_,i64_w,i32_w]
                  rfl
                 refine pure_ (i:=5) (N:=some 59) (v:=?_) (a':=?_) #[y_,y_,y_,y_,n_,y_,n_,n_,n_,n_,n_,n_,n_,n_,n_,n_,n_,n_] rfl rfl (any_of HT_.out (by kernel_rfl)) (fun _ _ _ h => h) (Or.inl ⟨by rfl,?_⟩) ?_ ?_
                 rotate_left
                 ·intro w'
                  go_simp
                  with_reducible rfl
                 rotate_left
                 ·simp only [Act.put,sA_,sB_,sC_,i64_w,i32_w]
                  rfl
                 refine pure_ (i:=8) (N:=some 62) (v:=?_) (a':=?_) #[y_,y_,y_,y_,n_,y_,n_,n_,y_,n_,n_,n_,n_,n_,n_,n_,n_,n_] rfl rfl (any_of HT_.out (by kernel_rfl)) (fun _ _ _ h => h) (Or.inl ⟨by rfl,?_⟩) ?_ ?_
                 rotate_left
                 ·intro w'
                  go_simp
                  with_reducible rfl
                 rotate_left
                 ·simp only [Act.put,sA_,sB_,sC_,i64_w,i32_w]
                  rfl
                 refine pure_ (i:=9) (N:=some 63) (v:=?_) (a':=?_) #[y_,y_,y_,y_,n_,y_,n_,n_,y_,y_,n_,n_,n_,n_,n_,n_,n_,n_] rfl rfl (any_of HT_.out (by kernel_rfl)) (fun _ _ _ h => h) (Or.inl ⟨by rfl,?_⟩) ?_ ?_
                 rotate_left
                 ·intro w'
                  go_simp
                  with_reducible rfl
                 rotate_left
                 ·simp only [Act.put,sA_,sB_,sC_,i64_w,i32_w]
                  rfl
                 refine pure_ (i:=10) (N:=some 64) (v:=?_) (a':=?_) #[y_,y_,y_,y_,n_,y_,n_,n_,y_,y_,y_,n_,n_,n_,n_,n_,n_,n_] rfl rfl (any_of HT_.out (by kernel_rfl)) (fun _ _ _ h => h) (Or.inl ⟨by rfl,?_⟩) ?_ ?_
                 rotate_left
                 ·intro w'
                  go_simp
                  with_reducible rfl
                 rotate_left
                 ·simp only [Act.put,sA_,sB_,sC_,i64_w,i32_w]
                  rfl
                 refine pure_ (i:=11) (N:=some 65) (v:=?_) (a':=?_) #[y_,y_,y_,y_,n_,y_,n_,n_,y_,y_,y_,y_,n_,n_,n_,n_,n_,n_] rfl rfl (any_of HT_.out (by kernel_rfl)) (fun _ _ _ h => h) (Or.inl ⟨by rfl,?_⟩) ?_ ?_
                 rotate_left
                 ·intro w'
                  go_simp
                  with_reducible rfl
                 rotate_left
                 ·simp only [Act.put,sA_,sB_,sC_,i64_w,i32_w]
                  rfl
                 refine pure_ (i:=13) (N:=some 67) (v:=?_) (a':=?_) #[y_,y_,y_,y_,n_,y_,n_,n_,y_,y_,y_,y_,n_,y_,n_,n_,n_,n_] rfl rfl (any_of HT_.out (by kernel_rfl)) (fun _ _ _ h => h) (Or.inl ⟨by rfl,?_⟩) ?_ ?_
                 rotate_left
                 ·intro w'
                  go_simp
                  with_reducible rfl
                 rotate_left
                 ·simp only [Act.put,sA_,sB_,sC_,i64_w,i32_w]
                  rfl
                 refine take_ (i:=4) (N:=some 58) (v:=?_) (a':=?_) #[y_,y_,y_,y_,y_,y_,n_,n_,y_,y_,y_,y_,n_,y_,n_,n_,n_,n_] rfl rfl (take_ofW HT_.out HW_.out (by kernel_rfl)) (fun _ _ _ h => h) (Or.inl ⟨by rfl,?_⟩) hHeld ?_ ?_
                 rotate_left
                 ·rintro w' ⟨s0,s1,s2,s3,s4,s5,s6,s7⟩
                  go_simp
                  with_reducible rfl
                 rotate_left
                 ·simp only [Act.put,sA_,sB_,sC_,i64_w,i32_w]
                  rfl
                 refine pure_ (i:=6) (N:=some 60) (v:=?_) (a':=?_) #[y_,y_,y_,y_,y_,y_,y_,n_,y_,y_,y_,y_,n_,y_,n_,n_,n_,n_] rfl rfl (any_of HT_.out (by kernel_rfl)) (fun _ _ _ h => h) (Or.inl ⟨by rfl,?_⟩) ?_ ?_
                 rotate_left
                 ·intro w'
                  go_simp
                  with_reducible rfl
                 rotate_left
                 ·simp only [Act.put,sA_,sB_,sC_,i64_w,i32_w]
                  rfl
                 refine take_ (i:=7) (N:=some 61) (v:=?_) (a':=?_) #[y_,y_,y_,y_,y_,y_,y_,y_,y_,y_,y_,y_,n_,y_,n_,n_,n_,n_] rfl rfl (take_ofW HT_.out HW_.out (by kernel_rfl)) (fun _ _ _ h => h) (Or.inl ⟨by rfl,?_⟩) hHeld ?_ ?_
                 rotate_left
                 ·rintro w' ⟨s0,s1,s2,s3,s4,s5,s6,s7⟩
                  go_simp
                  with_reducible rfl
                 rotate_left
                 ·simp only [Act.put,sA_,sB_,sC_,i64_w,i32_w]
                  rfl
                 refine take_ (i:=12) (N:=some 66) (v:=?_) (a':=?_) #[y_,y_,y_,y_,y_,y_,y_,y_,y_,y_,y_,y_,y_,y_,n_,n_,n_,n_] rfl rfl (take_ofW HT_.out HW_.out (by kernel_rfl)) (fun _ _ _ h => h) (Or.inl ⟨by rfl,?_⟩) hHeld ?_ ?_
                 rotate_left
                 ·rintro w' ⟨s0,s1,s2,s3,s4,s5,s6,s7⟩
                  go_simp
                  with_reducible rfl
                 rotate_left
                 ·simp only [Act.put,sA_,sB_,sC_,i64_w,i32_w]
                  rfl
                 refine pure_ (i:=14) (N:=some 68) (v:=?_) (a':=?_) #[y_,y_,y_,y_,y_,y_,y_,y_,y_,y_,y_,y_,y_,y_,y_,n_,n_,n_] rfl rfl (any_of HT_.out (by kernel_rfl)) (fun _ _ _ h => h) (Or.inl ⟨by rfl,?_⟩) ?_ ?_
                 rotate_left
                 ·intro w'
                  go_simp
                  with_reducible rfl
                 rotate_left
                 ·simp only [Act.put,sA_,sB_,sC_,i64_w,i32_w]
                  rfl
                 refine take_ (i:=15) (N:=some 69) (v:=?_) (a':=?_) #[y_,y_,y_,y_,y_,y_,y_,y_,y_,y_,y_,y_,y_,y_,y_,y_,n_,n_] rfl rfl (take_ofW HT_.out HW_.out (by kernel_rfl)) (fun _ _ _ h => h) (Or.inl ⟨by rfl,?_⟩) hHeld ?_ ?_
                 rotate_left
                 ·rintro w' ⟨s0,s1,s2,s3,s4,s5,s6,s7⟩
                  go_simp
                  with_reducible rfl
                 rotate_left
                 ·simp only [Act.put,sA_,sB_,sC_,i64_w,i32_w]
                  rfl
                 refine one_ (i:=16) (N:=some 70) #[y_,y_,y_,y_,y_,y_,y_,y_,y_,y_,y_,y_,y_,y_,y_,y_,y_,n_] rfl rfl (one_of HT_.out (by kernel_rfl)) (by decide) (fun K hK => ?_)
                 refine goes_ Try.func25 (by kernel_rfl) rfl #[.agg #[.int .i64 ((rd_T59 ((rd_T56 l0 x5_1).f1) x6_3).f0),.slice A341_1 ((rd_T59 ((rd_T56 l0 x5_1).f1) x6_3).f1).length c341_1],.agg #[.int .i64 ((rd_T59 ((rd_T56 l1 x5_1).f1) x6_3).f0),.slice A343_1 ((rd_T59 ((rd_T56 l1 x5_1).f1) x6_3).f1).length c343_1]] (by rfl) rfl rfl (by (try simp only [l3q,l4q,l5q]);first | done | rfl | (simp only [l1q,l2q];rfl)) ?_
                 with_reducible refine (tachographref12_event.calls k3 ((rd_T59 ((rd_T56 l0 x5_1).f1) x6_3).f0) _ _ ((rd_T59 ((rd_T56 l0 x5_1).f1) x6_3).f1) ((rd_T59 ((rd_T56 l1 x5_1).f1) x6_3).f0) _ _ ((rd_T59 ((rd_T56 l1 x5_1).f1) x6_3).f1) true _ ?side1 ?side2 ?side3 ?side4 A18.out).mono ?_
                 (case side1 => repeat (first | exact (Kd.C_below HR341_1.out HB.out) | (with_reducible first | refine caq ?_ _ | refine cnq ?_ _ | refine cdq ?_)))
                 (case side2 => exact HC341_1.out)
                 (case side3 => repeat (first | exact (Kd.C_below HR343_1.out HB.out) | (with_reducible first | refine caq ?_ _ | refine cnq ?_ _ | refine cdq ?_)))
                 (case side4 => exact HC343_1.out)
                 rintro e w21 ⟨rfl,hb⟩
                 refine ⟨_,rfl,?_⟩
                 have n0_:=qm (qt (by repeat (first | (with_reducible first | exact HB.out | apply qa | apply qn | apply qd) | exact HB.out)) hb)
                 clear HB
                 have HB:=n0_
                 clear n0_
                 (try clear hb)
                 (try clear hb2)
                 (try clear hk)
                 (try clear hi)
                 refine hK.out _ _ ⟨((HB.out.cell (World.block_lt_of_cell? w _ hw340_0)).trans hw340_0),((HB.out.cell (World.block_lt_of_cell? w _ hw340_1)).trans hw340_1),((HB.out.cell (World.block_lt_of_cell? w _ hw341_0)).trans hw341_0),((HB.out.cell (World.block_lt_of_cell? w _ hw341_1)).trans hw341_1),((HB.out.cell (World.block_lt_of_cell? w _ hw342_0)).trans hw342_0),((HB.out.cell (World.block_lt_of_cell? w _ hw342_1)).trans hw342_1),((HB.out.cell (World.block_lt_of_cell? w _ hw343_0)).trans hw343_0),((HB.out.cell (World.block_lt_of_cell? w _ hw343_1)).trans hw343_1)⟩ (fun hHeld => ?_)
                 clear hK K
                 refine norm_ (a':=?_) ?_ ?_
                 rotate_left
                 ·show Act.put _ (some 70) _ = _
                  simp only [Act.put,sA_,sB_,sC_,i64_w,i32_w]
                  rfl
                 refine pure_ (i:=17) (N:=some 71) (v:=?_) (a':=?_) #[y_,y_,y_,y_,y_,y_,y_,y_,y_,y_,y_,y_,y_,y_,y_,y_,y_,y_] rfl rfl (any_of HT_.out (by kernel_rfl)) (fun _ _ _ h => h) (Or.inl ⟨by rfl,?_⟩) ?_ ?_
                 rotate_left
                 ·intro w'
                  go_simp
                  with_reducible rfl
                 rotate_left
                 ·simp only [Act.put,sA_,sB_,sC_,i64_w,i32_w]
                  rfl
                 refine done_ (done_of HT_.out (by kernel_rfl)) ?_
                 try go_wp2
                 go_roundg k3
                 case measure => have:=HK1.out;have:=HJ4.out;have:=HK3.out;omega
                 case rel => exact ⟨(wrap64 (x6_3 + 1)),(by first | rfl | (simp;done) | (simp [*];done)),H',⟨by have:=HK1.out;have:=HJ4.out;have:=HK3.out;omega⟩,⟨by repeat (first | (with_reducible first | exact HB.out | apply qa | apply qn | apply qd) | exact HB.out)⟩⟩
                ·replace c19:=Bool.eq_false_iff.mpr c19
                 subst c19
                 have H1 : (some false) = some r:=by rw [if_neg (show ¬ (false = true) by decide)] at H;exact H
                 clear H
                 have H:=H1
                 clear H1
                 obtain rfl:=oiq H
                 have p339 : 0 ≤ (x5_1 : Int):=dq_ (by first | (with_reducible assumption) | assumption)
                 have q339 : x5_1 < (l0.length : Int):=dq_ (by first | (with_reducible assumption) | assumption)
                 obtain ⟨ad339,A339_1,c339_1,e339,hx339_0,hx339_1,hl339_1,hi339_1⟩:=at_T56 HR0.out x5_1 p339 q339
                 cases e339
                 replace hx339_0:=(HB.out.cell (World.block_lt_of_cell? w _ hx339_0)).trans hx339_0
                 replace hx339_1:=(HB.out.cell (World.block_lt_of_cell? w _ hx339_1)).trans hx339_1
                 have HR339_1:=qm hi339_1
                 have HC339_1:=qm hl339_1
                 clear hi339_1 hl339_1
                 replace p339:=eq_true p339
                 replace q339:=eq_true q339
                 try go_wp2
                 have n0_:=qm (qd HB.out)
                 clear HB
                 have HB:=n0_
                 clear n0_
                 have p340 : 0 ≤ (x5_1 : Int):=dq_ (by first | (with_reducible assumption) | assumption)
                 have q340 : x5_1 < (l0.length : Int):=dq_ (by first | (with_reducible assumption) | assumption)
                 obtain ⟨ad340,A340_1,c340_1,e340,hx340_0,hx340_1,hl340_1,hi340_1⟩:=at_T56 HR0.out x5_1 p340 q340
                 have hw340_1:=hx340_1
                 have hw340_0:=hx340_0
                 obtain rfl : ad339 = ad340:=(by injection e340)
                 replace hx340_0:=(HB.out.cell (World.block_lt_of_cell? w _ hx340_0)).trans hx340_0
                 replace hx340_1:=(HB.out.cell (World.block_lt_of_cell? w _ hx340_1)).trans hx340_1
                 have HR340_1:=qm hi340_1
                 have HC340_1:=qm hl340_1
                 clear hi340_1 hl340_1
                 replace p340:=eq_true p340
                 replace q340:=eq_true q340
                 have p341 : 0 ≤ (x6_3 : Int):=dq_ (by first | (with_reducible assumption) | assumption)
                 have q341 : x6_3 < (((rd_T56 l0 x5_1).f1).length : Int):=dq_ (by first | (with_reducible assumption) | assumption)
                 obtain ⟨ad341,A341_1,c341_1,e341,hx341_0,hx341_1,hl341_1,hi341_1⟩:=at_T59 HR340_1.out x6_3 p341 q341
                 have hw341_1:=hx341_1
                 have hw341_0:=hx341_0
                 cases e341
                 replace hx341_0:=(HB.out.cell (World.block_lt_of_cell? w _ hx341_0)).trans hx341_0
                 replace hx341_1:=(HB.out.cell (World.block_lt_of_cell? w _ hx341_1)).trans hx341_1
                 have HR341_1:=qm hi341_1
                 have HC341_1:=qm hl341_1
                 clear hi341_1 hl341_1
                 replace p341:=eq_true p341
                 replace q341:=eq_true q341
                 have p342 : 0 ≤ (x5_1 : Int):=dq_ (by first | (with_reducible assumption) | assumption)
                 have q342 : x5_1 < (l1.length : Int):=dq_ (by first | (with_reducible assumption) | assumption)
                 obtain ⟨ad342,A342_1,c342_1,e342,hx342_0,hx342_1,hl342_1,hi342_1⟩:=at_T56 HR1.out x5_1 p342 q342
                 have hw342_1:=hx342_1
                 have hw342_0:=hx342_0
                 cases e342
                 replace hx342_0:=(HB.out.cell (World.block_lt_of_cell? w _ hx342_0)).trans hx342_0
                 replace hx342_1:=(HB.out.cell (World.block_lt_of_cell? w _ hx342_1)).trans hx342_1
                 have HR342_1:=qm hi342_1
                 have HC342_1:=qm hl342_1
                 clear hi342_1 hl342_1
                 replace p342:=eq_true p342
                 replace q342:=eq_true q342
                 have p343 : 0 ≤ (x6_3 : Int):=dq_ (by first | (with_reducible assumption) | assumption)
                 have q343 : x6_3 < (((rd_T56 l1 x5_1).f1).length : Int):=dq_ (by first | (with_reducible assumption) | assumption)
                 obtain ⟨ad343,A343_1,c343_1,e343,hx343_0,hx343_1,hl343_1,hi343_1⟩:=at_T59 HR342_1.out x6_3 p343 q343
                 have hw343_1:=hx343_1
                 have hw343_0:=hx343_0
                 cases e343
                 replace hx343_0:=(HB.out.cell (World.block_lt_of_cell? w _ hx343_0)).trans hx343_0
                 replace hx343_1:=(HB.out.cell (World.block_lt_of_cell? w _ hx343_1)).trans hx343_1
                 have HR343_1:=qm hi343_1
                 have HC343_1:=qm hl343_1
                 clear hi343_1 hl343_1
                 replace p343:=eq_true p343
                 replace q343:=eq_true q343
                 refine start_ (n:=18) (S:=fun w' => w'.cell? (ad339.add ((x5_1).toNat * 2)) = some (.int .u64 ((rd_T56 l0 x5_1).f0)) ∧ w'.cell? ⟨(ad339.add ((x5_1).toNat * 2)).block,(ad339.add ((x5_1).toNat * 2)).off + 1,none⟩ = some (.slice (some ad341) ((rd_T56 l0 x5_1).f1).length c340_1) ∧ w'.cell? (ad341.add ((x6_3).toNat * 2)) = some (.int .i64 ((rd_T59 ((rd_T56 l0 x5_1).f1) x6_3).f0)) ∧ w'.cell? ⟨(ad341.add ((x6_3).toNat * 2)).block,(ad341.add ((x6_3).toNat * 2)).off + 1,none⟩ = some (.slice A341_1 ((rd_T59 ((rd_T56 l0 x5_1).f1) x6_3).f1).length c341_1) ∧ w'.cell? (ad342.add ((x5_1).toNat * 2)) = some (.int .u64 ((rd_T56 l1 x5_1).f0)) ∧ w'.cell? ⟨(ad342.add ((x5_1).toNat * 2)).block,(ad342.add ((x5_1).toNat * 2)).off + 1,none⟩ = some (.slice (some ad343) ((rd_T56 l1 x5_1).f1).length c342_1) ∧ w'.cell? (ad343.add ((x6_3).toNat * 2)) = some (.int .i64 ((rd_T59 ((rd_T56 l1 x5_1).f1) x6_3).f0)) ∧ w'.cell? ⟨(ad343.add ((x6_3).toNat * 2)).block,(ad343.add ((x6_3).toNat * 2)).off + 1,none⟩ = some (.slice A343_1 ((rd_T59 ((rd_T56 l1 x5_1).f1) x6_3).f1).length c343_1)) (ds:=[]) #[n_,n_,n_,n_,n_,n_,n_,n_,n_,n_,n_,n_,n_,n_,n_,n_,n_,n_] (by kernel_rfl) rfl rfl ⟨((HB.out.cell (World.block_lt_of_cell? w _ hw340_0)).trans hw340_0),((HB.out.cell (World.block_lt_of_cell? w _ hw340_1)).trans hw340_1),((HB.out.cell (World.block_lt_of_cell? w _ hw341_0)).trans hw341_0),((HB.out.cell (World.block_lt_of_cell? w _ hw341_1)).trans hw341_1),((HB.out.cell (World.block_lt_of_cell? w _ hw342_0)).trans hw342_0),((HB.out.cell (World.block_lt_of_cell? w _ hw342_1)).trans hw342_1),((HB.out.cell (World.block_lt_of_cell? w _ hw343_0)).trans hw343_0),((HB.out.cell (World.block_lt_of_cell? w _ hw343_1)).trans hw343_1)⟩ (fun hHeld => ?_);refine with_tabW tachographref12_Same.tab11 tachographref12_Same.bits11 (fun HT_ HW_ => ?_)
                 generalize wr.drew = w22 at HB HR340_1 HR341_1 HR342_1 HR343_1 hx340_0 hx340_1 hx341_0 hx341_1 hx342_0 hx342_1 hx343_0 hx343_1 hHeld ⊢
                 refine pure_ (i:=0) (N:=some 54) (v:=?_) (a':=?_) #[y_,n_,n_,n_,n_,n_,n_,n_,n_,n_,n_,n_,n_,n_,n_,n_,n_,n_] rfl rfl (any_of HT_.out (by kernel_rfl)) (fun _ _ _ h => h) (Or.inl ⟨by rfl,?_⟩) ?_ ?_
                 rotate_left
                 ·intro w'
                  go_simp
                  with_reducible rfl
                 rotate_left
                 ·simp only [Act.put,sA_,sB_,sC_,i64_w,i32_w]
                  rfl
                 refine pure_ (i:=1) (N:=some 55) (v:=?_) (a':=?_) #[y_,y_,n_,n_,n_,n_,n_,n_,n_,n_,n_,n_,n_,n_,n_,n_,n_,n_] rfl rfl (any_of HT_.out (by kernel_rfl)) (fun _ _ _ h => h) (Or.inl ⟨by rfl,?_⟩) ?_ ?_
                 rotate_left
                 ·intro w'
                  go_simp
                  with_reducible rfl
                 rotate_left
                 ·simp only [Act.put,sA_,sB_,sC_,i64_w,i32_w]
                  rfl
                 refine pure_ (i:=2) (N:=some 56) (v:=?_) (a':=?_) #[y_,y_,y_,n_,n_,n_,n_,n_,n_,n_,n_,n_,n_,n_,n_,n_,n_,n_] rfl rfl (any_of HT_.out (by kernel_rfl)) (fun _ _ _ h => h) (Or.inl ⟨by rfl,?_⟩) ?_ ?_
                 rotate_left
                 ·intro w'
                  go_simp
                  with_reducible rfl
                 rotate_left
                 ·simp only [Act.put,sA_,sB_,sC_,i64_w,i32_w]
                  rfl
                 refine pure_ (i:=3) (N:=some 57) (v:=?_) (a':=?_) #[y_,y_,y_,y_,n_,n_,n_,n_,n_,n_,n_,n_,n_,n_,n_,n_,n_,n_] rfl rfl (any_of HT_.out (by kernel_rfl)) (fun _ _ _ h => h) (Or.inl ⟨by rfl,?_⟩) ?_ ?_
                 rotate_left
                 ·intro w'
                  go_simp
                  with_reducible rfl
                 rotate_left
                 ·simp only [Act.put,sA_,sB_,sC_,i64_w,i32_w]
                  rfl
                 refine pure_ (i:=5) (N:=some 59) (v:=?_) (a':=?_) #[y_,y_,y_,y_,n_,y_,n_,n_,n_,n_,n_,n_,n_,n_,n_,n_,n_,n_] rfl rfl (any_of HT_.out (by kernel_rfl)) (fun _ _ _ h => h) (Or.inl ⟨by rfl,?_⟩) ?_ ?_
                 rotate_left
                 ·intro w'
                  go_simp
                  with_reducible rfl
                 rotate_left
                 ·simp only [Act.put,sA_,sB_,sC_,i64_w,i32_w]
                  rfl
                 refine pure_ (i:=8) (N:=some 62) (v:=?_) (a':=?_) #[y_,y_,y_,y_,n_,y_,n_,n_,y_,n_,n_,n_,n_,n_,n_,n_,n_,n_] rfl rfl (any_of HT_.out (by kernel_rfl)) (fun _ _ _ h => h) (Or.inl ⟨by rfl,?_⟩) ?_ ?_
                 rotate_left
                 ·intro w'
                  go_simp
                  with_reducible rfl
                 rotate_left
                 ·simp only [Act.put,sA_,sB_,sC_,i64_w,i32_w]
                  rfl
                 refine pure_ (i:=9) (N:=some 63) (v:=?_) (a':=?_) #[y_,y_,y_,y_,n_,y_,n_,n_,y_,y_,n_,n_,n_,n_,n_,n_,n_,n_] rfl rfl (any_of HT_.out (by kernel_rfl)) (fun _ _ _ h => h) (Or.inl ⟨by rfl,?_⟩) ?_ ?_
                 rotate_left
                 ·intro w'
                  go_simp
                  with_reducible rfl
                 rotate_left
                 ·simp only [Act.put,sA_,sB_,sC_,i64_w,i32_w]
                  rfl
                 refine pure_ (i:=10) (N:=some 64) (v:=?_) (a':=?_) #[y_,y_,y_,y_,n_,y_,n_,n_,y_,y_,y_,n_,n_,n_,n_,n_,n_,n_] rfl rfl (any_of HT_.out (by kernel_rfl)) (fun _ _ _ h => h) (Or.inl ⟨by rfl,?_⟩) ?_ ?_
                 rotate_left
                 ·intro w'
                  go_simp
                  with_reducible rfl
                 rotate_left
                 ·simp only [Act.put,sA_,sB_,sC_,i64_w,i32_w]
                  rfl
                 refine pure_ (i:=11) (N:=some 65) (v:=?_) (a':=?_) #[y_,y_,y_,y_,n_,y_,n_,n_,y_,y_,y_,y_,n_,n_,n_,n_,n_,n_] rfl rfl (any_of HT_.out (by kernel_rfl)) (fun _ _ _ h => h) (Or.inl ⟨by rfl,?_⟩) ?_ ?_
                 rotate_left
                 ·intro w'
                  go_simp
                  with_reducible rfl
                 rotate_left
                 ·simp only [Act.put,sA_,sB_,sC_,i64_w,i32_w]
                  rfl
                 refine pure_ (i:=13) (N:=some 67) (v:=?_) (a':=?_) #[y_,y_,y_,y_,n_,y_,n_,n_,y_,y_,y_,y_,n_,y_,n_,n_,n_,n_] rfl rfl (any_of HT_.out (by kernel_rfl)) (fun _ _ _ h => h) (Or.inl ⟨by rfl,?_⟩) ?_ ?_
                 rotate_left
                 ·intro w'
                  go_simp
                  with_reducible rfl
                 rotate_left
                 ·simp only [Act.put,sA_,sB_,sC_,i64_w,i32_w]
                  rfl
                 refine take_ (i:=4) (N:=some 58) (v:=?_) (a':=?_) #[y_,y_,y_,y_,y_,y_,n_,n_,y_,y_,y_,y_,n_,y_,n_,n_,n_,n_] rfl rfl (take_ofW HT_.out HW_.out (by kernel_rfl)) (fun _ _ _ h => h) (Or.inl ⟨by rfl,?_⟩) hHeld ?_ ?_
                 rotate_left
                 ·rintro w' ⟨s0,s1,s2,s3,s4,s5,s6,s7⟩
                  go_simp
                  with_reducible rfl
                 rotate_left
                 ·simp only [Act.put,sA_,sB_,sC_,i64_w,i32_w]
                  rfl
                 refine pure_ (i:=6) (N:=some 60) (v:=?_) (a':=?_) #[y_,y_,y_,y_,y_,y_,y_,n_,y_,y_,y_,y_,n_,y_,n_,n_,n_,n_] rfl rfl (any_of HT_.out (by kernel_rfl)) (fun _ _ _ h => h) (Or.inl ⟨by rfl,?_⟩) ?_ ?_
                 rotate_left
                 ·intro w'
                  go_simp
                  with_reducible rfl
                 rotate_left
                 ·simp only [Act.put,sA_,sB_,sC_,i64_w,i32_w]
                  rfl
                 refine take_ (i:=7) (N:=some 61) (v:=?_) (a':=?_) #[y_,y_,y_,y_,y_,y_,y_,y_,y_,y_,y_,y_,n_,y_,n_,n_,n_,n_] rfl rfl (take_ofW HT_.out HW_.out (by kernel_rfl)) (fun _ _ _ h => h) (Or.inl ⟨by rfl,?_⟩) hHeld ?_ ?_
                 rotate_left
                 ·rintro w' ⟨s0,s1,s2,s3,s4,s5,s6,s7⟩
                  go_simp
                  with_reducible rfl
                 rotate_left
                 ·simp only [Act.put,sA_,sB_,sC_,i64_w,i32_w]
                  rfl
                 refine take_ (i:=12) (N:=some 66) (v:=?_) (a':=?_) #[y_,y_,y_,y_,y_,y_,y_,y_,y_,y_,y_,y_,y_,y_,n_,n_,n_,n_] rfl rfl (take_ofW HT_.out HW_.out (by kernel_rfl)) (fun _ _ _ h => h) (Or.inl ⟨by rfl,?_⟩) hHeld ?_ ?_
                 rotate_left
                 ·rintro w' ⟨s0,s1,s2,s3,s4,s5,s6,s7⟩
                  go_simp
                  with_reducible rfl
                 rotate_left
                 ·simp only [Act.put,sA_,sB_,sC_,i64_w,i32_w]
                  rfl
                 refine pure_ (i:=14) (N:=some 68) (v:=?_) (a':=?_) #[y_,y_,y_,y_,y_,y_,y_,y_,y_,y_,y_,y_,y_,y_,y_,n_,n_,n_] rfl rfl (any_of HT_.out (by kernel_rfl)) (fun _ _ _ h => h) (Or.inl ⟨by rfl,?_⟩) ?_ ?_
                 rotate_left
                 ·intro w'
                  go_simp
                  with_reducible rfl
                 rotate_left
                 ·simp only [Act.put,sA_,sB_,sC_,i64_w,i32_w]
                  rfl
                 refine take_ (i:=15) (N:=some 69) (v:=?_) (a':=?_) #[y_,y_,y_,y_,y_,y_,y_,y_,y_,y_,y_,y_,y_,y_,y_,y_,n_,n_] rfl rfl (take_ofW HT_.out HW_.out (by kernel_rfl)) (fun _ _ _ h => h) (Or.inl ⟨by rfl,?_⟩) hHeld ?_ ?_
                 rotate_left
                 ·rintro w' ⟨s0,s1,s2,s3,s4,s5,s6,s7⟩
                  go_simp
                  with_reducible rfl
                 rotate_left
                 ·simp only [Act.put,sA_,sB_,sC_,i64_w,i32_w]
                  rfl
                 refine one_ (i:=16) (N:=some 70) #[y_,y_,y_,y_,y_,y_,y_,y_,y_,y_,y_,y_,y_,y_,y_,y_,y_,n_] rfl rfl (one_of HT_.out (by kernel_rfl)) (by decide) (fun K hK => ?_)
                 refine goes_ Try.func25 (by kernel_rfl) rfl #[.agg #[.int .i64 ((rd_T59 ((rd_T56 l0 x5_1).f1) x6_3).f0),.slice A341_1 ((rd_T59 ((rd_T56 l0 x5_1).f1) x6_3).f1).length c341_1],.agg #[.int .i64 ((rd_T59 ((rd_T56 l1 x5_1).f1) x6_3).f0),.slice A343_1 ((rd_T59 ((rd_T56 l1 x5_1).f1) x6_3).f1).length c343_1]] (by rfl) rfl rfl (by (try simp only [l3q,l4q,l5q]);first | done | rfl | (simp only [l1q,l2q];rfl)) ?_
                 with_reducible refine (tachographref12_event.calls k3 ((rd_T59 ((rd_T56 l0 x5_1).f1) x6_3).f0) _ _ ((rd_T59 ((rd_T56 l0 x5_1).f1) x6_3).f1) ((rd_T59 ((rd_T56 l1 x5_1).f1) x6_3).f0) _ _ ((rd_T59 ((rd_T56 l1 x5_1).f1) x6_3).f1) false _ ?side1 ?side2 ?side3 ?side4 A18.out).mono ?_
                 (case side1 => repeat (first | exact (Kd.C_below HR341_1.out HB.out) | (with_reducible first | refine caq ?_ _ | refine cnq ?_ _ | refine cdq ?_)))
                 (case side2 => exact HC341_1.out)
                 (case side3 => repeat (first | exact (Kd.C_below HR343_1.out HB.out) | (with_reducible first | refine caq ?_ _ | refine cnq ?_ _ | refine cdq ?_)))
                 (case side4 => exact HC343_1.out)
                 rintro e w23 ⟨rfl,hb⟩
                 refine ⟨_,rfl,?_⟩
                 have n0_:=qm (qt (by repeat (first | (with_reducible first | exact HB.out | apply qa | apply qn | apply qd) | exact HB.out)) hb)
                 clear HB
                 have HB:=n0_
                 clear n0_
                 (try clear hb)
                 (try clear hb2)
                 (try clear hk)
                 (try clear hi)
                 refine hK.out _ _ ⟨((HB.out.cell (World.block_lt_of_cell? w _ hw340_0)).trans hw340_0),((HB.out.cell (World.block_lt_of_cell? w _ hw340_1)).trans hw340_1),((HB.out.cell (World.block_lt_of_cell? w _ hw341_0)).trans hw341_0),((HB.out.cell (World.block_lt_of_cell? w _ hw341_1)).trans hw341_1),((HB.out.cell (World.block_lt_of_cell? w _ hw342_0)).trans hw342_0),((HB.out.cell (World.block_lt_of_cell? w _ hw342_1)).trans hw342_1),((HB.out.cell (World.block_lt_of_cell? w _ hw343_0)).trans hw343_0),((HB.out.cell (World.block_lt_of_cell? w _ hw343_1)).trans hw343_1)⟩ (fun hHeld => ?_)
                 clear hK K
                 refine norm_ (a':=?_) ?_ ?_
                 rotate_left
                 ·show Act.put _ (some 70) _ = _
                  simp only [Act.put,sA_,sB_,sC_,i64_w,i32_w]
                  rfl
                 refine pure_ (i:=17) (N:=some 71) (v:=?_) (a':=?_) #[y_,y_,y_,y_,y_,y_,y_,y_,y_,y_,y_,y_,y_,y_,y_,y_,y_,y_] rfl rfl (any_of HT_.out (by kernel_rfl)) (fun _ _ _ h => h) (Or.inl ⟨by rfl,?_⟩) ?_ ?_
                 rotate_left
                 ·intro w'
                  go_simp
                  with_reducible rfl
                 rotate_left
                 ·simp only [Act.put,sA_,sB_,sC_,i64_w,i32_w]
                  rfl
                 refine done_ (done_of HT_.out (by kernel_rfl)) ?_
                 try go_wp2
                 go_ret
                 exact ⟨by first | rfl | (simp [errW_none,errW_some] <;> rfl) | (simp [*,errW_none,errW_some] <;> rfl),by repeat (first | (with_reducible first | exact HB.out | apply qa | apply qn | apply qd) | exact HB.out)⟩
               ·rw [if_neg c17] at H
                exact absurd H (by simp)
              ·rw [if_neg c16] at H
               exact absurd H (by simp)
             ·rw [if_neg c15] at H
              exact absurd H (by simp)
            ·rw [if_neg c14] at H
             have c14b0 : decide (x6_3 < (((rd_T56 l0 x5_1).f1).length : Int)) = false:=decide_eq_false c14
             clear c14
             have H':=qm H
             clear H
             have p339 : 0 ≤ (x5_1 : Int):=dq_ (by first | (with_reducible assumption) | assumption)
             have q339 : x5_1 < (l0.length : Int):=dq_ (by first | (with_reducible assumption) | assumption)
             obtain ⟨ad339,A339_1,c339_1,e339,hx339_0,hx339_1,hl339_1,hi339_1⟩:=at_T56 HR0.out x5_1 p339 q339
             cases e339
             replace hx339_0:=(HB.out.cell (World.block_lt_of_cell? w _ hx339_0)).trans hx339_0
             replace hx339_1:=(HB.out.cell (World.block_lt_of_cell? w _ hx339_1)).trans hx339_1
             have HR339_1:=qm hi339_1
             have HC339_1:=qm hl339_1
             clear hi339_1 hl339_1
             replace p339:=eq_true p339
             replace q339:=eq_true q339
             go_wp2
             go_roundg k3
             case measure => have:=HK1.out;have:=HJ4.out;have:=HK3.out;omega
             case rel => exact ⟨(wrap64 (x5_1 + 1)),(by first | rfl | (simp;done) | (simp [*];done)),H',⟨by have:=HK1.out;have:=HJ4.out;have:=HK3.out;omega⟩,⟨by repeat (first | (with_reducible first | exact HB.out | apply qa | apply qn | apply qd) | exact HB.out)⟩⟩
           ·rw [if_neg c13] at H
            exact absurd H (by simp)
          ·rw [if_neg c12] at H
           exact absurd H (by simp)
    ·rw [if_neg c4] at H
     have c4b0 : decide (x5_1 < (l0.length : Int)) = false:=decide_eq_false c4
     clear c4
     obtain rfl:=oiq H
     go_wp2
     go_ret
     exact ⟨by first | rfl | (simp [errW_none,errW_some] <;> rfl) | (simp [*,errW_none,errW_some] <;> rfl),by repeat (first | (with_reducible first | exact HB.out | apply qa | apply qn | apply qd) | exact HB.out)⟩
 ·rw [if_neg c3] at H
  have c3b0 : ((l0.length : Int) == (l1.length : Int)) = false:=b1q.mpr c3
  have c3b1 : ((l0.length : Int) != (l1.length : Int)) = true:=bne_iff_ne.mpr c3
  have c3b2 : (l0.length == l1.length) = false:=by first | simpa using c3 | (simp at c3 ⊢;omega)
  obtain rfl:=oiq H
  go_enter Try.func12,Try.ntmps12
  go_wp2
  go_ret
  exact ⟨by first | rfl | (simp [errW_none,errW_some] <;> rfl) | (simp [*,errW_none,errW_some] <;> rfl),by repeat (first | (with_reducible first | exact HB.out | apply qa | apply qn | apply qd) | exact HB.out)⟩

end Go.Proofs.Ytmmfakdncjeoeaa.PU
