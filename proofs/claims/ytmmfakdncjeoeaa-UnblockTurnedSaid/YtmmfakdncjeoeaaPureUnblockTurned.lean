/- Proved: tachographlaw15.UnblockTurned answers true at every signature, all points and every number: with one byte of its payload changed, the payload doesn't give the same points. -/
import Derived.Test.YtmmfakdncjeoeaaMAll
import Derived.Test.YtmmfakdncjeoeaaPUx11
import Derived.Test.YtmmfakdncjeoeaaPUx13
import Derived.Test.YtmmfakdncjeoeaaPUx2
set_option linter.unusedVariables false
set_option linter.unusedSimpArgs false
namespace Go.Proofs.Ytmmfakdncjeoeaa.Pure
open Go.RowKit Go.Proofs.Ytmmfakdncjeoeaa.PU Go.Proofs.Ytmmfakdncjeoeaa.MPts Go.Proofs.Ytmmfakdncjeoeaa.MPut Go.Proofs.Ytmmfakdncjeoeaa.MDict Go.Proofs.Ytmmfakdncjeoeaa.MBlock Go.Proofs.Ytmmfakdncjeoeaa.MUnblock Go.Proofs.Ytmmfakdncjeoeaa.MSamePts Go.Proofs.Ytmmfakdncjeoeaa.MBase Go.Proofs.YtmmfakdncjeoeaaAid Go.Proofs.YtmmfakdncjeoeaaW.PrintWords Go.Proofs.YtmmfakdncjeoeaaW.PrintLast Go.Proofs.YtmmfakdncjeoeaaW.PrintMore

theorem fixed15 : Ev (fun k => tachographlaw15_fixed.f k) true := by
  have hs : MSig.Short ([(⟨(⟨#[112]⟩ : ByteArray), [1]⟩ : S53)]) := fun p hp => by simp only [List.mem_singleton] at hp; subst hp; decide
  have h := bput_ev ([(⟨(⟨#[112]⟩ : ByteArray), [1]⟩ : S53)]) hs ([(⟨5, [⟨0, [⟨1, 3, ⟨#[]⟩⟩]⟩]⟩ : Pnt)])
    ⟨⟨by decide, fun p hp => by
      simp only [List.mem_singleton] at hp
      subst hp
      refine ⟨by decide, by decide, fun e he => ?_⟩
      simp only [List.mem_singleton] at he
      subst he
      refine ⟨by decide, by decide, fun a ha => ?_⟩
      simp only [List.mem_singleton] at ha
      subst ha
      decide⟩, fun p hp e he a ha => by
      simp only [List.mem_singleton] at hp
      subst hp
      simp only [List.mem_singleton] at he
      subst he
      simp only [List.mem_singleton] at ha
      subst ha
      decide⟩
  have hc : (MTrace.tcheck ([(⟨(⟨#[112]⟩ : ByteArray), [1]⟩ : S53)]) ([(⟨5, [⟨0, [⟨1, 3, ⟨#[]⟩⟩]⟩]⟩ : Pnt)])).1 = 0 := by decide +kernel
  have hp : pay ([(⟨5, [⟨0, [⟨1, 3, ⟨#[]⟩⟩]⟩]⟩ : Pnt)]) = [5, 1, 0, 1, 0, 6] := by
    simp [pay, tailB, dict, strs, strsP, strsE, strA, puts, ptB, evB, argB, ptsB, MFold.foldN, wbytes]
  have hb : bput ([(⟨(⟨#[112]⟩ : ByteArray), [1]⟩ : S53)]) ([(⟨5, [⟨0, [⟨1, 3, ⟨#[]⟩⟩]⟩]⟩ : Pnt)]) = ([5, 1, 0, 1, 0, 6], 0) := by
    unfold bput
    rw [if_neg (by simp), if_pos hc, if_neg (by simp), hp, if_neg (by simp)]
  rw [hb] at h
  have hk : MSig.check ([(⟨(⟨#[112]⟩ : ByteArray), [1]⟩ : S53)]) = 0 := by decide +kernel
  have hck := MSig.check_ev _ hs
  rw [hk] at hck
  have hpt : Ev (fun k => unblock_reader_points.f k (strOfNums [5, 1, 0, 1, 0, 6]) 0 0 ([(⟨(⟨#[112]⟩ : ByteArray), [1]⟩ : S53)])) (([(⟨5, [⟨0, [⟨1, 3, ⟨#[]⟩⟩]⟩]⟩ : Pnt)]), strOfNums [5, 1, 0, 1, 0, 6], 6, 0) :=
    Ev.of (fun k => unblock_reader_points.mono _ _ _ _ k) (k := 60) (by kernel_rfl)
  unfold tachographlaw15_fixed.f
  refine Ev.bind (a := (([(⟨5, [⟨0, [⟨1, 3, ⟨#[]⟩⟩]⟩]⟩ : Pnt)]), (0 : Int))) ?_ (Ev.congr (f := fun _ => some true) (fun k => rfl) (Ev.now _))
  unfold unblock_Get.f
  refine Ev.bind hck ?_
  simp only [if_true, cursor_New.f, Option.bind_some]
  refine Ev.bind hpt ?_
  have hd : cursor_Cursor_Done.f (strOfNums [5, 1, 0, 1, 0, 6]) 6 0 = some (true, strOfNums [5, 1, 0, 1, 0, 6], 6, 0) := by
    have hz : (strOfNums [5, 1, 0, 1, 0, 6]).size = 6 := by rw [strOfNums_size]; rfl
    rw [MCursor.done_eq _ _ _ (by omega) (by omega) (by omega), if_neg (by omega)]
    rfl
  simp only [hd, Option.bind_some, if_true]
  refine Ev.congr (fun k => by rw [if_neg (by simp)]) (Ev.bind h ?_)
  simp only [if_true]
  exact Ev.now _

/-! ### a byte that is changed -/
theorem turned (x d : Int) (hx : 0 ≤ x ∧ x < 256) (hd : 1 ≤ d ∧ d < 256) : Go.bits .xor .u8 x d ≠ x ∧ 0 ≤ Go.bits .xor .u8 x d ∧ Go.bits .xor .u8 x d < 256 := by
  obtain ⟨n, rfl⟩ := Int.eq_ofNat_of_zero_le hx.1
  obtain ⟨m, rfl⟩ := Int.eq_ofNat_of_zero_le (by omega : 0 ≤ d)
  have hn : n < 256 := by omega
  have hm : m < 256 := by omega
  have hz : m ≠ 0 := by omega
  have key : ∀ a : Fin 256, ∀ b : Fin 256, b.val ≠ 0 → (a.val ^^^ b.val) ≠ a.val ∧ (a.val ^^^ b.val) < 256 := by
    intro a b hb
    refine ⟨fun h => hb ?_, Nat.xor_lt_two_pow (n := 8) a.2 b.2⟩
    have h2 : a.val ^^^ (a.val ^^^ b.val) = a.val ^^^ a.val := by rw [h]
    rwa [← Nat.xor_assoc, Nat.xor_self, Nat.zero_xor] at h2
  have hv : Go.bits .xor .u8 (n : Int) (m : Int) = ((n ^^^ m : Nat) : Int) := by
    exact u8_xor_nat n m hn hm
  obtain ⟨k1, k2⟩ := key ⟨n, hn⟩ ⟨m, hm⟩ hz
  rw [hv]
  dsimp only at k1 k2
  exact ⟨by omega, by omega, by omega⟩
theorem byt_flat {α : Type} {f : α → List Int} {l : List α} (h : ∀ x ∈ l, MW.Byt (f x)) : MW.Byt (l.flatMap f) := fun y hy => by
  obtain ⟨x, hx, hy⟩ := List.mem_flatMap.1 hy
  exact h x hx y hy
theorem byt_argB (D : List ByteArray) (a : Argm) : MW.Byt (argB D a) := by
  unfold argB
  split
  · exact MW.wbytes_byt _
  · exact MW.wbytes_byt _
theorem byt_ptB (D : List ByteArray) (p : Pnt) : MW.Byt (ptB D p) := (MW.wbytes_byt _).append (byt_flat fun e _ => (MW.wbytes_byt _).append (byt_flat fun a _ => byt_argB D a))
theorem byt_ptsB (D : List ByteArray) : ∀ (t : List Pnt) (a : Int), MW.Byt (ptsB D a t)
  | [], a => fun x hx => by cases hx
  | p :: r, a => (MW.wbytes_byt _).append ((byt_ptB D p).append (byt_ptsB D r p.f0))
theorem byt_pay (t : List Pnt) : MW.Byt (pay t) := by
  unfold pay
  refine MW.Byt.append ?_ ?_
  · cases t with
    | nil => exact fun x hx => by cases hx
    | cons p r => exact MW.wbytes_byt _
  · unfold tailB
    refine (MW.wbytes_byt _).append ((MW.wbytes_byt _).append ((byt_flat fun x _ => MBlob.byt_bbytes x).append ?_))
    cases t with
    | nil => exact fun x hx => by cases hx
    | cons p r => exact (byt_ptB _ p).append (byt_ptsB _ r p.f0)
theorem pay_pos (t : List Pnt) : 0 < (pay t).length := by
  unfold pay tailB
  rw [List.length_append, List.length_append]
  have := MW.wbytes_pos t.length
  omega
theorem fitE_of {t : List Pnt} (h : PtsFit t) : FitE t := fun p hp => by
  obtain ⟨_, h2, h3⟩ := h.2 p hp
  exact ⟨by omega, fun e he => by have := (h3 e he).2.1; omega⟩

theorem UnblockTurned : tachographlaw15_UnblockTurned.Pure := by
  intro sig t n hsig ht hn
  refine Ev.rounds ?_
  have hfit : FitsN t := by
    refine ⟨⟨by have := ht.2.1; omega, fun p hp => ?_⟩, fun p hp e he a ha => ?_⟩
    · obtain ⟨h1, h2⟩ := ht.2.2 p hp
      refine ⟨wf_u64 h1, by have h : p.f1.length * 32 ≤ 140737488351232 := h2.2.1; omega, fun e he => ?_⟩
      obtain ⟨h4, h5⟩ := h2.2.2 e he
      have h6 := wf_i64 h4
      refine ⟨⟨h6.1, by omega⟩, by have h : e.f1.length * 32 ≤ 140737488351232 := h5.2.1; omega, fun a ha => (h5.2.2 a ha).2.2⟩
    · have h6 := wf_i64 ((((ht.2.2 p hp).2.2.2 e he).2.2.2 a ha).2.1)
      exact ⟨h6.1, by have h7 : a.f1 < 9223372036854775808 := h6.2; omega⟩
  have hslen : sig.length < 9223372036854775807 := by have := hsig.2.1; omega
  have hs : MSig.Short sig := fun p hp => by have h : p.f0.size ≤ 140737488351232 := (hsig.2.2 p hp).1; omega
  have hn2 : 0 ≤ n ∧ n < 65536 := by
    simp [Lit.wf, IntKind.min, IntKind.max, IntKind.signed, IntKind.bits] at hn
    omega
  have hyes : Ev (fun k => tachographlaw15_UnblockTurned.j0 k sig t n true) true := by
    refine Ev.step (f := fun k => (tachographlaw15_fixed.f k).bind fun t => some t) (fun k => ?_) (Ev.bind fixed15 (Ev.now _))
    simp only [tachographlaw15_UnblockTurned.j0, if_true]
  have hno : Ev (fun k => tachographlaw15_UnblockTurned.j0 k sig t n false) true := by
    refine Ev.step (f := fun k => (block_Put.f k sig t).bind fun bt348 => (if bt348.2 = 0 then (tachographlaw15_UnblockTurned.j1 k sig t n bt348.1 bt348.2 ((bt348.1.length : Int) == 0)) else (tachographlaw15_UnblockTurned.j1 k sig t n bt348.1 bt348.2 true))) (fun k => by simp only [tachographlaw15_UnblockTurned.j0, Bool.false_eq_true, if_false]) (Ev.bind (bput_ev sig hs t hfit) ?_)
    by_cases hc : (bput sig t).2 = 0
    · obtain ⟨g0, g1, g2, _, _⟩ := bput_some hc
      have hpos := pay_pos t
      have hbyt := byt_pay t
      simp only [if_pos hc, g1]
      rw [show (((pay t).length : Int) == 0) = false from by rw [beq_eq_false_iff_ne]; omega]
      obtain ⟨y, hy⟩ : ∃ y, pay t = y := ⟨_, rfl⟩
      rw [hy] at hpos hbyt g2 ⊢
      generalize hii : Int.tmod (wrap64 n) (y.length : Int) = ii
      have hiv : 0 ≤ ii ∧ ii < (y.length : Int) := by
        rw [← hii, w64 (by omega) (by omega), Int.tmod_eq_emod_of_nonneg hn2.1]
        exact ⟨Int.emod_nonneg _ (by omega), Int.emod_lt_of_pos _ (by omega)⟩
      obtain ⟨i, rfl⟩ := Int.eq_ofNat_of_zero_le hiv.1
      have hi : i < y.length := by omega
      have hd : 1 ≤ 1 + (((n / 256) % 256) % 255) ∧ 1 + (((n / 256) % 256) % 255) < 256 := by omega
      generalize hdd : 1 + (((n / 256) % 256) % 255) = d at hd
      obtain ⟨q1, q2, q3⟩ := turned y[i] d (hbyt _ (List.getElem_mem hi)) hd
      obtain ⟨r, c, e1, e2, e3, e4⟩ := get_x sig hs hslen (y.set i (Go.bits .xor .u8 y[i] d)) (by rw [List.length_set]; omega)
      refine Ev.step (f := fun k => (unblock_Get.f k sig (y.set i (Go.bits .xor .u8 y[i] d))).bind fun bt355 => ((tachographlaw15_fixed.f k).bind fun t359 => (if t359 = true then (if bt355.2 = 0 then ((tachographref12_Same.f k bt355.1 t).bind fun t360 => (some (!t360))) else (if (bt355.1.length : Int) = 0 then (some true) else (some false))) else (some false)))) (fun k => ?_) (Ev.bind e1 (Ev.bind fixed15 ?_))
      · simp only [tachographlaw15_UnblockTurned.j1, Bool.false_eq_true, if_false]
        rw [if_neg (by omega), hii, hdd, if_pos (by omega), if_pos (by omega), at_i y i hi, Int.toNat_natCast]
      · simp only [if_true]
        by_cases h0 : c = 0
        · simp only [if_pos h0]
          obtain ⟨w1, w2⟩ := e4 h0
          refine Ev.bind (rsame_ev r t (by have := e2.1; omega) (fitE_of e2)) ?_
          have hne : same kp r t = false := by
            cases hsm : same kp r t with
            | false => rfl
            | true =>
              have hrt := same_eq hsm
              rw [hrt, hy] at w2
              have hbs : MW.Byt (y.set i (Go.bits .xor .u8 y[i] d)) := fun x hx => by
                rcases List.mem_or_eq_of_mem_set hx with hx | rfl
                · exact hbyt x hx
                · exact ⟨q2, q3⟩
              have h5 := MW.strOfNums_inj hbyt hbs w2
              have h6 : y[i] = (y.set i (Go.bits .xor .u8 y[i] d))[i]'(by rw [List.length_set]; exact hi) := by congr 1
              rw [List.getElem_set_self] at h6
              exact absurd h6.symm q1
          rw [hne]
          exact Ev.now _
        · simp only [if_neg h0, e3 h0]
          exact Ev.congr (f := fun _ => some true) (fun k => rfl) (Ev.now _)
    · simp only [if_neg hc]
      refine Ev.step (f := fun k => (tachographlaw15_fixed.f k).bind fun t352 => (if t352 = true then (some ((bput sig t).2 != 0)) else (some false))) (fun k => by simp only [tachographlaw15_UnblockTurned.j1, if_true]) (Ev.bind fixed15 ?_)
      simp only [if_true, show ((bput sig t).2 != 0) = true from by simpa using hc]
      exact Ev.now _
  unfold tachographlaw15_UnblockTurned.f
  refine Ev.bind (MSig.great_ev sig hslen) ?_
  cases hg : MSig.great sig with
  | true => simp only [if_true]; exact hyes
  | false =>
    simp only [Bool.false_eq_true, if_false]
    obtain ⟨b, hb⟩ := tgreat_ev 2000 t hfit.1.fits (by have := hfit.1.1; omega)
    refine Ev.bind hb ?_
    cases b
    · exact hno
    · exact hyes
end Go.Proofs.Ytmmfakdncjeoeaa.Pure
