/- Proved: tachographlaw15.UnblockBack answers true at every signature,all points and every number: a payload is read as the points it was made of;cut off it is not,nor with a byte more. -/
import Derived.Test.YtmmfakdncjeoeaaMAll
import Derived.Test.YtmmfakdncjeoeaaPUx11
import Derived.Test.YtmmfakdncjeoeaaPUx13
import Derived.Test.YtmmfakdncjeoeaaPUx2
set_option linter.unusedVariables false
set_option linter.unusedSimpArgs false
namespace Go.Proofs.Ytmmfakdncjeoeaa.Pure
open Go.RowKit Go.Proofs.Ytmmfakdncjeoeaa.PU Go.Proofs.Ytmmfakdncjeoeaa.MPts Go.Proofs.Ytmmfakdncjeoeaa.MPut Go.Proofs.Ytmmfakdncjeoeaa.MDict Go.Proofs.Ytmmfakdncjeoeaa.MBlock Go.Proofs.Ytmmfakdncjeoeaa.MUnblock Go.Proofs.Ytmmfakdncjeoeaa.MSamePts Go.Proofs.Ytmmfakdncjeoeaa.MBase Go.Proofs.YtmmfakdncjeoeaaAid Go.Proofs.YtmmfakdncjeoeaaW.PrintWords Go.Proofs.YtmmfakdncjeoeaaW.PrintLast Go.Proofs.YtmmfakdncjeoeaaW.PrintMore

theorem pay_pos (t : List Pnt) : 0 < (pay t).length:=by
 unfold pay tailB
 rw [List.length_append,List.length_append]
 have:=MW.wbytes_pos t.length
 omega
theorem byt_flat {α : Type} {f : α → List Int} {l : List α} (h : ∀ x ∈ l,MW.Byt (f x)) : MW.Byt (l.flatMap f):=fun y hy => by
 obtain ⟨x,hx,hy⟩:=List.mem_flatMap.1 hy
 exact h x hx y hy
theorem byt_argB (D : List ByteArray) (a : Argm) : MW.Byt (argB D a):=by
 unfold argB
 split
 ·exact MW.wbytes_byt _
 ·exact MW.wbytes_byt _
theorem byt_ptB (D : List ByteArray) (p : Pnt) : MW.Byt (ptB D p):=(MW.wbytes_byt _).append (byt_flat fun e _ => (MW.wbytes_byt _).append (byt_flat fun a _ => byt_argB D a))
theorem byt_ptsB (D : List ByteArray) : ∀ (t : List Pnt) (a : Int),MW.Byt (ptsB D a t)
 | [],a => fun x hx => by cases hx
 | p :: r,a => (MW.wbytes_byt _).append ((byt_ptB D p).append (byt_ptsB D r p.f0))
theorem byt_pay (t : List Pnt) : MW.Byt (pay t):=by
 unfold pay
 refine MW.Byt.append ?_ ?_
 ·cases t with
  | nil => exact fun x hx => by cases hx
  | cons p r => exact MW.wbytes_byt _
 ·unfold tailB
  refine (MW.wbytes_byt _).append ((MW.wbytes_byt _).append ((byt_flat fun x _ => MBlob.byt_bbytes x).append ?_))
  cases t with
  | nil => exact fun x hx => by cases hx
  | cons p r => exact (byt_ptB _ p).append (byt_ptsB _ r p.f0)
theorem ev_eq {α : Type} {f : Nat → Option α} {x y : α} (h : Ev f x) (k : Ev f y) : x = y:=by
 obtain ⟨a,h⟩:=h
 obtain ⟨b,k⟩:=k
 have h1:=h (a + b) (by omega)
 have h2:=k (a + b) (by omega)
 rw [h1] at h2
 exact Option.some.inj h2
section
variable (sig : List S53) (hs : MSig.Short sig) (hl : sig.length < 9223372036854775807) (t : List Pnt) (hf : FitsN t) (hb : (bput sig t).2 = 0)
include hs hl hf hb
omit hl in
theorem get_put (rest : List Int) (hr : MW.Byt rest) (hn : rest.length ≤ 100) : Ev (fun k => unblock_Get.f k sig (pay t ++ rest)) (if rest = [] then (t,0) else ([],4)):=by
 obtain ⟨g0,g1,g2,g3,g4⟩:=bput_some hb
 obtain ⟨c1,_,_⟩:=tcheck_ok g4
 have hsz : (strOfNums (pay t ++ rest)).size = (pay t).length + rest.length:=by rw [strOfNums_size,List.length_append]
 have hbo : bytesOf (strOfNums (pay t ++ rest)) = pay t ++ rest:=MW.bytesOf_strOfNums ((byt_pay t).append hr)
 have hp:=points_put (strOfNums (pay t ++ rest)) (by omega) sig t hf hb rest hbo
 have hck:=MSig.check_ev sig hs
 unfold unblock_Get.f
 refine Ev.bind hck ?_
 simp only [c1,if_true,cursor_New.f,Option.bind_some]
 refine Ev.bind hp ?_
 have hdn:=MCursor.done_eq (strOfNums (pay t ++ rest)) (((pay t).length : Nat) : Int) 0 (by omega) (by omega) (by omega)
 simp only [hdn]
 by_cases h0 : rest = []
 ·rw [if_pos h0]
  subst h0
  rw [if_neg (by rw [hsz];simp)]
  refine Ev.congr (f:=fun k => (block_Put.f k sig t).bind fun bt305 => (if bt305.2 = 0 then (if (strOfNums bt305.1).toList = (strOfNums (pay t ++ [])).toList then (some (t,0)) else (some (([] : List Pnt),4))) else (some (([] : List Pnt),4)))) (fun k => by rw [Option.bind_some,if_pos (show ((0 : Int) == 0) = true from rfl),if_neg (by rw [List.append_nil];omega)]) (Ev.bind (bput_ev sig hs t hf) ?_)
  simp only [if_pos hb,g1,List.append_nil,if_true]
  exact Ev.now _
 ·have hpos : 0 < rest.length:=List.length_pos_iff.2 h0
  rw [if_neg h0,if_pos ⟨by omega,trivial⟩]
  exact Ev.congr (f:=fun _ => some (([] : List Pnt),(4 : Int))) (fun k => by rw [Option.bind_some,if_neg (by simp)];rfl) (Ev.now _)
theorem get_cut (j : Nat) (hj : j < (pay t).length) : ∃ c,c ≠ 0 ∧ Ev (fun k => unblock_Get.f k sig ((pay t).take j)) ([],c):=by
 obtain ⟨g0,g1,g2,g3,g4⟩:=bput_some hb
 obtain ⟨r,c,e1,e2,e3,e4⟩:=get_x sig hs hl ((pay t).take j) (by rw [List.length_take];omega)
 by_cases hc : c = 0
 ·obtain ⟨w1,w2⟩:=e4 hc
  have h1:=MW.strOfNums_inj (byt_pay r) ((byt_pay t).take j) w2
  have hsz : (strOfNums (pay t)).size = (pay t).length:=strOfNums_size _
  have hbo : bytesOf (strOfNums (pay t)) = pay t:=MW.bytesOf_strOfNums (byt_pay t)
  have p1:=points_put (strOfNums (pay t)) (by omega) sig t hf hb [] (by rw [List.append_nil];exact hbo)
  have p2:=points_put (strOfNums (pay t)) (by omega) sig r e2.fits w1 ((pay t).drop j) (by rw [hbo,h1,List.take_append_drop])
  have h2:=congrArg (fun x => x.2.2.1) (ev_eq p1 p2)
  dsimp only at h2
  rw [h1,List.length_take] at h2
  omega
 ·rw [e3 hc] at e1
  exact ⟨c,hc,e1⟩
end
theorem fixed15 : Ev (fun k => tachographlaw15_fixed.f k) true:=by
 have hs : MSig.Short ([(⟨(⟨#[112]⟩ : ByteArray),[1]⟩ : S53)]):=fun p hp => by simp only [List.mem_singleton] at hp;subst hp;decide
 have hf : FitsN ([(⟨5,[⟨0,[⟨1,3,⟨#[]⟩⟩]⟩]⟩ : Pnt)]) :=
  ⟨⟨by decide,fun p hp => by
   simp only [List.mem_singleton] at hp
   subst hp
   refine ⟨by decide,by decide,fun e he => ?_⟩
   simp only [List.mem_singleton] at he
   subst he
   refine ⟨by decide,by decide,fun a ha => ?_⟩
   simp only [List.mem_singleton] at ha
   subst ha
   decide⟩,fun p hp e he a ha => by
   simp only [List.mem_singleton] at hp
   subst hp
   simp only [List.mem_singleton] at he
   subst he
   simp only [List.mem_singleton] at ha
   subst ha
   decide⟩
 have hc : (MTrace.tcheck ([(⟨(⟨#[112]⟩ : ByteArray),[1]⟩ : S53)]) ([(⟨5,[⟨0,[⟨1,3,⟨#[]⟩⟩]⟩]⟩ : Pnt)])).1 = 0:=by decide +kernel
 have hp : pay ([(⟨5,[⟨0,[⟨1,3,⟨#[]⟩⟩]⟩]⟩ : Pnt)]) = [5,1,0,1,0,6]:=by
  simp [pay,tailB,dict,strs,strsP,strsE,strA,puts,ptB,evB,argB,ptsB,MFold.foldN,wbytes]
 have hb : (bput ([(⟨(⟨#[112]⟩ : ByteArray),[1]⟩ : S53)]) ([(⟨5,[⟨0,[⟨1,3,⟨#[]⟩⟩]⟩]⟩ : Pnt)])).2 = 0:=by
  unfold bput
  rw [if_neg (by simp),if_pos hc,if_neg (by simp),hp,if_neg (by simp)]
 have h:=get_put _ hs _ hf hb [] (fun x hx => by cases hx) (by decide)
 rw [hp,if_pos rfl] at h
 unfold tachographlaw15_fixed.f
 exact Ev.bind h (Ev.congr (f:=fun _ => some true) (fun k => rfl) (Ev.now _))
theorem UnblockBack : tachographlaw15_UnblockBack.Pure:=by
 intro sig t n hsig ht hn
 refine Ev.rounds ?_
 have hfit : FitsN t:=by
  refine ⟨⟨by have:=ht.2.1;omega,fun p hp => ?_⟩,fun p hp e he a ha => ?_⟩
  ·obtain ⟨h1,h2⟩:=ht.2.2 p hp
   refine ⟨wf_u64 h1,by have h : p.f1.length * 32 ≤ 140737488351232:=h2.2.1;omega,fun e he => ?_⟩
   obtain ⟨h4,h5⟩:=h2.2.2 e he
   have h6:=wf_i64 h4
   refine ⟨⟨h6.1,by omega⟩,by have h : e.f1.length * 32 ≤ 140737488351232:=h5.2.1;omega,fun a ha => (h5.2.2 a ha).2.2⟩
  ·have h6:=wf_i64 ((((ht.2.2 p hp).2.2.2 e he).2.2.2 a ha).2.1)
   exact ⟨h6.1,by have h7 : a.f1 < 9223372036854775808:=h6.2;omega⟩
 have hslen : sig.length < 9223372036854775807:=by have:=hsig.2.1;omega
 have hs : MSig.Short sig:=fun p hp => by have h : p.f0.size ≤ 140737488351232:=(hsig.2.2 p hp).1;omega
 have hn2 : 0 ≤ n ∧ n < 65536:=by
  simp [Lit.wf,IntKind.min,IntKind.max,IntKind.signed,IntKind.bits] at hn
  omega
 have hyes : Ev (fun k => tachographlaw15_UnblockBack.j0 k sig t n true) true:=by
  refine Ev.step (f:=fun k => (tachographlaw15_fixed.f k).bind fun t => some t) (fun k => ?_) (Ev.bind fixed15 (Ev.now _))
  simp only [tachographlaw15_UnblockBack.j0,if_true]
 have hno : Ev (fun k => tachographlaw15_UnblockBack.j0 k sig t n false) true:=by
  refine Ev.step (f:=fun k => (block_Put.f k sig t).bind fun bt348 => (if bt348.2 = 0 then (tachographlaw15_UnblockBack.j1 k sig t n bt348.1 bt348.2 ((bt348.1.length : Int) == 0)) else (tachographlaw15_UnblockBack.j1 k sig t n bt348.1 bt348.2 true))) (fun k => by simp only [tachographlaw15_UnblockBack.j0,Bool.false_eq_true,if_false]) (Ev.bind (bput_ev sig hs t hfit) ?_)
  by_cases hc : (bput sig t).2 = 0
  ·obtain ⟨g0,g1,g2,g3,g4⟩:=bput_some hc
   have hpos:=pay_pos t
   simp only [if_pos hc,g1]
   rw [show (((pay t).length : Int) == 0) = false from by rw [beq_eq_false_iff_ne];omega]
   have e1:=get_put sig hs t hfit hc [] (fun x hx => by cases hx) (by simp)
   rw [List.append_nil,if_pos rfl] at e1
   generalize hii : Int.tmod (wrap64 n) ((pay t).length : Int) = ii
   have hiv : 0 ≤ ii ∧ ii < ((pay t).length : Int):=by
    rw [← hii,w64 (by omega) (by omega),Int.tmod_eq_emod_of_nonneg hn2.1]
    exact ⟨Int.emod_nonneg _ (by omega),Int.emod_lt_of_pos _ (by omega)⟩
   obtain ⟨i,rfl⟩:=Int.eq_ofNat_of_zero_le hiv.1
   obtain ⟨c,hc0,e2⟩:=get_cut sig hs hslen t hfit hc i (by omega)
   have e3:=get_put sig hs t hfit hc [n % 256] (fun x hx => by rw [List.mem_singleton] at hx;omega) (by simp)
   rw [if_neg (by simp)] at e3
   have hsame:=rsame_ev t t (by have:=hfit.1.1;omega) (fun p hp => by
    obtain ⟨_,h2,h3⟩:=hfit.1.2 p hp
    exact ⟨by omega,fun e he => by have:=(h3 e he).2.1;omega⟩)
   rw [same_self] at hsame
   refine Ev.step (f:=fun k => (unblock_Get.f k sig (pay t)).bind fun bt353 => ((unblock_Get.f k sig ((pay t).take i)).bind fun bt361 => ((unblock_Get.f k sig (pay t ++ [n % 256])).bind fun bt374 => ((tachographlaw15_fixed.f k).bind fun t378 => (if t378 = true then (if bt353.2 = 0 then ((tachographref12_Same.f k bt353.1 t).bind fun t379 => (if t379 = true then (if bt361.2 = 0 then (some false) else (if bt374.2 = 4 then (some ((wrap64 ((bt361.1.length : Int) + (bt374.1.length : Int))) == 0)) else (some false))) else (some false))) else (some false)) else (some false)))))) (fun k => ?_) (Ev.bind e1 (Ev.bind e2 (Ev.bind e3 (Ev.bind fixed15 ?_))))
   ·simp only [tachographlaw15_UnblockBack.j1,Bool.false_eq_true,if_false]
    have h1 : ¬ (((pay t).length : Nat) : Int) = 0:=by omega
    have h2 : (0 : Int) ≤ ((i : Nat) : Int):=by omega
    have h3 : ((i : Nat) : Int) ≤ (((pay t).length : Nat) : Int):=by omega
    have h4 : ([] : List Int).length + (pay t).length < 140737488355328:=by rw [List.length_nil];omega
    have h5 : (pay t).length < 140737488355328:=by omega
    simp only [hii,if_neg h1,if_pos h2,if_pos h3,Int.toNat_natCast,Option.bind_some,if_pos h4,List.nil_append,if_pos h5]
   ·simp only [if_true]
    refine Ev.bind hsame ?_
    simp only [if_true,if_neg hc0]
    exact Ev.congr (f:=fun _ => some true) (fun k => by rw [w64 (by simp) (by simp)];simp) (Ev.now _)
  ·simp only [if_neg hc]
   refine Ev.step (f:=fun k => (tachographlaw15_fixed.f k).bind fun t352 => (if t352 = true then (some ((bput sig t).2 != 0)) else (some false))) (fun k => by simp only [tachographlaw15_UnblockBack.j1,if_true]) (Ev.bind fixed15 ?_)
   simp only [if_true,show ((bput sig t).2 != 0) = true from by simpa using hc]
   exact Ev.now _
 unfold tachographlaw15_UnblockBack.f
 refine Ev.bind (MSig.great_ev sig hslen) ?_
 cases hg : MSig.great sig with
 | true => simp only [if_true];exact hyes
 | false =>
  simp only [Bool.false_eq_true,if_false]
  obtain ⟨b,hb⟩:=tgreat_ev 2000 t hfit.1.fits (by have:=hfit.1.1;omega)
  refine Ev.bind hb ?_
  cases b
  ·exact hno
  ·exact hyes
end Go.Proofs.Ytmmfakdncjeoeaa.Pure
-- NARROW
