/- Small laws that the hand-proved contracts of this work lean on: a range over a function whose body never leaves early;a box. -/
import Derived.RangeFuncNested
import Derived.RangeFuncBound
import Derived.RangeFuncCalls
import Derived.RangeFuncLeaves
import Derived.RangeFuncBox
import Derived.Shelf.Abstract
import Derived.Shelf.RegionOpen
import Derived.OwnWalkIn
import Derived.TacticsInMore
import Derived.LoopNIn
import Derived.LoopIn
import Derived.Lib.Hide
import Derived.IntWalk
import Derived.WalkSpells
import Derived.WalkKit
import Derived.Lib.ConvBytes
import Derived.Lib.SlBytesConst
import Derived.Test.YtmmfakdncjeoeaaWWords
import Derived.Test.YtmmfakdncjeoeaaWLast
namespace Go.Proofs.YtmmfakdncjeoeaaAid
open Go Go.RowKit

variable {F : Fence} {n : Nat} {P : Program}

def recOf (fn : FuncId) (tmps : Array Value) (ps : Array Tmp) (assign body : Code) (D : Nat) (st : LoopState) : Loop :=
 { state:=st,pending:=none,fn,tmps,params:=ps,assign,body,defers:=D }

theorem round_on {l : Nat} {fn : FuncId} {tmps : Array Value} {ps : Array Tmp} {assign body : Code} {D : Nat} {args : Array Value} {W : World} {R : World → Prop} {REC : LoopState → Loop}
  (hF : F.fn fn) (hrec : ∀ st,REC st = recOf fn tmps ps assign body D st) (hl : W.heap[l]? = some (.loop (REC .ready))) (hs : args.size = ps.size)
  (h : assign.wpIn (F.inRound l) n P (Exit.then (fun a1 w1 => w1.heap[l]? = some (.loop (REC .ready)) ∧
    body.wpIn (F.inRound l) n P (fun
     | .normal,_,w3 => w3.heap[l]? = some (.loop (REC .busy)) ∧ R (w3.putObj l (.loop (REC .ready)))
     | _,_,_ => False) a1 (w1.putObj l (.loop (REC .busy)))) (fun _ _ _ => False))
   { tmps:=(ps.zip args).foldl (fun t (p,v) => t.setIfInBounds p v) tmps,defers:=[] } W) :
  YieldAt F n P l args W fun e W' => e = .returned (.bool true) ∧ R W':=by
 simp only [hrec] at hl h
 have hy:=run_yield (P:=P) (args:=args) hl hs
 refine ⟨fn,_,assign,body,hy,roundIn_of_wpIn hF (wpIn_mono h ?_)⟩
 rintro e a1 w1 hq
 cases e with
 | normal =>
  obtain ⟨hl1,hb⟩:=hq
  refine ⟨_,run_beginRound hl1 rfl,wpIn_mono hb ?_⟩
  rintro e a3 w3 hq
  cases e with
  | normal =>
   obtain ⟨hl3,hR⟩:=hq
   exact ⟨_,_,run_endRound none hl3,rfl,hR⟩
  | ret => exact hq.elim
  | exit id => exact hq.elim
  | goto t => exact hq.elim
  | panic c => exact hq.elim
  | outgrown => exact hq.elim
 | ret => exact hq.elim
 | exit id => exact hq.elim
 | goto t => exact hq.elim
 | panic c => exact hq.elim
 | outgrown => exact hq.elim

theorem range_on {g : Operand} {ps : Array Tmp} {assign body : Code} {Q : Exit → Act → World → Prop} {a : Act} {w : World}
  (hro : F.round = none) (h1 : 1 ≤ n) {gf : Nat} {lb : Array Value} (hg : a.eval g = .func (.func gf) #[] lb) (hFg : F.fn gf) (eg : ∀ args w,(callFunc gf args).run P w = .ok (.enter gf args) w)
  (h : ∀ fn (REC : LoopState → Loop),F.fn fn → (∀ st,REC st = recOf fn a.tmps ps assign body w.heap.size st) → CallsIn F (n - 1) P gf (#[.func (.yield (w.heap.size + 1)) #[] #[]] ++ lb)
   ((w.alloc (.deferred (some []))).alloc (.loop (REC .ready))) fun e W2 =>
    (∃ v,e = .returned v) ∧ W2.heap[w.heap.size + 1]? = some (.loop (REC .ready)) ∧
    Q .normal { a with defers:={ target:=.collected w.heap.size,args:=#[] } :: a.defers } (W2.putObj (w.heap.size + 1) (.loop (REC .exhausted)))) :
  (Code.rangeFunc g ps assign body).wpIn F n P Q a w:=by
 refine wpIn_rangeFunc ?_
 intro fn hfn
 rw [hro]
 obtain ⟨W1,hW1⟩ : ∃ W1,(w.alloc (.deferred (some []))).alloc (.loop (recOf fn a.tmps ps assign body w.heap.size .ready)) = W1:=⟨_,rfl⟩
 have hc:=h fn (recOf fn a.tmps ps assign body w.heap.size) hfn (fun _ => rfl)
 rw [hW1] at hc
 refine ⟨w.heap.size + 1,[{ target:=.collected w.heap.size,args:=#[] }],W1,{ target:=.fn (.func gf) lb,args:=#[.func (.yield (w.heap.size + 1)) #[] #[]] },W1,gf,
  #[.func (.yield (w.heap.size + 1)) #[] #[]] ++ lb,W1,?_,?_,?_,?_,fun _ => h1,?_⟩
 ·rw [← hW1];exact run_enterLoop_outer fn a.tmps ps assign body
 ·simp only [resolve,hg]
  simp [go_sem]
 ·intro f' hf';simp [Target.leads] at hf';subst hf';exact hFg
 ·simp [invoke,go_sem,eg]
 ·refine hc.mono ?_
  rintro e W2 ⟨⟨v,rfl⟩,hl,hq⟩
  exact ⟨none,_,run_endLoop hl (by simp [recOf]),hq⟩

open Go.Proofs.YtmmfakdncjeoeaaW.PrintWords Go.Proofs.YtmmfakdncjeoeaaW.PrintWords.Kd in
theorem conv_bytes_step {ops : Array Oper} {o : Oper} {a : Act} {Q : Exit → Act → World → Prop} {Kc : Act → World → Prop} {w0 W : World} (base : Nat) (hw : Region.wanted o (yielded ops a.tmps) = true) {N : Tmp} (_hd : o.dst = some N) (f t e : TypeId) (x : Operand) (ho : o.op = .convert f t x) (s : ByteArray) {u : TypeDesc}
  (hf : P.underlying f = some u) (ht : P.underlying t = some (.slice e)) (he : P.underlying e = some (.int .u8)) (hx : a.eval x = .string s) (hs : s.size ≤ 9223372036854775807) (HB : Below base w0 W) (hbase : base ≤ W.heap.size)
  (h : ∀ A c m w1,m = (bytesOf s).length → (Kd.int .u8).C w1 A m (bytesOf s) → m ≤ c → Below base w0 w1 → W.grownBy w1 none → Kc (a.put o.dst (.slice A m c)) w1) : if Region.wanted o (yielded ops a.tmps) = true then Oper.wp P o a W Kc Q else Kc (a.put o.dst undef) W:=by
 have hrun:=Lib.run_convert_string_bytes (P:=P) W f t e s hf ht he
 have hg : W.grownBy (Lib.bytesWorld W e s) none:=⟨rfl,rfl,rfl,by rw [Lib.bytesWorld_size];omega,fun k hk _ => Lib.bytesWorld_at_old W e s k hk⟩
 have hr : (Kd.int .u8).C (Lib.bytesWorld W e s) (some ⟨W.heap.size,0,none⟩) s.size (bytesOf s):=Kd.C_of_reads (d:=(0 : Int)) (h1:=fun _ => rfl) (bytes_reads W e s hs)
 have hl:=bytesOf_length s
 have hc : s.size ≤ grownCap W s.size 0 e:=grownCap_ge W s.size 0 e
 refine event_step (w1:=Lib.bytesWorld W e s) (v:=.slice (some ⟨W.heap.size,0,none⟩) s.size (grownCap W s.size 0 e)) hw ?_ (h (some ⟨W.heap.size,0,none⟩) (grownCap W s.size 0 e) s.size _ hl.symm hr hc (pw_below_grown HB none hbase hg (by simp)) hg)
 unfold execOp
 simp only [ho,hx,hrun,Sem.run_bind,Sem.run_pure,Result.andThen_ok]
open Go.Proofs.YtmmfakdncjeoeaaW.PrintWords Go.Proofs.YtmmfakdncjeoeaaW.PrintLast in
theorem goesVs_ {ops : Array Oper} {oi : Oper} {a : Act} {w : World} {Q : Exit → Act → World → Prop} {K : Act → World → Prop} {N : Option Tmp} {f : FuncId} {fn : Func} {as_ : Array Operand} {ts : Array TypeId} (hf : P.funcs[f]? = some fn) (hname : (fn.name == "runtime.NumGoroutine") = false) (hb : fn.body.isSome = true) (args caps : Array Value) (fo : Operand)
  (hw : Region.wanted oi (yielded ops a.tmps) = true) (hN : oi.dst = N) (hop : oi.op = .call { callee:=.value fo,args:=as_,argTypes:=ts }) (hfo : a.eval fo = .func (.func f) #[] caps) (hargs : as_.map a.eval = args)
  (h : Calls P f (args ++ caps) w fun e w' => ∃ v,e = .returned v ∧ K (a.put N v) w') : if Region.wanted oi (yielded ops a.tmps) = true then Oper.wp P oi a w K Q else K (a.put N undef) w:=by
 refine call_ f (args ++ caps) hw hN ?_ h
 have he:=enters_ hf hname hb (args ++ caps) w
 unfold execOp
 simp [hop,resolve,Deferred.ofValue,invoke,hfo,hargs,he]
open Go.Proofs.YtmmfakdncjeoeaaW.PrintWords in
def cursor_take_out {τ : Type} (none_ : τ) (s0_0 : ByteArray) (s0_1 s0_2 : Int) (get : List Int → Option (τ × Int × Int)) : Option (τ × ByteArray × Int × Int):=if s0_2 = 0 then (if 0 ≤ s0_1 then (if s0_1 ≤ (s0_0.size : Int) then (if (s0_0.extract (s0_1 : Int).toNat s0_0.size).size ≤ 9223372036854775807 then ((get (bytesOf (s0_0.extract (s0_1 : Int).toNat s0_0.size))).bind fun bt104 => (if bt104.2.2 = 0 then (some (bt104.1,s0_0,wrap64 (s0_1 + bt104.2.1),s0_2)) else (some (none_,s0_0,s0_1,bt104.2.2)))) else (none)) else (none)) else (none)) else (some (none_,s0_0,s0_1,s0_2))
theorem ne_empty (l : List UInt8) : (!l.isEmpty) = (l != []):=by cases l <;> rfl
theorem eq_empty (l : List UInt8) : l.isEmpty = (l == []):=by cases l <;> rfl
theorem wrap_len (n : Nat) (h : n ≤ 18446744073709551615) : IntKind.u64.wrap ((n : Int)) = (n : Int):=by rw [IntKind.wrap_u64];omega
end Go.Proofs.YtmmfakdncjeoeaaAid
-- NARROW
