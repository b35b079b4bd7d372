/- Short names for laws of the kit and of this claim: the printed functions name them often. -/
import Derived.ArgAppend
import Derived.Below
import Derived.BigQuiet
import Derived.Deep.AppendLies
import Derived.Deep.CutBlock
import Derived.Deep.DeepCutAuto
import Derived.Deep.Draws
import Derived.Deep.LoopGhost
import Derived.Deep.OwnRows
import Derived.Deep.QuietTactic
import Derived.Deep.RegionHeld3
import Derived.IntWalk
import Derived.KernelRfl
import Derived.Laws.BitsLemmas
import Derived.Laws.BytesArg
import Derived.Laws.IdiomCopy
import Derived.Laws.MakeOwn
import Derived.Laws.OwnMore
import Derived.Laws.Rows
import Derived.Laws.Slices
import Derived.Lib.AppendStr
import Derived.Lib.ConvBytes
import Derived.Lib.Hide
import Derived.LoopIn
import Derived.LoopNIn
import Derived.Maps.AppendAt
import Derived.OrdersHeld
import Derived.OwnWalk
import Derived.OwnWalkIn
import Derived.RangeFuncBound
import Derived.RangeFuncBox
import Derived.RangeFuncCalls
import Derived.RangeFuncLeaves
import Derived.RangeFuncNested
import Derived.RowKit
import Derived.RowKit3
import Derived.Shelf.Abstract
import Derived.Shelf.RegionOpen
import Derived.Tactics
import Derived.TacticsInMore
import Derived.Test.YtmmfakdncjeoeaaAid
import Derived.Test.YtmmfakdncjeoeaaBlockWalk
import Derived.Test.YtmmfakdncjeoeaaLit
import Derived.Test.YtmmfakdncjeoeaaMapSet
import Derived.Test.YtmmfakdncjeoeaaOpen
import Derived.Test.YtmmfakdncjeoeaaProg
import Derived.Test.YtmmfakdncjeoeaaWApart
import Derived.Test.YtmmfakdncjeoeaaWArr
import Derived.Test.YtmmfakdncjeoeaaWAt
import Derived.Test.YtmmfakdncjeoeaaWEqStruct
import Derived.Test.YtmmfakdncjeoeaaWFoot
import Derived.Test.YtmmfakdncjeoeaaWFootNe
import Derived.Test.YtmmfakdncjeoeaaWFour
import Derived.Test.YtmmfakdncjeoeaaWGuard
import Derived.Test.YtmmfakdncjeoeaaWInv
import Derived.Test.YtmmfakdncjeoeaaWInvWords
import Derived.Test.YtmmfakdncjeoeaaWKept
import Derived.Test.YtmmfakdncjeoeaaWLast
import Derived.Test.YtmmfakdncjeoeaaWMore
import Derived.Test.YtmmfakdncjeoeaaWN
import Derived.Test.YtmmfakdncjeoeaaWNEv
import Derived.Test.YtmmfakdncjeoeaaWQPut
import Derived.Test.YtmmfakdncjeoeaaWRepsOne
import Derived.Test.YtmmfakdncjeoeaaWShare
import Derived.Test.YtmmfakdncjeoeaaWTab
import Derived.Test.YtmmfakdncjeoeaaWWords
import Derived.Test.YtmmfakdncjeoeaaWZeros
import Derived.WalkKit
import Derived.WalkSpells
import Derived.WideLaws
namespace Go.Proofs.YtmmfakdncjeoeaaShort
open Go.RowKit Go.Proofs.YtmmfakdncjeoeaaW.PrintWords Go.Proofs.YtmmfakdncjeoeaaW.PrintLast Go.Proofs.YtmmfakdncjeoeaaW.PrintMore
theorem qm : type_of% @Aside0.mk := @Aside0.mk
theorem qa : type_of% @below_alloc := @below_alloc
theorem qn : type_of% @pw_below_drewN := @pw_below_drewN
theorem qd : type_of% @below_drew1 := @below_drew1
theorem raq : type_of% @Kd.R_alloc := @Kd.R_alloc
theorem rnq : type_of% @Kd.R_drewN := @Kd.R_drewN
theorem rdq : type_of% @Kd.R_drew := @Kd.R_drew
theorem caq : type_of% @Kd.C_alloc := @Kd.C_alloc
theorem cnq : type_of% @Kd.C_drewN := @Kd.C_drewN
theorem cdq : type_of% @Kd.C_drew := @Kd.C_drew
theorem kaq : type_of% @blk_alloc := @blk_alloc
theorem knq : type_of% @blk_drewN := @blk_drewN
theorem kdq : type_of% @blk_drew := @blk_drew
theorem qs : type_of% @below_size := @below_size
theorem qt : type_of% @below_step := @below_step
theorem l1q : type_of% @List.length_drop := @List.length_drop
theorem l2q : type_of% @List.length_take := @List.length_take
theorem l3q : type_of% @List.map_toArray := @List.map_toArray
theorem l4q : type_of% @List.map_cons := @List.map_cons
theorem l5q : type_of% @List.map_nil := @List.map_nil
theorem glq : type_of% @goesL_ := @goesL_
theorem gcq : type_of% @gate_callee := @gate_callee
theorem gdq : type_of% @gate_dst := @gate_dst
theorem obq : type_of% @Option.bind_eq_some_iff := @Option.bind_eq_some_iff
theorem qb : type_of% @below_set := @below_set
theorem kcq : type_of% @blk_cell := @blk_cell
theorem kfq : type_of% @blk_frozen := @blk_frozen
theorem dq_ : type_of% @of_decide_eq_true := @of_decide_eq_true
theorem dt_ : type_of% @decide_eq_true := @decide_eq_true
theorem l6q : type_of% @List.setIfInBounds_toArray := @List.setIfInBounds_toArray
theorem o2q : type_of% @Option.some.injEq := @Option.some.injEq
theorem oiq : type_of% @Option.some.inj := @Option.some.inj
theorem b1q : type_of% @beq_eq_false_iff_ne := @beq_eq_false_iff_ne
theorem b2q : type_of% @bne_eq_false_iff_eq := @bne_eq_false_iff_eq
theorem l7q : type_of% @List.set_cons_zero := @List.set_cons_zero
theorem l8q : type_of% @List.set_cons_succ := @List.set_cons_succ
theorem k1q : type_of% @keep_drewN := @keep_drewN
theorem tm_ : type_of% @Go.Proofs.YtmmfakdncjeoeaaAid.TyAt.mk := @Go.Proofs.YtmmfakdncjeoeaaAid.TyAt.mk
theorem ts_ : type_of% @Go.Proofs.YtmmfakdncjeoeaaAid.TyAt.set := @Go.Proofs.YtmmfakdncjeoeaaAid.TyAt.set
theorem ta_ : type_of% @Go.Proofs.YtmmfakdncjeoeaaAid.TyAt.alloc := @Go.Proofs.YtmmfakdncjeoeaaAid.TyAt.alloc
theorem tn_ : type_of% @Go.Proofs.YtmmfakdncjeoeaaAid.TyAt.drewN := @Go.Proofs.YtmmfakdncjeoeaaAid.TyAt.drewN
theorem td_ : type_of% @Go.Proofs.YtmmfakdncjeoeaaAid.TyAt.drew := @Go.Proofs.YtmmfakdncjeoeaaAid.TyAt.drew
end Go.Proofs.YtmmfakdncjeoeaaShort
