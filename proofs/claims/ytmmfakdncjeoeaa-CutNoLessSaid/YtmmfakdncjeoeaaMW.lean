/- Plain laws on a number's bytes (layer 1): what reading comes to, and that what was put is read. -/
import Derived.Test.YtmmfakdncjeoeaaPCx4
import Derived.Laws.BitsAllLaws
import Derived.Lib.Zigzag
namespace Go.Proofs.Ytmmfakdncjeoeaa.MW
open Go.RowKit Go.Proofs.Ytmmfakdncjeoeaa.PC Go.Proofs.YtmmfakdncjeoeaaW.PrintWords Go.Proofs.YtmmfakdncjeoeaaW.PrintLast Go.Proofs.YtmmfakdncjeoeaaW.PrintMore

def Byt (l : List Int) : Prop := ∀ x ∈ l, 0 ≤ x ∧ x < 256

theorem Byt.nil : Byt [] := fun _ h => by cases h
theorem Byt.cons {c : Int} {l : List Int} (h : Byt (c :: l)) : (0 ≤ c ∧ c < 256) ∧ Byt l := ⟨h c (by simp), fun x hx => h x (by simp [hx])⟩
theorem Byt.mk {c : Int} {l : List Int} (h0 : 0 ≤ c) (h1 : c < 256) (h : Byt l) : Byt (c :: l) := fun x hx => by
  rcases List.mem_cons.1 hx with rfl | hx
  · exact ⟨h0, h1⟩
  · exact h x hx
theorem Byt.append {l m : List Int} (h : Byt l) (k : Byt m) : Byt (l ++ m) := fun x hx => by
  rcases List.mem_append.1 hx with hx | hx
  · exact h x hx
  · exact k x hx
theorem Byt.left {l m : List Int} (h : Byt (l ++ m)) : Byt l := fun x hx => h x (by simp [hx])
theorem Byt.drop {l : List Int} (h : Byt l) (n : Nat) : Byt (l.drop n) := fun x hx => h x (List.mem_of_mem_drop hx)
theorem Byt.take {l : List Int} (h : Byt l) (n : Nat) : Byt (l.take n) := fun x hx => h x (List.mem_of_mem_take hx)
theorem toList_strOfNums (l : List Int) : (strOfNums l).toList = l.map fun n => UInt8.ofNat n.toNat := by
  have h : (strOfNums l).toList = (strOfNums l).data.toList := by simp [ByteArray.toList_eq]
  rw [h, strOfNums_data]
theorem wf_u64 {x : Int} (h : (Lit.int .u64 x).wf = true) : 0 ≤ x ∧ x < 18446744073709551616 := by
  have h2 : 0 ≤ x ∧ x ≤ 18446744073709551615 := by simpa [Lit.wf, IntKind.min, IntKind.max, IntKind.bits, IntKind.signed] using h
  omega
theorem wf_i64 {x : Int} (h : (Lit.int .i64 x).wf = true) : -9223372036854775808 ≤ x ∧ x < 9223372036854775808 := by
  have h2 : -9223372036854775808 ≤ x ∧ x ≤ 9223372036854775807 := by simpa [Lit.wf, IntKind.min, IntKind.max, IntKind.bits, IntKind.signed] using h
  omega

theorem w64 {x : Int} (h0 : -9223372036854775808 ≤ x) (h1 : x < 9223372036854775808) : wrap64 x = x := by unfold wrap64; omega
theorem wu64 {x : Int} (h0 : 0 ≤ x) (h1 : x < 18446744073709551616) : IntKind.u64.wrap x = x := by rw [IntKind.wrap_u64]; omega

/-! ### What the bytes of a number are -/
theorem wbytes_le10 {m : Nat} (h : m < 18446744073709551616) : (wbytes m).length ≤ 10 := wbytes_len 9 m (by omega)

theorem put_eq (l : List Int) (m : Nat) (hl : l.length ≤ 140737488355000) (hm : m < 18446744073709551616) : wire_Put.f l (m : Int) = some (l ++ wbytes m) := by
  unfold wire_Put.f
  rw [if_pos ⟨hl, by omega, by omega⟩, Int.toNat_natCast]
end Go.Proofs.Ytmmfakdncjeoeaa.MW
