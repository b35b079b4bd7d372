/- strconv.ParseInt and ParseUint at (s, 10, 64): in words that the walks use. The two variables' cells hold an interface value, or nil. -/
import Derived.Test.YtjfklfmfeghjnacDoorAid
import Derived.Test.YtjfklfmfeghjnacDoorShelf
import Derived.Lib.AtoiErrMem
namespace Go.Proofs.YtjfklfmfeghjnacDoorAid
open Go Go.RowKit
def GlobAt (w : World) (g : Nat) : Prop := ∃ ev, w.cell? ⟨g, 0, none⟩ = some ev ∧ (ev = .nilIface ∨ ∃ te pe, ev = .iface te pe)
def Glob (w : World) : Prop := GlobAt w 0 ∧ GlobAt w 1
theorem GlobAt.below {w w' : World} {g : Nat} (h : GlobAt w g) (hb : Below w.heap.size w w') : GlobAt w' g := by
  obtain ⟨ev, h1, h2⟩ := h
  exact ⟨ev, (hb.cell (World.block_lt_of_cell? w _ h1)).trans h1, h2⟩
theorem Glob.below {w w' : World} (h : Glob w) (hb : Below w.heap.size w w') : Glob w' := ⟨h.1.below hb, h.2.below hb⟩
theorem below_bytes {w w' : World} {t : TypeId} (h : w' = w ∨ ∃ u, w' = Lib.bytesWorld w t u) : Below w.heap.size w w' := by
  rcases h with rfl | ⟨u, rfl⟩
  · exact Below.refl _ _
  · exact Lib.bytesWorld_below _ _ _
theorem parse_int_ok (s : ByteArray) (hs : s.size ≤ 281474976710656) (v : Int) (h : Lib.parseIntB 64 s.data.toList = .ok v) (w : World) :
    Calls Tryd.prog 11 #[.string s, .int .i64 10, .int .i64 64] w fun e w' => e = .returned (.tuple #[.int .i64 v, .nilIface]) ∧ Below w.heap.size w w' :=
  (Tryd.strconv_ParseInt_10_at64_ok s (by omega) v h w).mono fun _ _ ⟨he, hw⟩ => ⟨he, below_bytes hw⟩
theorem parse_uint_ok (s : ByteArray) (hs : s.size ≤ 281474976710656) (v : Nat) (h : Lib.parseUintB 64 s.data.toList = .ok v) (w : World) :
    Calls Tryd.prog 14 #[.string s, .int .i64 10, .int .i64 64] w fun e w' => e = .returned (.tuple #[.int .u64 v, .nilIface]) ∧ Below w.heap.size w w' :=
  (Tryd.strconv_ParseUint_10_at64_ok s (by omega) v h w).mono fun _ _ ⟨he, hw⟩ => ⟨he, below_bytes (hw.imp id fun h => ⟨_, h⟩)⟩
theorem parse_int_err (s : ByteArray) (hs : s.size ≤ 281474976710656) (h : ∀ v, Lib.parseIntB 64 s.data.toList ≠ .ok v) (w : World) (hg : Glob w) :
    Calls Tryd.prog 11 #[.string s, .int .i64 10, .int .i64 64] w fun e w' => ∃ v p, e = .returned (.tuple #[.int .i64 v, .iface 66 (.pointer (some p))]) ∧ Below w.heap.size w w' := by
  obtain ⟨⟨e0, h0, k0⟩, ⟨e1, h1, k1⟩⟩ := hg
  cases hp : Lib.parseIntB 64 s.data.toList
  · exact absurd hp (h _)
  · exact (Tryd.strconv_ParseInt_10_at64_syntax s hs hp e0 w h0 k0).mono fun _ _ ⟨N, he, _, _, hb⟩ => ⟨_, _, he, hb⟩
  · exact (Tryd.strconv_ParseInt_10_at64_range s hs hp e1 w h1 k1).mono fun _ _ ⟨N, he, _, _, hb⟩ => ⟨_, _, he, hb⟩
theorem parse_uint_err (s : ByteArray) (hs : s.size ≤ 281474976710656) (h : ∀ v, Lib.parseUintB 64 s.data.toList ≠ .ok v) (w : World) (hg : Glob w) :
    Calls Tryd.prog 14 #[.string s, .int .i64 10, .int .i64 64] w fun e w' => ∃ v p, e = .returned (.tuple #[.int .u64 v, .iface 66 (.pointer (some p))]) ∧ Below w.heap.size w w' := by
  obtain ⟨⟨e0, h0, k0⟩, ⟨e1, h1, k1⟩⟩ := hg
  cases hp : Lib.parseUintB 64 s.data.toList
  · exact absurd hp (h _)
  · exact (Tryd.strconv_ParseUint_10_at64_syntax s hs hp e0 w h0 k0).mono fun _ _ ⟨N, he, _, _, hb⟩ => ⟨_, _, he, hb⟩
  · exact (Tryd.strconv_ParseUint_10_at64_range s hs hp e1 w h1 k1).mono fun _ _ ⟨N, he, _, _, hb⟩ => ⟨_, _, he, hb⟩
end Go.Proofs.YtjfklfmfeghjnacDoorAid
