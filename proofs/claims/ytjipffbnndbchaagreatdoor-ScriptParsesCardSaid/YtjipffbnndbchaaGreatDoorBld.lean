/- Strings' pieces: the Builder's writes, Join, Cut, Split, Count at one byte. -/
import Derived.Test.YtjipffbnndbchaaGreatDoorScrA
import Derived.Shelf.Strings.Builder1
namespace Go.Proofs.YtjipffbnndbchaaGreatDoor
open Go.RowKit
set_option maxRecDepth 100000

def ren167 : Go.Shelf.Ren := ⟨fun | 167 => 89 | n => Tryz.lays156_ren.f n, Tryz.lays156_ren.t, Tryz.lays156_ren.g⟩
theorem lays167 : Go.Proofs.Lays.n167 Tryz.prog ren167 := { Tryz.lays156 with
  f167 := Tryz.func89.trans (congrArg some (by kernel_rfl))
  t5 := Tryz.underlying5
  a5 := Tryz.isAgg5
  z5 := Tryz.sizeOf5
  v5 := Tryz.zeroValue5 }
theorem extra167 : Builder.Extra Tryz.prog ren167 := { Tryz.Builder_Extra_156 with }

theorem writeByte_calls (B b : Nat) (l : List Value) (c : Int) (w : World) (h : Lib.IsBuilder 72 5 B b l w) (hlen : l.length + 1 ≤ 140737488355328) (hBw : B ≤ w.heap.size) :
    Calls Tryz.prog 89 #[.pointer (some ⟨b, 0, none⟩), .int .u8 c] w fun e w' => e = .returned .nilIface ∧ (Lib.BuilderAt 72 5 B b (.pointer (some ⟨b, 0, none⟩)) (l ++ [.int .u8 c]) w' ∧ Below B w w') :=
  Any.Builder_WriteByte lays167 extra167 B b l c w h hlen hBw
theorem writeString_calls (B b : Nat) (l : List Value) (s : ByteArray) (w : World) (h : Lib.IsBuilder 72 5 B b l w) (hlen : l.length + s.size ≤ 140737488355328) (hBw : B ≤ w.heap.size) :
    Calls Tryz.prog 24 #[.pointer (some ⟨b, 0, none⟩), .string s] w fun e w' => e = .returned (.tuple #[.int .i64 s.size, .nilIface]) ∧ (Lib.BuilderAt 72 5 B b (.pointer (some ⟨b, 0, none⟩)) (l ++ Lib.strCells s) w' ∧ Below B w w') :=
  Any.Builder_WriteString { Tryz.lays156 with } Tryz.Builder_Extra_156 B b l s w h hlen hBw

/-- A Builder at block b (made since w) that holds l, at most L bytes. -/
structure Bld (w W : World) (b : Nat) (l : List UInt8) (L : Nat) : Prop where
  is : Lib.IsBuilder 72 5 w.heap.size b (Lib.byteCells l) W
  ext : Ext w W
  len : l.length ≤ L
theorem Bld.fresh (w : World) : Bld w (w.alloc (.cells #[.pointer none, .slice none 0 0] 72)) w.heap.size [] 0 :=
  ⟨Lib.fresh_isBuilder 72 5 w, Ext.alloc (Ext.rfl_ w) _, by simp⟩
theorem Bld.upto {w W : World} {b : Nat} {l : List UInt8} {L : Nat} (h : Bld w W b l L) (M : Nat) (hM : l.length ≤ M) : Bld w W b l M := ⟨h.is, h.ext, hM⟩
theorem isBuilder_ext {B b : Nat} {l : List Value} {W W' : World} (h : Lib.IsBuilder 72 5 B b l W) (e : Ext W W') : Lib.IsBuilder 72 5 B b l W' := by
  have key : ∀ p, Lib.BuilderAt 72 5 B b p l W → Lib.BuilderAt 72 5 B b p l W' := by
    rintro p ⟨hB, v, hb, hown, hne⟩
    refine ⟨hB, v, (e.block b (Array.getElem?_eq_some_iff.1 hb).1).trans hb, ?_, hne⟩
    obtain ⟨h0, h1⟩ := hown
    refine ⟨h0, h1.imp id ?_⟩
    rintro ⟨g, cap, cur, e1, e2, e3, e4⟩
    exact ⟨g, cap, cur, e1, e2, (e.block g (Array.getElem?_eq_some_iff.1 e3).1).trans e3, e4⟩
  exact h.imp (key _) (key _)
theorem Bld.more {w W W' : World} {b : Nat} {l : List UInt8} {L : Nat} (h : Bld w W b l L) (e : Ext W W') : Bld w W' b l L := ⟨isBuilder_ext h.is e, h.ext.trans e, h.len⟩
theorem bld_byte {w W : World} {b : Nat} {l : List UInt8} {L : Nat} (h : Bld w W b l L) (x : UInt8) (hL : L + 1 ≤ 1000000000) :
    Calls Tryz.prog 89 #[.pointer (some ⟨b, 0, none⟩), .int .u8 (x.toNat : Int)] W fun e w' => e = .returned .nilIface ∧ Bld w w' b (l ++ [x]) (L + 1) := by
  refine (writeByte_calls w.heap.size b _ _ W h.is (by have := h.len; rw [Lib.byteCells_length]; omega) h.ext.size).mono ?_
  rintro e w' ⟨rfl, h1, h2⟩
  refine ⟨rfl, ?_, Below.trans h.ext h2, by have := h.len; simp; omega⟩
  have : Lib.byteCells (l ++ [x]) = Lib.byteCells l ++ [.int .u8 (x.toNat : Int)] := by simp [Lib.byteCells]
  rw [this]
  exact .inr h1
theorem bld_str {w W : World} {b : Nat} {l : List UInt8} {L : Nat} (h : Bld w W b l L) (s : ByteArray) (M : Nat) (hs : s.size ≤ M) (hL : L + M ≤ 1000000000) :
    Calls Tryz.prog 24 #[.pointer (some ⟨b, 0, none⟩), .string s] W fun e w' => e = .returned (.tuple #[.int .i64 s.size, .nilIface]) ∧ Bld w w' b (l ++ s.data.toList) (L + M) := by
  refine (writeString_calls w.heap.size b _ s W h.is (by have := h.len; rw [Lib.byteCells_length]; omega) h.ext.size).mono ?_
  rintro e w' ⟨rfl, h1, h2⟩
  have hsz : s.data.toList.length = s.size := by rw [Array.length_toList]; rfl
  refine ⟨rfl, ?_, Below.trans h.ext h2, by have := h.len; rw [List.length_append, hsz]; omega⟩
  have : Lib.byteCells (l ++ s.data.toList) = Lib.byteCells l ++ Lib.strCells s := by simp [Lib.byteCells, Lib.strCells]
  rw [this]
  exact .inr h1
theorem bld_string {w W : World} {b : Nat} {l : List UInt8} {L : Nat} (h : Bld w W b l L) :
    Calls Tryz.prog 27 #[.pointer (some ⟨b, 0, none⟩)] W fun e w' => e = .returned (.string (bs l)) ∧ Ext w w' := by
  refine (Tryz.Builder_String_any w.heap.size b l W h.is h.ext.size).mono ?_
  rintro e w' ⟨rfl, h1⟩
  exact ⟨rfl, Below.trans h.ext h1⟩
end Go.Proofs.YtjipffbnndbchaaGreatDoor
