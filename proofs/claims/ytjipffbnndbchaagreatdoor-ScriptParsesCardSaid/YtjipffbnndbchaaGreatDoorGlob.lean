/- What the library's variables hold, kept under writes elsewhere; the library's number functions. -/
import Derived.Test.YtjipffbnndbchaaGreatDoorLibW
import Derived.Lib.AppendIntMem
import Derived.Lib.ItoaMem
import Derived.Lib.AtoiErrMem
import Derived.Shelf.Strconv.Itoa3
import Derived.BigQuiet
import Derived.Deep.QuietTactic
import Derived.Deep.Light
namespace Go.Proofs.YtjipffbnndbchaaGreatDoor
open Go.RowKit Go.Lib Go.Sort
set_option maxRecDepth 100000

theorem var_below {P : Program} {w w' : World} {n : String} {cs : Array Value} {B g : Nat} (hg : P.globalNamed n = some g) (hlt : g < B) (h : w.var? P n = some cs) (e : Below B w w') : w'.var? P n = some cs := by
  unfold World.var? at *
  rw [hg] at h ⊢
  simp only [Option.bind_some] at h ⊢
  rw [e.block g hlt]; exact h

theorem gSyn : Tryz.prog.globalNamed "strconv.ErrSyntax" = some 4 := by kernel_rfl
theorem gRng : Tryz.prog.globalNamed "strconv.ErrRange" = some 5 := by kernel_rfl
/-- The library's variables lie below B and hold what they were laid with. -/
structure Glob (B : Nat) (w : World) : Prop where
  eight : 8 ≤ B
  size : B ≤ w.heap.size
  max : ∃ m, w.cell? ⟨0, 0, none⟩ = some (.int .i64 m)
  tab : Lib.TabBelow Tryz.prog B w "internal/strconv.uint64pow10" .u64 Lib.pow10Tab
  syn : ∃ tp p, w.var? Tryz.prog "strconv.ErrSyntax" = some #[.iface tp p]
  rng : ∃ tp p, w.var? Tryz.prog "strconv.ErrRange" = some #[.iface tp p]
theorem Glob.below {B : Nat} {w w' : World} (h : Glob B w) (e : Below B w w') : Glob B w' where
  eight := h.eight
  size := Nat.le_trans h.size e.size
  max := let ⟨m, hm⟩ := h.max; ⟨m, (cell_blk _ (e.block _ (by have := h.eight; show 0 < B; omega))).trans hm⟩
  tab := fun w2 h2 => h.tab w2 (e.trans h2)
  syn := let ⟨t, p, hm⟩ := h.syn; ⟨t, p, var_below gSyn (by have := h.eight; omega) hm e⟩
  rng := let ⟨t, p, hm⟩ := h.rng; ⟨t, p, var_below gRng (by have := h.eight; omega) hm e⟩
theorem Glob.ext {B : Nat} {w w' : World} (h : Glob B w) (e : Ext w w') : Glob B w' := h.below (e.mono h.size)
theorem Glob.only {B : Nat} {w w' : World} {S : Nat → Prop} (h : Glob B w) (e : Only S w w') (hS : ∀ k, S k → B ≤ k) : Glob B w' :=
  h.below (e.below (fun k hk hs => by have := hS k hs; omega) h.size)

def bs (l : List UInt8) : ByteArray := ⟨l.toArray⟩
@[simp] theorem bs_toList (l : List UInt8) : (bs l).data.toList = l := rfl
@[simp] theorem bs_of (s : ByteArray) : bs s.data.toList = s := by cases s; rfl
@[simp] theorem bs_size (l : List UInt8) : (bs l).size = l.length := by simp [bs, ByteArray.size]

theorem itoa_calls (n : Int) (hn : InK .i64 n) {B : Nat} (w : World) (hG : Glob B w) :
    Calls Tryz.prog 47 #[.int .i64 n] w fun e w' => e = .returned (.string (bs (Lib.itoa n))) ∧ Ext w w' := by
  refine (Tryz.strconv_Itoa n hn.1 hn.2 w hG.tab.here).mono ?_
  rintro e w' ⟨rfl, k, os, rfl⟩
  exact ⟨rfl, Lib.below_grow _ w (Nat.le_refl _) k os⟩

/-- What Atoi tells: the number, and whether there is an error. -/
def atoiR (s : ByteArray) : Int × Bool :=
  match Lib.atoiAll s.data.toList with
  | .ok v => (v, false)
  | Lib.NumEnd.syntax => (0, true)
  | .range => (Lib.atoiSat s.data.toList, true)
/-- An error that is there or not. -/
def ErrIs (b : Bool) (v : Value) : Prop := if b = true then ∃ N : Nat, v = .iface 178 (.pointer (some ⟨N, 0, none⟩)) else v = .nilIface

theorem errIs_false {v : Value} (h : ErrIs false v) : v = .nilIface := h
theorem errIs_true {v : Value} (h : ErrIs true v) : ∃ N : Nat, v = .iface 178 (.pointer (some ⟨N, 0, none⟩)) := h
theorem atoi_calls (s : ByteArray) (hs : s.size ≤ 1000000) {B : Nat} (w : World) (hG : Glob B w) :
    Calls Tryz.prog 86 #[.string s] w fun e w' => ∃ v, e = .returned (.tuple #[.int .i64 (atoiR s).1, v]) ∧ ErrIs (atoiR s).2 v ∧ Ext w w' := by
  unfold atoiR
  split
  next v h =>
    refine (Tryz.strconv_Atoi_ok s (by omega) v h w).mono ?_
    rintro e w' ⟨rfl, h⟩
    refine ⟨_, rfl, by simp [ErrIs], ?_⟩
    rcases h with rfl | ⟨t, rfl⟩
    · exact Ext.rfl_ _
    · exact Lib.bytesWorld_below _ _ _
  next h =>
    obtain ⟨tp, p, hv⟩ := hG.syn
    refine (Tryz.strconv_Atoi_syntax_var s (by omega) h tp p w hv).mono ?_
    rintro e w' ⟨N, rfl, _, _, hb⟩
    exact ⟨_, rfl, by simp [ErrIs], hb⟩
  next h =>
    obtain ⟨tp, p, hv⟩ := hG.rng
    refine (Tryz.strconv_Atoi_range_var s (by omega) h tp p w hv).mono ?_
    rintro e w' ⟨N, rfl, _, _, hb⟩
    exact ⟨_, rfl, by simp [ErrIs], hb⟩

/-- What ParseUint tells. -/
def uintR (bits : Nat) (s : ByteArray) : Nat × Bool :=
  match Lib.parseUintB bits s.data.toList with
  | .ok v => (v, false)
  | Lib.NumEnd.syntax => (0, true)
  | .range => (2 ^ bits - 1, true)

theorem parseUint64_calls (s : ByteArray) (hs : s.size ≤ 1000000) {B : Nat} (w : World) (hG : Glob B w) :
    Calls Tryz.prog 87 #[.string s, .int .i64 10, .int .i64 64] w fun e w' => ∃ v, e = .returned (.tuple #[.int .u64 (uintR 64 s).1, v]) ∧ ErrIs (uintR 64 s).2 v ∧ Ext w w' := by
  unfold uintR
  split
  next v h =>
    refine (Tryz.strconv_ParseUint_10_at64_ok s (by omega) v h w).mono ?_
    rintro e w' ⟨rfl, h⟩
    refine ⟨_, rfl, by simp [ErrIs], ?_⟩
    rcases h with rfl | rfl
    · exact Ext.rfl_ _
    · exact Lib.bytesWorld_below _ _ _
  next h =>
    obtain ⟨tp, p, hv⟩ := hG.syn
    refine (Tryz.strconv_ParseUint_10_at64_syntax_var s (by omega) h tp p w hv).mono ?_
    rintro e w' ⟨N, rfl, _, _, hb⟩
    exact ⟨_, rfl, by simp [ErrIs], hb⟩
  next h =>
    obtain ⟨tp, p, hv⟩ := hG.rng
    refine (Tryz.strconv_ParseUint_10_at64_range_var s (by omega) h tp p w hv).mono ?_
    rintro e w' ⟨N, rfl, _, _, hb⟩
    exact ⟨_, rfl, by simp [ErrIs], hb⟩

theorem parseUint32_calls (s : ByteArray) (hs : s.size ≤ 1000000) {B : Nat} (w : World) (hG : Glob B w) :
    Calls Tryz.prog 87 #[.string s, .int .i64 10, .int .i64 32] w fun e w' => ∃ v, e = .returned (.tuple #[.int .u64 (uintR 32 s).1, v]) ∧ ErrIs (uintR 32 s).2 v ∧ Ext w w' := by
  unfold uintR
  split
  next v h =>
    refine (Tryz.strconv_ParseUint_10_at32_ok s (by omega) v h w).mono ?_
    rintro e w' ⟨rfl, h⟩
    refine ⟨_, rfl, by simp [ErrIs], ?_⟩
    rcases h with rfl | rfl
    · exact Ext.rfl_ _
    · exact Lib.bytesWorld_below _ _ _
  next h =>
    obtain ⟨tp, p, hv⟩ := hG.syn
    refine (Tryz.strconv_ParseUint_10_at32_syntax_var s (by omega) h tp p w hv).mono ?_
    rintro e w' ⟨N, rfl, _, _, hb⟩
    exact ⟨_, rfl, by simp [ErrIs], hb⟩
  next h =>
    obtain ⟨tp, p, hv⟩ := hG.rng
    refine (Tryz.strconv_ParseUint_10_at32_range_var s (by omega) h tp p w hv).mono ?_
    rintro e w' ⟨N, rfl, _, _, hb⟩
    exact ⟨_, rfl, by simp [ErrIs], hb⟩

theorem parseUint8_calls (s : ByteArray) (hs : s.size ≤ 1000000) {B : Nat} (w : World) (hG : Glob B w) :
    Calls Tryz.prog 87 #[.string s, .int .i64 10, .int .i64 8] w fun e w' => ∃ v, e = .returned (.tuple #[.int .u64 (uintR 8 s).1, v]) ∧ ErrIs (uintR 8 s).2 v ∧ Ext w w' := by
  unfold uintR
  split
  next v h =>
    refine (Tryz.strconv_ParseUint_10_at8_ok s (by omega) v h w).mono ?_
    rintro e w' ⟨rfl, h⟩
    refine ⟨_, rfl, by simp [ErrIs], ?_⟩
    rcases h with rfl | rfl
    · exact Ext.rfl_ _
    · exact Lib.bytesWorld_below _ _ _
  next h =>
    obtain ⟨tp, p, hv⟩ := hG.syn
    refine (Tryz.strconv_ParseUint_10_at8_syntax_var s (by omega) h tp p w hv).mono ?_
    rintro e w' ⟨N, rfl, _, _, hb⟩
    exact ⟨_, rfl, by simp [ErrIs], hb⟩
  next h =>
    obtain ⟨tp, p, hv⟩ := hG.rng
    refine (Tryz.strconv_ParseUint_10_at8_range_var s (by omega) h tp p w hv).mono ?_
    rintro e w' ⟨N, rfl, _, _, hb⟩
    exact ⟨_, rfl, by simp [ErrIs], hb⟩

theorem holds_zero0 (w : World) (T : TypeId) (nd : Nat) (hs : nd ≤ 24) : Holds (fun (b : UInt8) => Value.int .u8 (b.toNat : Int)) (w.alloc (.cells Lib.zeros24 T)) w.heap.size 0 (Array.replicate nd (0 : UInt8)) := fun j hj => by
  have hj' : j < nd := by simpa using hj
  refine ⟨?_, World.frozen?_alloc_new _ _ _ _⟩
  rw [World.cell?_alloc_new, Lib.zeros24_at _ (by omega), getElem!_pos _ j hj]
  simp

set_option maxHeartbeats 1000000 in
theorem formatUint_calls (u : Nat) (hu64 : u < 18446744073709551616) {B : Nat} (w : World) (hG : Glob B w) :
    Calls Tryz.prog 50 #[.int .u64 u, .int .i64 10] w fun e w' => e = .returned (.string (bs (Lib.decDigits u))) ∧ Ext w w' := by
  by_cases hs : u < 100
  · have HS := Lib.hid hs
    have hs' : (u : Int) < 100 := by omega
    go_enter Tryz.func50, Tryz.ntmps50
    go_wp2_with (go_at_call 76; go_must (refine (Tryz.internal_strconv_small u HS.out _).mono ?_); rintro e w' ⟨rfl, rfl⟩)
    go_ret
    exact ⟨rfl, Ext.rfl_ _⟩
  · have hu1 : 1 ≤ u := by omega
    have hnd20 : Lib.nDigits u ≤ 20 := by have := Lib.numDigits_eq u hu1 hu64; split at this <;> omega
    have hb3 : Lib.nDigits u ≤ 23 := by omega
    have hal : Tryz.prog.arrayLen 136 = 24 := by simp [Program.arrayLen, Tryz.underlying136]
    have hsl1 : ∀ W, (Instr.sliceAt 136 (.pointer (some ⟨w.heap.size, 0, none⟩)) none (some (.int .i64 (Lib.nDigits u : Int))) none).run Tryz.prog W = .ok (.slice (some ⟨w.heap.size, 0, none⟩) (Lib.nDigits u) 24) W := fun W => by
      rw [run_sliceAt_array_h W 136 ⟨w.heap.size, 0, none⟩ (by simp [Program.arrayLen, Program.elem, Tryz.underlying136]) .i64 (Lib.nDigits u : Int) (by omega) (by rw [hal]; omega)]
      go_simp
    clear hal
    have hH0 := holds_zero0 w 136 (Lib.nDigits u) (by omega)
    have hfmt := Tryz.internal_strconv_formatBase10 w.heap.size 0 24 u (Array.replicate (Lib.nDigits u) 0) (w.alloc (.cells Lib.zeros24 136)) hH0 (by rw [Array.size_replicate]; exact Lib.lt_pow_nDigits u) hu64 (by rw [Array.size_replicate]; omega)
    rw [Array.size_replicate] at hfmt
    have HH0 := Lib.hid hH0
    have HF := Lib.hid hfmt
    have hs' : decide ((u : Int) < 100) = false := by simp; omega
    clear hH0 hfmt
    go_enter Tryz.func50, Tryz.ntmps50
    go_wp2_with (first | (go_at_call 77; go_must (refine (Tryz.internal_strconv_numDigits u hu1 hu64 _ (hG.tab _ ((Ext.alloc (Ext.rfl_ w) _).mono hG.size))).mono ?_); rintro e w' ⟨rfl, rfl⟩))
    go_at_call 78
    refine HF.out.mono ?_
    rintro e w' ⟨rfl, k, v', dk, rfl, hF⟩
    have hcv : (convert 23 9 (.slice (some ⟨w.heap.size, 0, none⟩) (Lib.nDigits u) 24)).run Tryz.prog ((putRow (fun (b : UInt8) => Value.int .u8 (b.toNat : Int)) (w.alloc (.cells Lib.zeros24 136)) w.heap.size 0 dk).drewN k) = .ok (.string ⟨(Lib.decDigits u).toArray⟩) ((putRow (fun (b : UInt8) => Value.int .u8 (b.toNat : Int)) (w.alloc (.cells Lib.zeros24 136)) w.heap.size 0 dk).drewN k) := by
      have h := run_convert_bytes_back (P := Tryz.prog) ((putRow (fun (b : UInt8) => Value.int .u8 (b.toNat : Int)) (w.alloc (.cells Lib.zeros24 136)) w.heap.size 0 dk).drewN k) 23 9 5 ⟨w.heap.size, 0, none⟩ 24 (Lib.decDigits u) Tryz.underlying23 Tryz.underlying5 Tryz.underlying9 (fun j hj => by
        rw [Lib.row_is_numeral hF j hj, Lib.add_plain, World.cell?_drewN]
        exact cell?_putRow (fun (b : UInt8) => Value.int .u8 (b.toNat : Int)) _ w.heap.size 0 _ dk HH0.out (by rw [hF.size, Array.size_replicate]) j (by rw [hF.size]; rw [Lib.decDigits_length] at hj; exact hj))
      rw [Lib.decDigits_length] at h
      exact h
    go_wp2
    go_ret
    refine ⟨rfl, ?_⟩
    rw [alloc_eq_grow]
    obtain ⟨os', _, e⟩ := putRow_grow_new (fun (b : UInt8) => Value.int .u8 (b.toNat : Int)) w #[Obj.cells Lib.zeros24 136] w.heap.size 0 dk (Nat.le_refl _)
    rw [e]
    exact (Lib.below_grow _ w (Nat.le_refl _) k os')
theorem fmtUint_calls (u : Nat) (hu64 : u < 18446744073709551616) {B : Nat} (w : World) (hG : Glob B w) :
    Calls Tryz.prog 26 #[.int .u64 u, .int .i64 10] w fun e w' => e = .returned (.string (bs (Lib.decDigits u))) ∧ Ext w w' := by
  go_enter Tryz.func26, Tryz.ntmps26
  go_wp2_with (go_at_call 50; go_must (refine (formatUint_calls u hu64 w hG).mono ?_); rintro e w1 ⟨rfl, hb⟩; have HB := Lib.hid hb; clear hb)
  go_ret
  exact ⟨rfl, HB.out⟩
end Go.Proofs.YtjipffbnndbchaaGreatDoor
