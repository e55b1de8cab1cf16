/- The walks of script: the act of words. -/
import Derived.Test.YtjipffbnndbchaaGreatDoorScrC
import Derived.StillTailTactics
import Derived.BigQuiet
import Derived.BigRegion
import Derived.Deep.AppendLies
import Derived.Deep.RegionHeld3
namespace Go.Proofs.YtjipffbnndbchaaGreatDoor
open Go.RowKit
set_option maxRecDepth 100000

abbrev Rd := List ByteArray × Bool
def Rd.word (s : Rd) : ByteArray := s.1.headD (bs [])
def Rd.on (s : Rd) (bad : Bool) : Rd := (s.1.tail, (s.2 || s.1.isEmpty) || bad)
def rWord (s : Rd) : ByteArray × Rd := (s.word, s.on false)
def rNum (s : Rd) : Int × Rd := ((atoiR s.word).1, s.on (atoiR s.word).2)
def rOp (s : Rd) : Int × Rd := ((opOf s.word).1, s.on (opOf s.word).2)
def rBig (n : Nat) (s : Rd) : Nat × Rd := ((uintR n s.word).1, s.on (uintR n s.word).2)
def rData (s : Rd) : List Int × Rd := ((dataOf s.word).1.map fun b => (b.toNat : Int), s.on (dataOf s.word).2)
def rPick (s : Rd) : Pk × Rd := ((pickOf s.word).1, s.on (pickOf s.word).2)

abbrev cs0 : Array Value := #[.int .i64 0, .int .i64 0, .int .i64 0, .int .i64 0, .int .i64 0, .int .i64 0, .int .i64 0, .int .u64 0, .int .u32 0, .bool false, .slice none 0 0, .int .i64 0, .slice none 0 0]
theorem Ext.trans' {S : Nat → Prop} {a b c : World} (h : Ext a b) (k : Only S b c) (hS : ∀ i, S i → a.heap.size ≤ i) : Ext a c :=
  ⟨k.os.trans h.os, k.tape.trans h.tape, k.output.trans h.output, Nat.le_trans h.size k.size, fun i hi => (k.block i (Nat.lt_of_lt_of_le hi h.size) (fun hs => by have := hS i hs; omega)).trans (h.block i hi)⟩
def rPicks : Nat → Rd → List Pk × Rd
  | 0, s => ([], s)
  | m + 1, s => ((rPick s).1 :: (rPicks m (rPick s).2).1, (rPicks m (rPick s).2).2)
def lenOf : Option Value → Nat
  | some (.slice _ n _) => n
  | _ => 0
/-- The reader's state in a world that went out from w0; the act's block lies behind it. -/
structure RSt (B r n : Nat) (w0 W : World) (s : Rd) (cs : Array Value) : Prop where
  rdr : Rdr W r s.1 s.2
  small : Small s.1
  ext : Ext w0 W
  glob : Glob B W
  base : r = w0.heap.size + 1
  res : W.heap[w0.heap.size]? = some (.cells cs0 56 (0, 0))
  le : B ≤ r
  lt : r < n
  blk : W.heap[n]? = some (.cells cs 56 (0, 0))
theorem RSt.next {B r n : Nat} {w0 W : World} {s : Rd} {cs : Array Value} (h : RSt B r n w0 W s cs) {w' : World} {b : Bool} (h1 : Rdr w' r s.1.tail ((s.2 || s.1.isEmpty) || b)) (h2 : Only (· = r) W w') : RSt B r n w0 w' (s.on b) cs :=
  ⟨h1, h.small.tail, h.ext.trans' h2 (fun k e => by have := h.base; omega), h.glob.only h2 (fun k e => by subst e; exact h.le), h.base, (h2.block _ (Array.getElem?_eq_some_iff.1 h.res).1 (by have := h.base; omega)).trans h.res, h.le, h.lt, (h2.block n (Array.getElem?_eq_some_iff.1 h.blk).1 (by have := h.lt; omega)).trans h.blk⟩
theorem RSt.setA {B r n : Nat} {w0 W : World} {s : Rd} {cs : Array Value} (h : RSt B r n w0 W s cs) (i : Nat) (v : Value) : RSt B r n w0 (W.setCell ⟨n, i, none⟩ v) s (cs.setIfInBounds i v) where
  rdr := h.rdr.set_above (by have := h.lt; simp; omega) (by have := h.lt; simp; omega) v
  small := h.small
  ext := h.ext.set (p := ⟨n, i, none⟩) (by have := h.lt; have := h.base; simp; omega) v
  glob := h.glob.below ((Below.refl B W).setCell (p := ⟨n, i, none⟩) (by have := h.le; have := h.lt; simp; omega) v)
  base := h.base
  res := (Below.heap_setCell W ⟨n, i, none⟩ v w0.heap.size (by have := h.lt; have := h.base; simp; omega)).trans h.res
  le := h.le
  lt := h.lt
  blk := set_cells h.blk i v
theorem RSt.below {B r n : Nat} {w0 W w' : World} {s : Rd} {cs : Array Value} (h : RSt B r n w0 W s cs) (e : Below W.heap.size W w') : RSt B r n w0 w' s cs :=
  ⟨h.rdr.ext e, h.small, h.ext.trans e, h.glob.ext e, h.base, (e.block _ (Array.getElem?_eq_some_iff.1 h.res).1).trans h.res, h.le, h.lt, (e.block _ (Array.getElem?_eq_some_iff.1 h.blk).1).trans h.blk⟩
theorem RSt.belowN {B r n : Nat} {w0 W w' : World} {s : Rd} {cs : Array Value} (h : RSt B r n w0 W s cs) (e : Below (n + 1) W w') : RSt B r n w0 w' s cs where
  rdr := by
    obtain ⟨a, cap, hb, hr⟩ := h.rdr
    have := h.lt
    exact ⟨a, cap, (e.block r (by omega)).trans hb, hr.keep (fun k hk _ => e.block k (by omega)) e.size⟩
  small := h.small
  ext := h.ext.trans' (S := fun k => n < k) ⟨e.os, e.tape, e.output, e.size, fun k hk hs => e.block k (by omega)⟩ (fun k hk => by have := h.base; have := h.lt; omega)
  glob := h.glob.below (e.mono (by have := h.le; have := h.lt; omega))
  base := h.base
  res := (e.block _ (by have := h.base; have := h.lt; omega)).trans h.res
  le := h.le
  lt := h.lt
  blk := (e.block n (by omega)).trans h.blk
theorem RSt.setBad {B r n : Nat} {w0 W : World} {s : Rd} {cs : Array Value} (h : RSt B r n w0 W s cs) (b : Bool) : RSt B r n w0 (W.setCell ⟨r, 1, none⟩ (.bool b)) (s.1, b) cs where
  rdr := h.rdr.setBad b
  small := h.small
  ext := h.ext.set (p := ⟨r, 1, none⟩) (by have := h.base; simp; omega) _
  glob := h.glob.below ((Below.refl B W).setCell (p := ⟨r, 1, none⟩) (by have := h.le; simp; omega) _)
  base := h.base
  res := (Below.heap_setCell W ⟨r, 1, none⟩ _ w0.heap.size (by have := h.base; simp; omega)).trans h.res
  le := h.le
  lt := h.lt
  blk := (Below.heap_setCell W ⟨r, 1, none⟩ _ n (by have := h.lt; simp; omega)).trans h.blk
theorem RSt.reader {B r n : Nat} {w0 W : World} {s : Rd} {cs : Array Value} (h : RSt B r n w0 W s cs) : ∃ (ra : Option Addr) (rcap : Nat) (bb : Bool) (nn : Nat), bb = s.2 ∧ nn = s.1.length ∧ W.cell? ⟨r, 0, none⟩ = some (.slice ra nn rcap) ∧ W.cell? ⟨r, 1, none⟩ = some (.bool bb) ∧ ∀ o, W.frozen? ⟨r, o, none⟩ = false := by
  obtain ⟨a, cap, hb, _⟩ := h.rdr
  exact ⟨a, cap, s.2, s.1.length, rfl, rfl, by simp [World.cell?, hb], by simp [World.cell?, hb], fun o => by simp [World.frozen?, hb]⟩
theorem act_cells {W : World} {n : Nat} {x0 x1 x2 x3 x4 x5 x6 x7 x8 x9 x10 x11 x12 : Value} {T : TypeId} (h : W.heap[n]? = some (.cells #[x0, x1, x2, x3, x4, x5, x6, x7, x8, x9, x10, x11, x12] T (0, 0))) :
    W.cell? ⟨n, 0, none⟩ = some x0 ∧ W.cell? ⟨n, 1, none⟩ = some x1 ∧ W.cell? ⟨n, 2, none⟩ = some x2 ∧ W.cell? ⟨n, 3, none⟩ = some x3 ∧ W.cell? ⟨n, 4, none⟩ = some x4 ∧ W.cell? ⟨n, 5, none⟩ = some x5 ∧ W.cell? ⟨n, 6, none⟩ = some x6 ∧ W.cell? ⟨n, 7, none⟩ = some x7 ∧ W.cell? ⟨n, 8, none⟩ = some x8 ∧ W.cell? ⟨n, 9, none⟩ = some x9 ∧ W.cell? ⟨n, 10, none⟩ = some x10 ∧ W.cell? ⟨n, 11, none⟩ = some x11 ∧ W.cell? ⟨n, 12, none⟩ = some x12 ∧ ∀ o, W.frozen? ⟨n, o, none⟩ = false := by
  simp [World.cell?, World.frozen?, h]
theorem st_num {B r n : Nat} {w0 W : World} {s : Rd} {cs : Array Value} (h : RSt B r n w0 W s cs) : Calls Tryz.prog 60 #[.pointer (some ⟨r, 0, none⟩)] W fun e w' => e = .returned (.int .i64 (rNum s).1) ∧ RSt B r n w0 w' (rNum s).2 cs :=
  (num_calls r s.1 s.2 W h.rdr h.small h.glob h.le).mono fun _ _ ⟨e, h1, h2⟩ => ⟨e, h.next h1 h2⟩
theorem st_op {B r n : Nat} {w0 W : World} {s : Rd} {cs : Array Value} (h : RSt B r n w0 W s cs) : Calls Tryz.prog 61 #[.pointer (some ⟨r, 0, none⟩)] W fun e w' => e = .returned (.int .i64 (rOp s).1) ∧ RSt B r n w0 w' (rOp s).2 cs :=
  (rop_calls r s.1 s.2 W h.rdr).mono fun _ _ ⟨e, h1, h2⟩ => ⟨e, h.next h1 h2⟩
theorem st_big64 {B r n : Nat} {w0 W : World} {s : Rd} {cs : Array Value} (h : RSt B r n w0 W s cs) : Calls Tryz.prog 62 #[.pointer (some ⟨r, 0, none⟩), .int .i64 64] W fun e w' => e = .returned (.int .u64 (rBig 64 s).1) ∧ RSt B r n w0 w' (rBig 64 s).2 cs :=
  (big64_calls r s.1 s.2 W h.rdr h.small h.glob h.le).mono fun _ _ ⟨e, h1, h2⟩ => ⟨e, h.next h1 h2⟩
theorem st_big32 {B r n : Nat} {w0 W : World} {s : Rd} {cs : Array Value} (h : RSt B r n w0 W s cs) : Calls Tryz.prog 62 #[.pointer (some ⟨r, 0, none⟩), .int .i64 32] W fun e w' => e = .returned (.int .u64 (rBig 32 s).1) ∧ RSt B r n w0 w' (rBig 32 s).2 cs :=
  (big32_calls r s.1 s.2 W h.rdr h.small h.glob h.le).mono fun _ _ ⟨e, h1, h2⟩ => ⟨e, h.next h1 h2⟩
theorem st_pick {B r n : Nat} {w0 W : World} {s : Rd} {cs : Array Value} (h : RSt B r n w0 W s cs) : Calls Tryz.prog 64 #[.pointer (some ⟨r, 0, none⟩)] W fun e w' => e = .returned (.agg #[.int .i64 (rPick s).1.keep, .int .u8 (rPick s).1.turn]) ∧ RSt B r n w0 w' (rPick s).2 cs ∧ Only (· = r) W w' :=
  (pick_calls r s.1 s.2 W h.rdr h.small h.glob h.le).mono fun _ _ ⟨e, h1, h2⟩ => ⟨e, h.next h1 h2, h2⟩
theorem st_data {B r n : Nat} {w0 W : World} {s : Rd} {cs : Array Value} (h : RSt B r n w0 W s cs) : Calls Tryz.prog 63 #[.pointer (some ⟨r, 0, none⟩)] W fun e w' => ∃ (v : Value) (out : List Int), e = .returned v ∧ Own (Kd.int .u8) 5 w' w0.heap.size (fun _ => False) v out ∧ (∀ q, v.ownBlock = some q → W.heap.size ≤ q) ∧ ((rData s).2.2 = false → out = (rData s).1) ∧ RSt B r n w0 w' (rData s).2 cs :=
  (rdata_calls r s.1 s.2 W h.rdr h.small).mono fun _ _ ⟨v, out, e, h0, hd, h1, h2⟩ => ⟨v, out, e, h0.lower h.ext.size, fun q hq => (h0.block_lt hq).2, fun hb => hd (by simp only [rData, Rd.on, Bool.or_eq_false_iff] at hb; exact hb.2), h.next h1 h2⟩
theorem index_calls (x : ByteArray) (k : Int) (hk : k = Lib.idxOfS nameList x) (W : World) (b : Nat) (h : W.heap[b]? = some (.cells (nameList.map Value.string).toArray 9 (0, 0))) :
    Calls Tryz.prog 58 #[.slice (some ⟨b, 0, none⟩) 12 12, .string x] W fun e w' => e = .returned (.int .i64 k) ∧ w' = W := by
  subst hk
  refine Tryz.slices_Index_string b 0 12 12 nameList x W (by decide) (by decide) fun j hj => ?_
  have : W.cell? ⟨b, 0 + j, none⟩ = (nameList.map Value.string).toArray[0 + j]? := by simp only [World.cell?, h]; rfl
  rw [this, Nat.zero_add]
  simp only [List.getElem?_toArray, List.getElem?_map, List.getD_eq_getElem?_getD, List.getElem?_eq_getElem hj]
  rfl

structure Ac where
  kind : Int := 0
  c : Int := 0
  op : Int := 0
  v : Int := 0
  i : Int := 0
  a : Int := 0
  b : Int := 0
  key : Int := 0
  cookie : Int := 0
  gone : Bool := false
  data : List Int := []
  names : Int := 0
  files : List Pk := []
theorem rdr_init {w : World} {a : Option Addr} {cap : Nat} {l : List ByteArray} (hr : Row Kd.str w (fun _ => True) a cap l) :
    Rdr (((w.alloc (.cells cs0 56)).alloc (.cells #[.slice a l.length cap, .bool false] 123)).alloc (.cells (nameList.map Value.string).toArray 9)) (w.heap.size + 1) l false :=
  Rdr.ext ⟨a, cap, alloc2_snd _ _ _, (hr.mono (B := fun k => k + 1 < w.heap.size + 1) fun k _ hk => by omega).below (Ext.alloc (Ext.alloc (Ext.rfl_ w) _) _)⟩ (Ext.alloc (Ext.rfl_ _) _)
theorem RSt.init {B : Nat} {w wi : World} {l : List ByteArray} {b : Bool} {a : Option Addr} {cap : Nat} (hG : Glob B w) (hs : Small l) (h1 : Rdr wi (w.heap.size + 1) l.tail b) (h2 : Only (· = w.heap.size + 1) (((w.alloc (.cells cs0 56)).alloc (.cells #[.slice a l.length cap, .bool false] 123)).alloc (.cells (nameList.map Value.string).toArray 9)) wi) (cs : Array Value) :
    RSt B (w.heap.size + 1) wi.heap.size w (wi.alloc (.cells cs 56)) (l.tail, b) cs where
  rdr := h1.ext (Ext.alloc (Ext.rfl_ _) _)
  small := hs.tail
  ext := ((Ext.alloc (Ext.alloc (Ext.alloc (Ext.rfl_ w) _) _) _).trans' h2 (fun k e => by subst e; omega)).alloc _
  glob := hG.ext (((Ext.alloc (Ext.alloc (Ext.alloc (Ext.rfl_ w) _) _) _).trans' h2 (fun k e => by subst e; omega)).alloc _)
  base := rfl
  res := (Below.heap_alloc wi _ w.heap.size (by have := h2.size; simp at this; omega)).trans ((h2.block w.heap.size (by simp; omega) (by omega)).trans ((Below.heap_alloc _ _ w.heap.size (by simp; omega)).trans (alloc2_fst _ _ _)))
  le := by have := hG.size; omega
  lt := by have := h2.size; simp at this; omega
  blk := heap_alloc_new _ _

def Kd.pick : Kd Pk := Kd.iso (Kd.pair (Kd.int .i64) (Kd.int .u8)) fun p => (p.keep, p.turn)
def ActV (W : World) (base : Nat) (v : Value) (x : Ac) : Prop :=
  ∃ dv fv, v = .agg #[.int .i64 x.kind, .int .i64 x.c, .int .i64 x.op, .int .i64 x.v, .int .i64 x.i, .int .i64 x.a, .int .i64 x.b, .int .u64 x.key, .int .u32 x.cookie, .bool x.gone, dv, .int .i64 x.names, fv] ∧ Own (Kd.int .u8) 5 W base (fun _ => False) dv x.data ∧ Own Kd.pick 108 W base (fun _ => False) fv x.files
def ActR (w : World) (y : Ac) (s : Rd) (e : Ending) (w' : World) : Prop :=
  ∃ v x, e = .returned (.tuple #[v, .bool (!s.2 && s.1.isEmpty)]) ∧ ActV w' w.heap.size v x ∧ (s.2 = false → x = y) ∧ Ext w w'
theorem ok_of {bb : Bool} {nn : Nat} {s : Rd} (h1 : bb = s.2) (h2 : nn = s.1.length) : (!s.2 && s.1.isEmpty) = (!bb && decide (nn = 0)) := by
  subst h1 h2
  cases s.1 <;> simp
theorem Own.set_ne {α : Type} {d : Kd α} {e : TypeId} {w : World} {base : Nat} {v : Value} {ys : List α} (o : Own d e w base (fun _ => False) v ys) {p : Addr} (h : ∀ q, v.ownBlock = some q → q ≠ p.block) (u : Value) : Own d e (w.setCell p u) base (fun _ => False) v ys :=
  o.keep (fun k hk _ => Below.heap_setCell w p u k (h k (by rcases hk with hk | hk; exact hk.elim; exact hk.symm))) (by simp [World.setCell])
theorem step_push1 {P : Program} {w : World} {α : Type} {ops : Array Oper} {o : Oper} {a : Act} {K : Act → World → Prop} {Q : Exit → Act → World → Prop} {E : Prop} (d : Kd α) (e t : TypeId) (i : TypeInfo) (z : Value) (bytes base : Nat) (A : Nat → Prop) (v : Value) (ys : List α) (y : α) (N : Nat) (cs : Array Value) (T : TypeId) (fr : Nat × Nat)
    (hgd : o.guard = none) (s x : Operand) (ho : o.op = .call { callee := .builtin .append, args := #[s, x], argTypes := #[t, t] })
    (ht : P.underlying t = some (.slice e)) (hi : P.info? e = some i) (hz : i.zero = some z) (hsize : i.size = d.sz) (hby : i.bytes = bytes) (hzs : z.cells.size = d.sz) (hsz : 0 < d.sz)
    (hs : a.eval s = v) (hx : a.eval x = .slice (some ⟨N, 0, none⟩) 1 1) (hN : w.heap[N]? = some (.cells cs T fr))
    (own : Own d e w base A v ys) (hnew : d.K w (fun k => A k ∧ some k ≠ v.ownBlock) y cs.toList)
    (h63 : ys.length + 1 ≤ maxLen) (hbytes : (ys.length + 1) * bytes ≤ 140737488355328) (hbase : base ≤ w.heap.size)
    (h : ∀ v' w', Own d e w' base A v' (ys ++ [y]) → w.grownBy w' v.ownBlock → K (a.put o.dst v') w') :
    if Region.wanted o (yielded ops a.tmps) = true then Oper.wp P o a w K Q else E := by
  have hw : Region.wanted o (yielded ops a.tmps) = true := by simp [Region.wanted, hgd]
  rw [if_pos hw]
  obtain ⟨v', w', hr, h2, h3, h4⟩ := run_push (P := P) w d e t o.type i z bytes base A v ys ⟨N, 0, none⟩ 1 [y] cs.toList ht hi hz hsize hby hzs hsz own (Elems.single hnew) (World.news_of_block hN) h63 hbytes hbase
  unfold Oper.wp execOp
  simp only [ho, resolve, invoke, builtin, Sem.run_bind, Sem.run_pure, Result.andThen_ok, List.map_toArray, List.map_cons, List.map_nil, hs, hx, List.length_singleton] at hr ⊢
  rw [hr]
  exact h v' w' h2 h3
theorem atoiR_in (s : ByteArray) : InK .i64 (atoiR s).1 := by
  unfold atoiR
  split
  · exact Lib.atoiAll_bounds (by assumption)
  · simp [InK]
  · exact Lib.atoiSat_bounds _
theorem pick_in (x : ByteArray) : InK .i64 (pickOf x).1.keep ∧ InK .u8 (pickOf x).1.turn := ⟨atoiR_in _, by simp only [pickOf, InK]; omega⟩
theorem pick_K {w : World} {A : Nat → Prop} (s : Rd) : Kd.pick.K w A (rPick s).1 [.int .i64 (rPick s).1.keep, .int .u8 (rPick s).1.turn] :=
  ⟨[.int .i64 (rPick s).1.keep], [.int .u8 (rPick s).1.turn], rfl, ⟨rfl, (pick_in s.word).1⟩, ⟨rfl, (pick_in s.word).2⟩⟩
theorem infoPick : (Tryz.prog.info? 108).map (fun i => (i.zero, i.size, i.bytes)) = some (some (.agg #[.int .i64 0, .int .u8 0]), 2, 16) := by kernel_rfl
theorem nat0 (nn : Nat) : ((nn : Int) == 0) = decide (nn = 0) := by
  rw [Bool.eq_iff_iff]; simp
end Go.Proofs.YtjipffbnndbchaaGreatDoor
